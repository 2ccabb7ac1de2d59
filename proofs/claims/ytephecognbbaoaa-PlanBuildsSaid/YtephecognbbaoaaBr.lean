/- Pairs of algebras, as the document tells them. -/
import Derived.Test.YtephecognbbaoaaBo
import Derived.Test.YtephecognbbaoaaDg
namespace Go.Proofs.Ytephecognbbaoaa
open Go
set_option linter.all false
set_option maxRecDepth 100000
set_option maxHeartbeats 4000000

def divL (c m : Int) : List Int := (ints c).map fun k => k / m
def modL (c m : Int) : List Int := (ints c).map fun k => k % m

theorem find_calls (N m p q : Int) (hok : PairOk N m) (h529 : N * m ≤ 529) (p0 : 0 ≤ p) (p1 : p ≤ N) (q0 : 0 ≤ q) (q1 : q ≤ m) (σ : Store) :
    ACalls Try.prog 127 [intA1 p, intA1 q, .cp [intA1 (N * m)] 0, .cp [intsA (divL (N * m) m)] 0, .cp [intsA (modL (N * m) m)] 0] σ fun r σ' => σ' = σ ∧ r = intA1 (if p = N ∨ q = m then N * m else p * m + q) := by
  have hm := hok.m
  have hL1 := hok.last
  have key : ∀ k, 0 ≤ k → k < N * m → k / m = p → k % m = q → (if p = N ∨ q = m then N * m else p * m + q) = k := fun k k0 k1 a b => by
    have h1 := hok.div k0 k1
    have h2 := hok.mod (i := k)
    have h3 := hok.of (i := k)
    rw [if_neg (by omega), ← a, ← b, h3]
  have miss : (∀ k, 0 ≤ k → k < N * m → ¬ (k / m = p ∧ k % m = q)) → (if p = N ∨ q = m then N * m else p * m + q) = N * m := fun h => by
    by_cases c : p = N ∨ q = m
    · rw [if_pos c]
    · have h1 := hok.mul p0 (show p < N by omega) q0 (show q < m by omega)
      exact absurd (hok.back q0 (show q < m by omega)) (h _ h1.1 h1.2)
  obtain ⟨R, hR⟩ : ∃ R, (if p = N ∨ q = m then N * m else p * m + q) = R := ⟨_, rfl⟩
  rw [hR] at key miss ⊢
  have ad : ∀ k, 0 ≤ k → k < N * m → at0 (divL (N * m) m) k = k / m := fun k k0 k1 => at0_intsM (fun k => k / m) k0 k1
  have am : ∀ k, 0 ≤ k → k < N * m → at0 (modL (N * m) m) k = k % m := fun k k0 k1 => at0_intsM (fun k => k % m) k0 k1
  have ld : (divL (N * m) m).length = (N * m).toNat := by simp [divL, ints_length]
  have lm : (modL (N * m) m).length = (N * m).toNat := by simp [modL, ints_length]
  obtain ⟨D, hD⟩ : ∃ D, divL (N * m) m = D := ⟨_, rfl⟩
  obtain ⟨M, hM⟩ : ∃ M, modL (N * m) m = M := ⟨_, rfl⟩
  rw [hD] at ad ld ⊢
  rw [hM] at am lm ⊢
  obtain ⟨L, hL⟩ : ∃ L, N * m = L := ⟨_, rfl⟩
  rw [hL] at key miss ad am ld lm h529 hL1 ⊢
  refine ACalls.cutX ?_
  refine ACalls_of_awp Try.func127 rfl Try.results127 ?_
  simp only [List.length_cons, List.length_nil, Try.ntmps127, Nat.reduceAdd, Nat.reduceSub, enterA]
  (repeat' (first|(refine g_s fun K hK=>?_)|(refine g_b ?_)|(refine g_r ?_)|(refine g_k ?_;simp only[thenQ,blockQ])|(refine g_e ?_;simp only[thenQ,blockQ,↓reduceIte,Nat.reduceEqDiff])|(refine g_c (fun h=>?_) (fun h=>?_)<;>(try simp only[go_sem] at h)<;>(try exact g_f))|((first|refine g_t ?_|refine g_g ?_|refine g_U ?_|refine g_A ?_|refine g_W ?_);(try simp -implicitDefEqProofs only[go_sem]))|(with_reducible refine hK _ _ ?_;clear hK K)|(clear hK K;first|(with_reducible refine hK _ _ ?_;clear hK K)|(clear hK K;with_reducible refine hK _ _ ?_;clear hK K)|(clear hK K;clear hK K;with_reducible refine hK _ _ ?_;clear hK K))|(with_reducible refine splitB_intro (fun h=>?_) (fun h=>?_)<;>(try simp only[go_sem] at h)<;>(try exact g_f)<;>(try simp -implicitDefEqProofs only[go_sem]))|(with_reducible refine And.intro (fun h=>?_) (fun h=>?_)<;>(try simp only[go_sem] at h)<;>(try exact g_f))|(with_reducible refine And.intro ?_ ?_;· exact g_x)|(with_reducible intro h;(try simp only[go_sem] at h);(try exact g_f))))
  have hJ := hK
  clear hK
  refine AWP_for L (fun k _ => ∀ i, 0 ≤ i → i < k → ¬ (i / m = p ∧ i % m = q)) (fun k _ _ => [(8, intA1 k)]) (fun _ _ _ => σ) () [] (by omega) (fun i i0 i1 => by omega) rfl (ALe_of ?_) ?_
  · simp -implicitDefEqProofs only [go_sem]
  · rintro k _ τ k0 k1 hH L2 hL2
    by_cases hk : k < L
    · have hdk := ad k k0 hk
      have hmk := am k k0 hk
      simp -implicitDefEqProofs only [go_sem]
      by_cases c1 : k / m = p
      · by_cases c2 : k % m = q
        · have hk2 := key k k0 hk c1 c2
          (repeat' (first|(refine g_s fun K hK=>?_)|(refine g_b ?_)|(refine g_r ?_)|(refine g_k ?_;simp only[thenQ,blockQ])|(refine g_e ?_;simp only[thenQ,blockQ,↓reduceIte,Nat.reduceEqDiff])|(refine g_c (fun h=>?_) (fun h=>?_)<;>(try simp only[go_sem] at h)<;>(try exact g_f))|((first|refine g_t ?_|refine g_g ?_|refine g_U ?_|refine g_A ?_|refine g_W ?_);(try simp -implicitDefEqProofs only[go_sem,hdk, hmk, c1, c2]))|(with_reducible refine hK _ _ ?_;clear hK K)|(clear hK K;first|(with_reducible refine hK _ _ ?_;clear hK K)|(clear hK K;with_reducible refine hK _ _ ?_;clear hK K)|(clear hK K;clear hK K;with_reducible refine hK _ _ ?_;clear hK K))|(with_reducible refine splitB_intro (fun h=>?_) (fun h=>?_)<;>(try simp only[go_sem] at h)<;>(try exact g_f)<;>(try simp -implicitDefEqProofs only[go_sem,hdk, hmk, c1, c2]))|(with_reducible refine And.intro (fun h=>?_) (fun h=>?_)<;>(try simp only[go_sem] at h)<;>(try exact g_f))|(with_reducible refine And.intro ?_ ?_;· exact g_x)|(with_reducible intro h;(try simp only[go_sem] at h);(try exact g_f))))
          refine CutQ_c (τ := []) (by simp) ?_
          rw [hk2]
        · (repeat' (first|(refine g_s fun K hK=>?_)|(refine g_b ?_)|(refine g_r ?_)|(refine g_k ?_;simp only[thenQ,blockQ])|(refine g_e ?_;simp only[thenQ,blockQ,↓reduceIte,Nat.reduceEqDiff])|(refine g_c (fun h=>?_) (fun h=>?_)<;>(try simp only[go_sem] at h)<;>(try exact g_f))|((first|refine g_t ?_|refine g_g ?_|refine g_U ?_|refine g_A ?_|refine g_W ?_);(try simp -implicitDefEqProofs only[go_sem,hdk, hmk, c1, c2]))|(with_reducible refine hK _ _ ?_;clear hK K)|(clear hK K;first|(with_reducible refine hK _ _ ?_;clear hK K)|(clear hK K;with_reducible refine hK _ _ ?_;clear hK K)|(clear hK K;clear hK K;with_reducible refine hK _ _ ?_;clear hK K))|(with_reducible refine splitB_intro (fun h=>?_) (fun h=>?_)<;>(try simp only[go_sem] at h)<;>(try exact g_f)<;>(try simp -implicitDefEqProofs only[go_sem,hdk, hmk, c1, c2]))|(with_reducible refine And.intro (fun h=>?_) (fun h=>?_)<;>(try simp only[go_sem] at h)<;>(try exact g_f))|(with_reducible refine And.intro ?_ ?_;· exact g_x)|(with_reducible intro h;(try simp only[go_sem] at h);(try exact g_f))))
          refine hL2 hk () [] _ _ (fun i i0 i1 => ?_) (ALe_of ?_) rfl
          · rcases Int.lt_or_eq_of_le (Int.le_of_lt_add_one i1) with h3 | h3
            · exact hH i i0 h3
            · subst h3; exact fun h => c2 h.2
          · simp -implicitDefEqProofs only [go_sem]
      · (repeat' (first|(refine g_s fun K hK=>?_)|(refine g_b ?_)|(refine g_r ?_)|(refine g_k ?_;simp only[thenQ,blockQ])|(refine g_e ?_;simp only[thenQ,blockQ,↓reduceIte,Nat.reduceEqDiff])|(refine g_c (fun h=>?_) (fun h=>?_)<;>(try simp only[go_sem] at h)<;>(try exact g_f))|((first|refine g_t ?_|refine g_g ?_|refine g_U ?_|refine g_A ?_|refine g_W ?_);(try simp -implicitDefEqProofs only[go_sem,hdk, c1]))|(with_reducible refine hK _ _ ?_;clear hK K)|(clear hK K;first|(with_reducible refine hK _ _ ?_;clear hK K)|(clear hK K;with_reducible refine hK _ _ ?_;clear hK K)|(clear hK K;clear hK K;with_reducible refine hK _ _ ?_;clear hK K))|(with_reducible refine splitB_intro (fun h=>?_) (fun h=>?_)<;>(try simp only[go_sem] at h)<;>(try exact g_f)<;>(try simp -implicitDefEqProofs only[go_sem,hdk, c1]))|(with_reducible refine And.intro (fun h=>?_) (fun h=>?_)<;>(try simp only[go_sem] at h)<;>(try exact g_f))|(with_reducible refine And.intro ?_ ?_;· exact g_x)|(with_reducible intro h;(try simp only[go_sem] at h);(try exact g_f))))
        refine hL2 hk () [] _ _ (fun i i0 i1 => ?_) (ALe_of ?_) rfl
        · rcases Int.lt_or_eq_of_le (Int.le_of_lt_add_one i1) with h3 | h3
          · exact hH i i0 h3
          · subst h3; exact fun h => c1 h.1
        · simp -implicitDefEqProofs only [go_sem]
    · have hkL : k = L := by omega
      subst hkL
      simp -implicitDefEqProofs only [go_sem]
      (repeat' (first|(refine g_s fun K hK=>?_)|(refine g_b ?_)|(refine g_r ?_)|(refine g_k ?_;simp only[thenQ,blockQ])|(refine g_e ?_;simp only[thenQ,blockQ,↓reduceIte,Nat.reduceEqDiff])|(refine g_c (fun h=>?_) (fun h=>?_)<;>(try simp only[go_sem] at h)<;>(try exact g_f))|((first|refine g_t ?_|refine g_g ?_|refine g_U ?_|refine g_A ?_|refine g_W ?_);(try simp -implicitDefEqProofs only[go_sem]))|(with_reducible refine hK _ _ ?_;clear hK K)|(clear hK K;first|(with_reducible refine hK _ _ ?_;clear hK K)|(clear hK K;with_reducible refine hK _ _ ?_;clear hK K)|(clear hK K;clear hK K;with_reducible refine hK _ _ ?_;clear hK K))|(with_reducible refine splitB_intro (fun h=>?_) (fun h=>?_)<;>(try simp only[go_sem] at h)<;>(try exact g_f)<;>(try simp -implicitDefEqProofs only[go_sem]))|(with_reducible refine And.intro (fun h=>?_) (fun h=>?_)<;>(try simp only[go_sem] at h)<;>(try exact g_f))|(with_reducible refine And.intro ?_ ?_;· exact g_x)|(with_reducible intro h;(try simp only[go_sem] at h);(try exact g_f))))
      refine hJ _ _ ?_
      clear hJ
      (repeat' (first|(refine g_s fun K hK=>?_)|(refine g_b ?_)|(refine g_r ?_)|(refine g_k ?_;simp only[thenQ,blockQ])|(refine g_e ?_;simp only[thenQ,blockQ,↓reduceIte,Nat.reduceEqDiff])|(refine g_c (fun h=>?_) (fun h=>?_)<;>(try simp only[go_sem] at h)<;>(try exact g_f))|((first|refine g_t ?_|refine g_g ?_|refine g_U ?_|refine g_A ?_|refine g_W ?_);(try simp -implicitDefEqProofs only[go_sem]))|(with_reducible refine hK _ _ ?_;clear hK K)|(clear hK K;first|(with_reducible refine hK _ _ ?_;clear hK K)|(clear hK K;with_reducible refine hK _ _ ?_;clear hK K)|(clear hK K;clear hK K;with_reducible refine hK _ _ ?_;clear hK K))|(with_reducible refine splitB_intro (fun h=>?_) (fun h=>?_)<;>(try simp only[go_sem] at h)<;>(try exact g_f)<;>(try simp -implicitDefEqProofs only[go_sem]))|(with_reducible refine And.intro (fun h=>?_) (fun h=>?_)<;>(try simp only[go_sem] at h)<;>(try exact g_f))|(with_reducible refine And.intro ?_ ?_;· exact g_x)|(with_reducible intro h;(try simp only[go_sem] at h);(try exact g_f))))
      refine CutQ_c (τ := []) (by simp) ?_
      rw [miss hH]

theorem ints_snoc {c : Int} (h : 0 ≤ c) : ints (c + 1) = ints c ++ [c] := by
  unfold ints
  have e : (c + 1).toNat = c.toNat + 1 := by omega
  rw [e, List.range_succ, List.map_append]
  simp
  omega
theorem divL_snoc {i j m : Int} (i0 : 0 ≤ i) (j0 : 0 ≤ j) (j1 : j < m) : divL (i * m + j + 1) m = divL (i * m + j) m ++ [i] := by
  have h1 : 0 ≤ i * m := Int.mul_nonneg i0 (by omega)
  have e : (i * m + j) / m = i := by rw [Int.add_comm, Int.add_mul_ediv_right _ _ (by omega), Int.ediv_eq_zero_of_lt j0 j1, Int.zero_add]
  unfold divL
  rw [ints_snoc (by omega), List.map_append, List.map_singleton, e]
theorem modL_snoc {i j m : Int} (i0 : 0 ≤ i) (j0 : 0 ≤ j) (j1 : j < m) : modL (i * m + j + 1) m = modL (i * m + j) m ++ [j] := by
  have h1 : 0 ≤ i * m := Int.mul_nonneg i0 (by omega)
  have e : (i * m + j) % m = j := by rw [Int.add_comm, Int.add_mul_emod_self_right, Int.emod_eq_of_lt j0 j1]
  unfold modL
  rw [ints_snoc (by omega), List.map_append, List.map_singleton, e]

theorem divL_len (c m : Int) : (divL c m).length = c.toNat := by simp [divL, ints_length]
theorem modL_len (c m : Int) : (modL c m).length = c.toNat := by simp [modL, ints_length]
/-- A row more, behind what lies there. -/
theorem rowsGrow {A Te τ3 : Store} {lo : Nat} {q : List Nat} {M' : List (List Int)} (h4 : RowsAt (A ++ Te) lo q M') (hn : q.Nodup) (hlo : lo ≤ A.length) (d1 : Ob) (full : List Int) :
    RowsAt (A ++ (Te ++ d1 :: (τ3 ++ [.dead, .cells 1 (full.map intC)]))) lo (q ++ [A.length + (Te.length + (τ3.length + 2))]) (M' ++ [full]) ∧ (q ++ [A.length + (Te.length + (τ3.length + 2))]).Nodup := by
  have h7 := h4.congr (S' := A ++ (Te ++ d1 :: τ3)) (Nat.le_refl _) (fun b hb o ho => by
    rw [← List.append_assoc, List.getElem?_append_left (List.getElem?_eq_some_iff.1 ho).1]
    exact ho)
  have h8 := snocAt h7 (r := full) (o := .cells 1 (full.map intC)) rfl (X := [.dead, .cells 1 (full.map intC)]) rfl hlo
  have h9 := snocN h7 hn
  have ea : (Te ++ d1 :: τ3) ++ [.dead, .cells 1 (full.map intC)] = Te ++ d1 :: (τ3 ++ [.dead, .cells 1 (full.map intC)]) := by simp
  have eb : A.length + ((Te ++ d1 :: τ3).length + 1) = A.length + (Te.length + (τ3.length + 2)) := by simp; omega
  rw [ea, eb] at h8
  rw [eb] at h9
  exact ⟨h8, h9⟩

theorem rowsGrow0 {A Te τ3 : Store} {lo : Nat} {q : List Nat} {M' : List (List Int)} (h4 : RowsAt (A ++ Te) lo q M') (hn : q.Nodup) (hlo : lo ≤ A.length) (d1 : Ob) (full : List Int) :
    RowsAt (A ++ (Te ++ d1 :: (τ3 ++ [.cells 1 (full.map intC)]))) lo (q ++ [A.length + (Te.length + (τ3.length + 1))]) (M' ++ [full]) ∧ (q ++ [A.length + (Te.length + (τ3.length + 1))]).Nodup := by
  refine ⟨RowsAt.snoc (h4.congr (Nat.le_refl _) fun b hb o ho => ?_) (by omega) ?_, ?_⟩
  · rw [← List.append_assoc, List.getElem?_append_left (List.getElem?_eq_some_iff.1 ho).1]
    exact ho
  · rw [List.getElem?_append_right (by omega), List.getElem?_append_right (by omega)]
    have e : A.length + (Te.length + (τ3.length + 1)) - A.length - Te.length = τ3.length + 1 := by omega
    rw [e, List.getElem?_cons_succ, List.getElem?_append_right (by omega)]
    simp
  · rw [List.nodup_append]
    refine ⟨hn, by simp, fun a ha b hb => ?_⟩
    have := (h4.lt a ha).1
    rw [List.length_append] at this
    rw [List.mem_singleton.1 hb]
    omega

/-- All rows are there. -/
theorem ownM_end {A A' Te : Store} {w lo : Nat} {q : List Nat} {M : List (List Int)} (hA : A'.length = A.length) (h4 : RowsAt (A ++ Te) A.length q M) (hn : q.Nodup) (hw : ∀ r ∈ M, r.length = w) (hlo : lo ≤ A.length) :
    ∃ ids, OwnM (A' ++ (Te ++ [accO (rowV w) 1 q])) lo w ids (accV 1 (A.length + Te.length) q) M := by
  have hg : ∀ b ∈ q, ∀ o, (A ++ Te)[b]? = some o → (A' ++ (Te ++ [accO (rowV w) 1 q]))[b]? = some o := fun b hb o ho => by
    have h1 := h4.lt b hb
    have h2 : b < A.length + Te.length := by simpa using h1.1
    have h3 := h1.2
    rw [List.getElem?_append_right h3] at ho
    rw [List.getElem?_append_right (by omega), hA, List.getElem?_append_left (by omega)]
    exact ho
  rcases q with _ | ⟨y, q⟩
  · have hM : M = [] := List.eq_nil_of_length_eq_zero h4.1.symm
    exact ⟨[], hw, .inl ⟨hM, rfl, rfl⟩⟩
  · have hl : q.length + 1 = M.length := h4.1
    refine ⟨(A.length + Te.length) :: y :: q, hw, .inr ⟨_, y :: q, rfl, ?_, ?_, by rw [← hl]; rfl, by omega, ?_, h4.congr hlo hg⟩⟩
    · rw [List.nodup_cons]
      refine ⟨fun hm => ?_, hn⟩
      have := (h4.lt _ hm).1
      rw [List.length_append] at this
      omega
    · intro e
      rw [e] at hl
      simp at hl
    · rw [List.getElem?_append_right (by omega), List.getElem?_append_right (by omega)]
      have e : A.length + Te.length - A'.length - Te.length = 0 := by omega
      rw [e]
      rfl
end Go.Proofs.Ytephecognbbaoaa
