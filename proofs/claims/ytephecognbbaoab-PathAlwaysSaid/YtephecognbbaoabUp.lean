/- Routes with paths: when one is right, and what is met on it; in plain Lean. -/
import Derived.Test.YtephecognbbaoabQb
namespace Go.Proofs.Ytephecognbbaoab
open Go
set_option linter.all false

/-- What was met, in order. -/
def metK : List Int → List Int → List Int
  | K, [] => K
  | K, i :: r => metK (if i ∈ K then K else K ++ [i]) r

theorem metK_le : ∀ (p K : List Int), (metK K p).length ≤ K.length + p.length
  | [], K => Nat.le_refl _
  | i :: r, K => by
    rw [metK, List.length_cons]
    by_cases hm : i ∈ K
    · rw [if_pos hm]
      have h := metK_le r K
      omega
    · rw [if_neg hm]
      have h := metK_le r (K ++ [i])
      rw [List.length_append, List.length_singleton] at h
      omega

theorem metK_eq : ∀ (p K : List Int), (metK K p).length = K.length + p.length ↔ p.Nodup ∧ ∀ x ∈ p, x ∉ K
  | [], K => by simp [metK]
  | i :: r, K => by
    rw [metK, List.length_cons, List.nodup_cons]
    by_cases h : i ∈ K
    · rw [if_pos h]
      have := metK_le r K
      constructor
      · intro e; omega
      · rintro ⟨_, h2⟩
        exact absurd h (h2 i (by simp))
    · rw [if_neg h]
      have ih := metK_eq r (K ++ [i])
      rw [List.length_append, List.length_singleton] at ih
      rw [show K.length + (r.length + 1) = K.length + 1 + r.length by omega, ih]
      constructor
      · rintro ⟨h1, h2⟩
        refine ⟨⟨fun hm => h2 i hm (by simp), h1⟩, fun x hx => ?_⟩
        rcases List.mem_cons.1 hx with rfl | hx
        · exact h
        · exact fun hk => h2 x hx (by simp [hk])
      · rintro ⟨⟨h1, h2⟩, h3⟩
        refine ⟨h2, fun x hx hk => ?_⟩
        rcases List.mem_append.1 hk with hk | hk
        · exact h3 x (by simp [hx]) hk
        · rw [List.mem_singleton.1 hk] at hx
          exact h1 hx

theorem metK_nil (p : List Int) : (metK [] p).length = p.length ↔ p.Nodup := by
  have := metK_eq p []
  rw [List.length_nil, Nat.zero_add] at this
  rw [this]
  simp

/-- A route that is right: as it is found. -/
def rightB (n : Net) (r : Rt) : Bool := inR r.w 0 (n.alg.size - 1) && (if r.w = n.alg.size - 1 then decide (r.p = []) else decide (r.p ≠ []) && (r.p.all (fun k => inR k 0 (n.nodes - 1)) && decide r.p.Nodup))

theorem inR_mem {k m : Int} : inR k 0 (m - 1) = true ↔ 0 ≤ k ∧ k < m := by
  rw [inR_iff]
  omega

theorem rightB_iff {n : Net} {r : Rt} : rightB n r = true ↔ RightR n r := by
  rw [rightB, Bool.and_eq_true, inR_mem]
  by_cases h : r.w = n.alg.size - 1
  · rw [if_pos h, decide_eq_true_eq]
    constructor
    · rintro ⟨h1, h2⟩
      exact ⟨h1, fun _ => h2, fun e => absurd h e, by rw [h2]; exact List.nodup_nil, fun k hk => by rw [h2] at hk; cases hk⟩
    · exact fun h1 => ⟨h1.w, h1.inv h⟩
  · rw [if_neg h, Bool.and_eq_true, Bool.and_eq_true, decide_eq_true_eq, decide_eq_true_eq, List.all_eq_true]
    constructor
    · rintro ⟨h1, h2, h3, h4⟩
      exact ⟨h1, fun e => absurd e h, fun _ => h2, h4, fun k hk => inR_mem.1 (h3 k hk)⟩
    · exact fun h1 => ⟨h1.w, h1.ne h, fun k hk => inR_mem.2 (h1.rng k hk), h1.one⟩

/-- Ends: of a route that is right. -/
def endsB (n : Net) (r : Rt) (i j : Int) : Bool := decide (r.w = n.alg.size - 1) || (decide (at0 r.p 0 = i) && decide (at0 r.p ((r.p.length : Int) - 1) = j))

theorem head_at0 {p : List Int} (h : p ≠ []) {i : Int} : p.head? = some i ↔ at0 p 0 = i := by
  cases p with
  | nil => exact absurd rfl h
  | cons a q => simp [at0]

theorem last_at0 {p : List Int} (h : p ≠ []) {i : Int} : p.getLast? = some i ↔ at0 p ((p.length : Int) - 1) = i := by
  rcases List.eq_nil_or_concat p with rfl | ⟨q, a, rfl⟩
  · exact absurd rfl h
  · rw [List.concat_eq_append]
    have e : at0 (q ++ [a]) (((q ++ [a]).length : Int) - 1) = a := by
      have : ((q ++ [a]).length : Int) - 1 = (q.length : Int) := by simp
      rw [this]
      simp [at0, List.getD_eq_getElem?_getD]
    rw [e]
    simp

/-- A state: the errors. -/
def fitOneB (n : Net) (r : Rt) (i j : Int) : Bool := rightB n r && endsB n r i j
def fitPErr (n : Net) (x : List (List Rt)) : Int :=
  if checkN n ≠ 0 then checkN n
  else if (x.length : Int) ≠ n.nodes ∨ (x.any fun r => decide ((r.length : Int) ≠ n.nodes)) = true then 1
  else if ((ints n.nodes).all fun i => (ints n.nodes).all fun j => fitOneB n (at2R x i j) i j) = true then 0 else 4

theorem fitP_of {n : Net} {x : List (List Rt)} (h : fitPErr n x = 0) : checkN n = 0 ∧ FitP n x := by
  unfold fitPErr at h
  by_cases h0 : checkN n = 0
  · rw [if_neg (not_not_intro h0)] at h
    split at h
    · cases h
    · rename_i hc
      rw [not_or] at hc
      split at h
      · rename_i ha
        refine ⟨h0, Classical.not_not.1 hc.1, fun r hr => ?_, fun i j hi hj => ?_⟩
        · by_cases e : (r.length : Int) = n.nodes
          · exact e
          · exact absurd (List.any_eq_true.2 ⟨r, hr, decide_eq_true e⟩) hc.2
        · have h1 := List.all_eq_true.1 ha i (mem_ints.2 hi)
          have h2 := List.all_eq_true.1 h1 j (mem_ints.2 hj)
          rw [fitOneB, Bool.and_eq_true, rightB_iff, endsB, Bool.or_eq_true, Bool.and_eq_true, decide_eq_true_eq, decide_eq_true_eq, decide_eq_true_eq] at h2
          refine ⟨h2.1, fun hv => ?_⟩
          have hne := h2.1.ne hv
          rcases h2.2 with h3 | h3
          · exact absurd h3 hv
          · exact ⟨(head_at0 hne).2 h3.1, (last_at0 hne).2 h3.2⟩
      · cases h
  · rw [if_pos h0] at h
    exact absurd h h0

/-- Lists of numbers, as they are looked through. -/
theorem lex_at {p q : List Int} (he : p.length = q.length) : ∀ (k : Nat), k < p.length → p.take k = q.take k → at0 p k ≠ at0 q k → lexLe p q = decide (at0 p k < at0 q k) := by
  intro k
  induction k generalizing p q with
  | zero =>
    intro hk _ hne
    cases p with
    | nil => simp at hk
    | cons a p =>
      cases q with
      | nil => simp at he
      | cons b q =>
        simp only [at0, List.getD_eq_getElem?_getD] at hne ⊢
        simp at hne ⊢
        rw [lexLe, if_neg hne]
  | succ k ih =>
    intro hk ht hne
    cases p with
    | nil => simp at hk
    | cons a p =>
      cases q with
      | nil => simp at he
      | cons b q =>
        simp only [List.length_cons] at he hk
        simp only [List.take_succ_cons, List.cons.injEq] at ht
        have e : ∀ (c : Int) (l : List Int), at0 (c :: l) ((k + 1 : Nat) : Int) = at0 l (k : Int) := fun c l => by
          simp only [at0, Int.toNat_natCast, List.getD_eq_getElem?_getD, List.getElem?_cons_succ]
        rw [e, e] at hne ⊢
        rw [lexLe, if_pos ht.1]
        exact ih (by omega) (by omega) ht.2 hne
end Go.Proofs.Ytephecognbbaoab
