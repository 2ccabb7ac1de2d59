/- Maps whose keys are numbers. -/
import Derived.Test.YtephecognbbaoabNb
namespace Go.Proofs.Ytephecognbbaoab
open Go
set_option linter.all false
set_option maxRecDepth 100000
set_option maxHeartbeats 4000000

theorem tab_map_intb : mapT Try.prog 184 = some (3, 4) := by kernel_rfl
theorem tab_map_inti : mapT Try.prog 191 = some (3, 3) := by kernel_rfl
attribute [go_sem] tab_map_intb
attribute [go_sem] tab_map_inti

def imE (M : List (Int × AV)) : List (Value × AV) := M.map fun e => (.int .i64 e.1, e.2)
def imHas (M : List (Int × AV)) (k : Int) : Bool := M.any fun e => decide (e.1 = k)
def imGet (M : List (Int × AV)) (k : Int) : Option AV := (M.find? fun e => decide (e.1 = k)).map (·.2)

theorem im_find (k : Int) : ∀ M : List (Int × AV), findK (imE M) (.int .i64 k) = imGet M k
  | [] => rfl
  | e :: r => by
    have ih := im_find k r
    simp only [imE, imGet, List.map_cons, findK] at ih ⊢
    by_cases h : e.1 = k
    · rw [if_pos (by rw [h]), List.find?_cons_of_pos (by simpa using h)]
      rfl
    · rw [if_neg (by simpa using h), List.find?_cons_of_neg (by simpa using h), ih]

theorem im_new {M : List (Int × AV)} {k : Int} (h : imHas M k = false) : ∀ e ∈ imE M, e.1 ≠ .int .i64 k := by
  intro e he
  obtain ⟨x, hx, rfl⟩ := List.mem_map.1 he
  have := List.any_eq_false.1 h x hx
  simpa using this

theorem im_put {M : List (Int × AV)} {k : Int} (v : AV) (h : imHas M k = false) : putK (imE M) (.int .i64 k) v = imE (M ++ [(k, v)]) := by
  rw [putK_none (im_new h)]
  simp [imE]

theorem im_same : ∀ {M : List (Int × AV)} {k : Int} {v : AV}, imHas M k = true → (∀ e ∈ M, e.2 = v) → putK (imE M) (.int .i64 k) v = imE M
  | [], _, _, h, _ => by cases h
  | e :: r, k, v, h, hv => by
    simp only [imE, List.map_cons, putK]
    by_cases hk : e.1 = k
    · rw [if_pos (by rw [hk]), hk, hv e (by simp)]
    · rw [if_neg (by simpa using hk)]
      have h2 : imHas r k = true := by
        simp only [imHas, List.any_cons, decide_eq_false hk, Bool.false_or] at h
        exact h
      have := im_same h2 fun e he => hv e (by simp [he])
      simp only [imE] at this
      rw [this]

theorem im_DK {M : List (Int × AV)} {k : Int} {v : AV} (h : imHas M k = false) (hd : DK (imE M)) : DK (imE (M ++ [(k, v)])) := by
  have : imE (M ++ [(k, v)]) = imE M ++ [(.int .i64 k, v)] := by simp [imE]
  rw [this]
  exact DK_snoc hd (im_new h)

theorem im_KK {M : List (Int × AV)} (h : ∀ e ∈ M, I64 e.1) : KK Try.prog 3 (imE M) = True :=
  eq_true (KK_iff.2 fun e he => by
    obtain ⟨x, hx, rfl⟩ := List.mem_map.1 he
    exact (keyK_int x.1).mpr (h x hx))

/-- Sets of numbers, as maps to true. -/
def metM (K : List Int) : List (Int × AV) := K.map fun i => (i, .c (.bool true))
theorem metM_has (K : List Int) (i : Int) : imHas (metM K) i = decide (i ∈ K) := by
  rw [Bool.eq_iff_iff, imHas, List.any_eq_true, decide_eq_true_eq]
  constructor
  · rintro ⟨x, hx, h⟩
    obtain ⟨j, hj, rfl⟩ := List.mem_map.1 hx
    have : j = i := of_decide_eq_true h
    exact this ▸ hj
  · exact fun h => ⟨(i, .c (.bool true)), List.mem_map.2 ⟨i, h, rfl⟩, decide_eq_true rfl⟩
theorem metM_val (K : List Int) : ∀ e ∈ metM K, e.2 = .c (.bool true) := fun e he => by
  obtain ⟨j, hj, rfl⟩ := List.mem_map.1 he
  rfl
theorem metM_put {K : List Int} {i : Int} : putK (imE (metM K)) (.int .i64 i) (.c (.bool true)) = imE (metM (if i ∈ K then K else K ++ [i])) := by
  by_cases h : i ∈ K
  · rw [if_pos h]
    exact im_same (by rw [metM_has, decide_eq_true h]) (metM_val K)
  · rw [if_neg h, im_put _ (by rw [metM_has, decide_eq_false h])]
    simp [metM]
theorem metM_DK {K : List Int} {i : Int} (hd : DK (imE (metM K))) : DK (imE (metM (if i ∈ K then K else K ++ [i]))) := by
  by_cases h : i ∈ K
  · rw [if_pos h]; exact hd
  · rw [if_neg h]
    have := im_DK (v := .c (.bool true)) (k := i) (M := metM K) (by rw [metM_has, decide_eq_false h]) hd
    simpa [metM] using this
theorem metM_len (K : List Int) : (imE (metM K)).length = K.length := by simp [imE, metM]
end Go.Proofs.Ytephecognbbaoab
