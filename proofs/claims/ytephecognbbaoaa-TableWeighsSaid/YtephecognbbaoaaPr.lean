/- Turns of nodes, one at a time: in plain Lean. -/
import Derived.Test.YtephecognbbaoaaPo
namespace Go.Proofs.Ytephecognbbaoaa
open Go
set_option linter.all false

theorem fit_zero {n : Net} {x : List (List Int)} (h0 : fitA n x = 0) : checkN n = 0 ∧ RowsIn n x := by
  have hc : checkN n = 0 := by
    apply Classical.byContradiction
    intro hc
    rw [fitA, if_pos hc] at h0
    exact hc h0
  exact ⟨hc, rowsIn_of (by rw [fitA, if_neg (by omega)] at h0; exact h0)⟩

structure Trn where
  act : List Bool
  ages : List (List Int)
deriving Inhabited

def turnErr (n : Net) (t : Trn) : Int :=
  if (t.act.length : Int) ≠ n.nodes ∨ (t.ages.length : Int) ≠ n.nodes ∨ t.ages.any (fun r => decide ((r.length : Int) ≠ n.nodes)) = true then 1
  else if t.ages.any (fun r => r.any fun v => !inR v 1 20) then 3
  else 0

def turnsErr (n : Net) : List Trn → Int
  | [] => 0
  | t :: r => if turnErr n t ≠ 0 then turnErr n t else turnsErr n r

def checkT (n : Net) (t : List Trn) : Int := if checkN n ≠ 0 then checkN n else if t.length > 200 then 2 else turnsErr n t

structure TrnIn (n : Net) (t : Trn) : Prop where
  act : (t.act.length : Int) = n.nodes
  len : (t.ages.length : Int) = n.nodes
  row : ∀ r ∈ t.ages, (r.length : Int) = n.nodes
  val : ∀ r ∈ t.ages, ∀ v ∈ r, 1 ≤ v ∧ v ≤ 20

theorem trnIn_of {n : Net} {t : Trn} (h : turnErr n t = 0) : TrnIn n t := by
  unfold turnErr at h
  split at h
  · cases h
  · rename_i h1
    split at h
    · cases h
    · rename_i h2
      rw [not_or, not_or] at h1
      refine ⟨Decidable.not_not.1 h1.1, Decidable.not_not.1 h1.2.1, fun r hr => ?_, fun r hr v hv => ?_⟩
      · apply Classical.byContradiction
        intro hc
        exact h1.2.2 (List.any_eq_true.2 ⟨r, hr, decide_eq_true hc⟩)
      · apply Classical.byContradiction
        intro hc
        exact h2 (List.any_eq_true.2 ⟨r, hr, List.any_eq_true.2 ⟨v, hv, not_inR.2 (by omega)⟩⟩)

theorem trnsIn_of {n : Net} : ∀ {t : List Trn}, turnsErr n t = 0 → ∀ u ∈ t, TrnIn n u
  | [], _, _, hu => by cases hu
  | t :: r, h, u, hu => by
    rw [turnsErr] at h
    by_cases h0 : turnErr n t = 0
    · rw [if_neg (by simpa using h0)] at h
      rcases List.mem_cons.1 hu with rfl | hu
      · exact trnIn_of h0
      · exact trnsIn_of h u hu
    · rw [if_pos h0] at h
      exact absurd h h0

theorem checkT_zero {n : Net} {t : List Trn} (h : checkT n t = 0) : checkN n = 0 ∧ t.length ≤ 200 ∧ ∀ u ∈ t, TrnIn n u := by
  unfold checkT at h
  split at h
  · exact absurd h (by assumption)
  · rename_i h1
    split at h
    · cases h
    · exact ⟨Decidable.not_not.1 h1, by omega, trnsIn_of h⟩

/-- How old a state a turn uses. -/
def usedA (u : Trn) (k i to : Int) : Int := max 0 (k + 1 - at2 u.ages i to)

def nextT (n : Net) (out : List (List (List Int))) (k : Int) (u : Trn) : List (List Int) :=
  (ints n.nodes).map fun i => if at0 u.act i then (ints n.nodes).map (fun j => routeL n i j (fun to => at2 (at0 out (usedA u k i to)) to j) n.links) else at0 (at0 out k) i

/-- All states that come. -/
def runF (n : Net) : Int → List Trn → List (List (List Int)) → List (List (List Int))
  | _, [], out => out
  | k, u :: r, out => runF n (k + 1) r (out ++ [nextT n out k u])

def runA (n : Net) (x : List (List Int)) (t : List Trn) : List (List (List Int)) := runF n 0 t [x]

theorem at2_age {n : Net} {u : Trn} (h : TrnIn n u) {i to : Int} (hi : 0 ≤ i ∧ i < n.nodes) (ht : 0 ≤ to ∧ to < n.nodes) : 1 ≤ at2 u.ages i to ∧ at2 u.ages i to ≤ 20 := by
  have h1 := at0_mem u.ages hi.1 (by rw [h.len]; exact hi.2)
  exact h.val _ h1 _ (at0_mem _ ht.1 (by rw [h.row _ h1]; exact ht.2))

theorem at0_ext {X : Type} [Inhabited X] {a b : List X} (hl : a.length = b.length) (h : ∀ k : Int, 0 ≤ k → k < a.length → at0 a k = at0 b k) : a = b := by
  apply List.ext_getElem hl
  intro i h1 h2
  have := h i (by omega) (by omega)
  simpa [at0, List.getD_eq_getElem?_getD, h1, h2] using this

theorem used_in {n : Net} {u : Trn} (h : TrnIn n u) {k i to : Int} (hk : 0 ≤ k) (hi : 0 ≤ i ∧ i < n.nodes) (ht : 0 ≤ to ∧ to < n.nodes) : 0 ≤ usedA u k i to ∧ usedA u k i to ≤ k := by
  have := at2_age h hi ht
  unfold usedA
  omega

theorem routeL_in {n : Net} (hc : checkN n = 0) (i j : Int) (has : Int → Int) (hh : ∀ k, 0 ≤ k → k < n.nodes → 0 ≤ has k ∧ has k < n.alg.size) : 0 ≤ routeL n i j has n.links ∧ routeL n i j has n.links < n.alg.size := by
  rw [route_eq hc i j has hh]
  exact routeR_in (netIn_of hc) i j has hh

/-- What a turn reads is a route. -/
theorem has_in {n : Net} {u : Trn} (hu : TrnIn n u) {out : List (List (List Int))} (ho : ∀ s ∈ out, RowsIn n s) {k : Int} (hk : 0 ≤ k) (hk2 : k < out.length) {i to j : Int} (hi : 0 ≤ i ∧ i < n.nodes) (ht : 0 ≤ to ∧ to < n.nodes) (hj : 0 ≤ j ∧ j < n.nodes) :
    0 ≤ at2 (at0 out (usedA u k i to)) to j ∧ at2 (at0 out (usedA u k i to)) to j < n.alg.size := by
  have h := used_in hu hk hi ht
  exact at2_in (ho _ (at0_mem out h.1 (by omega))) ht hj

theorem ints_map_at0 {X : Type} [Inhabited X] (l : List X) {m : Int} (h : (l.length : Int) = m) : (ints m).map (fun j => at0 l j) = l := by
  refine at0_ext (by rw [List.length_map, ints_length]; omega) fun k h0 h1 => ?_
  rw [List.length_map, ints_length] at h1
  have h2 : k.toNat < (ints m).length := by rw [ints_length]; omega
  conv => lhs; rw [at0, List.getD_eq_getElem?_getD, List.getElem?_map, List.getElem?_eq_getElem h2, Option.map_some, Option.getD_some]
  congr 1
  simp [ints]
  omega

theorem nextT_in {n : Net} (hc : checkN n = 0) {u : Trn} (hu : TrnIn n u) {out : List (List (List Int))} (ho : ∀ s ∈ out, RowsIn n s) {k : Int} (hk : 0 ≤ k) (hk2 : k < out.length) : RowsIn n (nextT n out k u) := by
  have hn := netIn_of hc
  have n1 := hn.n1
  have hl := ho _ (at0_mem out hk hk2)
  refine ⟨by rw [nextT, List.length_map, ints_length]; omega, fun r hr => ?_, fun r hr v hv => ?_⟩
  all_goals
    obtain ⟨i, hi, rfl⟩ := List.mem_map.1 hr
    have hi := mem_ints.1 hi
  · split
    · rw [List.length_map, ints_length]; omega
    · exact hl.row _ (at0_mem _ hi.1 (by rw [hl.len]; exact hi.2))
  · split at hv
    · obtain ⟨j, hj, rfl⟩ := List.mem_map.1 hv
      have hj := mem_ints.1 hj
      exact routeL_in hc i j _ fun to h0 h1 => has_in hu ho hk hk2 hi ⟨h0, h1⟩ hj
    · exact hl.val _ (at0_mem _ hi.1 (by rw [hl.len]; exact hi.2)) v hv

/-- As the document has it. -/
def cellT (n : Net) (out : List (List (List Int))) (k : Int) (u : Trn) (i j : Int) : Int :=
  if at0 u.act i then routeR n i j (fun to => at2 (at0 out (usedA u k i to)) to j) else at2 (at0 out k) i j

theorem nextT_eq {n : Net} (hc : checkN n = 0) {u : Trn} (hu : TrnIn n u) {out : List (List (List Int))} (ho : ∀ s ∈ out, RowsIn n s) {k : Int} (hk : 0 ≤ k) (hk2 : k < out.length) :
    nextT n out k u = (ints n.nodes).map fun i => (ints n.nodes).map fun j => cellT n out k u i j := by
  have hl := ho _ (at0_mem out hk hk2)
  refine List.map_congr_left fun i hi => ?_
  have hi := mem_ints.1 hi
  by_cases ha : at0 u.act i = true
  · rw [if_pos ha]
    refine List.map_congr_left fun j hj => ?_
    have hj := mem_ints.1 hj
    rw [cellT, if_pos ha]
    exact route_eq hc i j _ fun to h0 h1 => has_in hu ho hk hk2 hi ⟨h0, h1⟩ hj
  · rw [if_neg ha]
    have : (fun j => cellT n out k u i j) = fun j => at0 (at0 (at0 out k) i) j := by
      funext j
      rw [cellT, if_neg ha]
      rfl
    rw [this, ints_map_at0 _ (hl.row _ (at0_mem _ hi.1 (by rw [hl.len]; exact hi.2)))]

theorem runF_in {n : Net} (hc : checkN n = 0) : ∀ {t : List Trn} {out : List (List (List Int))} {k : Int}, (∀ u ∈ t, TrnIn n u) → (∀ s ∈ out, RowsIn n s) → 0 ≤ k → k < out.length → ∀ s ∈ runF n k t out, RowsIn n s
  | [], _, _, _, ho, _, _ => ho
  | u :: r, out, k, hu, ho, hk, hk2 => by
    refine runF_in (t := r) (out := out ++ [nextT n out k u]) (k := k + 1) hc (fun v hv => hu v (by simp [hv])) (fun s hs => ?_) (by omega) (by rw [List.length_append, List.length_singleton]; omega)
    rcases List.mem_append.1 hs with hs | hs
    · exact ho s hs
    · rw [List.mem_singleton.1 hs]
      exact nextT_in hc (hu u (by simp)) ho hk hk2

theorem runF_length (n : Net) : ∀ (t : List Trn) (out : List (List (List Int))) (k : Int), (runF n k t out).length = out.length + t.length
  | [], _, _ => by simp [runF]
  | u :: r, out, k => by rw [runF, runF_length n r]; simp; omega
end Go.Proofs.Ytephecognbbaoaa
