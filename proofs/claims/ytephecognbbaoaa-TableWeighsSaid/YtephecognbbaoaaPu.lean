/- Where to: the program's way and the document's find the same: in plain Lean. -/
import Derived.Test.YtephecognbbaoaaPq
namespace Go.Proofs.Ytephecognbbaoaa
open Go
set_option linter.all false

section
variable {n : Net}

/-- As the program finds it. -/
def toL (n : Net) (i j : Int) (has : Int → Int) : Int :=
  if i = j then -1
  else if routeL n i j has n.links = n.alg.size - 1 then -1
  else match (ints n.nodes).find? fun k => decide (0 ≤ edgeOf n i k) && decide (overA n (edgeOf n i k) (has k) = routeL n i j has n.links) with
  | some k => k
  | none => -1

/-- As the document does. -/
def toStep (n : Net) (i : Int) (has : Int → Int) (b : Int × Int) (k : Int) : Int × Int :=
  if 0 ≤ edgeOf n i k then (if bestA n b.1 (overA n (edgeOf n i k) (has k)) ≠ b.1 then (overA n (edgeOf n i k) (has k), k) else b) else b
def toR (n : Net) (i j : Int) (has : Int → Int) : Int := if i = j then -1 else ((ints n.nodes).foldl (toStep n i has) (n.alg.size - 1, -1)).2

theorem edge_in (h : NetIn n) {i k : Int} (he : 0 ≤ edgeOf n i k) : edgeOf n i k < n.alg.edges.length := by
  unfold edgeOf at he ⊢
  cases hfd : n.links.find? fun l => decide (l.fr = i) && decide (l.dst = k) with
  | none => rw [hfd] at he; simp at he
  | some l => exact (h.lnk l (List.mem_of_find?_eq_some hfd)).e1

theorem to_fold (h : NetIn n) (i : Int) (has : Int → Int) (hh : ∀ k, 0 ≤ k → k < n.nodes → InV n (has k)) : ∀ (K : List Int) (b : Int × Int), (∀ k ∈ K, 0 ≤ k ∧ k < n.nodes) → InV n b.1 →
    (K.foldl (toStep n i has) b).1 = K.foldl (fun out k => if 0 ≤ edgeOf n i k then bestA n out (overA n (edgeOf n i k) (has k)) else out) b.1 ∧
    InV n (K.foldl (toStep n i has) b).1 ∧ Le n (K.foldl (toStep n i has) b).1 b.1 ∧
    ((K.foldl (toStep n i has) b).1 = b.1 → (K.foldl (toStep n i has) b).2 = b.2) ∧
    ((K.foldl (toStep n i has) b).1 ≠ b.1 → K.find? (fun k => decide (0 ≤ edgeOf n i k) && decide (overA n (edgeOf n i k) (has k) = (K.foldl (toStep n i has) b).1)) = some (K.foldl (toStep n i has) b).2)
  | [], b, _, hb => ⟨rfl, hb, le_refl h hb, fun _ => rfl, fun h => absurd rfl h⟩
  | k :: r, b, hK, hb => by
    rw [List.foldl_cons, List.foldl_cons]
    have hr : ∀ q ∈ r, 0 ≤ q ∧ q < n.nodes := fun q hq => hK q (by simp [hq])
    by_cases he : 0 ≤ edgeOf n i k
    · have hw : InV n (overA n (edgeOf n i k) (has k)) := over_in h ⟨he, edge_in h he⟩ (hh k (hK k (by simp)).1 (hK k (by simp)).2)
      by_cases hu : bestA n b.1 (overA n (edgeOf n i k) (has k)) = b.1
      · have e : toStep n i has b k = b := by rw [toStep, if_pos he, if_neg (not_not_intro hu)]
        obtain ⟨a1, a2, a3, a4, a5⟩ := to_fold h i has hh r b hr hb
        rw [e, if_pos he, hu]
        refine ⟨a1, a2, a3, a4, fun hne => ?_⟩
        rw [List.find?_cons_of_neg, a5 hne]
        rw [Bool.and_eq_true, decide_eq_true_eq, decide_eq_true_eq]
        rintro ⟨_, h9⟩
        rw [h9] at hu
        exact hne (le_antisymm h a2 hb a3 hu)
      · have hb1 : bestA n b.1 (overA n (edgeOf n i k) (has k)) = overA n (edgeOf n i k) (has k) := by
          rcases best_select h hb hw with e | e
          · exact absurd e hu
          · exact e
        have e : toStep n i has b k = (overA n (edgeOf n i k) (has k), k) := by rw [toStep, if_pos he, if_pos hu]
        have hlt : Le n (overA n (edgeOf n i k) (has k)) b.1 := by
          have := best_le1 h hb hw
          rw [hb1] at this
          exact this
        have hwb : overA n (edgeOf n i k) (has k) ≠ b.1 := fun e => hu (hb1.trans e)
        obtain ⟨a1, a2, a3, a4, a5⟩ := to_fold h i has hh r (overA n (edgeOf n i k) (has k), k) hr hw
        rw [e, if_pos he, hb1]
        have hnb : (r.foldl (toStep n i has) (overA n (edgeOf n i k) (has k), k)).1 ≠ b.1 := fun e9 => by
          rw [e9] at a3
          exact hwb (le_antisymm h hw hb hlt a3)
        refine ⟨a1, a2, le_trans h a2 hw hb a3 hlt, fun h9 => absurd h9 hnb, fun _ => ?_⟩
        by_cases hq : (r.foldl (toStep n i has) (overA n (edgeOf n i k) (has k), k)).1 = overA n (edgeOf n i k) (has k)
        · rw [List.find?_cons_of_pos, a4 hq]
          rw [hq, Bool.and_eq_true, decide_eq_true_eq, decide_eq_true_eq]
          exact ⟨he, rfl⟩
        · rw [List.find?_cons_of_neg, a5 hq]
          rw [Bool.and_eq_true, decide_eq_true_eq, decide_eq_true_eq]
          rintro ⟨_, h9⟩
          exact hq h9.symm
    · have e : toStep n i has b k = b := by rw [toStep, if_neg he]
      obtain ⟨a1, a2, a3, a4, a5⟩ := to_fold h i has hh r b hr hb
      rw [e, if_neg he]
      refine ⟨a1, a2, a3, a4, fun hne => ?_⟩
      rw [List.find?_cons_of_neg, a5 hne]
      rw [Bool.and_eq_true, decide_eq_true_eq]
      rintro ⟨h9, _⟩
      exact he h9

theorem to_eq (hc : checkN n = 0) {i j : Int} {has : Int → Int} (hh : ∀ k, 0 ≤ k → k < n.nodes → InV n (has k)) : toL n i j has = toR n i j has := by
  have h := netIn_of hc
  unfold toL toR
  by_cases e : i = j
  · rw [if_pos e, if_pos e]
  · rw [if_neg e, if_neg e]
    obtain ⟨a1, a2, a3, a4, a5⟩ := to_fold h i has hh (ints n.nodes) (n.alg.size - 1, -1) (fun k hk => mem_ints.1 hk) (inv_in h)
    have hr : routeL n i j has n.links = ((ints n.nodes).foldl (toStep n i has) (n.alg.size - 1, -1)).1 := by
      rw [route_eq hc i j has hh, a1]
      unfold routeR
      rw [if_neg e]
    rw [hr]
    by_cases hq : ((ints n.nodes).foldl (toStep n i has) (n.alg.size - 1, -1)).1 = n.alg.size - 1
    · rw [if_pos hq, a4 hq]
    · rw [if_neg hq, a5 hq]

/-- The table of a state. -/
def tableA (n : Net) (x : List (List Int)) : List (List Int) := (ints n.nodes).map fun i => (ints n.nodes).map fun j => toR n i j fun k => at2 x k j
end
end Go.Proofs.Ytephecognbbaoaa
