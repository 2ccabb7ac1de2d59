/- Nets of nodes, in plain Lean: their form. -/
import Derived.Test.YtephecognbbaoabPb
namespace Go.Proofs.Ytephecognbbaoab
open Go
set_option linter.all false

structure Lnk where
  fr : Int
  dst : Int
  edge : Int
deriving DecidableEq, Inhabited

structure Net where
  alg : Alg
  nodes : Int
  links : List Lnk
deriving DecidableEq

def seven : List Int := [1, 2, 3, 4, 5, 6, 7]

/-- Two links between the same nodes. -/
def Lnk.like (l l' : Lnk) : Bool := decide (l'.fr = l.fr) && decide (l'.dst = l.dst)

def lnkErr (n : Net) (pre : List Lnk) (l : Lnk) : Int :=
  if !(inR l.fr 0 (n.nodes - 1) && inR l.dst 0 (n.nodes - 1) && inR l.edge 0 (n.alg.edges.length - 1)) then 5
  else if l.fr = l.dst then 1
  else if pre.any l.like then 6
  else 0

/-- What is wrong with links, behind some that are right. -/
def linksErr (n : Net) : List Lnk → List Lnk → Int
  | _, [] => 0
  | pre, l :: r => if lnkErr n pre l ≠ 0 then lnkErr n pre l else linksErr n (pre ++ [l]) r

def checkN (n : Net) : Int :=
  if checkA n.alg ≠ 0 then checkA n.alg
  else if (brokenA n.alg seven).law ≠ 0 then 4
  else if !inR n.nodes 1 6 then 3
  else linksErr n [] n.links

theorem linksErr_bad {n : Net} {pre r : List Lnk} {l : Lnk} (h : lnkErr n pre l ≠ 0) : linksErr n pre (l :: r) = lnkErr n pre l := by rw [linksErr, if_pos h]
theorem linksErr_good {n : Net} {pre r : List Lnk} {l : Lnk} (h : lnkErr n pre l = 0) : linksErr n pre (l :: r) = linksErr n (pre ++ [l]) r := by rw [linksErr, if_neg (by omega)]

structure LnkIn (n : Net) (l : Lnk) : Prop where
  f0 : 0 ≤ l.fr
  f1 : l.fr < n.nodes
  d0 : 0 ≤ l.dst
  d1 : l.dst < n.nodes
  e0 : 0 ≤ l.edge
  e1 : l.edge < n.alg.edges.length
  ne : l.fr ≠ l.dst

theorem lnkIn_of {n : Net} {pre : List Lnk} {l : Lnk} (h : lnkErr n pre l = 0) : LnkIn n l ∧ pre.any l.like = false := by
  unfold lnkErr at h
  split at h
  · cases h
  · rename_i h1
    split at h
    · cases h
    · rename_i h2
      split at h
      · cases h
      · rename_i h3
        simp only [Bool.not_eq_true', Bool.not_eq_false, Bool.and_eq_true, inR_iff] at h1
        exact ⟨⟨h1.1.1.1, by omega, h1.1.2.1, by omega, h1.2.1, by omega, h2⟩, by simpa using h3⟩

theorem linksErr_in {n : Net} : ∀ (r pre : List Lnk), linksErr n pre r = 0 → ∀ l ∈ r, LnkIn n l
  | [], _, _, l, hl => by cases hl
  | x :: r, pre, h, l, hl => by
    rw [linksErr] at h
    split at h
    · rename_i h1; exact absurd h h1
    · rename_i h1
      rcases List.mem_cons.1 hl with rfl | hl
      · exact (lnkIn_of (Decidable.not_not.1 h1)).1
      · exact linksErr_in r _ h l hl

/-- A net that passes. -/
structure NetIn (n : Net) : Prop where
  alg : Right n.alg
  law : (brokenA n.alg seven).law = 0
  n1 : 1 ≤ n.nodes
  n6 : n.nodes ≤ 6
  lnk : ∀ l ∈ n.links, LnkIn n l

theorem netIn_of {n : Net} (h : checkN n = 0) : NetIn n := by
  unfold checkN at h
  split at h
  · rename_i h1; exact absurd h h1
  · rename_i h1
    split at h
    · cases h
    · rename_i h2
      split at h
      · cases h
      · rename_i h3
        have h3' := inR_iff.1 (show inR n.nodes 1 6 = true by simpa using h3)
        exact ⟨right_iff.1 (Decidable.not_not.1 h1), Decidable.not_not.1 h2, h3'.1, h3'.2, linksErr_in _ _ h⟩

theorem broken_zero {x : Alg} (h : (brokenA x seven).law = 0) : brokenA x seven = zeroB := by
  have := brokenA_none (laws := seven) (by decide) h
  unfold brokenA firstB
  rw [List.find?_eq_none.2]
  · rfl
  · intro b hb
    obtain ⟨law, hl, hb⟩ := List.mem_flatMap.1 hb
    simp [this law hl b hb]

/-- Rows of routes: are there as many of as many; are all routes. -/
def rowsErr (n : Net) (x : List (List Int)) : Int :=
  if (x.length : Int) ≠ n.nodes ∨ x.any (fun r => decide ((r.length : Int) ≠ n.nodes)) = true then 1
  else if x.any (fun r => r.any fun v => !inR v 0 (n.alg.size - 1)) then 5
  else 0

def fitA (n : Net) (x : List (List Int)) : Int := if checkN n ≠ 0 then checkN n else rowsErr n x

structure RowsIn (n : Net) (x : List (List Int)) : Prop where
  len : (x.length : Int) = n.nodes
  row : ∀ r ∈ x, (r.length : Int) = n.nodes
  val : ∀ r ∈ x, ∀ v ∈ r, 0 ≤ v ∧ v < n.alg.size

theorem rowsIn_of {n : Net} {x : List (List Int)} (h : rowsErr n x = 0) : RowsIn n x := by
  unfold rowsErr at h
  split at h
  · cases h
  · rename_i h1
    split at h
    · cases h
    · rename_i h2
      rw [not_or] at h1
      refine ⟨Decidable.not_not.1 h1.1, fun r hr => ?_, fun r hr v hv => ?_⟩
      · apply Classical.byContradiction
        intro hc
        exact h1.2 (List.any_eq_true.2 ⟨r, hr, decide_eq_true hc⟩)
      · apply Classical.byContradiction
        intro hc
        exact h2 (List.any_eq_true.2 ⟨r, hr, List.any_eq_true.2 ⟨v, hv, not_inR.2 (by omega)⟩⟩)
end Go.Proofs.Ytephecognbbaoab
