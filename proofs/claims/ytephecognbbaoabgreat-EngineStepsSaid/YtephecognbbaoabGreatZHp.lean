/- Routes of a node, in plain Lean: whatever the order of links. -/
import Derived.Test.YtephecognbbaoabGreatZLo
import Derived.Test.YtephecognbbaoabGreatZSy
import Derived.Test.YtephecognbbaoabGreatZGr
/- Nets of nodes, in plain Lean: their form. -/
open Go
set_option linter.all false
set_option maxRecDepth 100000
set_option maxHeartbeats 4000000
namespace Go.Proofs.YtephecognbbaoabGreat
open Go
set_option linter.all false
structure Alg where
  size : Int
  best : List (List Int)
  edges : List (List Int)
deriving DecidableEq
structure Brk where
  law : Int
  a : Int
  b : Int
  c : Int
  edge : Int
deriving DecidableEq
def at2 (l : List (List Int)) (i j : Int) : Int := at0 (at0 l i) j
def inR (n lo hi : Int) : Bool := decide (lo ≤ n) && decide (n ≤ hi)
theorem inR_iff {n lo hi : Int} : inR n lo hi = true ↔ lo ≤ n ∧ n ≤ hi := by simp [inR]
theorem not_inR {n lo hi : Int} : (!inR n lo hi) = true ↔ n < lo ∨ hi < n := by simp only [Bool.not_eq_true', ← Bool.not_eq_true, inR_iff]; omega
def checkA (x : Alg) : Int :=
  if !inR x.size 2 24 then 3
  else if 8 < x.edges.length then 2
  else if (x.best.length : Int) ≠ x.size then 1
  else if (x.best ++ x.edges).any (fun r => decide ((r.length : Int) ≠ x.size)) then 1
  else if (x.best ++ x.edges).any (fun r => r.any fun n => !inR n 0 (x.size - 1)) then 5
  else 0
structure Right (x : Alg) : Prop where
  s2 : 2 ≤ x.size
  s24 : x.size ≤ 24
  e8 : x.edges.length ≤ 8
  bl : (x.best.length : Int) = x.size
  row : ∀ r ∈ x.best ++ x.edges, (r.length : Int) = x.size
  val : ∀ r ∈ x.best ++ x.edges, ∀ n ∈ r, 0 ≤ n ∧ n ≤ x.size - 1
theorem right_iff {x : Alg} : checkA x = 0 ↔ Right x := by
  unfold checkA
  constructor
  · intro h
    split at h
    · cases h
    split at h
    · cases h
    split at h
    · cases h
    split at h
    · cases h
    split at h
    · cases h
    rename_i h1 h2 h3 h4 h5
    have h1' : 2 ≤ x.size ∧ x.size ≤ 24 := inR_iff.1 (by simpa using h1)
    refine ⟨h1'.1, h1'.2, by omega, by omega, fun r hr => ?_, fun r hr n hn => ?_⟩
    · have h4' : ∀ r ∈ x.best ++ x.edges, ¬ ((r.length : Int) ≠ x.size) := by
        intro r hr hne
        exact h4 (List.any_eq_true.2 ⟨r, hr, by simpa using hne⟩)
      have := h4' r hr
      omega
    · apply Classical.byContradiction
      intro hc
      refine h5 (List.any_eq_true.2 ⟨r, hr, List.any_eq_true.2 ⟨n, hn, not_inR.2 (by omega)⟩⟩)
  · intro h
    have k1 : ¬ (!inR x.size 2 24) = true := by rw [not_inR]; have := h.s2; have := h.s24; omega
    have k4 : ¬ ((x.best ++ x.edges).any (fun r => decide ((r.length : Int) ≠ x.size))) = true := by
      intro hc
      obtain ⟨r, hr, hn⟩ := List.any_eq_true.1 hc
      exact (of_decide_eq_true hn) (h.row r hr)
    have k5 : ¬ ((x.best ++ x.edges).any (fun r => r.any fun n => !inR n 0 (x.size - 1))) = true := by
      intro hc
      obtain ⟨r, hr, hn⟩ := List.any_eq_true.1 hc
      obtain ⟨n, hn, hb⟩ := List.any_eq_true.1 hn
      have := h.val r hr n hn
      rw [not_inR] at hb
      omega
    rw [if_neg k1, if_neg (by have := h.e8; omega), if_neg (by have := h.bl; omega), if_neg k4, if_neg k5]
section
variable {x : Alg}
theorem Right.best_row (h : Right x) {i : Int} (h0 : 0 ≤ i) (h1 : i < x.size) : at0 x.best i ∈ x.best := at0_mem _ h0 (by have := h.bl; omega)
theorem Right.best_len (h : Right x) {i : Int} (h0 : 0 ≤ i) (h1 : i < x.size) : ((at0 x.best i).length : Int) = x.size := h.row _ (List.mem_append_left _ (h.best_row h0 h1))
theorem Right.best_in (h : Right x) {i j : Int} (h0 : 0 ≤ i) (h1 : i < x.size) (h2 : 0 ≤ j) (h3 : j < x.size) : 0 ≤ at2 x.best i j ∧ at2 x.best i j < x.size := by
  have := h.val _ (List.mem_append_left _ (h.best_row h0 h1)) (at2 x.best i j) (at0_mem _ h2 (by have := h.best_len h0 h1; omega))
  omega
theorem Right.edge_row (h : Right x) {i : Int} (h0 : 0 ≤ i) (h1 : i < x.edges.length) : at0 x.edges i ∈ x.edges := at0_mem _ h0 h1
theorem Right.edge_len (h : Right x) {i : Int} (h0 : 0 ≤ i) (h1 : i < x.edges.length) : ((at0 x.edges i).length : Int) = x.size := h.row _ (List.mem_append_right _ (h.edge_row h0 h1))
theorem Right.edge_in (h : Right x) {i j : Int} (h0 : 0 ≤ i) (h1 : i < x.edges.length) (h2 : 0 ≤ j) (h3 : j < x.size) : 0 ≤ at2 x.edges i j ∧ at2 x.edges i j < x.size := by
  have := h.val _ (List.mem_append_right _ (h.edge_row h0 h1)) (at2 x.edges i j) (at0_mem _ h2 (by have := h.edge_len h0 h1; omega))
  omega
end
/-- How many routes a law names, and whether an edge. -/
def manyA (law : Int) : Int := if law = 1 ∨ law = 3 then 2 else if law = 2 then 3 else if law = 4 ∨ law = 5 then 1 else if law = 6 then 0 else if law = 7 ∨ law = 8 then 1 else 2
def edgeA (law : Int) : Bool := !(decide (law = 1) || decide (law = 2) || decide (law = 3) || decide (law = 4) || decide (law = 5))
theorem many_bd (law : Int) : 0 ≤ manyA law ∧ manyA law ≤ 3 := by
  unfold manyA
  repeat' split
  all_goals omega
def holdsA (x : Alg) (b : Brk) : Bool :=
  if b.law = 1 then decide (at2 x.best b.a b.b = at2 x.best b.b b.a)
  else if b.law = 2 then decide (at2 x.best b.a (at2 x.best b.b b.c) = at2 x.best (at2 x.best b.a b.b) b.c)
  else if b.law = 3 then decide (at2 x.best b.a b.b = b.a) || decide (at2 x.best b.a b.b = b.b)
  else if b.law = 4 then decide (at2 x.best 0 b.a = 0)
  else if b.law = 5 then decide (at2 x.best (x.size - 1) b.a = b.a)
  else if b.law = 6 then decide (at2 x.edges b.edge (x.size - 1) = x.size - 1)
  else if b.law = 7 then decide (at2 x.best b.a (at2 x.edges b.edge b.a) = b.a)
  else if b.law = 8 then decide (b.a = x.size - 1) || (decide (at2 x.best b.a (at2 x.edges b.edge b.a) = b.a) && !decide (at2 x.edges b.edge b.a = b.a))
  else decide (at2 x.edges b.edge (at2 x.best b.a b.b) = at2 x.best (at2 x.edges b.edge b.a) (at2 x.edges b.edge b.b))
def upN (named : Bool) (n : Int) : Int := if named then n else 1
/-- Does a number stand where it may: below n, if it is named; else it is 0. -/
def okAt (named : Bool) (v n : Int) : Bool := if named then inR v 0 (n - 1) else decide (v = 0)
theorem okAt_iff {named : Bool} {v n : Int} : okAt named v n = true ↔ 0 ≤ v ∧ v < upN named n := by
  cases named
  · simp [okAt, upN]; omega
  · simp only [okAt, upN, if_true, inR_iff]; omega
def checkB (x : Alg) (b : Brk) : Int :=
  if !inR b.law 1 9 then 7
  else if !(okAt (decide (0 < manyA b.law)) b.a x.size && okAt (decide (1 < manyA b.law)) b.b x.size && okAt (decide (2 < manyA b.law)) b.c x.size) then 3
  else if !okAt (edgeA b.law) b.edge x.edges.length then 3
  else 0
def ints (n : Int) : List Int := (List.range n.toNat).map fun (i : Nat) => (i : Int)
theorem mem_ints {n v : Int} : v ∈ ints n ↔ 0 ≤ v ∧ v < n := by
  simp only [ints, List.mem_map, List.mem_range]
  constructor
  · rintro ⟨i, hi, rfl⟩; omega
  · rintro ⟨h0, h1⟩; exact ⟨v.toNat, by omega, by omega⟩
theorem ints_length (n : Int) : (ints n).length = n.toNat := by simp [ints]
/-- All that a law is asked of, in order. -/
def casesA (x : Alg) (law : Int) : List Brk :=
  (ints (upN (decide (0 < manyA law)) x.size)).flatMap fun a => (ints (upN (decide (1 < manyA law)) x.size)).flatMap fun b => (ints (upN (decide (2 < manyA law)) x.size)).flatMap fun c =>
    (ints (upN (edgeA law) x.edges.length)).map fun e => ⟨law, a, b, c, e⟩
theorem mem_cases {x : Alg} {law : Int} {b : Brk} : b ∈ casesA x law ↔ b.law = law ∧ (0 ≤ b.a ∧ b.a < upN (decide (0 < manyA law)) x.size) ∧ (0 ≤ b.b ∧ b.b < upN (decide (1 < manyA law)) x.size) ∧
    (0 ≤ b.c ∧ b.c < upN (decide (2 < manyA law)) x.size) ∧ (0 ≤ b.edge ∧ b.edge < upN (edgeA law) x.edges.length) := by
  simp only [casesA, List.mem_flatMap, List.mem_map, mem_ints]
  constructor
  · rintro ⟨p, hp, q, hq, r, hr, e, he, rfl⟩
    exact ⟨rfl, hp, hq, hr, he⟩
  · rintro ⟨rfl, hp, hq, hr, he⟩
    exact ⟨_, hp, _, hq, _, hr, _, he, rfl⟩
theorem checkB_iff {x : Alg} {b : Brk} : checkB x b = 0 ↔ (1 ≤ b.law ∧ b.law ≤ 9) ∧ b ∈ casesA x b.law := by
  rw [mem_cases]
  unfold checkB
  by_cases h1 : inR b.law 1 9 = true
  · rw [if_neg (by simp [h1])]
    have h1' := inR_iff.1 h1
    by_cases h2 : (okAt (decide (0 < manyA b.law)) b.a x.size && okAt (decide (1 < manyA b.law)) b.b x.size && okAt (decide (2 < manyA b.law)) b.c x.size) = true
    · rw [if_neg (by simp [h2])]
      simp only [Bool.and_eq_true, okAt_iff] at h2
      by_cases h3 : okAt (edgeA b.law) b.edge x.edges.length = true
      · rw [if_neg (by simp [h3])]
        rw [okAt_iff] at h3
        exact ⟨fun _ => ⟨h1', rfl, h2.1.1, h2.1.2, h2.2, h3⟩, fun _ => rfl⟩
      · rw [if_pos (by simp [h3])]
        rw [okAt_iff] at h3
        exact ⟨fun h => (by cases h), fun h => absurd h.2.2.2.2.2 h3⟩
    · rw [if_pos (by rw [Bool.not_eq_true', ← Bool.not_eq_true]; exact h2)]
      simp only [Bool.and_eq_true, okAt_iff] at h2
      exact ⟨fun h => (by cases h), fun h => absurd ⟨⟨h.2.2.1, h.2.2.2.1⟩, h.2.2.2.2.1⟩ h2⟩
  · rw [if_pos (by simp [h1])]
    exact ⟨fun h => (by cases h), fun h => absurd (inR_iff.2 h.1) h1⟩
def zeroB : Brk := ⟨0, 0, 0, 0, 0⟩
def firstB (x : Alg) (l : List Brk) : Brk := (l.find? fun b => !holdsA x b).getD zeroB
def brokenA (x : Alg) (laws : List Int) : Brk := firstB x (laws.flatMap (casesA x))
theorem brokenA_none {x : Alg} {laws : List Int} (h0 : ∀ l ∈ laws, l ≠ 0) (h : (brokenA x laws).law = 0) : ∀ law ∈ laws, ∀ b ∈ casesA x law, holdsA x b = true := by
  unfold brokenA firstB at *
  cases hf : (laws.flatMap (casesA x)).find? fun b => !holdsA x b with
  | none =>
    intro law hl b hb
    have := List.find?_eq_none.1 hf b (List.mem_flatMap.2 ⟨law, hl, hb⟩)
    simpa using this
  | some b =>
    rw [hf] at h
    have h2 := List.mem_of_find?_eq_some hf
    obtain ⟨law, hl, hb⟩ := List.mem_flatMap.1 h2
    exact absurd ((mem_cases.1 hb).1.symm.trans h) (h0 law hl)
/-- What 'Laws' and its like answer. -/
def lawsA (x : Alg) (laws : List Int) : Brk × Int := if checkA x ≠ 0 then (zeroB, checkA x) else (brokenA x laws, 0)
/-- What 'Holds' answers. -/
def asksA (x : Alg) (b : Brk) : Bool × Int := if checkA x ≠ 0 then (false, checkA x) else if checkB x b ≠ 0 then (false, checkB x b) else (holdsA x b, 0)
end Go.Proofs.YtephecognbbaoabGreat
namespace Go.Proofs.YtephecognbbaoabGreat
open Go
set_option linter.all false
theorem range_flat {β : Type} (q : Nat) (hq : 0 < q) (f : Nat → Nat → List β) : ∀ p : Nat, (List.range p).flatMap (fun a => (List.range q).flatMap (f a)) = (List.range (p * q)).flatMap fun n => f (n / q) (n % q)
  | 0 => by simp
  | p + 1 => by
    rw [List.range_succ, List.flatMap_append, range_flat q hq f p, Nat.add_mul, Nat.one_mul, List.range_add, List.flatMap_append, List.flatMap_cons, List.flatMap_nil, List.append_nil]
    congr 1
    rw [List.flatMap_map]
    apply congrArg List.flatten
    apply List.map_congr_left
    intro i hi
    have hi := List.mem_range.1 hi
    have e1 : (p * q + i) / q = p := by
      rw [Nat.mul_comm, Nat.mul_add_div hq, Nat.div_eq_of_lt hi, Nat.add_zero]
    have e2 : (p * q + i) % q = i := by
      rw [Nat.mul_comm, Nat.mul_add_mod, Nat.mod_eq_of_lt hi]
    simp only [e1, e2]
theorem ints_flat {β : Type} {p q : Int} (hp : 0 ≤ p) (hq : 0 < q) (f : Int → Int → List β) : (ints p).flatMap (fun a => (ints q).flatMap (f a)) = (ints (p * q)).flatMap fun n => f (n / q) (n % q) := by
  obtain ⟨p', rfl⟩ := Int.eq_ofNat_of_zero_le hp
  obtain ⟨q', rfl⟩ := Int.eq_ofNat_of_zero_le (Int.le_of_lt hq)
  have hq' : 0 < q' := by omega
  simp only [ints, List.flatMap_map, Int.toNat_natCast]
  rw [show ((p' : Int) * (q' : Int)).toNat = p' * q' by rw [← Int.natCast_mul, Int.toNat_natCast]]
  have h := range_flat q' hq' (fun a b => f (a : Int) (b : Int)) p'
  simp only [Int.natCast_ediv, Int.natCast_emod] at h ⊢
  exact h
/-- How many cases, by routes. -/
def pw (s m : Int) : Int := if m = 0 then 1 else if m = 1 then s else if m = 2 then s * s else s * s * s
def dg0 (s m n : Int) : Int := if m = 0 then 0 else if m = 1 then n % s else if m = 2 then n / s % s else n / s / s % s
def dg1 (s m n : Int) : Int := if m = 2 then n % s else if m = 3 then n / s % s else 0
def dg2 (s m n : Int) : Int := if m = 3 then n % s else 0
def digitC (x : Alg) (law n : Int) : List Brk := (ints (upN (edgeA law) x.edges.length)).map fun e => ⟨law, dg0 x.size (manyA law) n, dg1 x.size (manyA law) n, dg2 x.size (manyA law) n, e⟩
theorem flat_congr {α β : Type} {l : List α} {f g : α → List β} (h : ∀ a ∈ l, f a = g a) : l.flatMap f = l.flatMap g := by
  rw [List.flatMap_def, List.flatMap_def, List.map_congr_left h]
theorem ints_one : ints 1 = [0] := rfl
theorem div_lt {n p q : Int} (hq : 0 < q) (h : n < p * q) : n / q < p := Int.ediv_lt_of_lt_mul hq h
theorem cases_flat {x : Alg} (h : 2 ≤ x.size) (law : Int) : casesA x law = (ints (pw x.size (manyA law))).flatMap (digitC x law) := by
  have hm := many_bd law
  unfold casesA digitC pw
  have : manyA law = 0 ∨ manyA law = 1 ∨ manyA law = 2 ∨ manyA law = 3 := by omega
  rcases this with e | e | e | e <;> simp only [e, upN, dg0, dg1, dg2]
  · simp [ints_one]
  · simp only [show decide ((0 : Int) < 1) = true by decide, show decide ((1 : Int) < 1) = false by decide, show decide ((2 : Int) < 1) = false by decide, if_true, if_false, Bool.false_eq_true, ints_one, List.flatMap_cons, List.flatMap_nil, List.append_nil, Int.reduceEq]
    refine flat_congr fun n hn => ?_
    have := mem_ints.1 hn
    rw [Int.emod_eq_of_lt this.1 this.2]
  · simp only [show decide ((0 : Int) < 2) = true by decide, show decide ((1 : Int) < 2) = true by decide, show decide ((2 : Int) < 2) = false by decide, if_true, if_false, Bool.false_eq_true, ints_one, List.flatMap_cons, List.flatMap_nil, List.append_nil, Int.reduceEq]
    rw [ints_flat (by omega) (by omega) (fun a b => (ints (if edgeA law = true then (x.edges.length : Int) else 1)).map fun e => (⟨law, a, b, 0, e⟩ : Brk))]
    refine flat_congr fun n hn => ?_
    have := mem_ints.1 hn
    rw [Int.emod_eq_of_lt (a := n / x.size) (Int.ediv_nonneg this.1 (by omega)) (div_lt (by omega) this.2)]
  · simp only [show decide ((0 : Int) < 3) = true by decide, show decide ((1 : Int) < 3) = true by decide, show decide ((2 : Int) < 3) = true by decide, if_true, if_false, Bool.false_eq_true, Int.reduceEq]
    rw [ints_flat (by omega) (by omega) (fun a b => (ints x.size).flatMap fun c => (ints (if edgeA law = true then (x.edges.length : Int) else 1)).map fun e => (⟨law, a, b, c, e⟩ : Brk))]
    rw [ints_flat (p := x.size * x.size) (Int.mul_nonneg (by omega) (by omega)) (by omega) (fun n c => (ints (if edgeA law = true then (x.edges.length : Int) else 1)).map fun e => (⟨law, n / x.size, n % x.size, c, e⟩ : Brk))]
    refine flat_congr fun n hn => ?_
    have := mem_ints.1 hn
    rw [Int.emod_eq_of_lt (a := n / x.size / x.size) (Int.ediv_nonneg (Int.ediv_nonneg this.1 (by omega)) (by omega)) (div_lt (by omega) (div_lt (by omega) this.2))]
theorem pw_pos {s m : Int} (h : 2 ≤ s) : 1 ≤ pw s m := by
  have h2 : s * 1 ≤ s * s := Int.mul_le_mul_of_nonneg_left (by omega) (by omega)
  have h3 : s * s * 1 ≤ s * s * s := Int.mul_le_mul_of_nonneg_left (by omega) (Int.mul_nonneg (by omega) (by omega))
  unfold pw
  repeat' split
  all_goals omega
theorem pw_le {s m : Int} (h : 2 ≤ s ∧ s ≤ 24) : pw s m ≤ 13824 := by
  have h2 : s * s ≤ 24 * s := Int.mul_le_mul_of_nonneg_right (by omega) (by omega)
  have h3 : s * s * s ≤ 576 * s := Int.mul_le_mul_of_nonneg_right (by omega) (by omega)
  unfold pw
  repeat' split
  all_goals omega
end Go.Proofs.YtephecognbbaoabGreat
namespace Go.Proofs.YtephecognbbaoabGreat
open Go
set_option linter.all false
structure Lnk where
  fr : Int
  dst : Int
  edge : Int
deriving DecidableEq, Inhabited
structure Net where
  alg : Alg
  nodes : Int
  links : List Lnk
deriving DecidableEq
def seven : List Int := [1, 2, 3, 4, 5, 6, 7]
/-- Two links between the same nodes. -/
def Lnk.like (l l' : Lnk) : Bool := decide (l'.fr = l.fr) && decide (l'.dst = l.dst)
def lnkErr (n : Net) (pre : List Lnk) (l : Lnk) : Int :=
  if !(inR l.fr 0 (n.nodes - 1) && inR l.dst 0 (n.nodes - 1) && inR l.edge 0 (n.alg.edges.length - 1)) then 5
  else if l.fr = l.dst then 1
  else if pre.any l.like then 6
  else 0
/-- What is wrong with links, behind some that are right. -/
def linksErr (n : Net) : List Lnk → List Lnk → Int
  | _, [] => 0
  | pre, l :: r => if lnkErr n pre l ≠ 0 then lnkErr n pre l else linksErr n (pre ++ [l]) r
def checkN (n : Net) : Int :=
  if checkA n.alg ≠ 0 then checkA n.alg
  else if (brokenA n.alg seven).law ≠ 0 then 4
  else if !inR n.nodes 1 6 then 3
  else linksErr n [] n.links
theorem linksErr_bad {n : Net} {pre r : List Lnk} {l : Lnk} (h : lnkErr n pre l ≠ 0) : linksErr n pre (l :: r) = lnkErr n pre l := by rw [linksErr, if_pos h]
theorem linksErr_good {n : Net} {pre r : List Lnk} {l : Lnk} (h : lnkErr n pre l = 0) : linksErr n pre (l :: r) = linksErr n (pre ++ [l]) r := by rw [linksErr, if_neg (by omega)]
structure LnkIn (n : Net) (l : Lnk) : Prop where
  f0 : 0 ≤ l.fr
  f1 : l.fr < n.nodes
  d0 : 0 ≤ l.dst
  d1 : l.dst < n.nodes
  e0 : 0 ≤ l.edge
  e1 : l.edge < n.alg.edges.length
  ne : l.fr ≠ l.dst
theorem lnkIn_of {n : Net} {pre : List Lnk} {l : Lnk} (h : lnkErr n pre l = 0) : LnkIn n l ∧ pre.any l.like = false := by
  unfold lnkErr at h
  split at h
  · cases h
  · rename_i h1
    split at h
    · cases h
    · rename_i h2
      split at h
      · cases h
      · rename_i h3
        simp only [Bool.not_eq_true', Bool.not_eq_false, Bool.and_eq_true, inR_iff] at h1
        exact ⟨⟨h1.1.1.1, by omega, h1.1.2.1, by omega, h1.2.1, by omega, h2⟩, by simpa using h3⟩
theorem linksErr_in {n : Net} : ∀ (r pre : List Lnk), linksErr n pre r = 0 → ∀ l ∈ r, LnkIn n l
  | [], _, _, l, hl => by cases hl
  | x :: r, pre, h, l, hl => by
    rw [linksErr] at h
    split at h
    · rename_i h1; exact absurd h h1
    · rename_i h1
      rcases List.mem_cons.1 hl with rfl | hl
      · exact (lnkIn_of (Decidable.not_not.1 h1)).1
      · exact linksErr_in r _ h l hl
/-- A net that passes. -/
structure NetIn (n : Net) : Prop where
  alg : Right n.alg
  law : (brokenA n.alg seven).law = 0
  n1 : 1 ≤ n.nodes
  n6 : n.nodes ≤ 6
  lnk : ∀ l ∈ n.links, LnkIn n l
theorem netIn_of {n : Net} (h : checkN n = 0) : NetIn n := by
  unfold checkN at h
  split at h
  · rename_i h1; exact absurd h h1
  · rename_i h1
    split at h
    · cases h
    · rename_i h2
      split at h
      · cases h
      · rename_i h3
        have h3' := inR_iff.1 (show inR n.nodes 1 6 = true by simpa using h3)
        exact ⟨right_iff.1 (Decidable.not_not.1 h1), Decidable.not_not.1 h2, h3'.1, h3'.2, linksErr_in _ _ h⟩
theorem broken_zero {x : Alg} (h : (brokenA x seven).law = 0) : brokenA x seven = zeroB := by
  have := brokenA_none (laws := seven) (by decide) h
  unfold brokenA firstB
  rw [List.find?_eq_none.2]
  · rfl
  · intro b hb
    obtain ⟨law, hl, hb⟩ := List.mem_flatMap.1 hb
    simp [this law hl b hb]
/-- Rows of routes: are there as many of as many; are all routes. -/
def rowsErr (n : Net) (x : List (List Int)) : Int :=
  if (x.length : Int) ≠ n.nodes ∨ x.any (fun r => decide ((r.length : Int) ≠ n.nodes)) = true then 1
  else if x.any (fun r => r.any fun v => !inR v 0 (n.alg.size - 1)) then 5
  else 0
def fitA (n : Net) (x : List (List Int)) : Int := if checkN n ≠ 0 then checkN n else rowsErr n x
structure RowsIn (n : Net) (x : List (List Int)) : Prop where
  len : (x.length : Int) = n.nodes
  row : ∀ r ∈ x, (r.length : Int) = n.nodes
  val : ∀ r ∈ x, ∀ v ∈ r, 0 ≤ v ∧ v < n.alg.size
end Go.Proofs.YtephecognbbaoabGreat
namespace Go.Proofs.YtephecognbbaoabGreat
open Go
set_option linter.all false
def edgeOf (n : Net) (i k : Int) : Int := ((n.links.find? fun l => decide (l.fr = i) && decide (l.dst = k)).map (·.edge)).getD (-1)
def bestA (n : Net) (a b : Int) : Int := at2 n.alg.best a b
def overA (n : Net) (e v : Int) : Int := at2 n.alg.edges e v
/-- By the nodes' order. -/
def routeR (n : Net) (i j : Int) (has : Int → Int) : Int :=
  (ints n.nodes).foldl (fun out k => if 0 ≤ edgeOf n i k then bestA n out (overA n (edgeOf n i k) (has k)) else out) (if i = j then 0 else n.alg.size - 1)
/-- By the links' order. -/
def routeL (n : Net) (i j : Int) (has : Int → Int) (ls : List Lnk) : Int :=
  ls.foldl (fun out l => if l.fr = i then bestA n out (overA n l.edge (has l.dst)) else out) (if i = j then 0 else n.alg.size - 1)
section
variable {n : Net}
theorem holds_seven (h : NetIn n) {b : Brk} (hb : b ∈ casesA n.alg b.law) (hl : b.law ∈ seven) : holdsA n.alg b = true :=
  brokenA_none (laws := seven) (by decide) h.law b.law hl b hb
theorem best_in (h : NetIn n) {a b : Int} (ha : 0 ≤ a ∧ a < n.alg.size) (hb : 0 ≤ b ∧ b < n.alg.size) : 0 ≤ bestA n a b ∧ bestA n a b < n.alg.size := h.alg.best_in ha.1 ha.2 hb.1 hb.2
theorem over_in (h : NetIn n) {e v : Int} (he : 0 ≤ e ∧ e < n.alg.edges.length) (hv : 0 ≤ v ∧ v < n.alg.size) : 0 ≤ overA n e v ∧ overA n e v < n.alg.size := h.alg.edge_in he.1 he.2 hv.1 hv.2
theorem best_comm (h : NetIn n) {a b : Int} (ha : 0 ≤ a ∧ a < n.alg.size) (hb : 0 ≤ b ∧ b < n.alg.size) : bestA n a b = bestA n b a := by
  have hm : (⟨1, a, b, 0, 0⟩ : Brk) ∈ casesA n.alg 1 := mem_cases.2 ⟨rfl, ha, hb, ⟨Int.le_refl _, show (0 : Int) < 1 by decide⟩, ⟨Int.le_refl _, show (0 : Int) < 1 by decide⟩⟩
  have := holds_seven h hm (show (1 : Int) ∈ seven by decide)
  exact of_decide_eq_true this
theorem best_assoc (h : NetIn n) {a b c : Int} (ha : 0 ≤ a ∧ a < n.alg.size) (hb : 0 ≤ b ∧ b < n.alg.size) (hc : 0 ≤ c ∧ c < n.alg.size) : bestA n a (bestA n b c) = bestA n (bestA n a b) c := by
  have hm : (⟨2, a, b, c, 0⟩ : Brk) ∈ casesA n.alg 2 := mem_cases.2 ⟨rfl, ha, hb, hc, ⟨Int.le_refl _, show (0 : Int) < 1 by decide⟩⟩
  have := holds_seven h hm (show (2 : Int) ∈ seven by decide)
  exact of_decide_eq_true this
/-- A list, sorted into classes. -/
theorem perm_classes (f : Lnk → Int) : ∀ (ks : List Int) (l : Lnk) (L : List Lnk), ks.Nodup → f l ∈ ks → (ks.flatMap fun k => (l :: L).filter fun x => decide (f x = k)).Perm (l :: ks.flatMap fun k => L.filter fun x => decide (f x = k))
  | [], l, L, _, h => by cases h
  | k :: ks, l, L, hd, h => by
    obtain ⟨hk, hd⟩ := List.nodup_cons.1 hd
    simp only [List.flatMap_cons]
    by_cases e : f l = k
    · have hrest : (ks.flatMap fun k' => (l :: L).filter fun x => decide (f x = k')) = ks.flatMap fun k' => L.filter fun x => decide (f x = k') := by
        refine flat_congr fun k' hk' => ?_
        rw [List.filter_cons_of_neg]
        simp only [decide_eq_true_eq]
        intro e2
        exact hk (by rw [← e, e2]; exact hk')
      rw [hrest, List.filter_cons_of_pos (by simpa using e)]
      exact List.Perm.refl _
    · rw [List.filter_cons_of_neg (by simpa using e)]
      have hmem : f l ∈ ks := by
        rcases List.mem_cons.1 h with h | h
        · exact absurd h e
        · exact h
      exact ((perm_classes f ks l L hd hmem).append_left _).trans List.perm_middle
theorem perm_all (f : Lnk → Int) (ks : List Int) (hd : ks.Nodup) : ∀ L : List Lnk, (∀ l ∈ L, f l ∈ ks) → (ks.flatMap fun k => L.filter fun x => decide (f x = k)).Perm L
  | [], _ => by
    have : (ks.flatMap fun k => ([] : List Lnk).filter fun x => decide (f x = k)) = [] := by simp
    rw [this]
  | l :: L, h => (perm_classes f ks l L hd (h l (by simp))).trans ((perm_all f ks hd L fun x hx => h x (by simp [hx])).cons l)
theorem ints_nodup (m : Int) : (ints m).Nodup := by
  unfold ints
  rw [List.nodup_iff_pairwise_ne, List.pairwise_map]
  exact List.nodup_range.imp fun h e => h (by omega)
/-- No two links between the same nodes. -/
def Apart : List Lnk → Prop
  | [] => True
  | l :: r => (∀ x ∈ r, x.like l = false) ∧ Apart r
theorem apart_snoc {l : Lnk} : ∀ {pre : List Lnk}, Apart pre → pre.any l.like = false → Apart (pre ++ [l])
  | [], _, _ => ⟨(fun _ h => by cases h), trivial⟩
  | x :: r, h, hn => by
    rw [List.any_cons, Bool.or_eq_false_iff] at hn
    refine ⟨fun y hy => ?_, apart_snoc h.2 hn.2⟩
    rcases List.mem_append.1 hy with hy | hy
    · exact h.1 y hy
    · rw [List.mem_singleton.1 hy]
      exact hn.1
theorem linksErr_apart : ∀ (r pre : List Lnk), linksErr n pre r = 0 → Apart pre → Apart (pre ++ r)
  | [], pre, _, h => by simpa using h
  | x :: r, pre, h, hp => by
    rw [linksErr] at h
    split at h
    · rename_i h1; exact absurd h h1
    · rename_i h1
      have h2 := lnkIn_of (Decidable.not_not.1 h1)
      have := linksErr_apart r (pre ++ [x]) h (apart_snoc hp h2.2)
      simpa using this
theorem apart_of (h : checkN n = 0) : Apart n.links := by
  unfold checkN at h
  split at h
  · rename_i h1; exact absurd h h1
  · split at h
    · cases h
    · split at h
      · cases h
      · exact linksErr_apart n.links [] h trivial
/-- The links from i to k: at most one. -/
theorem one_link : ∀ {L : List Lnk} (i k : Int), Apart L → (L.filter fun l => decide (l.fr = i) && decide (l.dst = k)) = ((L.find? fun l => decide (l.fr = i) && decide (l.dst = k)).toList)
  | [], _, _, _ => rfl
  | l :: r, i, k, h => by
    by_cases e : (decide (l.fr = i) && decide (l.dst = k)) = true
    · rw [List.filter_cons_of_pos (by simpa using e), List.find?_cons_of_pos (by simpa using e), List.filter_eq_nil_iff.2]
      · rfl
      · intro x hx hc
        have h1 := h.1 x hx
        simp only [Bool.and_eq_true, decide_eq_true_eq] at e hc
        have : x.like l = true := by simp [Lnk.like]; omega
        rw [this] at h1
        cases h1
    · rw [List.filter_cons_of_neg (by simpa using e), List.find?_cons_of_neg (by simpa using e)]
      exact one_link i k h.2
/-- A step that stays in range. -/
def stepA (n : Net) (has : Int → Int) (out : Int) (l : Lnk) : Int := if 0 ≤ out ∧ out < n.alg.size then bestA n out (overA n l.edge (has l.dst)) else out
theorem route_eq (hn : checkN n = 0) (i j : Int) (has : Int → Int) (hh : ∀ k, 0 ≤ k → k < n.nodes → 0 ≤ has k ∧ has k < n.alg.size) : routeL n i j has n.links = routeR n i j has := by
  have h := netIn_of hn
  have hap := apart_of hn
  have s2 := h.alg.s2
  have hval : ∀ l ∈ n.links, 0 ≤ overA n l.edge (has l.dst) ∧ overA n l.edge (has l.dst) < n.alg.size := fun l hl =>
    let g := h.lnk l hl
    over_in h ⟨g.e0, g.e1⟩ (hh _ g.d0 g.d1)
  have h0 : 0 ≤ (if i = j then 0 else n.alg.size - 1 : Int) ∧ (if i = j then 0 else n.alg.size - 1 : Int) < n.alg.size := by split <;> omega
  -- by the links' order: those of i
  have e1 : ∀ (L : List Lnk) (out : Int), (∀ l ∈ L, l ∈ n.links) → 0 ≤ out ∧ out < n.alg.size →
      L.foldl (fun out l => if l.fr = i then bestA n out (overA n l.edge (has l.dst)) else out) out = (L.filter fun l => decide (l.fr = i)).foldl (stepA n has) out := by
    intro L
    induction L with
    | nil => intro out _ _; rfl
    | cons l r ih =>
      intro out hL ho
      by_cases e : l.fr = i
      · rw [List.foldl_cons, if_pos e, List.filter_cons_of_pos (by simpa using e), List.foldl_cons]
        rw [ih _ (fun x hx => hL x (by simp [hx])) (best_in h ho (hval l (hL l (by simp))))]
        congr 1
        exact (if_pos ho).symm
      · rw [List.foldl_cons, if_neg e, List.filter_cons_of_neg (by simpa using e)]
        exact ih out (fun x hx => hL x (by simp [hx])) ho
  -- by the nodes' order
  have e2 : ∀ (K : List Int) (out : Int), 0 ≤ out ∧ out < n.alg.size →
      K.foldl (fun out k => if 0 ≤ edgeOf n i k then bestA n out (overA n (edgeOf n i k) (has k)) else out) out = (K.flatMap fun k => (n.links.filter fun l => decide (l.fr = i)).filter fun l => decide (l.dst = k)).foldl (stepA n has) out := by
    intro K
    induction K with
    | nil => intro out _; rfl
    | cons k r ih =>
      intro out ho
      rw [List.foldl_cons, List.flatMap_cons, List.foldl_append]
      have hf : ((n.links.filter fun l => decide (l.fr = i)).filter fun l => decide (l.dst = k)) = (n.links.find? fun l => decide (l.fr = i) && decide (l.dst = k)).toList := by
        rw [List.filter_filter, ← one_link i k hap]
        congr 1
        funext x
        rw [Bool.and_comm]
      rw [hf]
      unfold edgeOf
      cases hfd : n.links.find? fun l => decide (l.fr = i) && decide (l.dst = k) with
      | none =>
        simp only [Option.map_none, Option.getD_none, Option.toList_none, List.foldl_nil]
        rw [if_neg (by omega)]
        have := ih out ho
        unfold edgeOf at this
        exact this
      | some l =>
        have hl := List.mem_of_find?_eq_some hfd
        have hp := List.find?_some hfd
        simp only [Bool.and_eq_true, decide_eq_true_eq] at hp
        have g := h.lnk l hl
        simp only [Option.map_some, Option.getD_some, Option.toList_some, List.foldl_cons, List.foldl_nil]
        rw [if_pos g.e0]
        have hst : stepA n has out l = bestA n out (overA n l.edge (has k)) := by rw [stepA, if_pos ho, hp.2]
        rw [hst]
        have hv := hval l hl
        rw [hp.2] at hv
        have := ih _ (best_in h ho hv)
        unfold edgeOf at this
        exact this
  unfold routeL routeR
  rw [e1 n.links _ (fun l hl => hl) h0, e2 _ _ h0]
  have hp : ((ints n.nodes).flatMap fun k => (n.links.filter fun l => decide (l.fr = i)).filter fun l => decide (l.dst = k)).Perm (n.links.filter fun l => decide (l.fr = i)) :=
    perm_all (·.dst) (ints n.nodes) (ints_nodup _) _ fun l hl => by
      have g := h.lnk l (List.mem_filter.1 hl).1
      exact mem_ints.2 ⟨g.d0, g.d1⟩
  refine (List.Perm.foldl_eq' hp (fun x hx y hy z => ?_) _).symm
  have hx' : x ∈ n.links := (List.mem_filter.1 (hp.mem_iff.1 hx)).1
  have hy' : y ∈ n.links := (List.mem_filter.1 (hp.mem_iff.1 hy)).1
  unfold stepA
  by_cases hz : 0 ≤ z ∧ z < n.alg.size
  · have vx := hval x hx'
    have vy := hval y hy'
    rw [if_pos hz, if_pos hz, if_pos (best_in h hz vx), if_pos (best_in h hz vy), ← best_assoc h hz vx vy, ← best_assoc h hz vy vx, best_comm h vx vy]
  · rw [if_neg hz, if_neg hz, if_neg hz]
theorem routeR_in (h : NetIn n) (i j : Int) (has : Int → Int) (hh : ∀ k, 0 ≤ k → k < n.nodes → 0 ≤ has k ∧ has k < n.alg.size) : 0 ≤ routeR n i j has ∧ routeR n i j has < n.alg.size := by
  have s2 := h.alg.s2
  have key : ∀ (K : List Int) (out : Int), (∀ k ∈ K, 0 ≤ k ∧ k < n.nodes) → 0 ≤ out ∧ out < n.alg.size →
      0 ≤ K.foldl (fun out k => if 0 ≤ edgeOf n i k then bestA n out (overA n (edgeOf n i k) (has k)) else out) out ∧ K.foldl (fun out k => if 0 ≤ edgeOf n i k then bestA n out (overA n (edgeOf n i k) (has k)) else out) out < n.alg.size := by
    intro K
    induction K with
    | nil => intro out _ ho; exact ho
    | cons k r ih =>
      intro out hK ho
      rw [List.foldl_cons]
      refine ih _ (fun x hx => hK x (by simp [hx])) ?_
      split
      · rename_i he
        refine best_in h ho (over_in h ⟨he, ?_⟩ (hh k (hK k (by simp)).1 (hK k (by simp)).2))
        unfold edgeOf at he ⊢
        cases hfd : n.links.find? fun l => decide (l.fr = i) && decide (l.dst = k) with
        | none => rw [hfd] at he; simp at he
        | some l => exact (h.lnk l (List.mem_of_find?_eq_some hfd)).e1
      · exact ho
  exact key _ _ (fun k hk => mem_ints.1 hk) (by split <;> omega)
/-- The next state. -/
def roundA (n : Net) (x : List (List Int)) : List (List Int) := (ints n.nodes).map fun i => (ints n.nodes).map fun j => routeR n i j fun k => at2 x k j
def beginA (n : Net) : List (List Int) := (ints n.nodes).map fun i => (ints n.nodes).map fun j => if i = j then 0 else n.alg.size - 1
theorem at2_in {x : List (List Int)} (h : RowsIn n x) {i j : Int} (hi : 0 ≤ i ∧ i < n.nodes) (hj : 0 ≤ j ∧ j < n.nodes) : 0 ≤ at2 x i j ∧ at2 x i j < n.alg.size := by
  have hr := at0_mem x hi.1 (by rw [h.len]; exact hi.2)
  exact h.val _ hr _ (at0_mem _ hj.1 (by rw [h.row _ hr]; exact hj.2))
theorem round_in (hn : NetIn n) {x : List (List Int)} (h : RowsIn n x) : RowsIn n (roundA n x) := by
  have n1 := hn.n1
  refine ⟨?_, fun r hr => ?_, fun r hr v hv => ?_⟩
  · rw [roundA, List.length_map, ints_length]; omega
  · obtain ⟨i, _, rfl⟩ := List.mem_map.1 hr
    rw [List.length_map, ints_length]; omega
  · obtain ⟨i, hi, rfl⟩ := List.mem_map.1 hr
    obtain ⟨j, hj, rfl⟩ := List.mem_map.1 hv
    exact routeR_in hn i j _ fun k h0 h1 => at2_in h ⟨h0, h1⟩ (mem_ints.1 hj)
theorem begin_in (hn : NetIn n) : RowsIn n (beginA n) := by
  have n1 := hn.n1
  have s2 := hn.alg.s2
  refine ⟨?_, fun r hr => ?_, fun r hr v hv => ?_⟩
  · rw [beginA, List.length_map, ints_length]; omega
  · obtain ⟨i, _, rfl⟩ := List.mem_map.1 hr
    rw [List.length_map, ints_length]; omega
  · obtain ⟨i, hi, rfl⟩ := List.mem_map.1 hr
    obtain ⟨j, hj, rfl⟩ := List.mem_map.1 hv
    split <;> omega
/-- Rounds until nothing changes. -/
def settleF (n : Net) : Nat → Int → List (List Int) → List (List Int) × Int
  | 0, k, x => (x, k)
  | f + 1, k, x => if x = roundA n x then (x, k) else settleF n f (k + 1) (roundA n x)
def settleA (n : Net) (x : List (List Int)) (most : Int) : (List (List Int) × Int) × Int :=
  if fitA n x ≠ 0 then (([], 0), fitA n x)
  else if !inR most 0 1000 then (([], 0), 3)
  else (settleF n most.toNat 0 x, 0)
end
end Go.Proofs.YtephecognbbaoabGreat
namespace Go.Proofs.YtephecognbbaoabGreat
def rowC (r : List Int) : List AV := [intsA r]
def rowsC (l : List (List Int)) : AV := .sl (l.map rowC)
def algC (x : Alg) : List AV := [intA1 x.size, rowsC x.best, rowsC x.edges]
def brkC (b : Brk) : List AV := [intA1 b.law, intA1 b.a, intA1 b.b, intA1 b.c, intA1 b.edge]
attribute [go_sem] rowC rowsC algC brkC
theorem rowC_len (l : List (List Int)) : (∀ e', e' ∈ l.map rowC → e'.length = 1) = True := len_map (f := rowC) (fun _ => rfl) l
theorem rowC_one (l : List (List Int)) : (∀ e', e' ∈ l.map rowC → e'.all oneA = true) = True := one_map (f := rowC) (fun _ => rfl) l
attribute [go_sem] rowC_len rowC_one
theorem Bd.rows {n : Nat} (l : List (List Int)) : Bd n (.sl (l.map rowC)) := .slL (fun r => .cons (Bd.ints r) .nil) l
theorem within_calls (n a b : Int) (σ : Store) : ACalls Tryz.prog 71 [intA1 n, intA1 a, intA1 b] σ fun r σ' => σ' = σ ∧ r = .c (.bool (inR n a b)) := by
  refine ACalls_of_awp Tryz.func71 rfl Tryz.results71 ?_
  simp only [List.length_cons, List.length_nil, Tryz.ntmps71, Nat.reduceAdd, Nat.reduceSub, enterA]
  (repeat' (first|(refine g_s fun K hK=>?_)|((first|refine g_t ?_|refine g_g ?_);(try simp -implicitDefEqProofs only[go_sem]))|(with_reducible refine hK _ _ ?_;clear hK K)|(with_reducible refine splitB_intro (fun h=>?_) (fun h=>?_)<;>(try simp only[go_sem] at h)<;>(try exact g_f)<;>(try simp -implicitDefEqProofs only[go_sem]))|fail))
  all_goals (simp [inR]; omega)
theorem is_calls (x : Alg) (n : Int) (hx : I64 (x.size - 1)) (σ : Store) : ACalls Tryz.prog 72 [.agg (algC x), intA1 n] σ fun r σ' => σ' = σ ∧ r = .c (.bool (inR n 0 (x.size - 1))) := by
  refine ACalls.cutX ?_
  refine ACalls_of_awp Tryz.func72 rfl Tryz.results72 ?_
  simp only [List.length_cons, List.length_nil, Tryz.ntmps72, Nat.reduceAdd, Nat.reduceSub, enterA]
  (repeat' (first|(refine g_s fun K hK=>?_)|((first|refine g_t ?_|refine g_g ?_|refine (within_calls _ _ _ _).use ?_);(try simp -implicitDefEqProofs only[go_sem]))|(with_reducible refine hK _ _ ?_;clear hK K)|(with_reducible refine And.intro ?_ ?_;· exact g_x)|fail))
  exact CutQ_c rfl rfl
theorem invalid_calls (x : Alg) (hx : I64 (x.size - 1)) (σ : Store) : ACalls Tryz.prog 52 [.agg (algC x)] σ fun r σ' => σ' = σ ∧ r = intA1 (x.size - 1) := by
  refine ACalls.cutX ?_
  refine ACalls_of_awp Tryz.func52 rfl Tryz.results52 ?_
  simp only [List.length_cons, List.length_nil, Tryz.ntmps52, Nat.reduceAdd, Nat.reduceSub, enterA]
  (repeat' (first|(refine g_s fun K hK=>?_)|((first|refine g_t ?_|refine g_g ?_);(try simp -implicitDefEqProofs only[go_sem]))|(with_reducible refine hK _ _ ?_;clear hK K)|(with_reducible refine And.intro ?_ ?_;· exact g_x)|fail))
  exact CutQ_c rfl rfl
theorem upTo_calls (b : Bool) (n : Int) (σ : Store) : ACalls Tryz.prog 99 [.c (.bool b), intA1 n] σ fun r σ' => σ' = σ ∧ r = intA1 (upN b n) := by
  refine ACalls_of_awp Tryz.func99 rfl Tryz.results99 ?_
  simp only [List.length_cons, List.length_nil, Tryz.ntmps99, Nat.reduceAdd, Nat.reduceSub, enterA]
  (repeat' (first|(refine g_s fun K hK=>?_)|(refine g_k ?_;simp only[thenQ,blockQ])|(refine g_c (fun h=>?_) (fun h=>?_)<;>(try simp only[go_sem] at h)<;>(try exact g_f))|((first|refine g_t ?_|refine g_g ?_);(try simp -implicitDefEqProofs only[go_sem]))|(with_reducible refine hK _ _ ?_;clear hK K)|fail))
  all_goals (simp [upN, *])
theorem names_calls (law : Int) (σ : Store) : ACalls Tryz.prog 75 [intA1 law] σ fun r σ' => σ' = σ ∧ r = .tup [intA1 (manyA law), .c (.bool (edgeA law))] := by
  refine ACalls_of_awp Tryz.func75 rfl Tryz.results75 ?_
  simp only [List.length_cons, List.length_nil, Tryz.ntmps75, Nat.reduceAdd, Nat.reduceSub, enterA]
  (repeat' (first|(refine g_s fun K hK=>?_)|(refine g_b ?_)|(refine g_k ?_;simp only[thenQ,blockQ])|(refine g_c (fun h=>?_) (fun h=>?_)<;>(try simp only[go_sem] at h)<;>(try exact g_f))|((first|refine g_t ?_|refine g_g ?_);(try simp -implicitDefEqProofs only[go_sem]))|(with_reducible refine hK _ _ ?_;clear hK K)|fail))
  all_goals (simp_all [manyA, edgeA])
/-- What stands in range, of what a law is asked of. -/
structure InR (x : Alg) (b : Brk) : Prop where
  pl : 1 ≤ b.law ∧ b.law ≤ 9
  pa : 0 ≤ b.a ∧ b.a < x.size
  pb : 0 ≤ b.b ∧ b.b < x.size
  pc : 0 ≤ b.c ∧ b.c < x.size
  pe : (b.law = 1 ∨ b.law = 2 ∨ b.law = 3 ∨ b.law = 4 ∨ b.law = 5) ∨ (0 ≤ b.edge ∧ b.edge < x.edges.length)
theorem inR_of {x : Alg} {b : Brk} (hr : Right x) (h : checkB x b = 0) : InR x b := by
  rw [checkB_iff, mem_cases] at h
  have := hr.s2
  have up : ∀ n, upN n x.size ≤ x.size := fun n => by unfold upN; split <;> omega
  have u1 := up (decide (0 < manyA b.law))
  have u2 := up (decide (1 < manyA b.law))
  have u3 := up (decide (2 < manyA b.law))
  refine ⟨h.1, by omega, by omega, by omega, ?_⟩
  by_cases he : edgeA b.law = true
  · have := h.2.2.2.2.2
    rw [upN, if_pos he] at this
    exact .inr this
  · left
    simp [edgeA] at he
    omega
theorem holds1_calls (x : Alg) (p q : Int) (hr : Right x) (h1 : 0 ≤ p) (h2 : p < x.size) (h3 : 0 ≤ q) (h4 : q < x.size) (σ : Store) :
    ACalls Tryz.prog 100 [intA1 p, intA1 q, .cp (algC x) 0] σ fun r σ' => σ' = σ ∧ r = intA1 (at2 x.best p q) := by
  have e1 := hr.bl
  have e2 := hr.best_len h1 h2
  refine ACalls_of_awp Tryz.func100 rfl Tryz.results100 ?_
  simp only [List.length_cons, List.length_nil, Tryz.ntmps100, Nat.reduceAdd, Nat.reduceSub, enterA]
  (repeat' (first|(refine g_s fun K hK=>?_)|((first|refine g_t ?_|refine g_g ?_);(try simp -implicitDefEqProofs only[go_sem]))|(with_reducible refine hK _ _ ?_;clear hK K)|(with_reducible refine And.intro ?_ ?_;· exact g_x)|fail))
  rfl
attribute [go_sem] at2
theorem holds_calls (x : Alg) (b : Brk) (hr : Right x) (hb : InR x b) (σ : Store) : ACalls Tryz.prog 90 [.agg (algC x), .agg (brkC b)] σ fun r σ' => σ' = σ ∧ r = .c (.bool (holdsA x b)) := by
  have ha := hb.pa
  have hbb := hb.pb
  have hc := hb.pc
  have hl := hb.pl
  have s2 := hr.s2
  have s24 := hr.s24
  have b1 := hr.best_in ha.1 ha.2 hbb.1 hbb.2
  have b2 := hr.best_in hbb.1 hbb.2 hc.1 hc.2
  have hE : (b.law = 1 ∨ b.law = 2 ∨ b.law = 3 ∨ b.law = 4 ∨ b.law = 5) ∨ (0 ≤ b.edge ∧ b.edge < x.edges.length ∧ ((at0 x.edges b.edge).length : Int) = x.size ∧ 0 ≤ at2 x.edges b.edge b.a ∧ at2 x.edges b.edge b.a < x.size ∧ 0 ≤ at2 x.edges b.edge b.b ∧ at2 x.edges b.edge b.b < x.size) := by
    rcases hb.pe with h | h
    · exact .inl h
    · have f1 := hr.edge_in h.1 h.2 ha.1 ha.2
      have f2 := hr.edge_in h.1 h.2 hbb.1 hbb.2
      exact .inr ⟨h.1, h.2, hr.edge_len h.1 h.2, f1.1, f1.2, f2.1, f2.2⟩
  simp only [at2] at b1 b2 hE
  refine ACalls.cutX ?_
  refine ACalls_of_awp Tryz.func90 rfl Tryz.results90 ?_
  simp only [List.length_cons, List.length_nil, Tryz.ntmps90, Nat.reduceAdd, Nat.reduceSub, enterA]
  refine AWP_seq_k fun K hK => ?_
  (refine AWP_region ?_; simp -implicitDefEqProofs only [go_sem])
  refine hK _ _ ?_; clear hK K
  refine AWP_freezeP 2 rfl (by simp only [st0]; rfl) ?_
  simp only [ss0, List.set_cons_zero]
  refine AWP_freezeP 3 rfl (by simp only [st1]; rfl) ?_
  simp only [ss1, List.set_cons_zero, List.set_cons_succ]
  (repeat' (first|(refine g_s fun K hK=>?_)|(refine g_b ?_)|(refine g_k ?_;simp only[thenQ,blockQ])|(refine g_c (fun h=>?_) (fun h=>?_)<;>(try simp only[go_sem] at h)<;>(try exact g_f))|((first|refine g_t ?_|refine g_g ?_|refine g_U ?_|refine g_q (fun τ=>invalid_calls x (by unfold I64; omega) _) ?_|refine (holds1_calls x _ _ hr (by omega) (by omega) (by omega) (by omega) _).use ?_|refine g_q (fun τ=>holds1_calls x _ _ hr (by omega) (by omega) (by omega) (by omega) _) ?_);(try simp -implicitDefEqProofs only[go_sem]))|(with_reducible refine hK _ _ ?_;clear hK K)|(with_reducible refine splitB_intro (fun h=>?_) (fun h=>?_)<;>(try simp only[go_sem] at h)<;>(try exact g_f)<;>(try simp -implicitDefEqProofs only[go_sem]))|(with_reducible refine And.intro ?_ ?_;· exact g_x)|fail))
  all_goals clear hE hr hb b1 b2 hl ha hbb hc
  all_goals (refine CutQ_c rfl ?_; try simp [holdsA, at2, Bool.beq_eq_decide_eq, bne, *])
  all_goals exact decide_eq_decide.2 Iff.rfl
end Go.Proofs.YtephecognbbaoabGreat
namespace Go.Proofs.YtephecognbbaoabGreat
theorem holdsOf_calls (x : Alg) (b : Brk) (hr : Right x) (hb : InR x b) (σ : Store) : ACalls Tryz.prog 76 [.agg (algC x), .agg (brkC b)] σ fun r σ' => σ' = σ ∧ r = .c (.bool (holdsA x b)) := by
  have ha := hb.pa
  have hbb := hb.pb
  have hc := hb.pc
  have hl := hb.pl
  have s2 := hr.s2
  have s24 := hr.s24
  have bl := hr.bl
  have b1 := hr.best_in ha.1 ha.2 hbb.1 hbb.2
  have b2 := hr.best_in hbb.1 hbb.2 hc.1 hc.2
  have l1 := hr.best_len ha.1 ha.2
  have l2 := hr.best_len hbb.1 hbb.2
  have l3 := hr.best_len (i := 0) (by omega) (by omega)
  have l4 := hr.best_len (i := x.size - 1) (by omega) (by omega)
  have l5 := hr.best_len b1.1 b1.2
  have hE : (b.law = 1 ∨ b.law = 2 ∨ b.law = 3 ∨ b.law = 4 ∨ b.law = 5) ∨ (0 ≤ b.edge ∧ b.edge < x.edges.length ∧ ((at0 x.edges b.edge).length : Int) = x.size ∧ 0 ≤ at2 x.edges b.edge b.a ∧ at2 x.edges b.edge b.a < x.size ∧ 0 ≤ at2 x.edges b.edge b.b ∧ at2 x.edges b.edge b.b < x.size ∧ ((at0 x.best (at2 x.edges b.edge b.a)).length : Int) = x.size) := by
    rcases hb.pe with h | h
    · exact .inl h
    · have f1 := hr.edge_in h.1 h.2 ha.1 ha.2
      have f2 := hr.edge_in h.1 h.2 hbb.1 hbb.2
      exact .inr ⟨h.1, h.2, hr.edge_len h.1 h.2, f1.1, f1.2, f2.1, f2.2, hr.best_len f1.1 f1.2⟩
  simp only [at2] at b1 b2 hE l5
  refine ACalls.cutX ?_
  refine ACalls_of_awp Tryz.func76 rfl Tryz.results76 ?_
  simp only [List.length_cons, List.length_nil, Tryz.ntmps76, Nat.reduceAdd, Nat.reduceSub, enterA]
  refine AWP_seq_k fun K hK => ?_
  (refine AWP_region ?_; simp -implicitDefEqProofs only [go_sem])
  refine hK _ _ ?_; clear hK K
  refine AWP_freezeP 2 rfl (by simp only [st0]; rfl) ?_
  simp only [ss0, List.set_cons_zero]
  refine AWP_freezeP 3 rfl (by simp only [st1]; rfl) ?_
  simp only [ss1, List.set_cons_zero, List.set_cons_succ]
  (repeat' (first|(refine g_s fun K hK=>?_)|(refine g_b ?_)|(refine g_k ?_;simp only[thenQ,blockQ])|(refine g_c (fun h=>?_) (fun h=>?_)<;>(try simp only[go_sem] at h)<;>(try exact g_f))|((first|refine g_t ?_|refine g_g ?_|refine g_U ?_);(try simp -implicitDefEqProofs only[go_sem]))|(with_reducible refine hK _ _ ?_;clear hK K)|(with_reducible refine splitB_intro (fun h=>?_) (fun h=>?_)<;>(try simp only[go_sem] at h)<;>(try exact g_f)<;>(try simp -implicitDefEqProofs only[go_sem]))|(with_reducible refine And.intro ?_ ?_;· exact g_x)|fail))
  all_goals clear hE hr hb b1 b2 hl ha hbb hc l1 l2 l3 l4 l5
  all_goals (try (refine CutQ_c rfl ?_; try simp [holdsA, at2, Bool.beq_eq_decide_eq, bne, *]))
  all_goals (try exact decide_eq_decide.2 Iff.rfl)
end Go.Proofs.YtephecognbbaoabGreat
namespace Go.Proofs.YtephecognbbaoabGreat
theorem YCalls.mono {P : Program} {l : Nat} {args : List AV} {σ : Store} {R R' : AV → Store → Prop} (h : YCalls P l args σ R) (hr : ∀ r σ', R r σ' → R' r σ') : YCalls P l args σ R' :=
  fun K imm m w vs hs hv => let ⟨rc, h1, h2, h3⟩ := h K imm m w vs hs hv
    ⟨rc, h1, h2, h3.mono fun _ _ ⟨i, m', v, r, s, a, b, c, d, e, f⟩ => ⟨i, m', v, r, s, a, b, c, d, e, hr _ _ f⟩⟩
def FC (good : Brk → Bool) (l : List Brk) : Option Brk := l.find? fun b => !good b
theorem FC_good {good : Brk → Bool} {b : Brk} (h : good b = true) (l : List Brk) : FC good (b :: l) = FC good l := by simp [FC, h]
theorem FC_bad {good : Brk → Bool} {b : Brk} (h : good b = false) (l : List Brk) : FC good (b :: l) = some b := by simp [FC, h]
theorem at0_ints {n k : Int} (h0 : 0 ≤ k) (h1 : k < n) : at0 (ints n) k = k := by
  have : k.toNat < (ints n).length := by rw [ints_length]; omega
  rw [at0, List.getD_eq_getElem?_getD, List.getElem?_eq_getElem this]
  simp [ints]
  omega
def sh3 (x : Alg) (law a b c : Int) : List Brk := (ints (upN (edgeA law) x.edges.length)).map fun e => ⟨law, a, b, c, e⟩
def sh2 (x : Alg) (law a b : Int) : List Brk := (ints (upN (decide (2 < manyA law)) x.size)).flatMap (sh3 x law a b)
def sh1 (x : Alg) (law a : Int) : List Brk := (ints (upN (decide (1 < manyA law)) x.size)).flatMap (sh2 x law a)
theorem upN_bd {b : Bool} {n : Int} (h : 0 ≤ n ∧ n ≤ 24) : 0 ≤ upN b n ∧ upN b n ≤ 24 := by unfold upN; split <;> omega
theorem cases1_calls (x : Alg) (law : Int) (hr : Right x) (l : Nat) (σ : Store) (good : Brk → Bool) (E : Brk → Store → Prop)
    (hy : ∀ b ∈ casesA x law, ∀ τ, YCalls Tryz.prog l [.agg (brkC b)] (σ ++ τ) fun r σ' => (good b = true ∧ r = .c (.bool true) ∧ ∃ τ', σ' = σ ++ τ') ∨ (good b = false ∧ r = .c (.bool false) ∧ E b σ')) :
    ACalls Tryz.prog 98 [.c (.func (.yield l) #[] #[]), .cp [intA1 (manyA law), .c (.bool (edgeA law))] 0, .cp (algC x) 0, .cp [intA1 law] 0] σ fun _ σ' => match FC good (casesA x law) with | none => ∃ τ', σ' = σ ++ τ' | some b => E b σ' := by
  have hm := many_bd law
  have s2 := hr.s2
  have s24 := hr.s24
  have e8 := hr.e8
  have nA := upN_bd (b := decide (0 < manyA law)) (n := x.size) (by omega)
  have nB := upN_bd (b := decide (1 < manyA law)) (n := x.size) (by omega)
  have nC := upN_bd (b := decide (2 < manyA law)) (n := x.size) (by omega)
  have nE := upN_bd (b := edgeA law) (n := x.edges.length) (by omega)
  refine ACalls_of_awp Tryz.func98 rfl Tryz.results98 ?_
  simp only [List.length_cons, List.length_nil, Tryz.ntmps98, Nat.reduceAdd, Nat.reduceSub, enterA]
  (repeat' (first|(refine g_s fun K hK=>?_)|(refine g_b ?_)|((first|refine g_g ?_|refine (upTo_calls _ _ _).use ?_);(try simp -implicitDefEqProofs only[go_sem]))|(with_reducible refine hK _ _ ?_;clear hK K)|fail))
  refine AWP_each (ints (upN (decide (0 < manyA law)) x.size)) (fun _ r _ => FC good (casesA x law) = FC good (r.flatMap (sh1 x law))) (fun k _ _ => [(15, intA1 k)]) (fun _ _ τ => σ ++ τ) () [] rfl ?_ (ALe_of ?_) ?_ ?_
  · simp
  · simp -implicitDefEqProofs only [go_sem]
  · rintro ka ra _ τa hka0 hka1 hHa La hLa
    rw [ints_length] at hka1
    rw [at0_ints hka0 (by omega), List.flatMap_cons] at hHa
    simp -implicitDefEqProofs only [go_sem]
    (repeat' (first|(refine g_s fun K hK=>?_)|(refine g_b ?_)|(refine g_k ?_;simp only[thenQ,blockQ])|(refine g_c (fun h=>?_) (fun h=>?_)<;>(try simp only[go_sem] at h)<;>(try exact g_f))|((first|refine g_g ?_|refine (upTo_calls _ _ _).use ?_);(try simp -implicitDefEqProofs only[go_sem]))|(with_reducible refine hK _ _ ?_;clear hK K)|fail))
    refine AWP_each (ints (upN (decide (1 < manyA law)) x.size)) (fun _ r _ => FC good (casesA x law) = FC good (r.flatMap (sh2 x law ka) ++ ra.flatMap (sh1 x law))) (fun k _ _ => [(24, intA1 k)]) (fun _ _ τ => σ ++ τ) () τa hHa rfl (ALe_of ?_) ?_ ?_
    · simp -implicitDefEqProofs only [go_sem]
    · rintro kb rb _ τb hkb0 hkb1 hHb Lb hLb
      rw [ints_length] at hkb1
      rw [at0_ints hkb0 (by omega), List.flatMap_cons, List.append_assoc] at hHb
      simp -implicitDefEqProofs only [go_sem]
      (repeat' (first|(refine g_s fun K hK=>?_)|(refine g_b ?_)|(refine g_k ?_;simp only[thenQ,blockQ])|(refine g_c (fun h=>?_) (fun h=>?_)<;>(try simp only[go_sem] at h)<;>(try exact g_f))|((first|refine g_g ?_|refine (upTo_calls _ _ _).use ?_);(try simp -implicitDefEqProofs only[go_sem]))|(with_reducible refine hK _ _ ?_;clear hK K)|fail))
      refine AWP_each (ints (upN (decide (2 < manyA law)) x.size)) (fun _ r _ => FC good (casesA x law) = FC good (r.flatMap (sh3 x law ka kb) ++ (rb.flatMap (sh2 x law ka) ++ ra.flatMap (sh1 x law)))) (fun k _ _ => [(33, intA1 k)]) (fun _ _ τ => σ ++ τ) () τb hHb rfl (ALe_of ?_) ?_ ?_
      · simp -implicitDefEqProofs only [go_sem]
      · rintro kc rc _ τc hkc0 hkc1 hHc Lc hLc
        rw [ints_length] at hkc1
        rw [at0_ints hkc0 (by omega), List.flatMap_cons, List.append_assoc] at hHc
        simp -implicitDefEqProofs only [go_sem]
        (repeat' (first|(refine g_s fun K hK=>?_)|(refine g_b ?_)|(refine g_k ?_;simp only[thenQ,blockQ])|(refine g_c (fun h=>?_) (fun h=>?_)<;>(try simp only[go_sem] at h)<;>(try exact g_f))|((first|refine g_g ?_|refine (upTo_calls _ _ _).use ?_);(try simp -implicitDefEqProofs only[go_sem]))|(with_reducible refine hK _ _ ?_;clear hK K)|fail))
        refine AWP_each (ints (upN (edgeA law) x.edges.length)) (fun _ r _ => FC good (casesA x law) = FC good (r.map (fun e => (⟨law, ka, kb, kc, e⟩ : Brk)) ++ (rc.flatMap (sh3 x law ka kb) ++ (rb.flatMap (sh2 x law ka) ++ ra.flatMap (sh1 x law))))) (fun k _ _ => [(42, intA1 k)]) (fun _ _ τ => σ ++ τ) () τc hHc rfl (ALe_of ?_) ?_ ?_
        · simp -implicitDefEqProofs only [go_sem]
        · rintro ke re _ τe hke0 hke1 hHe Le hLe
          rw [ints_length] at hke1
          rw [at0_ints hke0 (by omega), List.map_cons, List.cons_append] at hHe
          have hmem : (⟨law, ka, kb, kc, ke⟩ : Brk) ∈ casesA x law := mem_cases.2 ⟨rfl, ⟨hka0, by simp only; omega⟩, ⟨hkb0, by simp only; omega⟩, ⟨hkc0, by simp only; omega⟩, ⟨hke0, by simp only; omega⟩⟩
          simp -implicitDefEqProofs only [go_sem]
          (repeat' (first|(refine g_s fun K hK=>?_)|(refine g_b ?_)|(refine g_k ?_;simp only[thenQ,blockQ])|(refine g_c (fun h=>?_) (fun h=>?_)<;>(try simp only[go_sem] at h)<;>(try exact g_f))|(refine g_g ?_;(try simp -implicitDefEqProofs only[go_sem]))|(with_reducible refine hK _ _ ?_;clear hK K)|fail))
          refine YCalls.mono (hy _ hmem τe) (fun r9 σ9 hr9 => ?_)
          rcases hr9 with ⟨hg, rfl, τ9, rfl⟩ | ⟨hg, rfl, hE⟩
          · simp -implicitDefEqProofs only [go_sem]
            (repeat' (first|(refine g_k ?_;simp only[thenQ,blockQ])|(refine g_c (fun h=>?_) (fun h=>?_)<;>(try simp only[go_sem] at h)<;>(try exact g_f))|(refine g_g ?_;(try simp -implicitDefEqProofs only[go_sem]))|(with_reducible refine hK _ _ ?_;clear hK K)|(with_reducible refine And.intro ?_ ?_;· exact g_x)|fail))
            refine hLe () τ9 _ _ (by rw [hHe, FC_good hg]) (ALe_of ?_) rfl
            simp -implicitDefEqProofs only [go_sem]
          · simp -implicitDefEqProofs only [go_sem]
            (repeat' (first|(refine g_c (fun h=>?_) (fun h=>?_)<;>(try simp only[go_sem] at h)<;>(try exact g_f))|(refine g_t ?_;(try simp -implicitDefEqProofs only[go_sem]))|(with_reducible refine hK _ _ ?_;clear hK K)|fail))
            rw [hHe, FC_bad hg]
            exact hE
        · rintro ke _ τe hke hHe Le
          rw [ints_length] at hke
          simp -implicitDefEqProofs only [go_sem]
          (repeat' (first|(refine g_s fun K hK=>?_)|(refine g_e ?_;simp only[thenQ,blockQ,↓reduceIte,Nat.reduceEqDiff])|(refine g_c (fun h=>?_) (fun h=>?_)<;>(try simp only[go_sem] at h)<;>(try exact g_f))|(refine g_g ?_;(try simp -implicitDefEqProofs only[go_sem]))|(with_reducible refine hK _ _ ?_;clear hK K)|(clear hK K;first|(with_reducible refine hK _ _ ?_;clear hK K)|(clear hK K;with_reducible refine hK _ _ ?_;clear hK K)|(clear hK K;clear hK K;with_reducible refine hK _ _ ?_;clear hK K))|(with_reducible refine And.intro ?_ ?_;· exact g_x)|fail))
          refine hLc () τe _ _ hHe (ALe_of ?_) rfl
          simp -implicitDefEqProofs only [go_sem]
      · rintro kc _ τc hkc hHc Lc
        rw [ints_length] at hkc
        simp -implicitDefEqProofs only [go_sem]
        (repeat' (first|(refine g_s fun K hK=>?_)|(refine g_e ?_;simp only[thenQ,blockQ,↓reduceIte,Nat.reduceEqDiff])|(refine g_c (fun h=>?_) (fun h=>?_)<;>(try simp only[go_sem] at h)<;>(try exact g_f))|(refine g_g ?_;(try simp -implicitDefEqProofs only[go_sem]))|(with_reducible refine hK _ _ ?_;clear hK K)|(clear hK K;first|(with_reducible refine hK _ _ ?_;clear hK K)|(clear hK K;with_reducible refine hK _ _ ?_;clear hK K)|(clear hK K;clear hK K;with_reducible refine hK _ _ ?_;clear hK K))|(with_reducible refine And.intro ?_ ?_;· exact g_x)|fail))
        refine hLb () τc _ _ hHc (ALe_of ?_) rfl
        simp -implicitDefEqProofs only [go_sem]
    · rintro kb _ τb hkb hHb Lb
      rw [ints_length] at hkb
      simp -implicitDefEqProofs only [go_sem]
      (repeat' (first|(refine g_s fun K hK=>?_)|(refine g_e ?_;simp only[thenQ,blockQ,↓reduceIte,Nat.reduceEqDiff])|(refine g_c (fun h=>?_) (fun h=>?_)<;>(try simp only[go_sem] at h)<;>(try exact g_f))|(refine g_g ?_;(try simp -implicitDefEqProofs only[go_sem]))|(with_reducible refine hK _ _ ?_;clear hK K)|(clear hK K;first|(with_reducible refine hK _ _ ?_;clear hK K)|(clear hK K;with_reducible refine hK _ _ ?_;clear hK K)|(clear hK K;clear hK K;with_reducible refine hK _ _ ?_;clear hK K))|(with_reducible refine And.intro ?_ ?_;· exact g_x)|fail))
      refine hLa () τb _ _ hHb (ALe_of ?_) rfl
      simp -implicitDefEqProofs only [go_sem]
  · rintro ka _ τa hka hHa La
    rw [ints_length] at hka
    simp -implicitDefEqProofs only [go_sem]
    (repeat' (first|(refine g_s fun K hK=>?_)|(refine g_e ?_;simp only[thenQ,blockQ,↓reduceIte,Nat.reduceEqDiff])|(refine g_c (fun h=>?_) (fun h=>?_)<;>(try simp only[go_sem] at h)<;>(try exact g_f))|(refine g_g ?_;(try simp -implicitDefEqProofs only[go_sem]))|(with_reducible refine hK _ _ ?_;clear hK K)|fail))
    simp -implicitDefEqProofs only [go_sem]
    rw [hHa]
    exact ⟨τa, rfl⟩
end Go.Proofs.YtephecognbbaoabGreat
namespace Go.Proofs.YtephecognbbaoabGreat
theorem FC_app (good : Brk → Bool) (l r : List Brk) : FC good (l ++ r) = (FC good l).or (FC good r) := by simp [FC]
theorem lp_same {r : Loop} (h : r.state = .ready) (h2 : r.pending = none) : ({ r with state := .ready, pending := none } : Loop) = r := by
  cases r; simp_all
def caseFn (x : Alg) (law : Int) : AV := .fn 98 [] [.cp [intA1 (manyA law), .c (.bool (edgeA law))] 0, .cp (algC x) 0, .cp [intA1 law] 0]
theorem broken_calls' (x : Alg) (laws : List Int) (hr : Right x) (hl : laws.length ≤ 100) (hlaw : ∀ law ∈ laws, 1 ≤ law ∧ law ≤ 9)
    (hcases : ∀ law ∈ laws, ∀ σ, ACalls Tryz.prog 89 [.agg (algC x), intA1 law] σ fun r σ' => σ' = σ ∧ r = caseFn x law) (σ : Store) :
    ACalls Tryz.prog 73 [.agg (algC x), intsA laws] σ fun r σ' => σ' = σ ∧ r = .agg (brkC (brokenA x laws)) := by
  refine ACalls.cutX ?_
  refine ACalls_of_awp Tryz.func73 rfl Tryz.results73 ?_
  simp only [List.length_cons, List.length_nil, Tryz.ntmps73, Nat.reduceAdd, Nat.reduceSub, enterA]
  refine AWP_seq_k fun K hK => ?_
  (refine AWP_region ?_; simp -implicitDefEqProofs only [go_sem])
  refine hK _ _ ?_; clear hK K
  refine AWP_freezeP 2 rfl (by simp only [st0]; rfl) ?_
  simp only [ss0, List.set_cons_zero]
  (repeat' (first|(refine g_s fun K hK=>?_)|(refine g_b ?_)|(refine g_g ?_;(try simp -implicitDefEqProofs only[go_sem]))|(with_reducible refine hK _ _ ?_;clear hK K)|fail))
  have hJ := hK
  clear hK
  refine AWP_each laws (fun _ r _ => FC (holdsA x) (laws.flatMap (casesA x)) = FC (holdsA x) (r.flatMap (casesA x))) (fun k _ _ => [(10, intA1 k)]) (fun _ _ τ => σ ++ (.dead :: .cells 5 [brkC zeroB] :: τ)) () [] rfl rfl (ALe_of ?_) ?_ ?_
  · simp -implicitDefEqProofs only [go_sem]
  · rintro k r _ τ hk0 hk1 hH L hL
    have hmem := at0_mem laws hk0 hk1
    obtain ⟨law, hla⟩ : ∃ law, at0 laws k = law := ⟨_, rfl⟩
    rw [hla] at hH hmem
    simp -implicitDefEqProofs only [go_sem]
    (repeat' (first|(refine g_s fun K hK=>?_)|(refine g_b ?_)|(refine g_k ?_;simp only[thenQ,blockQ])|(refine g_c (fun h=>?_) (fun h=>?_)<;>(try simp only[go_sem] at h)<;>(try exact g_f))|((first|refine g_g ?_|refine (hcases law hmem _).use ?_);(try simp -implicitDefEqProofs only[go_sem,hla]))|(with_reducible refine hK _ _ ?_;clear hK K)|(with_reducible refine And.intro ?_ ?_;· exact g_x)|fail))
    refine AWPr.weak (β := [(16, caseFn x law), (10, intA1 k), (9, intA1 laws.length), (8, intsA laws), (2, .cp (algC x) 0), (4, .ptr (σ.length + 1) 5 0 0), (0, .agg (algC x)), (1, intsA laws)]) (ALe_of ?_) ?_
    · simp -implicitDefEqProofs only [go_sem]
    refine AWP_range (g := 98) rfl (by simp only [go_sem]) (fun l rc g1 g2 g3 g4 g5 => ?_)
    obtain ⟨rd, hrd⟩ : ∃ q : Loop, q = { rc with state := .done, pending := some .ret } := ⟨_, rfl⟩
    have hy : ∀ b ∈ casesA x law, ∀ S : Store, S[σ.length + 1]? = some (.cells 5 [brkC zeroB]) → S[σ.length + (τ.length + 2)]? = some (.lp l [(16, caseFn x law), (10, intA1 k), (9, intA1 laws.length), (8, intsA laws), (2, .cp (algC x) 0), (4, .ptr (σ.length + 1) 5 0 0), (0, .agg (algC x)), (1, intsA laws)] 25 rc) → YCalls Tryz.prog l [.agg (brkC b)] S fun r σ' =>
        (holdsA x b = true ∧ r = .c (.bool true) ∧ ∃ τ', σ' = S ++ τ') ∨
        (holdsA x b = false ∧ r = .c (.bool false) ∧ ∃ τ', σ' = (S.set (σ.length + 1) (.cells 5 [brkC b])).set (σ.length + (τ.length + 2)) (.lp l [(16, caseFn x law), (10, intA1 k), (9, intA1 laws.length), (8, intsA laws), (2, .cp (algC x) 0), (4, .ptr (σ.length + 1) 5 0 0), (0, .agg (algC x)), (1, intsA laws)] 25 rd) ++ τ') := by
      intro b hb S hS1 hS2
      have hbl := (mem_cases.1 hb).1
      have hin : InR x b := inR_of hr (checkB_iff.2 ⟨by rw [hbl]; exact hlaw law hmem, by rw [hbl]; exact hb⟩)
      have hlt1 : σ.length + 1 < S.length := (List.getElem?_eq_some_iff.1 hS1).1
      have hlt2 : σ.length + (τ.length + 2) < S.length := (List.getElem?_eq_some_iff.1 hS2).1
      refine YCalls_of (b := σ.length + (τ.length + 2)) (N := 25) (al := [(16, caseFn x law), (10, intA1 k), (9, intA1 laws.length), (8, intsA laws), (2, .cp (algC x) 0), (4, .ptr (σ.length + 1) 5 0 0), (0, .agg (algC x)), (1, intsA laws)]) hS2 g1 g3 (by omega) ?_
      clear hJ hL hK
      obtain ⟨rb, hrb⟩ : ∃ q : Loop, q = { rc with state := .busy } := ⟨_, rfl⟩
      rw [← hrb, g4, g5]
      (refine AWP_region ?_; simp -implicitDefEqProofs only [go_sem])
      refine ⟨by rw [List.getElem?_append_left hlt2]; exact hS2, ?_⟩
      rw [List.set_append_left _ _ hlt2]
      obtain ⟨S2, hS⟩ : ∃ q : Store, q = S.set (σ.length + (τ.length + 2)) (.lp l [(16, caseFn x law), (10, intA1 k), (9, intA1 laws.length), (8, intsA laws), (2, .cp (algC x) 0), (4, .ptr (σ.length + 1) 5 0 0), (0, .agg (algC x)), (1, intsA laws)] 25 rb) := ⟨_, rfl⟩
      have hlen : S.length = S2.length := by rw [hS]; simp
      have h21 : S2[σ.length + 1]? = some (.cells 5 [brkC zeroB]) := by rw [hS, List.getElem?_set_ne (by omega)]; exact hS1
      have h22 : S2[σ.length + (τ.length + 2)]? = some (.lp l [(16, caseFn x law), (10, intA1 k), (9, intA1 laws.length), (8, intsA laws), (2, .cp (algC x) 0), (4, .ptr (σ.length + 1) 5 0 0), (0, .agg (algC x)), (1, intsA laws)] 25 rb) := by rw [hS, List.getElem?_set_self (by omega)]
      have h4 : ∀ ρ : Store, (S2 ++ ρ)[σ.length + 1]? = some (.cells 5 [brkC zeroB]) := fun ρ => by rw [List.getElem?_append_left (by omega)]; exact h21
      have h5 : ∀ (ρ : Store) (ob : Ob), (S2 ++ ρ).set (σ.length + 1) ob = S2.set (σ.length + 1) ob ++ ρ := fun ρ ob => List.set_append_left _ _ (by omega)
      have hback : S2.set (σ.length + (τ.length + 2)) (.lp l [(16, caseFn x law), (10, intA1 k), (9, intA1 laws.length), (8, intsA laws), (2, .cp (algC x) 0), (4, .ptr (σ.length + 1) 5 0 0), (0, .agg (algC x)), (1, intsA laws)] 25 { rc with state := .ready, pending := none }) = S := by
        rw [hS, List.set_set, lp_same g1 g2]
        apply List.ext_getElem?
        intro i
        by_cases e : i = σ.length + (τ.length + 2)
        · rw [e, List.getElem?_set_self (by omega), hS2]
        · rw [List.getElem?_set_ne (by omega)]
      have hgo : AWPr (some l) Tryz.prog 25 rc.body (roundQ l (σ.length + (τ.length + 2)) [(16, caseFn x law), (10, intA1 k), (9, intA1 laws.length), (8, intsA laws), (2, .cp (algC x) 0), (4, .ptr (σ.length + 1) 5 0 0), (0, .agg (algC x)), (1, intsA laws)] 25 rc fun r σ' =>
        (holdsA x b = true ∧ r = .c (.bool true) ∧ ∃ τ', σ' = S ++ τ') ∨
        (holdsA x b = false ∧ r = .c (.bool false) ∧ ∃ τ', σ' = (S.set (σ.length + 1) (.cells 5 [brkC b])).set (σ.length + (τ.length + 2)) (.lp l [(16, caseFn x law), (10, intA1 k), (9, intA1 laws.length), (8, intsA laws), (2, .cp (algC x) 0), (4, .ptr (σ.length + 1) 5 0 0), (0, .agg (algC x)), (1, intsA laws)] 25 rd) ++ τ'))
        [(7, .ptr S2.length 5 0 0), (2, .cp (algC x) 0), (4, .ptr (σ.length + 1) 5 0 0), (0, .agg (algC x)), (1, intsA laws)] (S2 ++ [.cells 5 [brkC b]]) := by
        rw [g5]
        (repeat' (first|(refine g_s fun K hK=>?_)|(refine g_b ?_)|(refine g_k ?_;simp only[thenQ,blockQ])|(refine g_c (fun h=>?_) (fun h=>?_)<;>(try simp only[go_sem] at h)<;>(try exact g_f))|((first|refine g_t ?_|refine g_g ?_|refine (holds_calls x b hr hin _).use ?_);(try simp -implicitDefEqProofs only[go_sem,h4, h5]))|(with_reducible refine hK _ _ ?_;clear hK K)|fail))
        · simp only [roundQ]
          refine ⟨?_, .inr ⟨by assumption, trivial, [.cells 5 [brkC b]], ?_⟩⟩
          · rw [List.getElem?_append_left (by simp; omega), List.getElem?_set_ne (by omega)]
            rw [hrb] at h22
            exact h22
          · rw [← hrd, List.set_append_left _ _ (by simp; omega)]
            have e : (S2.set (σ.length + 1) (.cells 5 [brkC b])).set (σ.length + (τ.length + 2)) (.lp l [(16, caseFn x law), (10, intA1 k), (9, intA1 laws.length), (8, intsA laws), (2, .cp (algC x) 0), (4, .ptr (σ.length + 1) 5 0 0), (0, .agg (algC x)), (1, intsA laws)] 25 rd) = (S.set (σ.length + 1) (.cells 5 [brkC b])).set (σ.length + (τ.length + 2)) (.lp l [(16, caseFn x law), (10, intA1 k), (9, intA1 laws.length), (8, intsA laws), (2, .cp (algC x) 0), (4, .ptr (σ.length + 1) 5 0 0), (0, .agg (algC x)), (1, intsA laws)] 25 rd) := by
              rw [hS, List.set_comm _ _ (by omega), List.set_set]
              exact List.set_comm _ _ (by omega)
            exact congrArg (· ++ [Ob.cells 5 [brkC b]]) e
        · simp only [roundQ]
          refine ⟨?_, .inl ⟨by assumption, trivial, [.cells 5 [brkC b]], ?_⟩⟩
          · rw [List.getElem?_append_left (by omega)]
            rw [hrb] at h22
            exact h22
          · rw [List.set_append_left _ _ (by omega)]
            exact congrArg (· ++ [Ob.cells 5 [brkC b]]) hback
      rw [g5, hS] at hgo
      refine AWPr.weak (ALe_of ?_) hgo
      simp -implicitDefEqProofs only [go_sem, List.length_set]
    have hc1 := cases1_calls x law hr l (σ ++ (.dead :: .cells 5 [brkC zeroB] :: (τ ++ [.lp l [(16, caseFn x law), (10, intA1 k), (9, intA1 laws.length), (8, intsA laws), (2, .cp (algC x) 0), (4, .ptr (σ.length + 1) 5 0 0), (0, .agg (algC x)), (1, intsA laws)] 25 rc]))) (holdsA x) (fun b σ' => ∃ τ', σ' = σ ++ (.dead :: .cells 5 [brkC b] :: (τ ++ (.lp l [(16, caseFn x law), (10, intA1 k), (9, intA1 laws.length), (8, intsA laws), (2, .cp (algC x) 0), (4, .ptr (σ.length + 1) 5 0 0), (0, .agg (algC x)), (1, intsA laws)] 25 rd :: τ'))))
      (fun b hb τ2 => YCalls.mono (hy b hb _ (by simp) (by simp)) (fun r9 σ9 h9 => by
        rcases h9 with ⟨h1, h2, τ', h3⟩ | ⟨h1, h2, τ', h3⟩
        · exact .inl ⟨h1, h2, τ2 ++ τ', by rw [h3]; simp⟩
        · exact .inr ⟨h1, h2, τ2 ++ τ', by rw [h3]; simp⟩))
    have e : σ ++ (.dead :: .cells 5 [brkC zeroB] :: τ) ++ [.lp l [(16, caseFn x law), (10, intA1 k), (9, intA1 laws.length), (8, intsA laws), (2, .cp (algC x) 0), (4, .ptr (σ.length + 1) 5 0 0), (0, .agg (algC x)), (1, intsA laws)] 25 rc] = σ ++ (.dead :: .cells 5 [brkC zeroB] :: (τ ++ [.lp l [(16, caseFn x law), (10, intA1 k), (9, intA1 laws.length), (8, intsA laws), (2, .cp (algC x) 0), (4, .ptr (σ.length + 1) 5 0 0), (0, .agg (algC x)), (1, intsA laws)] 25 rc])) := by simp
    rw [← e] at hc1
    rw [List.flatMap_cons, FC_app] at hH
    refine ACalls.mono hc1 (fun r9 σ9 h9 => ?_)
    cases hF : FC (holdsA x) (casesA x law) with
    | none =>
      rw [hF] at h9 hH
      obtain ⟨τ', rfl⟩ := h9
      refine ⟨rc, by simp, by rw [g1]; simp, ?_⟩
      rw [g2]
      simp only [blockQ, thenQ]
      simp -implicitDefEqProofs only [go_sem]
      refine hK _ _ ?_
      clear hK
      (repeat' (first|(refine g_g ?_;(try simp -implicitDefEqProofs only[go_sem]))|(with_reducible refine And.intro ?_ ?_;· exact g_x)|fail))
      refine hL () (τ ++ .dead :: τ') _ _ (by rw [hH]; rfl) (ALe_of ?_) (by simp [brkC, intA1])
      simp -implicitDefEqProofs only [go_sem]
    | some b =>
      rw [hF] at h9 hH
      obtain ⟨τ', rfl⟩ := h9
      refine ⟨rd, by simp, by rw [hrd]; simp, ?_⟩
      rw [hrd]
      simp only
      refine AWP_ret ?_
      simp -implicitDefEqProofs only [go_sem]
      have hb : brokenA x laws = b := by
        show (FC (holdsA x) (laws.flatMap (casesA x))).getD zeroB = b
        rw [hH]
        rfl
      rw [hb]
      refine CutQ_w rfl ?_ ?_
      · (repeat' (first | exact Bd.c _ | exact Bd.emp | exact BdL.nil | exact Bd.ints _ | refine Bd.aggL ?_ | refine Bd.tupL ?_ | refine BdL.cons ?_ ?_))
      · (repeat' (first | exact Wk.nil | exact Wk.emp | exact WkL.nil | (with_reducible exact Wk.refl _) | refine Wk.agg ?_ | refine Wk.tup ?_ | refine WkL.cons ?_ ?_ | (refine Wk.eq ?_; rfl)))
  · rintro k _ τ hk hH L
    simp -implicitDefEqProofs only [go_sem]
    (repeat' (first|(refine g_s fun K hK=>?_)|(refine g_e ?_;simp only[thenQ,blockQ,↓reduceIte,Nat.reduceEqDiff])|(refine g_c (fun h=>?_) (fun h=>?_)<;>(try simp only[go_sem] at h)<;>(try exact g_f))|(refine g_g ?_;(try simp -implicitDefEqProofs only[go_sem]))|(with_reducible refine hK _ _ ?_;clear hK K)|fail))
    refine hJ _ _ ?_
    clear hJ
    (repeat' (first|(refine g_s fun K hK=>?_)|((first|refine g_t ?_|refine g_g ?_);(try simp -implicitDefEqProofs only[go_sem]))|(with_reducible refine hK _ _ ?_;clear hK K)|fail))
    have hb : brokenA x laws = zeroB := by
      show (FC (holdsA x) (laws.flatMap (casesA x))).getD zeroB = zeroB
      rw [hH]
      rfl
    rw [hb]
    refine CutQ_w rfl ?_ ?_
    · (repeat' (first | exact Bd.c _ | exact Bd.emp | exact BdL.nil | exact Bd.ints _ | refine Bd.aggL ?_ | refine Bd.tupL ?_ | refine BdL.cons ?_ ?_))
    · (repeat' (first | exact Wk.nil | exact Wk.emp | exact WkL.nil | (with_reducible exact Wk.refl _) | refine Wk.agg ?_ | refine Wk.tup ?_ | refine WkL.cons ?_ ?_ | (refine Wk.eq ?_; rfl)))
end Go.Proofs.YtephecognbbaoabGreat
namespace Go.Proofs.YtephecognbbaoabGreat
def shapeC (n : Int) (e : Bool) : AV := .agg [intA1 n, .c (.bool e)]
def shapesE : List (Value × AV) := [(.int .i64 1, shapeC 2 false), (.int .i64 2, shapeC 3 false), (.int .i64 3, shapeC 2 false), (.int .i64 4, shapeC 1 false), (.int .i64 5, shapeC 1 false),
  (.int .i64 6, shapeC 0 true), (.int .i64 7, shapeC 1 true), (.int .i64 8, shapeC 1 true), (.int .i64 9, shapeC 2 true)]
def BdM (n : Nat) : List (Value × AV) → Prop
  | [] => True
  | e :: r => Bd n e.2 ∧ BdM n r
theorem BdM.get {n : Nat} : ∀ {es : List (Value × AV)}, BdM n es → ∀ i (h : i < es.length), Bd n es[i].2
  | [], _, i, h => by simp at h
  | e :: r, hb, 0, _ => hb.1
  | e :: r, hb, i + 1, h => BdM.get hb.2 i (by simpa using h)
theorem Bd.cmL {n : Nat} {es : List (Value × AV)} (h : BdM n es) : Bd n (.cm es) := .cm _ h.get
theorem Bd.cpL {n : Nat} {l : List AV} {off : Nat} (h : BdL n l) : Bd n (.cp l off) := .cp _ _ h
theorem Bd.fnL {n : Nat} {f : FuncId} {l l' : List AV} (h : BdL n l) (h' : BdL n l') : Bd n (.fn f l l') := .fn _ _ _ h h'
theorem shapes_KK : KK Tryz.prog 3 shapesE = True := by simp [KK, shapesE, keyK_int, I64]
theorem shapes_DK : DK shapesE = True := by simp [DK, NK, shapesE]
theorem shapes_find (law : Int) (h : 1 ≤ law ∧ law ≤ 9) : findK shapesE (.int .i64 law) = some (shapeC (manyA law) (edgeA law)) := by
  have : law = 1 ∨ law = 2 ∨ law = 3 ∨ law = 4 ∨ law = 5 ∨ law = 6 ∨ law = 7 ∨ law = 8 ∨ law = 9 := by omega
  rcases this with rfl | rfl | rfl | rfl | rfl | rfl | rfl | rfl | rfl <;> simp [findK, shapesE, manyA, edgeA]
attribute [go_sem] shapes_KK shapes_DK
theorem shapes_calls (σ : Store) : ACalls Tryz.prog 97 [] σ fun r σ' => σ' = σ ∧ r = .cm shapesE := by
  refine ACalls.cutX ?_
  refine ACalls_of_awp Tryz.func97 rfl Tryz.results97 ?_
  simp only [List.length_cons, List.length_nil, Tryz.ntmps97, Nat.reduceAdd, Nat.reduceSub, enterA]
  refine AWP_seq_k fun K hK => ?_
  (refine AWP_region ?_; simp -implicitDefEqProofs only [go_sem])
  refine hK _ _ ?_; clear hK K
  refine AWP_seq_k fun K hK => ?_
  (refine AWP_region ?_; simp -implicitDefEqProofs only [go_sem, putK, Value.int.injEq, I64])
  refine hK _ _ ?_; clear hK K
  refine AWP_freezeM 0 rfl (by first | rfl | (simp -implicitDefEqProofs only [go_sem]; done) | (simp -implicitDefEqProofs only [go_sem]; rfl)) ?_
  (repeat' (first|(refine g_t ?_;(try simp -implicitDefEqProofs only[go_sem]))|fail))
  refine CutQ_w rfl ?_ ?_
  · refine .cmL ⟨?_, ?_, ?_, ?_, ?_, ?_, ?_, ?_, ?_, trivial⟩
    all_goals (repeat' (first | exact Bd.c _ | exact Bd.emp | exact BdL.nil | exact Bd.ints _ | refine Bd.aggL ?_ | refine Bd.tupL ?_ | refine BdL.cons ?_ ?_))
  · exact .eq rfl
theorem bd_caseFn {n : Nat} (x : Alg) (law : Int) : Bd n (caseFn x law) := by
  refine .fnL .nil (.cons (.cpL (.cons (.c _) (.cons (.c _) .nil))) (.cons (.cpL (.cons (.c _) (.cons (.rows _) (.cons (.rows _) .nil)))) (.cons (.cpL (.cons (.c _) .nil)) .nil)))
theorem cases_calls (x : Alg) (law : Int) (hl : 1 ≤ law ∧ law ≤ 9) (σ : Store) : ACalls Tryz.prog 89 [.agg (algC x), intA1 law] σ fun r σ' => σ' = σ ∧ r = caseFn x law := by
  have hf := shapes_find law hl
  have hi : I64 law := by unfold I64; omega
  refine ACalls.cutX ?_
  refine ACalls_of_awp Tryz.func89 rfl Tryz.results89 ?_
  simp only [List.length_cons, List.length_nil, Tryz.ntmps89, Nat.reduceAdd, Nat.reduceSub, enterA]
  refine AWP_seq_k fun K hK => ?_
  (refine AWP_region ?_; simp -implicitDefEqProofs only [go_sem])
  refine hK _ _ ?_; clear hK K
  refine AWP_freezeP 2 rfl (by simp only [st0]; rfl) ?_
  simp only [ss0, List.set_cons_zero]
  refine AWP_freezeP 3 rfl (by simp only [st1]; rfl) ?_
  simp only [ss1, List.set_cons_zero, List.set_cons_succ]
  refine AWP_seq_k fun K hK => ?_
  refine AWP_drawA tab_mixed (by decide +kernel) (by rfl) ?_
  simp -implicitDefEqProofs only [go_sem]
  refine callQ_use (fun τ => shapes_calls _) ?_
  simp -implicitDefEqProofs only [go_sem, hf, shapeC, hi]
  refine hK _ _ ?_; clear hK K
  refine AWP_freezeP 5 rfl (by first | rfl | (simp -implicitDefEqProofs only [go_sem]; done) | (simp -implicitDefEqProofs only [go_sem]; rfl)) ?_
  (repeat' (first|(refine g_s fun K hK=>?_)|((first|refine g_t ?_|refine g_g ?_);(try simp -implicitDefEqProofs only[go_sem]))|(with_reducible refine hK _ _ ?_;clear hK K)|fail))
  refine CutQ_w rfl ?_ ?_
  · exact bd_caseFn x law
  · exact .eq rfl
end Go.Proofs.YtephecognbbaoabGreat
namespace Go.Proofs.YtephecognbbaoabGreat
theorem checkA_size {x : Alg} (h : x.size < 2 ∨ 24 < x.size) : checkA x = 3 := by
  unfold checkA
  rw [if_pos (not_inR.2 h)]
theorem checkA_many {x : Alg} (h : 2 ≤ x.size ∧ x.size ≤ 24) (h2 : 8 < x.edges.length) : checkA x = 2 := by
  unfold checkA
  rw [if_neg (by rw [not_inR]; omega), if_pos h2]
theorem checkA_best {x : Alg} (h : 2 ≤ x.size ∧ x.size ≤ 24) (h2 : x.edges.length ≤ 8) (h3 : (x.best.length : Int) ≠ x.size) : checkA x = 1 := by
  unfold checkA
  rw [if_neg (by rw [not_inR]; omega), if_neg (by omega), if_pos h3]
theorem checkA_row {x : Alg} (h : 2 ≤ x.size ∧ x.size ≤ 24) (h2 : x.edges.length ≤ 8) (h3 : (x.best.length : Int) = x.size) {r : List Int} (hr : r ∈ x.best ++ x.edges) (hn : (r.length : Int) ≠ x.size) : checkA x = 1 := by
  unfold checkA
  rw [if_neg (by rw [not_inR]; omega), if_neg (by omega), if_neg (by omega), if_pos (List.any_eq_true.2 ⟨r, hr, by simpa using hn⟩)]
theorem checkA_val {x : Alg} (h : 2 ≤ x.size ∧ x.size ≤ 24) (h2 : x.edges.length ≤ 8) (h3 : (x.best.length : Int) = x.size) (h4 : ∀ r ∈ x.best ++ x.edges, (r.length : Int) = x.size) {r : List Int} (hr : r ∈ x.best ++ x.edges) {n : Int} (hn : n ∈ r)
    (hb : n < 0 ∨ x.size - 1 < n) : checkA x = 5 := by
  unfold checkA
  rw [if_neg (by rw [not_inR]; omega), if_neg (by omega), if_neg (by omega), if_neg, if_pos (List.any_eq_true.2 ⟨r, hr, List.any_eq_true.2 ⟨n, hn, not_inR.2 hb⟩⟩)]
  intro hc
  obtain ⟨r, hr, hn⟩ := List.any_eq_true.1 hc
  exact (of_decide_eq_true hn) (h4 r hr)
def rows1 (l : List (List Int)) : List AV := [rowsC l]
attribute [go_sem] rows1
theorem check_calls (x : Alg) (hb : x.best.length ≤ 5864062014634) (he : x.edges.length ≤ 5864062014634) (hs : I64 x.size) (hrow : ∀ r ∈ x.best ++ x.edges, r.length ≤ 17592186044000) (σ : Store) :
    ACalls Tryz.prog 47 [.agg (algC x)] σ fun r σ' => σ' = σ ∧ r = intA1 (checkA x) := by
  refine ACalls.cutX ?_
  refine ACalls_of_awp Tryz.func47 rfl Tryz.results47 ?_
  simp only [List.length_cons, List.length_nil, Tryz.ntmps47, Nat.reduceAdd, Nat.reduceSub, enterA]
  refine AWP_seq_k fun K hK => ?_
  (refine AWP_region ?_; simp -implicitDefEqProofs only [go_sem])
  refine hK _ _ ?_; clear hK K
  refine AWP_freezeP 1 rfl (by simp only [st0]; rfl) ?_
  simp only [ss0, List.set_cons_zero]
  (repeat' (first|(refine g_s fun K hK=>?_)|(refine g_b ?_)|(refine g_k ?_;simp only[thenQ,blockQ])|(refine g_c (fun h=>?_) (fun h=>?_)<;>(try simp only[go_sem] at h)<;>(try exact g_f))|((first|refine g_t ?_|refine g_g ?_|refine (within_calls _ _ _ _).use ?_);(try simp -implicitDefEqProofs only[go_sem]))|(with_reducible refine hK _ _ ?_;clear hK K)|fail))
  · exact CutQ_c rfl (by rw [checkA_size (not_inR.1 (by rw [h]; rfl))])
  · rename_i h1
    exact CutQ_c rfl (by rw [checkA_many (inR_iff.1 h1) (by omega)])
  · rename_i h1 h2
    exact CutQ_c rfl (by rw [checkA_best (inR_iff.1 h1) (by omega) h])
  rename_i h1 h2
  have hsz := inR_iff.1 h1
  have hbl := h
  have he8 : x.edges.length ≤ 8 := by omega
  clear h h1 h2
  have hJ := hK
  clear hK
  generalize hls : [x.best, x.edges] = ls
  have hlsm : ∀ l ∈ ls, ∀ r ∈ l, r ∈ x.best ++ x.edges := by
    subst hls
    intro l hl r hr
    simp only [List.mem_cons, List.not_mem_nil, or_false] at hl
    rcases hl with rfl | rfl
    · exact List.mem_append_left _ hr
    · exact List.mem_append_right _ hr
  have hlsl : ∀ l ∈ ls, l.length ≤ 24 := by
    subst hls
    intro l hl
    simp only [List.mem_cons, List.not_mem_nil, or_false] at hl
    rcases hl with rfl | rfl <;> omega
  have hst : σ ++ [Ob.dead, Ob.cells 1 [[AV.sl (List.map rowC x.best)], [AV.sl (List.map rowC x.edges)]]] = σ ++ [Ob.dead, Ob.cells 1 (ls.map rows1)] := by subst hls; rfl
  have hll : ls.length = 2 := by subst hls; rfl
  rw [hst]
  refine AWP_each ls (fun k r _ => ∀ l ∈ ls, l ∈ r ∨ ∀ w ∈ l, (w.length : Int) = x.size) (fun k _ _ => [(38, intA1 k)]) (fun _ _ _ => σ ++ [.dead, .cells 1 (ls.map rows1)]) () [] (fun l hl => .inl hl) rfl (ALe_of ?_) ?_ ?_
  · simp -implicitDefEqProofs only [go_sem]
  · rintro k r _ τ hk0 hk1 hH L hL
    have hmem := at0_mem ls hk0 hk1
    obtain ⟨l, hl⟩ : ∃ l, at0 ls k = l := ⟨_, rfl⟩
    rw [hl] at hH hmem
    simp -implicitDefEqProofs only [go_sem]
    (repeat' (first|(refine g_s fun K hK=>?_)|(refine g_b ?_)|(refine g_k ?_;simp only[thenQ,blockQ])|(refine g_c (fun h=>?_) (fun h=>?_)<;>(try simp only[go_sem] at h)<;>(try exact g_f))|(refine g_g ?_;(try simp -implicitDefEqProofs only[go_sem,hl]))|(with_reducible refine hK _ _ ?_;clear hK K)|(with_reducible refine And.intro ?_ ?_;· exact g_x)|fail))
    refine AWP_each l (fun _ r' _ => ∀ w ∈ l, w ∈ r' ∨ (w.length : Int) = x.size) (fun k' _ _ => [(44, intA1 k')]) (fun _ _ _ => σ ++ [.dead, .cells 1 (ls.map rows1)]) () [] (fun w hw => .inl hw) rfl (ALe_of ?_) ?_ ?_
    · simp -implicitDefEqProofs only [go_sem]
    · rintro k' r' _ τ' hk0' hk1' hH' L' hL'
      have hmem' := at0_mem l hk0' hk1'
      have h24 := hlsl l hmem
      simp -implicitDefEqProofs only [go_sem]
      (repeat' (first|(refine g_s fun K hK=>?_)|(refine g_b ?_)|(refine g_k ?_;simp only[thenQ,blockQ])|(refine g_c (fun h=>?_) (fun h=>?_)<;>(try simp only[go_sem] at h)<;>(try exact g_f))|((first|refine g_t ?_|refine g_g ?_);(try simp -implicitDefEqProofs only[go_sem]))|(with_reducible refine hK _ _ ?_;clear hK K)|(with_reducible refine And.intro ?_ ?_;· exact g_x)|fail))
      · exact CutQ_c rfl (by rw [checkA_row hsz he8 hbl (hlsm l hmem _ hmem') h])
      · refine hL' () [] _ _ (fun w hw => ?_) (ALe_of ?_) rfl
        · rcases hH' w hw with h9 | h9
          · rcases List.mem_cons.1 h9 with rfl | h9
            · exact .inr h
            · exact .inl h9
          · exact .inr h9
        · simp -implicitDefEqProofs only [go_sem]
    · rintro k' _ τ' hk' hH' L'
      simp -implicitDefEqProofs only [go_sem]
      (repeat' (first|(refine g_s fun K hK=>?_)|(refine g_e ?_;simp only[thenQ,blockQ,↓reduceIte,Nat.reduceEqDiff])|(refine g_c (fun h=>?_) (fun h=>?_)<;>(try simp only[go_sem] at h)<;>(try exact g_f))|(refine g_g ?_;(try simp -implicitDefEqProofs only[go_sem]))|(with_reducible refine hK _ _ ?_;clear hK K)|(clear hK K;first|(with_reducible refine hK _ _ ?_;clear hK K)|(clear hK K;with_reducible refine hK _ _ ?_;clear hK K)|(clear hK K;clear hK K;with_reducible refine hK _ _ ?_;clear hK K))|(with_reducible refine And.intro ?_ ?_;· exact g_x)|fail))
      refine hL () [] _ _ (fun l' hl' => ?_) (ALe_of ?_) rfl
      · rcases hH l' hl' with h9 | h9
        · rcases List.mem_cons.1 h9 with rfl | h9
          · exact .inr fun w hw => (hH' w hw).resolve_left (by simp)
          · exact .inl h9
        · exact .inr h9
      · simp -implicitDefEqProofs only [go_sem]
  · rintro k _ τ hk hH L
    have hgood : ∀ r ∈ x.best ++ x.edges, (r.length : Int) = x.size := fun r hr => by
      subst hls
      rcases List.mem_append.1 hr with h | h
      · exact (hH x.best (by simp)).resolve_left (by simp) r h
      · exact (hH x.edges (by simp)).resolve_left (by simp) r h
    simp -implicitDefEqProofs only [go_sem]
    (repeat' (first|(refine g_s fun K hK=>?_)|(refine g_e ?_;simp only[thenQ,blockQ,↓reduceIte,Nat.reduceEqDiff])|(refine g_c (fun h=>?_) (fun h=>?_)<;>(try simp only[go_sem] at h)<;>(try exact g_f))|(refine g_g ?_;(try simp -implicitDefEqProofs only[go_sem]))|(with_reducible refine hK _ _ ?_;clear hK K)|fail))
    refine hJ _ _ ?_
    clear hJ
    (repeat' (first|(refine g_s fun K hK=>?_)|(refine g_b ?_)|(refine g_g ?_;(try simp -implicitDefEqProofs only[go_sem]))|(with_reducible refine hK _ _ ?_;clear hK K)|fail))
    have hJ := hK
    clear hK
    refine AWP_each ls (fun _ r _ => ∀ l ∈ ls, l ∈ r ∨ ∀ w ∈ l, ∀ n ∈ w, inR n 0 (x.size - 1) = true) (fun k _ _ => [(57, intA1 k)]) (fun _ _ _ => σ ++ [.dead, .cells 1 (ls.map rows1)]) () [] (fun l hl => .inl hl) rfl (ALe_of ?_) ?_ ?_
    · simp -implicitDefEqProofs only [go_sem]
    · rintro k r _ τ hk0 hk1 hH L hL
      have hmem := at0_mem ls hk0 hk1
      obtain ⟨l, hl⟩ : ∃ l, at0 ls k = l := ⟨_, rfl⟩
      rw [hl] at hH hmem
      simp -implicitDefEqProofs only [go_sem]
      (repeat' (first|(refine g_s fun K hK=>?_)|(refine g_b ?_)|(refine g_k ?_;simp only[thenQ,blockQ])|(refine g_c (fun h=>?_) (fun h=>?_)<;>(try simp only[go_sem] at h)<;>(try exact g_f))|(refine g_g ?_;(try simp -implicitDefEqProofs only[go_sem,hl]))|(with_reducible refine hK _ _ ?_;clear hK K)|(with_reducible refine And.intro ?_ ?_;· exact g_x)|fail))
      refine AWP_each l (fun _ r' _ => ∀ w ∈ l, w ∈ r' ∨ ∀ n ∈ w, inR n 0 (x.size - 1) = true) (fun k' _ _ => [(63, intA1 k')]) (fun _ _ _ => σ ++ [.dead, .cells 1 (ls.map rows1)]) () [] (fun w hw => .inl hw) rfl (ALe_of ?_) ?_ ?_
      · simp -implicitDefEqProofs only [go_sem]
      · rintro k' r' _ τ' hk0' hk1' hH' L' hL'
        have hmem' := at0_mem l hk0' hk1'
        have h24 := hlsl l hmem
        obtain ⟨w, hw⟩ : ∃ w, at0 l k' = w := ⟨_, rfl⟩
        rw [hw] at hH' hmem'
        have hwl := hgood w (hlsm l hmem w hmem')
        simp -implicitDefEqProofs only [go_sem]
        (repeat' (first|(refine g_s fun K hK=>?_)|(refine g_b ?_)|(refine g_k ?_;simp only[thenQ,blockQ])|(refine g_c (fun h=>?_) (fun h=>?_)<;>(try simp only[go_sem] at h)<;>(try exact g_f))|(refine g_g ?_;(try simp -implicitDefEqProofs only[go_sem,hw]))|(with_reducible refine hK _ _ ?_;clear hK K)|(with_reducible refine And.intro ?_ ?_;· exact g_x)|fail))
        refine AWP_each w (fun _ r9 _ => ∀ n ∈ w, n ∈ r9 ∨ inR n 0 (x.size - 1) = true) (fun k9 _ _ => [(69, intA1 k9)]) (fun _ _ _ => σ ++ [.dead, .cells 1 (ls.map rows1)]) () [] (fun n hn => .inl hn) rfl (ALe_of ?_) ?_ ?_
        · simp -implicitDefEqProofs only [go_sem]
        · rintro k9 r9 _ τ9 hk09 hk19 hH9 L9 hL9
          have hmem9 := at0_mem w hk09 hk19
          simp -implicitDefEqProofs only [go_sem]
          (repeat' (first|(refine g_s fun K hK=>?_)|(refine g_b ?_)|(refine g_k ?_;simp only[thenQ,blockQ])|(refine g_c (fun h=>?_) (fun h=>?_)<;>(try simp only[go_sem] at h)<;>(try exact g_f))|((first|refine g_t ?_|refine g_g ?_|refine (is_calls x _ (by unfold I64; omega) _).use ?_);(try simp -implicitDefEqProofs only[go_sem]))|(with_reducible refine hK _ _ ?_;clear hK K)|(with_reducible refine And.intro ?_ ?_;· exact g_x)|fail))
          · exact CutQ_c rfl (by rw [checkA_val hsz he8 hbl hgood (hlsm l hmem _ hmem') hmem9 (not_inR.1 (by rw [h]; rfl))])
          · refine hL9 () [] _ _ (fun n hn => ?_) (ALe_of ?_) rfl
            · rcases hH9 n hn with g | g
              · rcases List.mem_cons.1 g with rfl | g
                · exact .inr h
                · exact .inl g
              · exact .inr g
            · simp -implicitDefEqProofs only [go_sem]
        · rintro k9 _ τ9 hk9 hH9 L9
          simp -implicitDefEqProofs only [go_sem]
          (repeat' (first|(refine g_s fun K hK=>?_)|(refine g_e ?_;simp only[thenQ,blockQ,↓reduceIte,Nat.reduceEqDiff])|(refine g_c (fun h=>?_) (fun h=>?_)<;>(try simp only[go_sem] at h)<;>(try exact g_f))|(refine g_g ?_;(try simp -implicitDefEqProofs only[go_sem]))|(with_reducible refine hK _ _ ?_;clear hK K)|(clear hK K;first|(with_reducible refine hK _ _ ?_;clear hK K)|(clear hK K;with_reducible refine hK _ _ ?_;clear hK K)|(clear hK K;clear hK K;with_reducible refine hK _ _ ?_;clear hK K))|(with_reducible refine And.intro ?_ ?_;· exact g_x)|fail))
          refine hL' () [] _ _ (fun w' hw' => ?_) (ALe_of ?_) rfl
          · rcases hH' w' hw' with g | g
            · rcases List.mem_cons.1 g with rfl | g
              · exact .inr fun n hn => (hH9 n hn).resolve_left (by simp)
              · exact .inl g
            · exact .inr g
          · simp -implicitDefEqProofs only [go_sem]
      · rintro k' _ τ' hk' hH' L'
        simp -implicitDefEqProofs only [go_sem]
        (repeat' (first|(refine g_s fun K hK=>?_)|(refine g_e ?_;simp only[thenQ,blockQ,↓reduceIte,Nat.reduceEqDiff])|(refine g_c (fun h=>?_) (fun h=>?_)<;>(try simp only[go_sem] at h)<;>(try exact g_f))|(refine g_g ?_;(try simp -implicitDefEqProofs only[go_sem]))|(with_reducible refine hK _ _ ?_;clear hK K)|(clear hK K;first|(with_reducible refine hK _ _ ?_;clear hK K)|(clear hK K;with_reducible refine hK _ _ ?_;clear hK K)|(clear hK K;clear hK K;with_reducible refine hK _ _ ?_;clear hK K))|(with_reducible refine And.intro ?_ ?_;· exact g_x)|fail))
        refine hL () [] _ _ (fun l' hl' => ?_) (ALe_of ?_) rfl
        · rcases hH l' hl' with g | g
          · rcases List.mem_cons.1 g with rfl | g
            · exact .inr fun w hw => (hH' w hw).resolve_left (by simp)
            · exact .inl g
          · exact .inr g
        · simp -implicitDefEqProofs only [go_sem]
    · rintro k _ τ hk hH L
      have hright : Right x := ⟨hsz.1, hsz.2, he8, hbl, hgood, fun r hr n hn => by
        subst hls
        rcases List.mem_append.1 hr with g | g
        · exact inR_iff.1 ((hH x.best (by simp)).resolve_left (by simp) r g n hn)
        · exact inR_iff.1 ((hH x.edges (by simp)).resolve_left (by simp) r g n hn)⟩
      simp -implicitDefEqProofs only [go_sem]
      (repeat' (first|(refine g_s fun K hK=>?_)|(refine g_e ?_;simp only[thenQ,blockQ,↓reduceIte,Nat.reduceEqDiff])|(refine g_c (fun h=>?_) (fun h=>?_)<;>(try simp only[go_sem] at h)<;>(try exact g_f))|(refine g_g ?_;(try simp -implicitDefEqProofs only[go_sem]))|(with_reducible refine hK _ _ ?_;clear hK K)|fail))
      refine hJ _ _ ?_
      clear hJ
      (repeat' (first|(refine g_s fun K hK=>?_)|((first|refine g_t ?_|refine g_g ?_);(try simp -implicitDefEqProofs only[go_sem]))|(with_reducible refine hK _ _ ?_;clear hK K)|fail))
      exact CutQ_c rfl (by rw [right_iff.2 hright])
end Go.Proofs.YtephecognbbaoabGreat
namespace Go.Proofs.YtephecognbbaoabGreat
/-- What is known of an algebra that came in. -/
structure AlgOk (x : Alg) : Prop where
  hb : x.best.length ≤ 5864062014634
  he : x.edges.length ≤ 5864062014634
  hs : I64 x.size
  hrow : ∀ r ∈ x.best ++ x.edges, r.length ≤ 17592186044000
theorem broken_calls (x : Alg) (laws : List Int) (hr : Right x) (hl : laws.length ≤ 100) (hlaw : ∀ law ∈ laws, 1 ≤ law ∧ law ≤ 9) (σ : Store) :
    ACalls Tryz.prog 73 [.agg (algC x), intsA laws] σ fun r σ' => σ' = σ ∧ r = .agg (brkC (brokenA x laws)) :=
  broken_calls' x laws hr hl hlaw (fun law h σ => cases_calls x law (hlaw law h) σ) σ
theorem allLaws_calls (σ : Store) : ACalls Tryz.prog 54 [] σ fun r σ' => σ' = σ ∧ r = intsA seven := by
  refine ACalls.cutX ?_
  refine ACalls_of_awp Tryz.func54 rfl Tryz.results54 ?_
  simp only [List.length_cons, List.length_nil, Tryz.ntmps54, Nat.reduceAdd, Nat.reduceSub, enterA]
  (repeat' (first|(refine g_s fun K hK=>?_)|((first|refine g_t ?_|refine g_G ?_);(try simp -implicitDefEqProofs only[go_sem]))|(with_reducible refine hK _ _ ?_;clear hK K)|fail))
  refine CutQ_w (τ := []) (by simp) (Bd.ints seven) (.eq rfl)
def hopsX : Alg := ⟨3, [[0, 0, 0], [0, 1, 1], [0, 1, 2]], [[1, 2, 2]]⟩
def hopsY : Alg := ⟨3, [[0, 0, 0], [0, 1, 1], [0, 1, 2]], [[0, 1, 2]]⟩
theorem algC_bd {n : Nat} (x : Alg) : Bd n (.agg (algC x)) := .aggL (.cons (.c _) (.cons (.rows _) (.cons (.rows _) .nil)))
theorem hops_calls (σ : Store) : ACalls Tryz.prog 64 [] σ fun r σ' => σ' = σ ∧ r = .agg (algC hopsX) := by
  refine ACalls.cutX ?_
  refine ACalls_of_awp Tryz.func64 rfl Tryz.results64 ?_
  simp only [List.length_cons, List.length_nil, Tryz.ntmps64, Nat.reduceAdd, Nat.reduceSub, enterA]
  (repeat' (first|(refine g_s fun K hK=>?_)|((first|refine g_t ?_|refine g_G ?_);(try simp -implicitDefEqProofs only[go_sem]))|(with_reducible refine hK _ _ ?_;clear hK K)|fail))
  refine CutQ_w rfl (algC_bd hopsX) (.eq rfl)
end Go.Proofs.YtephecognbbaoabGreat
