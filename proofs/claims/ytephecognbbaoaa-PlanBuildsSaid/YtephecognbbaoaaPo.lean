/- Routes of a node, in plain Lean: whatever the order of links. -/
import Derived.Test.YtephecognbbaoaaLo
/- Nets of nodes, in plain Lean: their form. -/
namespace Go.Proofs.Ytephecognbbaoaa
open Go
set_option linter.all false

structure Alg where
  size : Int
  best : List (List Int)
  edges : List (List Int)
deriving DecidableEq

structure Brk where
  law : Int
  a : Int
  b : Int
  c : Int
  edge : Int
deriving DecidableEq

def at2 (l : List (List Int)) (i j : Int) : Int := at0 (at0 l i) j
def inR (n lo hi : Int) : Bool := decide (lo ≤ n) && decide (n ≤ hi)
theorem inR_iff {n lo hi : Int} : inR n lo hi = true ↔ lo ≤ n ∧ n ≤ hi := by simp [inR]
theorem not_inR {n lo hi : Int} : (!inR n lo hi) = true ↔ n < lo ∨ hi < n := by simp only [Bool.not_eq_true', ← Bool.not_eq_true, inR_iff]; omega

def checkA (x : Alg) : Int :=
  if !inR x.size 2 24 then 3
  else if 8 < x.edges.length then 2
  else if (x.best.length : Int) ≠ x.size then 1
  else if (x.best ++ x.edges).any (fun r => decide ((r.length : Int) ≠ x.size)) then 1
  else if (x.best ++ x.edges).any (fun r => r.any fun n => !inR n 0 (x.size - 1)) then 5
  else 0

structure Right (x : Alg) : Prop where
  s2 : 2 ≤ x.size
  s24 : x.size ≤ 24
  e8 : x.edges.length ≤ 8
  bl : (x.best.length : Int) = x.size
  row : ∀ r ∈ x.best ++ x.edges, (r.length : Int) = x.size
  val : ∀ r ∈ x.best ++ x.edges, ∀ n ∈ r, 0 ≤ n ∧ n ≤ x.size - 1

theorem right_iff {x : Alg} : checkA x = 0 ↔ Right x := by
  unfold checkA
  constructor
  · intro h
    split at h
    · cases h
    split at h
    · cases h
    split at h
    · cases h
    split at h
    · cases h
    split at h
    · cases h
    rename_i h1 h2 h3 h4 h5
    have h1' : 2 ≤ x.size ∧ x.size ≤ 24 := inR_iff.1 (by simpa using h1)
    refine ⟨h1'.1, h1'.2, by omega, by omega, fun r hr => ?_, fun r hr n hn => ?_⟩
    · have h4' : ∀ r ∈ x.best ++ x.edges, ¬ ((r.length : Int) ≠ x.size) := by
        intro r hr hne
        exact h4 (List.any_eq_true.2 ⟨r, hr, by simpa using hne⟩)
      have := h4' r hr
      omega
    · apply Classical.byContradiction
      intro hc
      refine h5 (List.any_eq_true.2 ⟨r, hr, List.any_eq_true.2 ⟨n, hn, not_inR.2 (by omega)⟩⟩)
  · intro h
    have k1 : ¬ (!inR x.size 2 24) = true := by rw [not_inR]; have := h.s2; have := h.s24; omega
    have k4 : ¬ ((x.best ++ x.edges).any (fun r => decide ((r.length : Int) ≠ x.size))) = true := by
      intro hc
      obtain ⟨r, hr, hn⟩ := List.any_eq_true.1 hc
      exact (of_decide_eq_true hn) (h.row r hr)
    have k5 : ¬ ((x.best ++ x.edges).any (fun r => r.any fun n => !inR n 0 (x.size - 1))) = true := by
      intro hc
      obtain ⟨r, hr, hn⟩ := List.any_eq_true.1 hc
      obtain ⟨n, hn, hb⟩ := List.any_eq_true.1 hn
      have := h.val r hr n hn
      rw [not_inR] at hb
      omega
    rw [if_neg k1, if_neg (by have := h.e8; omega), if_neg (by have := h.bl; omega), if_neg k4, if_neg k5]

section
variable {x : Alg}
theorem Right.best_row (h : Right x) {i : Int} (h0 : 0 ≤ i) (h1 : i < x.size) : at0 x.best i ∈ x.best := at0_mem _ h0 (by have := h.bl; omega)
theorem Right.best_len (h : Right x) {i : Int} (h0 : 0 ≤ i) (h1 : i < x.size) : ((at0 x.best i).length : Int) = x.size := h.row _ (List.mem_append_left _ (h.best_row h0 h1))
theorem Right.best_in (h : Right x) {i j : Int} (h0 : 0 ≤ i) (h1 : i < x.size) (h2 : 0 ≤ j) (h3 : j < x.size) : 0 ≤ at2 x.best i j ∧ at2 x.best i j < x.size := by
  have := h.val _ (List.mem_append_left _ (h.best_row h0 h1)) (at2 x.best i j) (at0_mem _ h2 (by have := h.best_len h0 h1; omega))
  omega
theorem Right.edge_row (h : Right x) {i : Int} (h0 : 0 ≤ i) (h1 : i < x.edges.length) : at0 x.edges i ∈ x.edges := at0_mem _ h0 h1
theorem Right.edge_len (h : Right x) {i : Int} (h0 : 0 ≤ i) (h1 : i < x.edges.length) : ((at0 x.edges i).length : Int) = x.size := h.row _ (List.mem_append_right _ (h.edge_row h0 h1))
theorem Right.edge_in (h : Right x) {i j : Int} (h0 : 0 ≤ i) (h1 : i < x.edges.length) (h2 : 0 ≤ j) (h3 : j < x.size) : 0 ≤ at2 x.edges i j ∧ at2 x.edges i j < x.size := by
  have := h.val _ (List.mem_append_right _ (h.edge_row h0 h1)) (at2 x.edges i j) (at0_mem _ h2 (by have := h.edge_len h0 h1; omega))
  omega
end

/-- How many routes a law names, and whether an edge. -/
def manyA (law : Int) : Int := if law = 1 ∨ law = 3 then 2 else if law = 2 then 3 else if law = 4 ∨ law = 5 then 1 else if law = 6 then 0 else if law = 7 ∨ law = 8 then 1 else 2
def edgeA (law : Int) : Bool := !(decide (law = 1) || decide (law = 2) || decide (law = 3) || decide (law = 4) || decide (law = 5))

theorem many_bd (law : Int) : 0 ≤ manyA law ∧ manyA law ≤ 3 := by
  unfold manyA
  repeat' split
  all_goals omega

def holdsA (x : Alg) (b : Brk) : Bool :=
  if b.law = 1 then decide (at2 x.best b.a b.b = at2 x.best b.b b.a)
  else if b.law = 2 then decide (at2 x.best b.a (at2 x.best b.b b.c) = at2 x.best (at2 x.best b.a b.b) b.c)
  else if b.law = 3 then decide (at2 x.best b.a b.b = b.a) || decide (at2 x.best b.a b.b = b.b)
  else if b.law = 4 then decide (at2 x.best 0 b.a = 0)
  else if b.law = 5 then decide (at2 x.best (x.size - 1) b.a = b.a)
  else if b.law = 6 then decide (at2 x.edges b.edge (x.size - 1) = x.size - 1)
  else if b.law = 7 then decide (at2 x.best b.a (at2 x.edges b.edge b.a) = b.a)
  else if b.law = 8 then decide (b.a = x.size - 1) || (decide (at2 x.best b.a (at2 x.edges b.edge b.a) = b.a) && !decide (at2 x.edges b.edge b.a = b.a))
  else decide (at2 x.edges b.edge (at2 x.best b.a b.b) = at2 x.best (at2 x.edges b.edge b.a) (at2 x.edges b.edge b.b))

def upN (named : Bool) (n : Int) : Int := if named then n else 1

/-- Does a number stand where it may: below n, if it is named; else it is 0. -/
def okAt (named : Bool) (v n : Int) : Bool := if named then inR v 0 (n - 1) else decide (v = 0)

theorem okAt_iff {named : Bool} {v n : Int} : okAt named v n = true ↔ 0 ≤ v ∧ v < upN named n := by
  cases named
  · simp [okAt, upN]; omega
  · simp only [okAt, upN, if_true, inR_iff]; omega

def checkB (x : Alg) (b : Brk) : Int :=
  if !inR b.law 1 9 then 7
  else if !(okAt (decide (0 < manyA b.law)) b.a x.size && okAt (decide (1 < manyA b.law)) b.b x.size && okAt (decide (2 < manyA b.law)) b.c x.size) then 3
  else if !okAt (edgeA b.law) b.edge x.edges.length then 3
  else 0

def ints (n : Int) : List Int := (List.range n.toNat).map fun (i : Nat) => (i : Int)
theorem mem_ints {n v : Int} : v ∈ ints n ↔ 0 ≤ v ∧ v < n := by
  simp only [ints, List.mem_map, List.mem_range]
  constructor
  · rintro ⟨i, hi, rfl⟩; omega
  · rintro ⟨h0, h1⟩; exact ⟨v.toNat, by omega, by omega⟩
theorem ints_length (n : Int) : (ints n).length = n.toNat := by simp [ints]

/-- All that a law is asked of, in order. -/
def casesA (x : Alg) (law : Int) : List Brk :=
  (ints (upN (decide (0 < manyA law)) x.size)).flatMap fun a => (ints (upN (decide (1 < manyA law)) x.size)).flatMap fun b => (ints (upN (decide (2 < manyA law)) x.size)).flatMap fun c =>
    (ints (upN (edgeA law) x.edges.length)).map fun e => ⟨law, a, b, c, e⟩

theorem mem_cases {x : Alg} {law : Int} {b : Brk} : b ∈ casesA x law ↔ b.law = law ∧ (0 ≤ b.a ∧ b.a < upN (decide (0 < manyA law)) x.size) ∧ (0 ≤ b.b ∧ b.b < upN (decide (1 < manyA law)) x.size) ∧
    (0 ≤ b.c ∧ b.c < upN (decide (2 < manyA law)) x.size) ∧ (0 ≤ b.edge ∧ b.edge < upN (edgeA law) x.edges.length) := by
  simp only [casesA, List.mem_flatMap, List.mem_map, mem_ints]
  constructor
  · rintro ⟨p, hp, q, hq, r, hr, e, he, rfl⟩
    exact ⟨rfl, hp, hq, hr, he⟩
  · rintro ⟨rfl, hp, hq, hr, he⟩
    exact ⟨_, hp, _, hq, _, hr, _, he, rfl⟩

theorem checkB_iff {x : Alg} {b : Brk} : checkB x b = 0 ↔ (1 ≤ b.law ∧ b.law ≤ 9) ∧ b ∈ casesA x b.law := by
  rw [mem_cases]
  unfold checkB
  by_cases h1 : inR b.law 1 9 = true
  · rw [if_neg (by simp [h1])]
    have h1' := inR_iff.1 h1
    by_cases h2 : (okAt (decide (0 < manyA b.law)) b.a x.size && okAt (decide (1 < manyA b.law)) b.b x.size && okAt (decide (2 < manyA b.law)) b.c x.size) = true
    · rw [if_neg (by simp [h2])]
      simp only [Bool.and_eq_true, okAt_iff] at h2
      by_cases h3 : okAt (edgeA b.law) b.edge x.edges.length = true
      · rw [if_neg (by simp [h3])]
        rw [okAt_iff] at h3
        exact ⟨fun _ => ⟨h1', rfl, h2.1.1, h2.1.2, h2.2, h3⟩, fun _ => rfl⟩
      · rw [if_pos (by simp [h3])]
        rw [okAt_iff] at h3
        exact ⟨fun h => (by cases h), fun h => absurd h.2.2.2.2.2 h3⟩
    · rw [if_pos (by rw [Bool.not_eq_true', ← Bool.not_eq_true]; exact h2)]
      simp only [Bool.and_eq_true, okAt_iff] at h2
      exact ⟨fun h => (by cases h), fun h => absurd ⟨⟨h.2.2.1, h.2.2.2.1⟩, h.2.2.2.2.1⟩ h2⟩
  · rw [if_pos (by simp [h1])]
    exact ⟨fun h => (by cases h), fun h => absurd (inR_iff.2 h.1) h1⟩

def zeroB : Brk := ⟨0, 0, 0, 0, 0⟩

def firstB (x : Alg) (l : List Brk) : Brk := (l.find? fun b => !holdsA x b).getD zeroB

def brokenA (x : Alg) (laws : List Int) : Brk := firstB x (laws.flatMap (casesA x))

theorem firstB_cons (x : Alg) (b : Brk) (l : List Brk) : firstB x (b :: l) = if holdsA x b then firstB x l else b := by
  unfold firstB
  rw [List.find?_cons]
  cases holdsA x b <;> rfl

theorem firstB_skip (x : Alg) : ∀ (l r : List Brk), (∀ b ∈ l, holdsA x b = true) → firstB x (l ++ r) = firstB x r
  | [], r, _ => rfl
  | b :: l, r, h => by
    rw [List.cons_append, firstB_cons, if_pos (h b (by simp))]
    exact firstB_skip x l r fun b hb => h b (by simp [hb])

theorem brokenA_some {x : Alg} {laws : List Int} (h : (brokenA x laws).law ≠ 0) : ∃ law ∈ laws, brokenA x laws ∈ casesA x law ∧ (brokenA x laws).law = law ∧ holdsA x (brokenA x laws) = false := by
  unfold brokenA firstB at *
  cases hf : (laws.flatMap (casesA x)).find? fun b => !holdsA x b with
  | none => rw [hf] at h; exact absurd rfl h
  | some b =>
    rw [hf] at h
    have h1 := List.find?_some hf
    have h2 := List.mem_of_find?_eq_some hf
    obtain ⟨law, hl, hb⟩ := List.mem_flatMap.1 h2
    exact ⟨law, hl, hb, (mem_cases.1 hb).1, by simpa using h1⟩

theorem brokenA_none {x : Alg} {laws : List Int} (h0 : ∀ l ∈ laws, l ≠ 0) (h : (brokenA x laws).law = 0) : ∀ law ∈ laws, ∀ b ∈ casesA x law, holdsA x b = true := by
  unfold brokenA firstB at *
  cases hf : (laws.flatMap (casesA x)).find? fun b => !holdsA x b with
  | none =>
    intro law hl b hb
    have := List.find?_eq_none.1 hf b (List.mem_flatMap.2 ⟨law, hl, hb⟩)
    simpa using this
  | some b =>
    rw [hf] at h
    have h2 := List.mem_of_find?_eq_some hf
    obtain ⟨law, hl, hb⟩ := List.mem_flatMap.1 h2
    exact absurd ((mem_cases.1 hb).1.symm.trans h) (h0 law hl)

/-- What 'Laws' and its like answer. -/
def lawsA (x : Alg) (laws : List Int) : Brk × Int := if checkA x ≠ 0 then (zeroB, checkA x) else (brokenA x laws, 0)

/-- What 'Holds' answers. -/
def asksA (x : Alg) (b : Brk) : Bool × Int := if checkA x ≠ 0 then (false, checkA x) else if checkB x b ≠ 0 then (false, checkB x b) else (holdsA x b, 0)

theorem laws_bad {x : Alg} {laws : List Int} (h : (lawsA x laws).2 ≠ 0) : (lawsA x laws).1.law = 0 := by
  unfold lawsA at *
  split
  · rfl
  · rename_i h'; rw [if_neg h'] at h; exact absurd rfl h

theorem laws_broken {x : Alg} {laws : List Int} (hl : ∀ l ∈ laws, 1 ≤ l ∧ l ≤ 7) (h : (lawsA x laws).2 = 0) (hb : (lawsA x laws).1.law ≠ 0) :
    asksA x (lawsA x laws).1 = (false, 0) ∧ (lawsA x laws).1.law ≤ 7 := by
  unfold lawsA at *
  split at h
  · rename_i h'; exact absurd h h'
  · rename_i h'
    rw [if_neg h'] at hb ⊢
    obtain ⟨law, h1, h2, h3, h4⟩ := brokenA_some hb
    have := hl law h1
    simp only at h2 h3 h4 ⊢
    refine ⟨?_, by omega⟩
    unfold asksA
    rw [if_neg h', if_neg, h4]
    rw [Decidable.not_not, checkB_iff, h3]
    exact ⟨by omega, h2⟩

theorem laws_hold {x : Alg} {laws : List Int} (hl : ∀ l : Int, 1 ≤ l → l ≤ 7 → l ∈ laws) (h0 : ∀ l ∈ laws, l ≠ 0) (h : (lawsA x laws).2 = 0) (hb : (lawsA x laws).1.law = 0) (b : Brk) :
    (asksA x b).2 ≠ 0 ∨ 7 < b.law ∨ (asksA x b).1 = true := by
  unfold lawsA at *
  split at h
  · rename_i h'; exact absurd h h'
  · rename_i h'
    rw [if_neg h'] at hb
    unfold asksA
    rw [if_neg h']
    split
    · rename_i h2; exact .inl h2
    · rename_i h2
      rw [Decidable.not_not, checkB_iff] at h2
      rcases Int.lt_or_le 7 b.law with h3 | h3
      · exact .inr (.inl h3)
      · exact .inr (.inr (brokenA_none h0 hb b.law (hl _ h2.1.1 h3) b h2.2))
end Go.Proofs.Ytephecognbbaoaa
namespace Go.Proofs.Ytephecognbbaoaa
open Go
set_option linter.all false

theorem range_flat {β : Type} (q : Nat) (hq : 0 < q) (f : Nat → Nat → List β) : ∀ p : Nat, (List.range p).flatMap (fun a => (List.range q).flatMap (f a)) = (List.range (p * q)).flatMap fun n => f (n / q) (n % q)
  | 0 => by simp
  | p + 1 => by
    rw [List.range_succ, List.flatMap_append, range_flat q hq f p, Nat.add_mul, Nat.one_mul, List.range_add, List.flatMap_append, List.flatMap_cons, List.flatMap_nil, List.append_nil]
    congr 1
    rw [List.flatMap_map]
    apply congrArg List.flatten
    apply List.map_congr_left
    intro i hi
    have hi := List.mem_range.1 hi
    have e1 : (p * q + i) / q = p := by
      rw [Nat.mul_comm, Nat.mul_add_div hq, Nat.div_eq_of_lt hi, Nat.add_zero]
    have e2 : (p * q + i) % q = i := by
      rw [Nat.mul_comm, Nat.mul_add_mod, Nat.mod_eq_of_lt hi]
    simp only [e1, e2]

theorem ints_flat {β : Type} {p q : Int} (hp : 0 ≤ p) (hq : 0 < q) (f : Int → Int → List β) : (ints p).flatMap (fun a => (ints q).flatMap (f a)) = (ints (p * q)).flatMap fun n => f (n / q) (n % q) := by
  obtain ⟨p', rfl⟩ := Int.eq_ofNat_of_zero_le hp
  obtain ⟨q', rfl⟩ := Int.eq_ofNat_of_zero_le (Int.le_of_lt hq)
  have hq' : 0 < q' := by omega
  simp only [ints, List.flatMap_map, Int.toNat_natCast]
  rw [show ((p' : Int) * (q' : Int)).toNat = p' * q' by rw [← Int.natCast_mul, Int.toNat_natCast]]
  have h := range_flat q' hq' (fun a b => f (a : Int) (b : Int)) p'
  simp only [Int.natCast_ediv, Int.natCast_emod] at h ⊢
  exact h

/-- How many cases, by routes. -/
def pw (s m : Int) : Int := if m = 0 then 1 else if m = 1 then s else if m = 2 then s * s else s * s * s

def dg0 (s m n : Int) : Int := if m = 0 then 0 else if m = 1 then n % s else if m = 2 then n / s % s else n / s / s % s
def dg1 (s m n : Int) : Int := if m = 2 then n % s else if m = 3 then n / s % s else 0
def dg2 (s m n : Int) : Int := if m = 3 then n % s else 0

def digitC (x : Alg) (law n : Int) : List Brk := (ints (upN (edgeA law) x.edges.length)).map fun e => ⟨law, dg0 x.size (manyA law) n, dg1 x.size (manyA law) n, dg2 x.size (manyA law) n, e⟩

theorem flat_congr {α β : Type} {l : List α} {f g : α → List β} (h : ∀ a ∈ l, f a = g a) : l.flatMap f = l.flatMap g := by
  rw [List.flatMap_def, List.flatMap_def, List.map_congr_left h]

theorem ints_one : ints 1 = [0] := rfl

theorem div_lt {n p q : Int} (hq : 0 < q) (h : n < p * q) : n / q < p := Int.ediv_lt_of_lt_mul hq h

theorem cases_flat {x : Alg} (h : 2 ≤ x.size) (law : Int) : casesA x law = (ints (pw x.size (manyA law))).flatMap (digitC x law) := by
  have hm := many_bd law
  unfold casesA digitC pw
  have : manyA law = 0 ∨ manyA law = 1 ∨ manyA law = 2 ∨ manyA law = 3 := by omega
  rcases this with e | e | e | e <;> simp only [e, upN, dg0, dg1, dg2]
  · simp [ints_one]
  · simp only [show decide ((0 : Int) < 1) = true by decide, show decide ((1 : Int) < 1) = false by decide, show decide ((2 : Int) < 1) = false by decide, if_true, if_false, Bool.false_eq_true, ints_one, List.flatMap_cons, List.flatMap_nil, List.append_nil, Int.reduceEq]
    refine flat_congr fun n hn => ?_
    have := mem_ints.1 hn
    rw [Int.emod_eq_of_lt this.1 this.2]
  · simp only [show decide ((0 : Int) < 2) = true by decide, show decide ((1 : Int) < 2) = true by decide, show decide ((2 : Int) < 2) = false by decide, if_true, if_false, Bool.false_eq_true, ints_one, List.flatMap_cons, List.flatMap_nil, List.append_nil, Int.reduceEq]
    rw [ints_flat (by omega) (by omega) (fun a b => (ints (if edgeA law = true then (x.edges.length : Int) else 1)).map fun e => (⟨law, a, b, 0, e⟩ : Brk))]
    refine flat_congr fun n hn => ?_
    have := mem_ints.1 hn
    rw [Int.emod_eq_of_lt (a := n / x.size) (Int.ediv_nonneg this.1 (by omega)) (div_lt (by omega) this.2)]
  · simp only [show decide ((0 : Int) < 3) = true by decide, show decide ((1 : Int) < 3) = true by decide, show decide ((2 : Int) < 3) = true by decide, if_true, if_false, Bool.false_eq_true, Int.reduceEq]
    rw [ints_flat (by omega) (by omega) (fun a b => (ints x.size).flatMap fun c => (ints (if edgeA law = true then (x.edges.length : Int) else 1)).map fun e => (⟨law, a, b, c, e⟩ : Brk))]
    rw [ints_flat (p := x.size * x.size) (Int.mul_nonneg (by omega) (by omega)) (by omega) (fun n c => (ints (if edgeA law = true then (x.edges.length : Int) else 1)).map fun e => (⟨law, n / x.size, n % x.size, c, e⟩ : Brk))]
    refine flat_congr fun n hn => ?_
    have := mem_ints.1 hn
    rw [Int.emod_eq_of_lt (a := n / x.size / x.size) (Int.ediv_nonneg (Int.ediv_nonneg this.1 (by omega)) (by omega)) (div_lt (by omega) (div_lt (by omega) this.2))]

theorem pw_pos {s m : Int} (h : 2 ≤ s) : 1 ≤ pw s m := by
  have h2 : s * 1 ≤ s * s := Int.mul_le_mul_of_nonneg_left (by omega) (by omega)
  have h3 : s * s * 1 ≤ s * s * s := Int.mul_le_mul_of_nonneg_left (by omega) (Int.mul_nonneg (by omega) (by omega))
  unfold pw
  repeat' split
  all_goals omega

theorem pw_le {s m : Int} (h : 2 ≤ s ∧ s ≤ 24) : pw s m ≤ 13824 := by
  have h2 : s * s ≤ 24 * s := Int.mul_le_mul_of_nonneg_right (by omega) (by omega)
  have h3 : s * s * s ≤ 576 * s := Int.mul_le_mul_of_nonneg_right (by omega) (by omega)
  unfold pw
  repeat' split
  all_goals omega
end Go.Proofs.Ytephecognbbaoaa
namespace Go.Proofs.Ytephecognbbaoaa
open Go
set_option linter.all false

structure Lnk where
  fr : Int
  dst : Int
  edge : Int
deriving DecidableEq, Inhabited

structure Net where
  alg : Alg
  nodes : Int
  links : List Lnk
deriving DecidableEq

def seven : List Int := [1, 2, 3, 4, 5, 6, 7]

/-- Two links between the same nodes. -/
def Lnk.like (l l' : Lnk) : Bool := decide (l'.fr = l.fr) && decide (l'.dst = l.dst)

def lnkErr (n : Net) (pre : List Lnk) (l : Lnk) : Int :=
  if !(inR l.fr 0 (n.nodes - 1) && inR l.dst 0 (n.nodes - 1) && inR l.edge 0 (n.alg.edges.length - 1)) then 5
  else if l.fr = l.dst then 1
  else if pre.any l.like then 6
  else 0

/-- What is wrong with links, behind some that are right. -/
def linksErr (n : Net) : List Lnk → List Lnk → Int
  | _, [] => 0
  | pre, l :: r => if lnkErr n pre l ≠ 0 then lnkErr n pre l else linksErr n (pre ++ [l]) r

def checkN (n : Net) : Int :=
  if checkA n.alg ≠ 0 then checkA n.alg
  else if (brokenA n.alg seven).law ≠ 0 then 4
  else if !inR n.nodes 1 6 then 3
  else linksErr n [] n.links

theorem linksErr_bad {n : Net} {pre r : List Lnk} {l : Lnk} (h : lnkErr n pre l ≠ 0) : linksErr n pre (l :: r) = lnkErr n pre l := by rw [linksErr, if_pos h]
theorem linksErr_good {n : Net} {pre r : List Lnk} {l : Lnk} (h : lnkErr n pre l = 0) : linksErr n pre (l :: r) = linksErr n (pre ++ [l]) r := by rw [linksErr, if_neg (by omega)]

structure LnkIn (n : Net) (l : Lnk) : Prop where
  f0 : 0 ≤ l.fr
  f1 : l.fr < n.nodes
  d0 : 0 ≤ l.dst
  d1 : l.dst < n.nodes
  e0 : 0 ≤ l.edge
  e1 : l.edge < n.alg.edges.length
  ne : l.fr ≠ l.dst

theorem lnkIn_of {n : Net} {pre : List Lnk} {l : Lnk} (h : lnkErr n pre l = 0) : LnkIn n l ∧ pre.any l.like = false := by
  unfold lnkErr at h
  split at h
  · cases h
  · rename_i h1
    split at h
    · cases h
    · rename_i h2
      split at h
      · cases h
      · rename_i h3
        simp only [Bool.not_eq_true', Bool.not_eq_false, Bool.and_eq_true, inR_iff] at h1
        exact ⟨⟨h1.1.1.1, by omega, h1.1.2.1, by omega, h1.2.1, by omega, h2⟩, by simpa using h3⟩

theorem linksErr_in {n : Net} : ∀ (r pre : List Lnk), linksErr n pre r = 0 → ∀ l ∈ r, LnkIn n l
  | [], _, _, l, hl => by cases hl
  | x :: r, pre, h, l, hl => by
    rw [linksErr] at h
    split at h
    · rename_i h1; exact absurd h h1
    · rename_i h1
      rcases List.mem_cons.1 hl with rfl | hl
      · exact (lnkIn_of (Decidable.not_not.1 h1)).1
      · exact linksErr_in r _ h l hl

/-- A net that passes. -/
structure NetIn (n : Net) : Prop where
  alg : Right n.alg
  law : (brokenA n.alg seven).law = 0
  n1 : 1 ≤ n.nodes
  n6 : n.nodes ≤ 6
  lnk : ∀ l ∈ n.links, LnkIn n l

theorem netIn_of {n : Net} (h : checkN n = 0) : NetIn n := by
  unfold checkN at h
  split at h
  · rename_i h1; exact absurd h h1
  · rename_i h1
    split at h
    · cases h
    · rename_i h2
      split at h
      · cases h
      · rename_i h3
        have h3' := inR_iff.1 (show inR n.nodes 1 6 = true by simpa using h3)
        exact ⟨right_iff.1 (Decidable.not_not.1 h1), Decidable.not_not.1 h2, h3'.1, h3'.2, linksErr_in _ _ h⟩

theorem broken_zero {x : Alg} (h : (brokenA x seven).law = 0) : brokenA x seven = zeroB := by
  have := brokenA_none (laws := seven) (by decide) h
  unfold brokenA firstB
  rw [List.find?_eq_none.2]
  · rfl
  · intro b hb
    obtain ⟨law, hl, hb⟩ := List.mem_flatMap.1 hb
    simp [this law hl b hb]

/-- Rows of routes: are there as many of as many; are all routes. -/
def rowsErr (n : Net) (x : List (List Int)) : Int :=
  if (x.length : Int) ≠ n.nodes ∨ x.any (fun r => decide ((r.length : Int) ≠ n.nodes)) = true then 1
  else if x.any (fun r => r.any fun v => !inR v 0 (n.alg.size - 1)) then 5
  else 0

def fitA (n : Net) (x : List (List Int)) : Int := if checkN n ≠ 0 then checkN n else rowsErr n x

structure RowsIn (n : Net) (x : List (List Int)) : Prop where
  len : (x.length : Int) = n.nodes
  row : ∀ r ∈ x, (r.length : Int) = n.nodes
  val : ∀ r ∈ x, ∀ v ∈ r, 0 ≤ v ∧ v < n.alg.size

theorem rowsIn_of {n : Net} {x : List (List Int)} (h : rowsErr n x = 0) : RowsIn n x := by
  unfold rowsErr at h
  split at h
  · cases h
  · rename_i h1
    split at h
    · cases h
    · rename_i h2
      rw [not_or] at h1
      refine ⟨Decidable.not_not.1 h1.1, fun r hr => ?_, fun r hr v hv => ?_⟩
      · apply Classical.byContradiction
        intro hc
        exact h1.2 (List.any_eq_true.2 ⟨r, hr, decide_eq_true hc⟩)
      · apply Classical.byContradiction
        intro hc
        exact h2 (List.any_eq_true.2 ⟨r, hr, List.any_eq_true.2 ⟨v, hv, not_inR.2 (by omega)⟩⟩)
end Go.Proofs.Ytephecognbbaoaa

namespace Go.Proofs.Ytephecognbbaoaa
open Go
set_option linter.all false

def edgeOf (n : Net) (i k : Int) : Int := ((n.links.find? fun l => decide (l.fr = i) && decide (l.dst = k)).map (·.edge)).getD (-1)

def bestA (n : Net) (a b : Int) : Int := at2 n.alg.best a b
def overA (n : Net) (e v : Int) : Int := at2 n.alg.edges e v

/-- By the nodes' order. -/
def routeR (n : Net) (i j : Int) (has : Int → Int) : Int :=
  (ints n.nodes).foldl (fun out k => if 0 ≤ edgeOf n i k then bestA n out (overA n (edgeOf n i k) (has k)) else out) (if i = j then 0 else n.alg.size - 1)

/-- By the links' order. -/
def routeL (n : Net) (i j : Int) (has : Int → Int) (ls : List Lnk) : Int :=
  ls.foldl (fun out l => if l.fr = i then bestA n out (overA n l.edge (has l.dst)) else out) (if i = j then 0 else n.alg.size - 1)

section
variable {n : Net}

theorem holds_seven (h : NetIn n) {b : Brk} (hb : b ∈ casesA n.alg b.law) (hl : b.law ∈ seven) : holdsA n.alg b = true :=
  brokenA_none (laws := seven) (by decide) h.law b.law hl b hb

theorem best_in (h : NetIn n) {a b : Int} (ha : 0 ≤ a ∧ a < n.alg.size) (hb : 0 ≤ b ∧ b < n.alg.size) : 0 ≤ bestA n a b ∧ bestA n a b < n.alg.size := h.alg.best_in ha.1 ha.2 hb.1 hb.2
theorem over_in (h : NetIn n) {e v : Int} (he : 0 ≤ e ∧ e < n.alg.edges.length) (hv : 0 ≤ v ∧ v < n.alg.size) : 0 ≤ overA n e v ∧ overA n e v < n.alg.size := h.alg.edge_in he.1 he.2 hv.1 hv.2

theorem best_comm (h : NetIn n) {a b : Int} (ha : 0 ≤ a ∧ a < n.alg.size) (hb : 0 ≤ b ∧ b < n.alg.size) : bestA n a b = bestA n b a := by
  have hm : (⟨1, a, b, 0, 0⟩ : Brk) ∈ casesA n.alg 1 := mem_cases.2 ⟨rfl, ha, hb, ⟨Int.le_refl _, show (0 : Int) < 1 by decide⟩, ⟨Int.le_refl _, show (0 : Int) < 1 by decide⟩⟩
  have := holds_seven h hm (show (1 : Int) ∈ seven by decide)
  exact of_decide_eq_true this

theorem best_assoc (h : NetIn n) {a b c : Int} (ha : 0 ≤ a ∧ a < n.alg.size) (hb : 0 ≤ b ∧ b < n.alg.size) (hc : 0 ≤ c ∧ c < n.alg.size) : bestA n a (bestA n b c) = bestA n (bestA n a b) c := by
  have hm : (⟨2, a, b, c, 0⟩ : Brk) ∈ casesA n.alg 2 := mem_cases.2 ⟨rfl, ha, hb, hc, ⟨Int.le_refl _, show (0 : Int) < 1 by decide⟩⟩
  have := holds_seven h hm (show (2 : Int) ∈ seven by decide)
  exact of_decide_eq_true this

/-- A list, sorted into classes. -/
theorem perm_classes (f : Lnk → Int) : ∀ (ks : List Int) (l : Lnk) (L : List Lnk), ks.Nodup → f l ∈ ks → (ks.flatMap fun k => (l :: L).filter fun x => decide (f x = k)).Perm (l :: ks.flatMap fun k => L.filter fun x => decide (f x = k))
  | [], l, L, _, h => by cases h
  | k :: ks, l, L, hd, h => by
    obtain ⟨hk, hd⟩ := List.nodup_cons.1 hd
    simp only [List.flatMap_cons]
    by_cases e : f l = k
    · have hrest : (ks.flatMap fun k' => (l :: L).filter fun x => decide (f x = k')) = ks.flatMap fun k' => L.filter fun x => decide (f x = k') := by
        refine flat_congr fun k' hk' => ?_
        rw [List.filter_cons_of_neg]
        simp only [decide_eq_true_eq]
        intro e2
        exact hk (by rw [← e, e2]; exact hk')
      rw [hrest, List.filter_cons_of_pos (by simpa using e)]
      exact List.Perm.refl _
    · rw [List.filter_cons_of_neg (by simpa using e)]
      have hmem : f l ∈ ks := by
        rcases List.mem_cons.1 h with h | h
        · exact absurd h e
        · exact h
      exact ((perm_classes f ks l L hd hmem).append_left _).trans List.perm_middle

theorem perm_all (f : Lnk → Int) (ks : List Int) (hd : ks.Nodup) : ∀ L : List Lnk, (∀ l ∈ L, f l ∈ ks) → (ks.flatMap fun k => L.filter fun x => decide (f x = k)).Perm L
  | [], _ => by
    have : (ks.flatMap fun k => ([] : List Lnk).filter fun x => decide (f x = k)) = [] := by simp
    rw [this]
  | l :: L, h => (perm_classes f ks l L hd (h l (by simp))).trans ((perm_all f ks hd L fun x hx => h x (by simp [hx])).cons l)

theorem ints_nodup (m : Int) : (ints m).Nodup := by
  unfold ints
  rw [List.nodup_iff_pairwise_ne, List.pairwise_map]
  exact List.nodup_range.imp fun h e => h (by omega)

/-- No two links between the same nodes. -/
def Apart : List Lnk → Prop
  | [] => True
  | l :: r => (∀ x ∈ r, x.like l = false) ∧ Apart r

theorem apart_snoc {l : Lnk} : ∀ {pre : List Lnk}, Apart pre → pre.any l.like = false → Apart (pre ++ [l])
  | [], _, _ => ⟨(fun _ h => by cases h), trivial⟩
  | x :: r, h, hn => by
    rw [List.any_cons, Bool.or_eq_false_iff] at hn
    refine ⟨fun y hy => ?_, apart_snoc h.2 hn.2⟩
    rcases List.mem_append.1 hy with hy | hy
    · exact h.1 y hy
    · rw [List.mem_singleton.1 hy]
      exact hn.1

theorem linksErr_apart : ∀ (r pre : List Lnk), linksErr n pre r = 0 → Apart pre → Apart (pre ++ r)
  | [], pre, _, h => by simpa using h
  | x :: r, pre, h, hp => by
    rw [linksErr] at h
    split at h
    · rename_i h1; exact absurd h h1
    · rename_i h1
      have h2 := lnkIn_of (Decidable.not_not.1 h1)
      have := linksErr_apart r (pre ++ [x]) h (apart_snoc hp h2.2)
      simpa using this

theorem apart_of (h : checkN n = 0) : Apart n.links := by
  unfold checkN at h
  split at h
  · rename_i h1; exact absurd h h1
  · split at h
    · cases h
    · split at h
      · cases h
      · exact linksErr_apart n.links [] h trivial

/-- The links from i to k: at most one. -/
theorem one_link : ∀ {L : List Lnk} (i k : Int), Apart L → (L.filter fun l => decide (l.fr = i) && decide (l.dst = k)) = ((L.find? fun l => decide (l.fr = i) && decide (l.dst = k)).toList)
  | [], _, _, _ => rfl
  | l :: r, i, k, h => by
    by_cases e : (decide (l.fr = i) && decide (l.dst = k)) = true
    · rw [List.filter_cons_of_pos (by simpa using e), List.find?_cons_of_pos (by simpa using e), List.filter_eq_nil_iff.2]
      · rfl
      · intro x hx hc
        have h1 := h.1 x hx
        simp only [Bool.and_eq_true, decide_eq_true_eq] at e hc
        have : x.like l = true := by simp [Lnk.like]; omega
        rw [this] at h1
        cases h1
    · rw [List.filter_cons_of_neg (by simpa using e), List.find?_cons_of_neg (by simpa using e)]
      exact one_link i k h.2

/-- A step that stays in range. -/
def stepA (n : Net) (has : Int → Int) (out : Int) (l : Lnk) : Int := if 0 ≤ out ∧ out < n.alg.size then bestA n out (overA n l.edge (has l.dst)) else out

theorem route_eq (hn : checkN n = 0) (i j : Int) (has : Int → Int) (hh : ∀ k, 0 ≤ k → k < n.nodes → 0 ≤ has k ∧ has k < n.alg.size) : routeL n i j has n.links = routeR n i j has := by
  have h := netIn_of hn
  have hap := apart_of hn
  have s2 := h.alg.s2
  have hval : ∀ l ∈ n.links, 0 ≤ overA n l.edge (has l.dst) ∧ overA n l.edge (has l.dst) < n.alg.size := fun l hl =>
    let g := h.lnk l hl
    over_in h ⟨g.e0, g.e1⟩ (hh _ g.d0 g.d1)
  have h0 : 0 ≤ (if i = j then 0 else n.alg.size - 1 : Int) ∧ (if i = j then 0 else n.alg.size - 1 : Int) < n.alg.size := by split <;> omega
  -- by the links' order: those of i
  have e1 : ∀ (L : List Lnk) (out : Int), (∀ l ∈ L, l ∈ n.links) → 0 ≤ out ∧ out < n.alg.size →
      L.foldl (fun out l => if l.fr = i then bestA n out (overA n l.edge (has l.dst)) else out) out = (L.filter fun l => decide (l.fr = i)).foldl (stepA n has) out := by
    intro L
    induction L with
    | nil => intro out _ _; rfl
    | cons l r ih =>
      intro out hL ho
      by_cases e : l.fr = i
      · rw [List.foldl_cons, if_pos e, List.filter_cons_of_pos (by simpa using e), List.foldl_cons]
        rw [ih _ (fun x hx => hL x (by simp [hx])) (best_in h ho (hval l (hL l (by simp))))]
        congr 1
        exact (if_pos ho).symm
      · rw [List.foldl_cons, if_neg e, List.filter_cons_of_neg (by simpa using e)]
        exact ih out (fun x hx => hL x (by simp [hx])) ho
  -- by the nodes' order
  have e2 : ∀ (K : List Int) (out : Int), 0 ≤ out ∧ out < n.alg.size →
      K.foldl (fun out k => if 0 ≤ edgeOf n i k then bestA n out (overA n (edgeOf n i k) (has k)) else out) out = (K.flatMap fun k => (n.links.filter fun l => decide (l.fr = i)).filter fun l => decide (l.dst = k)).foldl (stepA n has) out := by
    intro K
    induction K with
    | nil => intro out _; rfl
    | cons k r ih =>
      intro out ho
      rw [List.foldl_cons, List.flatMap_cons, List.foldl_append]
      have hf : ((n.links.filter fun l => decide (l.fr = i)).filter fun l => decide (l.dst = k)) = (n.links.find? fun l => decide (l.fr = i) && decide (l.dst = k)).toList := by
        rw [List.filter_filter, ← one_link i k hap]
        congr 1
        funext x
        rw [Bool.and_comm]
      rw [hf]
      unfold edgeOf
      cases hfd : n.links.find? fun l => decide (l.fr = i) && decide (l.dst = k) with
      | none =>
        simp only [Option.map_none, Option.getD_none, Option.toList_none, List.foldl_nil]
        rw [if_neg (by omega)]
        have := ih out ho
        unfold edgeOf at this
        exact this
      | some l =>
        have hl := List.mem_of_find?_eq_some hfd
        have hp := List.find?_some hfd
        simp only [Bool.and_eq_true, decide_eq_true_eq] at hp
        have g := h.lnk l hl
        simp only [Option.map_some, Option.getD_some, Option.toList_some, List.foldl_cons, List.foldl_nil]
        rw [if_pos g.e0]
        have hst : stepA n has out l = bestA n out (overA n l.edge (has k)) := by rw [stepA, if_pos ho, hp.2]
        rw [hst]
        have hv := hval l hl
        rw [hp.2] at hv
        have := ih _ (best_in h ho hv)
        unfold edgeOf at this
        exact this
  unfold routeL routeR
  rw [e1 n.links _ (fun l hl => hl) h0, e2 _ _ h0]
  have hp : ((ints n.nodes).flatMap fun k => (n.links.filter fun l => decide (l.fr = i)).filter fun l => decide (l.dst = k)).Perm (n.links.filter fun l => decide (l.fr = i)) :=
    perm_all (·.dst) (ints n.nodes) (ints_nodup _) _ fun l hl => by
      have g := h.lnk l (List.mem_filter.1 hl).1
      exact mem_ints.2 ⟨g.d0, g.d1⟩
  refine (List.Perm.foldl_eq' hp (fun x hx y hy z => ?_) _).symm
  have hx' : x ∈ n.links := (List.mem_filter.1 (hp.mem_iff.1 hx)).1
  have hy' : y ∈ n.links := (List.mem_filter.1 (hp.mem_iff.1 hy)).1
  unfold stepA
  by_cases hz : 0 ≤ z ∧ z < n.alg.size
  · have vx := hval x hx'
    have vy := hval y hy'
    rw [if_pos hz, if_pos hz, if_pos (best_in h hz vx), if_pos (best_in h hz vy), ← best_assoc h hz vx vy, ← best_assoc h hz vy vx, best_comm h vx vy]
  · rw [if_neg hz, if_neg hz, if_neg hz]

theorem routeR_in (h : NetIn n) (i j : Int) (has : Int → Int) (hh : ∀ k, 0 ≤ k → k < n.nodes → 0 ≤ has k ∧ has k < n.alg.size) : 0 ≤ routeR n i j has ∧ routeR n i j has < n.alg.size := by
  have s2 := h.alg.s2
  have key : ∀ (K : List Int) (out : Int), (∀ k ∈ K, 0 ≤ k ∧ k < n.nodes) → 0 ≤ out ∧ out < n.alg.size →
      0 ≤ K.foldl (fun out k => if 0 ≤ edgeOf n i k then bestA n out (overA n (edgeOf n i k) (has k)) else out) out ∧ K.foldl (fun out k => if 0 ≤ edgeOf n i k then bestA n out (overA n (edgeOf n i k) (has k)) else out) out < n.alg.size := by
    intro K
    induction K with
    | nil => intro out _ ho; exact ho
    | cons k r ih =>
      intro out hK ho
      rw [List.foldl_cons]
      refine ih _ (fun x hx => hK x (by simp [hx])) ?_
      split
      · rename_i he
        refine best_in h ho (over_in h ⟨he, ?_⟩ (hh k (hK k (by simp)).1 (hK k (by simp)).2))
        unfold edgeOf at he ⊢
        cases hfd : n.links.find? fun l => decide (l.fr = i) && decide (l.dst = k) with
        | none => rw [hfd] at he; simp at he
        | some l => exact (h.lnk l (List.mem_of_find?_eq_some hfd)).e1
      · exact ho
  exact key _ _ (fun k hk => mem_ints.1 hk) (by split <;> omega)

/-- The next state. -/
def roundA (n : Net) (x : List (List Int)) : List (List Int) := (ints n.nodes).map fun i => (ints n.nodes).map fun j => routeR n i j fun k => at2 x k j

def beginA (n : Net) : List (List Int) := (ints n.nodes).map fun i => (ints n.nodes).map fun j => if i = j then 0 else n.alg.size - 1

theorem at2_in {x : List (List Int)} (h : RowsIn n x) {i j : Int} (hi : 0 ≤ i ∧ i < n.nodes) (hj : 0 ≤ j ∧ j < n.nodes) : 0 ≤ at2 x i j ∧ at2 x i j < n.alg.size := by
  have hr := at0_mem x hi.1 (by rw [h.len]; exact hi.2)
  exact h.val _ hr _ (at0_mem _ hj.1 (by rw [h.row _ hr]; exact hj.2))

theorem round_in (hn : NetIn n) {x : List (List Int)} (h : RowsIn n x) : RowsIn n (roundA n x) := by
  have n1 := hn.n1
  refine ⟨?_, fun r hr => ?_, fun r hr v hv => ?_⟩
  · rw [roundA, List.length_map, ints_length]; omega
  · obtain ⟨i, _, rfl⟩ := List.mem_map.1 hr
    rw [List.length_map, ints_length]; omega
  · obtain ⟨i, hi, rfl⟩ := List.mem_map.1 hr
    obtain ⟨j, hj, rfl⟩ := List.mem_map.1 hv
    exact routeR_in hn i j _ fun k h0 h1 => at2_in h ⟨h0, h1⟩ (mem_ints.1 hj)

theorem begin_in (hn : NetIn n) : RowsIn n (beginA n) := by
  have n1 := hn.n1
  have s2 := hn.alg.s2
  refine ⟨?_, fun r hr => ?_, fun r hr v hv => ?_⟩
  · rw [beginA, List.length_map, ints_length]; omega
  · obtain ⟨i, _, rfl⟩ := List.mem_map.1 hr
    rw [List.length_map, ints_length]; omega
  · obtain ⟨i, hi, rfl⟩ := List.mem_map.1 hr
    obtain ⟨j, hj, rfl⟩ := List.mem_map.1 hv
    split <;> omega

/-- Rounds until nothing changes. -/
def settleF (n : Net) : Nat → Int → List (List Int) → List (List Int) × Int
  | 0, k, x => (x, k)
  | f + 1, k, x => if x = roundA n x then (x, k) else settleF n f (k + 1) (roundA n x)

def settleA (n : Net) (x : List (List Int)) (most : Int) : (List (List Int) × Int) × Int :=
  if fitA n x ≠ 0 then (([], 0), fitA n x)
  else if !inR most 0 1000 then (([], 0), 3)
  else (settleF n most.toNat 0 x, 0)
end
end Go.Proofs.Ytephecognbbaoaa
