/- All that a law is asked of, counted by one number. -/
import Derived.Test.YtephecognbbaoabPa
namespace Go.Proofs.Ytephecognbbaoab
open Go
set_option linter.all false

theorem range_flat {β : Type} (q : Nat) (hq : 0 < q) (f : Nat → Nat → List β) : ∀ p : Nat, (List.range p).flatMap (fun a => (List.range q).flatMap (f a)) = (List.range (p * q)).flatMap fun n => f (n / q) (n % q)
  | 0 => by simp
  | p + 1 => by
    rw [List.range_succ, List.flatMap_append, range_flat q hq f p, Nat.add_mul, Nat.one_mul, List.range_add, List.flatMap_append, List.flatMap_cons, List.flatMap_nil, List.append_nil]
    congr 1
    rw [List.flatMap_map]
    apply congrArg List.flatten
    apply List.map_congr_left
    intro i hi
    have hi := List.mem_range.1 hi
    have e1 : (p * q + i) / q = p := by
      rw [Nat.mul_comm, Nat.mul_add_div hq, Nat.div_eq_of_lt hi, Nat.add_zero]
    have e2 : (p * q + i) % q = i := by
      rw [Nat.mul_comm, Nat.mul_add_mod, Nat.mod_eq_of_lt hi]
    simp only [e1, e2]

theorem ints_flat {β : Type} {p q : Int} (hp : 0 ≤ p) (hq : 0 < q) (f : Int → Int → List β) : (ints p).flatMap (fun a => (ints q).flatMap (f a)) = (ints (p * q)).flatMap fun n => f (n / q) (n % q) := by
  obtain ⟨p', rfl⟩ := Int.eq_ofNat_of_zero_le hp
  obtain ⟨q', rfl⟩ := Int.eq_ofNat_of_zero_le (Int.le_of_lt hq)
  have hq' : 0 < q' := by omega
  simp only [ints, List.flatMap_map, Int.toNat_natCast]
  rw [show ((p' : Int) * (q' : Int)).toNat = p' * q' by rw [← Int.natCast_mul, Int.toNat_natCast]]
  have h := range_flat q' hq' (fun a b => f (a : Int) (b : Int)) p'
  simp only [Int.natCast_ediv, Int.natCast_emod] at h ⊢
  exact h

/-- How many cases, by routes. -/
def pw (s m : Int) : Int := if m = 0 then 1 else if m = 1 then s else if m = 2 then s * s else s * s * s

def dg0 (s m n : Int) : Int := if m = 0 then 0 else if m = 1 then n % s else if m = 2 then n / s % s else n / s / s % s
def dg1 (s m n : Int) : Int := if m = 2 then n % s else if m = 3 then n / s % s else 0
def dg2 (s m n : Int) : Int := if m = 3 then n % s else 0

def digitC (x : Alg) (law n : Int) : List Brk := (ints (upN (edgeA law) x.edges.length)).map fun e => ⟨law, dg0 x.size (manyA law) n, dg1 x.size (manyA law) n, dg2 x.size (manyA law) n, e⟩

theorem flat_congr {α β : Type} {l : List α} {f g : α → List β} (h : ∀ a ∈ l, f a = g a) : l.flatMap f = l.flatMap g := by
  rw [List.flatMap_def, List.flatMap_def, List.map_congr_left h]

theorem ints_one : ints 1 = [0] := rfl

theorem div_lt {n p q : Int} (hq : 0 < q) (h : n < p * q) : n / q < p := Int.ediv_lt_of_lt_mul hq h

theorem cases_flat {x : Alg} (h : 2 ≤ x.size) (law : Int) : casesA x law = (ints (pw x.size (manyA law))).flatMap (digitC x law) := by
  have hm := many_bd law
  unfold casesA digitC pw
  have : manyA law = 0 ∨ manyA law = 1 ∨ manyA law = 2 ∨ manyA law = 3 := by omega
  rcases this with e | e | e | e <;> simp only [e, upN, dg0, dg1, dg2]
  · simp [ints_one]
  · simp only [show decide ((0 : Int) < 1) = true by decide, show decide ((1 : Int) < 1) = false by decide, show decide ((2 : Int) < 1) = false by decide, if_true, if_false, Bool.false_eq_true, ints_one, List.flatMap_cons, List.flatMap_nil, List.append_nil, Int.reduceEq]
    refine flat_congr fun n hn => ?_
    have := mem_ints.1 hn
    rw [Int.emod_eq_of_lt this.1 this.2]
  · simp only [show decide ((0 : Int) < 2) = true by decide, show decide ((1 : Int) < 2) = true by decide, show decide ((2 : Int) < 2) = false by decide, if_true, if_false, Bool.false_eq_true, ints_one, List.flatMap_cons, List.flatMap_nil, List.append_nil, Int.reduceEq]
    rw [ints_flat (by omega) (by omega) (fun a b => (ints (if edgeA law = true then (x.edges.length : Int) else 1)).map fun e => (⟨law, a, b, 0, e⟩ : Brk))]
    refine flat_congr fun n hn => ?_
    have := mem_ints.1 hn
    rw [Int.emod_eq_of_lt (a := n / x.size) (Int.ediv_nonneg this.1 (by omega)) (div_lt (by omega) this.2)]
  · simp only [show decide ((0 : Int) < 3) = true by decide, show decide ((1 : Int) < 3) = true by decide, show decide ((2 : Int) < 3) = true by decide, if_true, if_false, Bool.false_eq_true, Int.reduceEq]
    rw [ints_flat (by omega) (by omega) (fun a b => (ints x.size).flatMap fun c => (ints (if edgeA law = true then (x.edges.length : Int) else 1)).map fun e => (⟨law, a, b, c, e⟩ : Brk))]
    rw [ints_flat (p := x.size * x.size) (Int.mul_nonneg (by omega) (by omega)) (by omega) (fun n c => (ints (if edgeA law = true then (x.edges.length : Int) else 1)).map fun e => (⟨law, n / x.size, n % x.size, c, e⟩ : Brk))]
    refine flat_congr fun n hn => ?_
    have := mem_ints.1 hn
    rw [Int.emod_eq_of_lt (a := n / x.size / x.size) (Int.ediv_nonneg (Int.ediv_nonneg this.1 (by omega)) (by omega)) (div_lt (by omega) (div_lt (by omega) this.2))]

theorem pw_pos {s m : Int} (h : 2 ≤ s) : 1 ≤ pw s m := by
  have h2 : s * 1 ≤ s * s := Int.mul_le_mul_of_nonneg_left (by omega) (by omega)
  have h3 : s * s * 1 ≤ s * s * s := Int.mul_le_mul_of_nonneg_left (by omega) (Int.mul_nonneg (by omega) (by omega))
  unfold pw
  repeat' split
  all_goals omega

theorem pw_le {s m : Int} (h : 2 ≤ s ∧ s ≤ 24) : pw s m ≤ 13824 := by
  have h2 : s * s ≤ 24 * s := Int.mul_le_mul_of_nonneg_right (by omega) (by omega)
  have h3 : s * s * s ≤ 576 * s := Int.mul_le_mul_of_nonneg_right (by omega) (by omega)
  unfold pw
  repeat' split
  all_goals omega
end Go.Proofs.Ytephecognbbaoab
