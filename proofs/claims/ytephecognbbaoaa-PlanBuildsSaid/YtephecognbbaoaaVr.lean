/- The algebras that checked plans stand for: their laws. -/
import Derived.Test.YtephecognbbaoaaVq
import Derived.Test.YtephecognbbaoaaPs
namespace Go.Proofs.Ytephecognbbaoaa
open Go
set_option linter.all false

/-- The laws, as an order. -/
structure LawO (a : Alg) : Prop where
  sel : ∀ i k, 0 ≤ i → i < a.size → 0 ≤ k → k < a.size → at2 a.best i k = i ∨ at2 a.best i k = k
  comm : ∀ i k, 0 ≤ i → i < a.size → 0 ≤ k → k < a.size → at2 a.best i k = at2 a.best k i
  trans : ∀ i k l, 0 ≤ i → i < a.size → 0 ≤ k → k < a.size → 0 ≤ l → l < a.size → at2 a.best i k = i → at2 a.best k l = k → at2 a.best i l = i
  zero : ∀ k, 0 ≤ k → k < a.size → at2 a.best 0 k = 0
  inv : ∀ k, 0 ≤ k → k < a.size → at2 a.best (a.size - 1) k = k
  einv : ∀ e : Int, 0 ≤ e → e < a.edges.length → at2 a.edges e (a.size - 1) = a.size - 1
  mono : ∀ e k : Int, 0 ≤ e → e < a.edges.length → 0 ≤ k → k < a.size → at2 a.best k (at2 a.edges e k) = k

def StrictO (a : Alg) : Prop := ∀ e k : Int, 0 ≤ e → e < a.edges.length → 0 ≤ k → k < a.size - 1 → at2 a.edges e k ≠ k

section
variable {a : Alg}
theorem LawO.idem (h : LawO a) {i : Int} (i0 : 0 ≤ i) (i1 : i < a.size) : at2 a.best i i = i := by
  rcases h.sel i i i0 i1 i0 i1 with h1 | h1 <;> exact h1
theorem LawO.total (h : LawO a) {i k : Int} (i0 : 0 ≤ i) (i1 : i < a.size) (k0 : 0 ≤ k) (k1 : k < a.size) : at2 a.best i k = i ∨ at2 a.best k i = k := by
  rcases h.sel i k i0 i1 k0 k1 with h1 | h1
  · exact .inl h1
  · exact .inr (by rw [← h.comm i k i0 i1 k0 k1]; exact h1)
theorem LawO.anti (h : LawO a) {i k : Int} (i0 : 0 ≤ i) (i1 : i < a.size) (k0 : 0 ≤ k) (k1 : k < a.size) (h1 : at2 a.best i k = i) (h2 : at2 a.best k i = k) : i = k := by
  rw [h.comm i k i0 i1 k0 k1, h2] at h1
  exact h1.symm

theorem LawO.assoc (h : LawO a) {i k l : Int} (i0 : 0 ≤ i) (i1 : i < a.size) (k0 : 0 ≤ k) (k1 : k < a.size) (l0 : 0 ≤ l) (l1 : l < a.size) : at2 a.best i (at2 a.best k l) = at2 a.best (at2 a.best i k) l := by
  rcases h.total k0 k1 l0 l1 with kl | lk
  · rw [kl]
    rcases h.total i0 i1 k0 k1 with ik | ki
    · rw [ik, h.trans i k l i0 i1 k0 k1 l0 l1 ik kl]
    · rw [h.comm i k i0 i1 k0 k1, ki, kl]
  · rw [h.comm k l k0 k1 l0 l1, lk]
    rcases h.total i0 i1 k0 k1 with ik | ki
    · rw [ik]
    · rw [h.comm i k i0 i1 k0 k1, ki, h.comm k l k0 k1 l0 l1, lk]
      have := h.trans l k i l0 l1 k0 k1 i0 i1 lk ki
      rw [h.comm i l i0 i1 l0 l1, this]

theorem upN_true (n : Int) : upN true n = n := rfl

theorem LawO.holds (h : LawO a) (hf : FormA a) {law : Int} (hl : law ∈ seven) {b : Brk} (hb : b ∈ casesA a law) : holdsA a b = true := by
  obtain ⟨h1, ha, hb2, hc, he⟩ := mem_cases.1 hb
  have s2 := hf.s2
  simp only [seven, List.mem_cons, List.not_mem_nil, or_false] at hl
  rcases hl with rfl | rfl | rfl | rfl | rfl | rfl | rfl
  · have ha : 0 ≤ b.a ∧ b.a < a.size := ha
    have hb2 : 0 ≤ b.b ∧ b.b < a.size := hb2
    have : holdsA a b = decide (at2 a.best b.a b.b = at2 a.best b.b b.a) := by rw [holdsA, if_pos h1]
    rw [this, decide_eq_true (h.comm _ _ ha.1 ha.2 hb2.1 hb2.2)]
  · have ha : 0 ≤ b.a ∧ b.a < a.size := ha
    have hb2 : 0 ≤ b.b ∧ b.b < a.size := hb2
    have hc : 0 ≤ b.c ∧ b.c < a.size := hc
    have : holdsA a b = decide (at2 a.best b.a (at2 a.best b.b b.c) = at2 a.best (at2 a.best b.a b.b) b.c) := by rw [holdsA, if_neg (by omega), if_pos h1]
    rw [this, decide_eq_true (h.assoc ha.1 ha.2 hb2.1 hb2.2 hc.1 hc.2)]
  · have ha : 0 ≤ b.a ∧ b.a < a.size := ha
    have hb2 : 0 ≤ b.b ∧ b.b < a.size := hb2
    have : holdsA a b = (decide (at2 a.best b.a b.b = b.a) || decide (at2 a.best b.a b.b = b.b)) := by rw [holdsA, if_neg (by omega), if_neg (by omega), if_pos h1]
    rw [this]
    rcases h.sel _ _ ha.1 ha.2 hb2.1 hb2.2 with h3 | h3
    · rw [decide_eq_true h3, Bool.true_or]
    · rw [decide_eq_true h3, Bool.or_true]
  · have ha : 0 ≤ b.a ∧ b.a < a.size := ha
    have : holdsA a b = decide (at2 a.best 0 b.a = 0) := by rw [holdsA, if_neg (by omega), if_neg (by omega), if_neg (by omega), if_pos h1]
    rw [this, decide_eq_true (h.zero _ ha.1 ha.2)]
  · have ha : 0 ≤ b.a ∧ b.a < a.size := ha
    have : holdsA a b = decide (at2 a.best (a.size - 1) b.a = b.a) := by rw [holdsA, if_neg (by omega), if_neg (by omega), if_neg (by omega), if_neg (by omega), if_pos h1]
    rw [this, decide_eq_true (h.inv _ ha.1 ha.2)]
  · have he : 0 ≤ b.edge ∧ b.edge < a.edges.length := he
    have : holdsA a b = decide (at2 a.edges b.edge (a.size - 1) = a.size - 1) := by rw [holdsA, if_neg (by omega), if_neg (by omega), if_neg (by omega), if_neg (by omega), if_neg (by omega), if_pos h1]
    rw [this, decide_eq_true (h.einv _ he.1 he.2)]
  · have ha : 0 ≤ b.a ∧ b.a < a.size := ha
    have he : 0 ≤ b.edge ∧ b.edge < a.edges.length := he
    have : holdsA a b = decide (at2 a.best b.a (at2 a.edges b.edge b.a) = b.a) := by rw [holdsA, if_neg (by omega), if_neg (by omega), if_neg (by omega), if_neg (by omega), if_neg (by omega), if_neg (by omega), if_pos h1]
    rw [this, decide_eq_true (h.mono _ _ he.1 he.2 ha.1 ha.2)]

theorem broken_none {laws : List Int} (h : ∀ law ∈ laws, ∀ b ∈ casesA a law, holdsA a b = true) : brokenA a laws = zeroB := by
  unfold brokenA firstB
  rw [List.find?_eq_none.2]
  · rfl
  · intro b hb
    obtain ⟨law, hl, hb⟩ := List.mem_flatMap.1 hb
    rw [h law hl b hb]
    decide

theorem strict_holds (h : LawO a) (hs : StrictO a) (hf : FormA a) {b : Brk} (hb : b ∈ casesA a 8) : holdsA a b = true := by
  obtain ⟨h1, ha, _, _, he⟩ := mem_cases.1 hb
  have ha : 0 ≤ b.a ∧ b.a < a.size := ha
  have he : 0 ≤ b.edge ∧ b.edge < a.edges.length := he
  have : holdsA a b = (decide (b.a = a.size - 1) || (decide (at2 a.best b.a (at2 a.edges b.edge b.a) = b.a) && !decide (at2 a.edges b.edge b.a = b.a))) := by
    rw [holdsA, if_neg (by omega), if_neg (by omega), if_neg (by omega), if_neg (by omega), if_neg (by omega), if_neg (by omega), if_neg (by omega), if_pos h1]
  rw [this]
  by_cases hc : b.a = a.size - 1
  · rw [decide_eq_true hc, Bool.true_or]
  · rw [decide_eq_true (h.mono _ _ he.1 he.2 ha.1 ha.2), decide_eq_false (hs _ _ he.1 he.2 ha.1 (by omega))]
    simp

theorem strict_of (h : (brokenA a [8]).law = 0) : StrictO a := fun e k e0 e1 k0 k1 => by
  have hm : (⟨8, k, 0, 0, e⟩ : Brk) ∈ casesA a 8 := mem_cases.2 ⟨rfl, (show 0 ≤ k ∧ k < a.size from ⟨k0, by omega⟩), ⟨Int.le_refl _, show (0 : Int) < 1 by decide⟩, ⟨Int.le_refl _, show (0 : Int) < 1 by decide⟩, (show 0 ≤ e ∧ e < a.edges.length from ⟨e0, e1⟩)⟩
  have h2 := brokenA_none (laws := [8]) (by decide) h 8 (by simp) _ hm
  have h3 : holdsA a ⟨8, k, 0, 0, e⟩ = (decide (k = a.size - 1) || (decide (at2 a.best k (at2 a.edges e k) = k) && !decide (at2 a.edges e k = k))) := rfl
  rw [h3, decide_eq_false (by omega), Bool.false_or, Bool.and_eq_true] at h2
  simpa using h2.2
end

/-- Tables by numbers. -/
theorem at2_table {f : Int → Int → Int} {m : Int} {i j : Int} (hi : 0 ≤ i ∧ i < m) (hj : 0 ≤ j ∧ j < m) : at2 ((ints m).map fun i => (ints m).map fun j => f i j) i j = f i j := at2_ints hi hj
theorem at2_table2 {f : Int → Int → Int} {m r : Int} {i j : Int} (hi : 0 ≤ i ∧ i < r) (hj : 0 ≤ j ∧ j < m) : at2 ((ints r).map fun i => (ints m).map fun j => f i j) i j = f i j := by
  unfold at2
  rw [at0_ints_map _ hi, at0_ints_map _ hj]
theorem at0_mapL {X Y : Type} [Inhabited X] [Inhabited Y] (f : X → Y) (l : List X) {k : Int} (h0 : 0 ≤ k) (h : k < l.length) : at0 (l.map f) k = f (at0 l k) := by
  have : k.toNat < l.length := by omega
  simp [at0, List.getD_eq_getElem?_getD, this]

section
variable {n : Int} {e : List Int} {f : Int → Int → Int}
theorem simple_best {i k : Int} (hi : 0 ≤ i ∧ i < n + 2) (hk : 0 ≤ k ∧ k < n + 2) : at2 (simpleA n e f).best i k = min i k := at2_table hi hk
theorem simple_edge {x k : Int} (hx : 0 ≤ x ∧ x < e.length) (hk : 0 ≤ k ∧ k < n + 2) : at2 (simpleA n e f).edges x k = if k = n + 1 then k else min (f (at0 e x) k) (n + 1) := by
  unfold at2
  show at0 (at0 (e.map _) x) k = _
  rw [at0_mapL _ _ hx.1 hx.2, at0_ints_map _ hk]

theorem law_simple (h1 : 1 ≤ n) (hf : ∀ x ∈ e, ∀ k, 0 ≤ k → k ≤ f x k) : LawO (simpleA n e f) := by
  have hs : (simpleA n e f).size = n + 2 := rfl
  have hel : ((simpleA n e f).edges.length : Int) = e.length := by simp [simpleA]
  refine ⟨fun i k i0 i1 k0 k1 => ?_, fun i k i0 i1 k0 k1 => ?_, fun i k l i0 i1 k0 k1 l0 l1 => ?_, fun k k0 k1 => ?_, fun k k0 k1 => ?_, fun x x0 x1 => ?_, fun x k x0 x1 k0 k1 => ?_⟩
  · rw [simple_best ⟨i0, i1⟩ ⟨k0, k1⟩]; omega
  · rw [simple_best ⟨i0, i1⟩ ⟨k0, k1⟩, simple_best ⟨k0, k1⟩ ⟨i0, i1⟩]; omega
  · rw [simple_best ⟨i0, i1⟩ ⟨k0, k1⟩, simple_best ⟨k0, k1⟩ ⟨l0, l1⟩, simple_best ⟨i0, i1⟩ ⟨l0, l1⟩]; omega
  · rw [simple_best ⟨by omega, by omega⟩ ⟨k0, k1⟩]; omega
  · rw [hs] at k1
    rw [simple_best ⟨by omega, by omega⟩ ⟨k0, k1⟩]; omega
  · rw [hel] at x1
    rw [hs, simple_edge ⟨x0, x1⟩ ⟨by omega, by omega⟩, if_pos (by omega)]
  · rw [hel] at x1
    rw [hs] at k1
    rw [simple_edge ⟨x0, x1⟩ ⟨k0, k1⟩]
    have := hf _ (at0_mem e x0 x1) k k0
    by_cases c : k = n + 1
    · rw [if_pos c, simple_best ⟨k0, k1⟩ ⟨k0, k1⟩]; omega
    · rw [if_neg c, simple_best ⟨k0, k1⟩ ⟨by omega, by omega⟩]; omega

theorem strict_simple (h1 : 1 ≤ n) (hf : ∀ x ∈ e, ∀ k, 0 ≤ k → k < f x k) : StrictO (simpleA n e f) := fun x k x0 x1 k0 k1 => by
  have hs : (simpleA n e f).size = n + 2 := rfl
  have hel : ((simpleA n e f).edges.length : Int) = e.length := by simp [simpleA]
  rw [hel] at x1
  rw [hs] at k1
  rw [simple_edge ⟨x0, x1⟩ ⟨k0, by omega⟩, if_neg (by omega)]
  have := hf _ (at0_mem e x0 x1) k k0
  omega
end

section
variable {x y : Alg}
theorem pair_best {i k : Int} (hi : 0 ≤ i ∧ i < (x.size - 1) * (y.size - 1) + 1) (hk : 0 ≤ k ∧ k < (x.size - 1) * (y.size - 1) + 1) : at2 (pairA x y).best i k = pairBest x y i k := at2_table hi hk
theorem pair_edge {e k : Int} (he : 0 ≤ e ∧ e < x.edges.length) (hk : 0 ≤ k ∧ k < (x.size - 1) * (y.size - 1) + 1) : at2 (pairA x y).edges e k = pairEdge x y e k := at2_table2 he hk

theorem LawO.small (hx : LawO x) (fx : FormA x) {p q : Int} (p0 : 0 ≤ p) (p1 : p < x.size - 1) (q0 : 0 ≤ q) (q1 : q < x.size - 1) : 0 ≤ at2 x.best p q ∧ at2 x.best p q < x.size - 1 := by
  have := hx.sel p q p0 (by omega) q0 (by omega)
  omega

/-- The best of two pairs. -/
theorem pairBest_if (hx : LawO x) (hy : LawO y) (fx : FormA x) (fy : FormA y) {i k : Int} (i0 : 0 ≤ i) (i1 : i < (x.size - 1) * (y.size - 1)) (k0 : 0 ≤ k) (k1 : k < (x.size - 1) * (y.size - 1)) :
    pairBest x y i k = if (i / (y.size - 1) ≠ k / (y.size - 1) ∧ at2 x.best (i / (y.size - 1)) (k / (y.size - 1)) = i / (y.size - 1)) ∨ (i / (y.size - 1) = k / (y.size - 1) ∧ at2 y.best (i % (y.size - 1)) (k % (y.size - 1)) = i % (y.size - 1)) then i else k := by
  have h := form_pairOk fx fy
  unfold pairBest
  rw [if_neg (by omega), if_neg (by omega)]
  have ai := h.div i0 i1
  have ak := h.div k0 k1
  have bi := h.mod (i := i)
  have bk := h.mod (i := k)
  have oi := h.of (i := i)
  have ok := h.of (i := k)
  by_cases c : i / (y.size - 1) = k / (y.size - 1)
  · rw [if_pos c]
    have hs := hy.small fy bi.1 bi.2 bk.1 bk.2
    unfold pairN
    rw [if_neg (by omega)]
    rcases hy.sel (i % (y.size - 1)) (k % (y.size - 1)) bi.1 (by omega) bk.1 (by omega) with h3 | h3
    · rw [if_pos (.inr ⟨c, h3⟩), h3, oi]
    · by_cases h4 : at2 y.best (i % (y.size - 1)) (k % (y.size - 1)) = i % (y.size - 1)
      · rw [if_pos (.inr ⟨c, h4⟩), h4, oi]
      · rw [if_neg (by intro h5; rcases h5 with h5 | h5; exact h5.1 c; exact h4 h5.2), h3, c, ok]
  · rw [if_neg c]
    by_cases h4 : at2 x.best (i / (y.size - 1)) (k / (y.size - 1)) = i / (y.size - 1)
    · rw [if_pos h4, if_pos (.inl ⟨c, h4⟩)]
    · rw [if_neg h4, if_neg (by intro h5; rcases h5 with h5 | h5; exact h4 h5.2; exact c h5.1)]

theorem pair_ext {m i k : Int} (h : 1 ≤ m) (h1 : i / m = k / m) (h2 : i % m = k % m) : i = k := by
  have a := Int.mul_ediv_add_emod i m
  have b := Int.mul_ediv_add_emod k m
  rw [h1, h2] at a
  omega

theorem law_pair (hx : LawO x) (hy : LawO y) (fx : FormA x) (fy : FormA y) (he : x.edges.length = y.edges.length) : LawO (pairA x y) := by
  have h := form_pairOk fx fy
  have hl := h.last
  have hm := h.m
  have hn := h.n
  have hs : (pairA x y).size = (x.size - 1) * (y.size - 1) + 1 := rfl
  have hel : ((pairA x y).edges.length : Int) = x.edges.length := by
    show (((ints x.edges.length).map _).length : Int) = _
    rw [len_ints (by omega)]
  obtain ⟨z, hz⟩ : ∃ z, (x.size - 1) * (y.size - 1) = z := ⟨_, rfl⟩
  obtain ⟨m, hmm⟩ : ∃ m, y.size - 1 = m := ⟨_, rfl⟩
  -- who is better
  have lastL : ∀ k, pairBest x y z k = k := fun k => by unfold pairBest; rw [if_pos hz.symm]
  have lastR : ∀ i, pairBest x y i z = i := fun i => by
    unfold pairBest
    by_cases c : i = z
    · rw [if_pos (by omega)]; exact c.symm
    · rw [if_neg (by omega), if_pos hz.symm]
  have mid := fun {i k : Int} i0 i1 k0 k1 => pairBest_if hx hy fx fy (i := i) (k := k) i0 i1 k0 k1
  rw [hz] at mid
  have dv := fun {i : Int} (i0 : 0 ≤ i) (i1 : i < z) => h.div i0 (by rw [hz]; exact i1)
  have md := fun {i : Int} => h.mod (i := i)
  rw [hmm] at mid dv md
  have sel : ∀ i k, 0 ≤ i → i < z + 1 → 0 ≤ k → k < z + 1 → pairBest x y i k = i ∨ pairBest x y i k = k := fun i k i0 i1 k0 k1 => by
    by_cases ci : i = z
    · rw [ci, lastL]; exact .inr rfl
    · by_cases ck : k = z
      · rw [ck, lastR]; exact .inl rfl
      · rw [mid i0 (by omega) k0 (by omega)]
        split
        · exact .inl rfl
        · exact .inr rfl
  have ext : ∀ {i k : Int}, i / m = k / m → i % m = k % m → i = k := fun h1 h2 => pair_ext (by omega) h1 h2
  have comm : ∀ i k, 0 ≤ i → i < z + 1 → 0 ≤ k → k < z + 1 → pairBest x y i k = pairBest x y k i := fun i k i0 i1 k0 k1 => by
    by_cases ci : i = z
    · rw [ci, lastL, lastR]
    · by_cases ck : k = z
      · rw [ck, lastL, lastR]
      · have ai := dv i0 (by omega)
        have ak := dv k0 (by omega)
        have bi := md (i := i)
        have bk := md (i := k)
        rw [mid i0 (by omega) k0 (by omega), mid k0 (by omega) i0 (by omega)]
        by_cases c : i / m = k / m
        · by_cases h4 : at2 y.best (i % m) (k % m) = i % m
          · rw [if_pos (.inr ⟨c, h4⟩)]
            by_cases h5 : at2 y.best (k % m) (i % m) = k % m
            · rw [if_pos (.inr ⟨c.symm, h5⟩)]
              exact ext c (hy.anti bi.1 (by omega) bk.1 (by omega) h4 h5)
            · rw [if_neg (by intro h6; rcases h6 with h6 | h6; exact h6.1 c.symm; exact h5 h6.2)]
          · rw [if_neg (by intro h6; rcases h6 with h6 | h6; exact h6.1 c; exact h4 h6.2)]
            have h5 : at2 y.best (k % m) (i % m) = k % m := (hy.total bi.1 (by omega) bk.1 (by omega)).resolve_left h4
            rw [if_pos (.inr ⟨c.symm, h5⟩)]
        · by_cases h4 : at2 x.best (i / m) (k / m) = i / m
          · rw [if_pos (.inl ⟨c, h4⟩)]
            by_cases h5 : at2 x.best (k / m) (i / m) = k / m
            · exact absurd (hx.anti ai.1 (by omega) ak.1 (by omega) h4 h5) c
            · rw [if_neg (by intro h6; rcases h6 with h6 | h6; exact h5 h6.2; exact c h6.1.symm)]
          · rw [if_neg (by intro h6; rcases h6 with h6 | h6; exact h4 h6.2; exact c h6.1)]
            have h5 : at2 x.best (k / m) (i / m) = k / m := (hx.total ai.1 (by omega) ak.1 (by omega)).resolve_left h4
            rw [if_pos (.inl ⟨fun e => c e.symm, h5⟩)]
  -- what it means that one is no worse
  have le : ∀ {i k : Int}, 0 ≤ i → i < z → 0 ≤ k → k < z → (pairBest x y i k = i ↔ (i / m ≠ k / m ∧ at2 x.best (i / m) (k / m) = i / m) ∨ (i / m = k / m ∧ at2 y.best (i % m) (k % m) = i % m)) := fun {i k} i0 i1 k0 k1 => by
    rw [mid i0 i1 k0 k1]
    by_cases c : (i / m ≠ k / m ∧ at2 x.best (i / m) (k / m) = i / m) ∨ (i / m = k / m ∧ at2 y.best (i % m) (k % m) = i % m)
    · rw [if_pos c]; exact ⟨fun _ => c, fun _ => rfl⟩
    · rw [if_neg c]
      refine ⟨fun e => ?_, fun e => absurd e c⟩
      subst e
      refine .inr ⟨rfl, hy.idem (md (i := k)).1 ?_⟩
      have := (md (i := k)).2
      omega
  have trans : ∀ i k l, 0 ≤ i → i < z + 1 → 0 ≤ k → k < z + 1 → 0 ≤ l → l < z + 1 → pairBest x y i k = i → pairBest x y k l = k → pairBest x y i l = i := fun i k l i0 i1 k0 k1 l0 l1 h1 h2 => by
    by_cases ci : i = z
    · rw [ci, lastL] at h1
      rw [h1, lastL] at h2
      rw [ci, h2, lastL]
    · by_cases cl : l = z
      · rw [cl, lastR]
      · by_cases ck : k = z
        · rw [ck, lastL] at h2
          exact absurd h2 cl
        · have ai := dv i0 (by omega)
          have ak := dv k0 (by omega)
          have al := dv l0 (by omega)
          have bi := md (i := i)
          have bk := md (i := k)
          have bl := md (i := l)
          rw [le i0 (by omega) k0 (by omega)] at h1
          rw [le k0 (by omega) l0 (by omega)] at h2
          rw [le i0 (by omega) l0 (by omega)]
          rcases h1 with ⟨a1, a2⟩ | ⟨a1, a2⟩ <;> rcases h2 with ⟨b1, b2⟩ | ⟨b1, b2⟩
          · have t := hx.trans _ _ _ ai.1 (by omega) ak.1 (by omega) al.1 (by omega) a2 b2
            refine .inl ⟨fun e => a1 ?_, t⟩
            rw [← e] at b2
            exact hx.anti ai.1 (by omega) ak.1 (by omega) a2 b2
          · rw [b1] at a1 a2
            exact .inl ⟨a1, a2⟩
          · rw [← a1] at b1 b2
            exact .inl ⟨b1, b2⟩
          · exact .inr ⟨a1.trans b1, hy.trans _ _ _ bi.1 (by omega) bk.1 (by omega) bl.1 (by omega) a2 b2⟩
  have z0 : (0 : Int) / m = 0 := Int.zero_ediv m
  have z1 : (0 : Int) % m = 0 := Int.zero_emod m
  refine ⟨fun i k i0 i1 k0 k1 => ?_, fun i k i0 i1 k0 k1 => ?_, fun i k l i0 i1 k0 k1 l0 l1 => ?_, fun k k0 k1 => ?_, fun k k0 k1 => ?_, fun e e0 e1 => ?_, fun e k e0 e1 k0 k1 => ?_⟩
  · rw [hs] at i1 k1
    rw [pair_best ⟨i0, i1⟩ ⟨k0, k1⟩]
    exact sel i k i0 (by omega) k0 (by omega)
  · rw [hs] at i1 k1
    rw [pair_best ⟨i0, i1⟩ ⟨k0, k1⟩, pair_best ⟨k0, k1⟩ ⟨i0, i1⟩]
    exact comm i k i0 (by omega) k0 (by omega)
  · rw [hs] at i1 k1 l1
    rw [pair_best ⟨i0, i1⟩ ⟨k0, k1⟩, pair_best ⟨k0, k1⟩ ⟨l0, l1⟩, pair_best ⟨i0, i1⟩ ⟨l0, l1⟩]
    exact trans i k l i0 (by omega) k0 (by omega) l0 (by omega)
  · rw [hs] at k1
    rw [pair_best ⟨by omega, by omega⟩ ⟨k0, k1⟩]
    by_cases ck : k = z
    · rw [ck, lastR]
    · rw [le (by omega) (by omega) k0 (by omega), z0, z1]
      have ak := dv k0 (by omega)
      have bk := md (i := k)
      by_cases c : 0 = k / m
      · exact .inr ⟨c, hy.zero _ bk.1 (by omega)⟩
      · exact .inl ⟨c, hx.zero _ ak.1 (by omega)⟩
  · rw [hs] at k1 ⊢
    rw [pair_best ⟨by omega, by omega⟩ ⟨k0, k1⟩, show (x.size - 1) * (y.size - 1) + 1 - 1 = z by omega]
    exact lastL k
  · rw [hel] at e1
    rw [hs, pair_edge ⟨e0, e1⟩ ⟨by omega, by omega⟩, pairEdge, if_pos (by omega)]
  · rw [hel] at e1
    rw [hs] at k1
    rw [pair_edge ⟨e0, e1⟩ ⟨k0, k1⟩]
    have hin := pairEdge_in fx fy he e0 e1 k0 k1
    rw [pair_best ⟨k0, k1⟩ ⟨hin.1, by omega⟩]
    by_cases ck : k = z
    · rw [ck, lastL, pairEdge, if_pos hz.symm]
    · have ak := dv k0 (by omega)
      have bk := md (i := k)
      have p1 := fx.edge_in e0 e1 ak.1 (by omega)
      have q1 := fy.edge_in e0 (by omega) bk.1 (by omega)
      have m1 := hx.mono e (k / m) e0 e1 ak.1 (by omega)
      have m2 := hy.mono e (k % m) e0 (by omega) bk.1 (by omega)
      rw [pairEdge, if_neg (by omega), hmm]
      by_cases cc : at2 x.edges e (k / m) = x.size - 1 ∨ at2 y.edges e (k % m) = y.size - 1
      · rw [pairN, if_pos cc, hz, lastR]
      · have cc2 : at2 x.edges e (k / m) ≠ x.size - 1 ∧ at2 y.edges e (k % m) ≠ y.size - 1 := by rw [not_or] at cc; exact cc
        rw [pairN, if_neg cc]
        obtain ⟨p, hp⟩ : ∃ p, at2 x.edges e (k / m) = p := ⟨_, rfl⟩
        obtain ⟨q, hq⟩ : ∃ q, at2 y.edges e (k % m) = q := ⟨_, rfl⟩
        rw [hp] at p1 m1 cc2 ⊢
        rw [hq] at q1 m2 cc2 ⊢
        have hr := h.mul p1.1 (by omega) q1.1 (by omega)
        have hb := h.back (p := p) q1.1 (by omega)
        rw [hz] at hr
        rw [hmm] at hr hb ⊢
        rw [le k0 (by omega) hr.1 hr.2, hb.1, hb.2]
        by_cases c : k / m = p
        · exact .inr ⟨c, m2⟩
        · exact .inl ⟨c, m1⟩

theorem strict_pair (hx : LawO x) (hy : LawO y) (fx : FormA x) (fy : FormA y) (he : x.edges.length = y.edges.length) (hst : StrictO x ∨ StrictO y) : StrictO (pairA x y) := fun e k e0 e1 k0 k1 => by
  have h := form_pairOk fx fy
  have hl := h.last
  have hs : (pairA x y).size = (x.size - 1) * (y.size - 1) + 1 := rfl
  have hel : ((pairA x y).edges.length : Int) = x.edges.length := by
    show (((ints x.edges.length).map _).length : Int) = _
    rw [len_ints (by omega)]
  rw [hel] at e1
  rw [hs] at k1
  rw [pair_edge ⟨e0, e1⟩ ⟨k0, by omega⟩, pairEdge, if_neg (by omega)]
  have ak := h.div k0 (by omega)
  have bk := h.mod (i := k)
  unfold pairN
  have p1 := fx.edge_in e0 e1 ak.1 (by omega)
  have q1 := fy.edge_in e0 (by omega) bk.1 (by omega)
  by_cases cc : at2 x.edges e (k / (y.size - 1)) = x.size - 1 ∨ at2 y.edges e (k % (y.size - 1)) = y.size - 1
  · rw [if_pos cc]; omega
  · rw [if_neg cc]
    rw [not_or] at cc
    intro hk
    have hb := h.back (p := at2 x.edges e (k / (y.size - 1))) q1.1 (by omega)
    rw [hk] at hb
    rcases hst with hst | hst
    · exact hst e (k / (y.size - 1)) e0 e1 ak.1 (by omega) hb.1.symm
    · exact hst e (k % (y.size - 1)) e0 (by omega) bk.1 (by omega) hb.2.symm

theorem filter_edge {e : List Int} {i k : Int} (hi : 0 ≤ i ∧ i < e.length) (hk : 0 ≤ k ∧ k < x.size) : at2 (filterA e x).edges i k = if bitA (at0 e i) k = true then x.size - 1 else at2 x.edges i k := by
  unfold at2
  show at0 (at0 ((ints e.length).map _) i) k = _
  rw [at0_ints_map _ hi, filterRow, at0_ints_map _ hk]

theorem law_filter (hx : LawO x) (fx : FormA x) {e : List Int} (he : e.length = x.edges.length) : LawO (filterA e x) := by
  have s2 := fx.s2
  have hel : ((filterA e x).edges.length : Int) = e.length := by
    show (((ints e.length).map _).length : Int) = _
    rw [len_ints (by omega)]
  refine ⟨hx.sel, hx.comm, hx.trans, hx.zero, hx.inv, fun i i0 i1 => ?_, fun i k i0 i1 k0 k1 => ?_⟩
  · rw [hel] at i1
    show at2 (filterA e x).edges i (x.size - 1) = x.size - 1
    rw [filter_edge ⟨i0, i1⟩ ⟨by omega, by omega⟩]
    split
    · rfl
    · exact hx.einv i i0 (by omega)
  · rw [hel] at i1
    have k1 : k < x.size := k1
    rw [filter_edge ⟨i0, i1⟩ ⟨k0, k1⟩]
    show at2 x.best k _ = k
    split
    · rw [hx.comm k (x.size - 1) k0 k1 (by omega) (by omega)]
      exact hx.inv k k0 k1
    · exact hx.mono i k i0 (by omega) k0 k1
end

mutual
theorem build_law : ∀ (p : Pl), checkP p = 0 → LawO (buildP p)
  | .mk k n e ps, h => by
    obtain ⟨hps, hc⟩ := check_cases h
    have ih := build_lawL ps hps
    rcases hc with ⟨rfl, rfl, hn, he⟩ | ⟨rfl, rfl, hn, he⟩ | ⟨rfl, rfl, rfl, x, y, rfl, hee, hs⟩ | ⟨rfl, rfl, x, rfl, hel, hev⟩
    · rw [buildP, if_pos rfl]
      exact law_simple hn.1 fun x hx k hk => by have := he x hx; show k ≤ k + x; omega
    · rw [buildP, if_neg (by decide), if_pos rfl]
      exact law_simple hn.1 fun x hx k hk => by show k ≤ max k x; omega
    · have hx := build_ok x (hps x (by simp))
      have hy := build_ok y (hps y (by simp))
      have hb : buildP (.mk 3 0 [] [x, y]) = pairA (buildP x) (buildP y) := by rw [buildP, if_neg (by decide), if_neg (by decide), if_pos rfl, buildL_map]; rfl
      have hee2 : (buildP x).edges.length = (buildP y).edges.length := by have := hx.edges; have := hy.edges; omega
      rw [hb]
      exact law_pair (ih x (by simp)) (ih y (by simp)) hx.form hy.form hee2
    · have hx := build_ok x (hps x (by simp))
      have hb : buildP (.mk 4 0 e [x]) = filterA e (buildP x) := by rw [buildP, if_neg (by decide), if_neg (by decide), if_neg (by decide), buildL_map]; rfl
      rw [hb]
      exact law_filter (ih x (by simp)) hx.form (by have := hx.edges; omega)
theorem build_lawL : ∀ (ps : List Pl), (∀ x ∈ ps, checkP x = 0) → ∀ x ∈ ps, LawO (buildP x)
  | [], _, x, hx => by cases hx
  | y :: r, h, x, hx => by
    have h1 := build_law y (h y (by simp))
    have h2 := build_lawL r (fun z hz => h z (by simp [hz]))
    rcases List.mem_cons.1 hx with rfl | hx
    · exact h1
    · exact h2 x hx
end
end Go.Proofs.Ytephecognbbaoaa
