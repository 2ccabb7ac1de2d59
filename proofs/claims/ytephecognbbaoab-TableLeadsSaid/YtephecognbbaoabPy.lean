/- Tables of states that have settled lead to where they should: in plain Lean. -/
import Derived.Test.YtephecognbbaoabPv
namespace Go.Proofs.Ytephecognbbaoab
open Go
set_option linter.all false

section
variable {n : Net} {y : List (List Int)}

def DistA (n : Net) : Prop := (brokenA n.alg [9]).law = 0

theorem over_dist (h : NetIn n) (hs : DistA n) {e a b : Int} (he : 0 ≤ e ∧ e < n.alg.edges.length) (ha : InV n a) (hb : InV n b) : overA n e (bestA n a b) = bestA n (overA n e a) (overA n e b) := by
  have hm : (⟨9, a, b, 0, e⟩ : Brk) ∈ casesA n.alg 9 := mem_cases.2 ⟨rfl, ha, hb, ⟨Int.le_refl _, show (0 : Int) < 1 by decide⟩, he⟩
  have := brokenA_none (laws := [9]) (by decide) hs 9 (by simp) _ hm
  have e : holdsA n.alg ⟨9, a, b, 0, e⟩ = decide (at2 n.alg.edges e (at2 n.alg.best a b) = at2 n.alg.best (at2 n.alg.edges e a) (at2 n.alg.edges e b)) := rfl
  rw [e] at this
  exact of_decide_eq_true this

theorem over_mono (h : NetIn n) (hs : DistA n) {e a b : Int} (he : 0 ≤ e ∧ e < n.alg.edges.length) (ha : InV n a) (hb : InV n b) (hab : Le n a b) : Le n (overA n e a) (overA n e b) := by
  have := over_dist h hs he ha hb
  rw [show bestA n a b = a from hab] at this
  exact this.symm

theorem zero_in (h : NetIn n) : InV n 0 := ⟨by omega, by have := h.alg.s2; omega⟩

theorem le_zero (h : NetIn n) {a : Int} (ha : InV n a) : Le n 0 a := by
  have hm : (⟨4, a, 0, 0, 0⟩ : Brk) ∈ casesA n.alg 4 := mem_cases.2 ⟨rfl, ha, ⟨Int.le_refl _, show (0 : Int) < 1 by decide⟩, ⟨Int.le_refl _, show (0 : Int) < 1 by decide⟩, ⟨Int.le_refl _, show (0 : Int) < 1 by decide⟩⟩
  have := holds_seven h hm (show (4 : Int) ∈ seven by decide)
  have e : holdsA n.alg ⟨4, a, 0, 0, 0⟩ = decide (at2 n.alg.best 0 a = 0) := rfl
  rw [e] at this
  have := of_decide_eq_true this
  exact this

/-- A state that has settled. -/
structure Fixed (n : Net) (y : List (List Int)) : Prop where
  chk : checkN n = 0
  st : RowsIn n y
  fx : y = roundA n y

theorem Fixed.at (h : Fixed n y) {i j : Int} (hi : 0 ≤ i ∧ i < n.nodes) (hj : 0 ≤ j ∧ j < n.nodes) : at2 y i j = routeL n i j (fun k => at2 y k j) n.links := by
  have := round_at h.chk h.st hi hj
  rw [← h.fx] at this
  exact this

theorem Fixed.own (h : Fixed n y) {j : Int} (hj : 0 ≤ j ∧ j < n.nodes) : at2 y j j = 0 := by
  have hn := netIn_of h.chk
  have hv : ∀ l ∈ n.links, InV n (overA n l.edge (at2 y l.dst j)) := fun l hl => by
    have hk := hn.lnk l hl
    exact over_in hn ⟨hk.e0, hk.e1⟩ (at2_in h.st ⟨hk.d0, hk.d1⟩ hj)
  have h1 := route_facts hn j (fun l => overA n l.edge (at2 y l.dst j)) n.links 0 hv (zero_in hn)
  have h2 := h.at hj hj
  rw [routeL, if_pos rfl] at h2
  rw [h2]
  exact le_antisymm hn h1.1 (zero_in hn) h1.2.1 (le_zero hn h1.1)

/-- What one has is no worse than what comes over a link. -/
theorem Fixed.le (h : Fixed n y) {i j k : Int} (hi : 0 ≤ i ∧ i < n.nodes) (hj : 0 ≤ j ∧ j < n.nodes) (he : 0 ≤ edgeOf n i k) : Le n (at2 y i j) (overA n (edgeOf n i k) (at2 y k j)) := by
  have hn := netIn_of h.chk
  have hv : ∀ l ∈ n.links, InV n (overA n l.edge (at2 y l.dst j)) := fun l hl => by
    have hk := hn.lnk l hl
    exact over_in hn ⟨hk.e0, hk.e1⟩ (at2_in h.st ⟨hk.d0, hk.d1⟩ hj)
  have ho : InV n (if i = j then 0 else n.alg.size - 1) := by
    split
    · exact zero_in hn
    · exact inv_in hn
  have h1 := route_facts hn i (fun l => overA n l.edge (at2 y l.dst j)) n.links _ hv ho
  have h2 := h.at hi hj
  rw [routeL] at h2
  obtain ⟨l, hl, h3, h4, h5⟩ := edge_has he
  have h6 := h1.2.2.1 l hl h3
  rw [← h2, h4, h5] at h6
  exact h6

/-- What the table tells. -/
theorem Fixed.next (h : Fixed n y) (hs : StrictA n) {i j : Int} (hi : 0 ≤ i ∧ i < n.nodes) (hj : 0 ≤ j ∧ j < n.nodes) (hij : i ≠ j) :
    (at2 y i j = n.alg.size - 1 ∧ toR n i j (fun k => at2 y k j) = -1) ∨
    (at2 y i j ≠ n.alg.size - 1 ∧ ∃ k, toR n i j (fun k => at2 y k j) = k ∧ (0 ≤ k ∧ k < n.nodes) ∧ 0 ≤ edgeOf n i k ∧ at2 y i j = overA n (edgeOf n i k) (at2 y k j) ∧ at2 y k j ≠ n.alg.size - 1 ∧ rank n (at2 y k j) < rank n (at2 y i j)) := by
  have hn := netIn_of h.chk
  have hh : ∀ k, 0 ≤ k → k < n.nodes → InV n (at2 y k j) := fun k h0 h1 => at2_in h.st ⟨h0, h1⟩ hj
  obtain ⟨a1, a2, a3, a4, a5⟩ := to_fold hn i (fun k => at2 y k j) hh (ints n.nodes) (n.alg.size - 1, -1) (fun k hk => mem_ints.1 hk) (inv_in hn)
  have hr : at2 y i j = ((ints n.nodes).foldl (toStep n i fun k => at2 y k j) (n.alg.size - 1, -1)).1 := by
    rw [h.at hi hj, route_eq h.chk i j _ hh, a1]
    unfold routeR
    rw [if_neg hij]
  rw [← hr] at a4 a5
  unfold toR
  rw [if_neg hij]
  by_cases hq : at2 y i j = n.alg.size - 1
  · exact Or.inl ⟨hq, a4 hq⟩
  · refine Or.inr ⟨hq, _, rfl, ?_⟩
    have h5 := a5 hq
    obtain ⟨k, hk⟩ : ∃ k, ((ints n.nodes).foldl (toStep n i fun k => at2 y k j) (n.alg.size - 1, -1)).2 = k := ⟨_, rfl⟩
    rw [hk] at h5 ⊢
    have h6 := mem_ints.1 (List.mem_of_find?_eq_some h5)
    have h7 := List.find?_some h5
    simp only [Bool.and_eq_true, decide_eq_true_eq] at h7
    have hei := edge_in hn h7.1
    have hne : at2 y k j ≠ n.alg.size - 1 := fun e => by
      have h8 := h7.2
      rw [e, over_inv hn ⟨h7.1, hei⟩] at h8
      exact hq h8.symm
    have hst := over_strict hn hs ⟨h7.1, hei⟩ (hh k h6.1 h6.2) hne
    rw [h7.2] at hst
    exact ⟨h6, h7.1, h7.2.symm, hne, rank_lt hn (hh k h6.1 h6.2) (at2_in h.st hi hj) hst.1 (Ne.symm hst.2)⟩

theorem table_at (n : Net) (y : List (List Int)) {i j : Int} (hi : 0 ≤ i ∧ i < n.nodes) (hj : 0 ≤ j ∧ j < n.nodes) : at2 (tableA n y) i j = toR n i j (fun k => at2 y k j) := by
  have a0 : ∀ {X : Type} [Inhabited X] (f : Int → X) {q : Int}, 0 ≤ q ∧ q < n.nodes → at0 ((ints n.nodes).map f) q = f q := fun f q hq => by
    have h1 : q.toNat < (ints n.nodes).length := by rw [ints_length]; omega
    simp only [at0, List.getD_eq_getElem?_getD, List.getElem?_map, List.getElem?_eq_getElem h1, Option.map_some, Option.getD_some]
    congr 1
    simp [ints]
    omega
  unfold at2 tableA
  rw [a0 _ hi, a0 _ hj]
  rfl

theorem walk_leads (h : Fixed n y) (hs : StrictA n) {to fr : Int} (ht : 0 ≤ to ∧ to < n.nodes) : ∀ (f : Nat) (at' : Int) (out : List Int), f + out.length = 8 → out.Nodup → (∀ x ∈ out, 0 ≤ x ∧ x < n.nodes) → out.head? = some fr →
    0 ≤ at' ∧ at' < n.nodes → (∀ x ∈ out, rank n (at2 y at' to) ≤ rank n (at2 y x to)) → at2 y at' to ≠ n.alg.size - 1 →
    (walkF (tableA n y) to f at' out).2 = true ∧ (walkF (tableA n y) to f at' out).1.Nodup ∧ (walkF (tableA n y) to f at' out).1.head? = some fr ∧ (walkF (tableA n y) to f at' out).1.length ≤ 6
  | 0, at', out, hf, hd, hin, hh, ha, hr, hv => by
    have hn := netIn_of h.chk
    have h1 := nodup_len (by have := hn.n1; omega) hd hin
    have := hn.n6
    omega
  | f + 1, at', out, hf, hd, hin, hh, ha, hr, hv => by
    have hn := netIn_of h.chk
    have h1 := nodup_len (by have := hn.n1; omega) hd hin
    have n6 := hn.n6
    rw [walkF]
    by_cases hat : at' = to
    · rw [if_pos hat]
      exact ⟨rfl, hd, hh, by show out.length ≤ 6; omega⟩
    · rw [if_neg hat, table_at n y ha ht]
      rcases h.next hs ha ht hat with ⟨h2, _⟩ | ⟨_, k, h2, h3, h4, h5, h6, h7⟩
      · exact absurd h2 hv
      · rw [h2]
        have hk : k ∉ out := fun hm => by
          have := hr k hm
          omega
        rw [if_neg (by rw [not_or]; exact ⟨by omega, hk⟩)]
        refine walk_leads h hs ht f k (out ++ [k]) (by simp; omega) ?_ (fun x hx => ?_) (by rw [List.head?_append, hh]; rfl) h3 (fun x hx => ?_) h6
        · refine List.nodup_append.2 ⟨hd, by simp, fun x hx z hz => ?_⟩
          rw [List.mem_singleton.1 hz]
          rintro rfl
          exact hk hx
        · rcases List.mem_append.1 hx with hx | hx
          · exact hin x hx
          · rw [List.mem_singleton.1 hx]; exact h3
        · rcases List.mem_append.1 hx with hx | hx
          · have := hr x hx; omega
          · rw [List.mem_singleton.1 hx]; exact Nat.le_refl _

/-- The walk from a node: it comes there if there is a valid route, and meets no node twice. -/
theorem leads (h : Fixed n y) (hs : StrictA n) {fr to : Int} (hf : 0 ≤ fr ∧ fr < n.nodes) (ht : 0 ≤ to ∧ to < n.nodes) :
    (walkF (tableA n y) to 7 fr [fr]).2 = decide (at2 y fr to ≠ n.alg.size - 1) ∧ (walkF (tableA n y) to 7 fr [fr]).1.Nodup ∧ (walkF (tableA n y) to 7 fr [fr]).1.head? = some fr ∧ (walkF (tableA n y) to 7 fr [fr]).1.length ≤ 6 := by
  have hn := netIn_of h.chk
  by_cases hv : at2 y fr to = n.alg.size - 1
  · have hne : fr ≠ to := fun e => by
      rw [e, h.own ht] at hv
      have := hn.alg.s2
      omega
    rcases h.next hs hf ht hne with ⟨_, h2⟩ | ⟨h2, _⟩
    · have e : walkF (tableA n y) to 7 fr [fr] = ([fr], false) := by
        rw [walkF, if_neg hne, table_at n y hf ht, h2, if_pos (Or.inl (by decide))]
      rw [e]
      exact ⟨by simp [hv], by simp, rfl, by simp⟩
    · exact absurd hv h2
  · have h1 := walk_leads h hs ht 7 fr [fr] rfl (by simp) (fun x hx => by rw [List.mem_singleton.1 hx]; exact hf) rfl hf (fun x hx => by rw [List.mem_singleton.1 hx]; exact Nat.le_refl _) hv
    rw [h1.1]
    exact ⟨by simp [hv], h1.2⟩

/-- If it is distributive, what one has is no worse than any path. -/
theorem Fixed.least (h : Fixed n y) (hd : DistA n) {to : Int} (ht : 0 ≤ to ∧ to < n.nodes) : ∀ (p : List Int) (i : Int), (∀ k ∈ i :: p, 0 ≤ k ∧ k < n.nodes) → (i :: p).getLast? = some to → (weighA n (i :: p)).2 = true → Le n (at2 y i to) (weighA n (i :: p)).1
  | [], i, hin, hl, ho => by
    have hn := netIn_of h.chk
    have : i = to := by simpa using hl
    rw [this, h.own ht]
    exact le_refl hn (zero_in hn)
  | k :: r, i, hin, hl, ho => by
    have hn := netIn_of h.chk
    obtain ⟨h1, h2, h3⟩ := weigh_cons ho
    have hk := hin k (by simp)
    have hi := hin i (by simp)
    have ih := Fixed.least h hd ht r k (fun x hx => hin x (by simp only [List.mem_cons] at hx ⊢; exact Or.inr hx)) (by simpa using hl) h1
    have hei := edge_in hn h2
    have hyk := at2_in h.st hk ht
    have hw := weigh_in hn (k :: r)
    rw [h3]
    exact le_trans hn (at2_in h.st hi ht) (over_in hn ⟨h2, hei⟩ hyk) (over_in hn ⟨h2, hei⟩ hw) (h.le hi ht h2) (over_mono hn hd ⟨h2, hei⟩ hyk hw ih)

/-- What one has, if it is valid, is what a path weighs. -/
theorem Fixed.path (h : Fixed n y) (hs : StrictA n) {to : Int} (ht : 0 ≤ to ∧ to < n.nodes) : ∀ (m : Nat) (i : Int), 0 ≤ i ∧ i < n.nodes → rank n (at2 y i to) ≤ m → at2 y i to ≠ n.alg.size - 1 →
    ∃ q, Path n (i :: q) ∧ (i :: q).getLast? = some to ∧ (weighA n (i :: q)).1 = at2 y i to ∧ ∀ x ∈ i :: q, rank n (at2 y x to) ≤ rank n (at2 y i to) := by
  have hn := netIn_of h.chk
  have base : ∀ i : Int, 0 ≤ i ∧ i < n.nodes → i = to → ∃ q, Path n (i :: q) ∧ (i :: q).getLast? = some to ∧ (weighA n (i :: q)).1 = at2 y i to ∧ ∀ x ∈ i :: q, rank n (at2 y x to) ≤ rank n (at2 y i to) := by
    rintro i hi rfl
    refine ⟨[], ⟨fun k hk => by rw [List.mem_singleton.1 hk]; exact hi, by simp, rfl⟩, rfl, by rw [h.own ht]; rfl, fun x hx => by rw [List.mem_singleton.1 hx]; exact Nat.le_refl _⟩
  intro m
  induction m with
  | zero =>
    intro i hi hr hv
    by_cases hit : i = to
    · exact base i hi hit
    · rcases h.next hs hi ht hit with ⟨h2, _⟩ | ⟨_, k, h2, h3, h4, h5, h6, h7⟩
      · exact absurd h2 hv
      · omega
  | succ m ih =>
    intro i hi hr hv
    by_cases hit : i = to
    · exact base i hi hit
    · rcases h.next hs hi ht hit with ⟨h2, _⟩ | ⟨_, k, h2, h3, h4, h5, h6, h7⟩
      · exact absurd h2 hv
      · obtain ⟨q, g1, g2, g3, g4⟩ := ih k h3 (by omega) h6
        have hm := weigh_more g1.ok h4
        refine ⟨k :: q, ⟨fun x hx => ?_, List.nodup_cons.2 ⟨fun hx => ?_, g1.one⟩, by rw [hm]⟩, by simpa using g2, by rw [hm, g3]; exact h5.symm, fun x hx => ?_⟩
        · rcases List.mem_cons.1 hx with rfl | hx
          · exact hi
          · exact g1.rng x hx
        · have := g4 i hx
          omega
        · rcases List.mem_cons.1 hx with rfl | hx
          · exact Nat.le_refl _
          · have := g4 x hx
            omega

theorem best_paths (h : Fixed n y) (hs : StrictA n) (hd : DistA n) {fr to : Int} (hf : 0 ≤ fr ∧ fr < n.nodes) (ht : 0 ≤ to ∧ to < n.nodes) : pathsF n to 6 [fr] = at2 y fr to := by
  have hn := netIn_of h.chk
  have hy := at2_in h.st hf ht
  have hp1 : Path n [fr] := ⟨fun k hk => by rw [List.mem_singleton.1 hk]; exact hf, by simp, rfl⟩
  obtain ⟨h1, h2, h3⟩ := paths_good h.chk to 6 [fr] (by simp) hp1 (by have := hn.n6; simp; omega)
  refine le_antisymm hn h1 hy ?_ ?_
  · by_cases hv : at2 y fr to = n.alg.size - 1
    · rw [hv]
      exact le_inv hn h1
    · obtain ⟨q, g1, g2, g3, _⟩ := h.path hs ht _ fr hf (Nat.le_refl _) hv
      have := (h2 (at2 y fr to) ⟨q, g1, g2, g3.symm⟩).2
      exact this
  · rcases h3 with h3 | ⟨q, g1, g2, g3⟩
    · rw [h3]
      exact le_inv hn hy
    · rw [g3]
      exact h.least hd ht q fr g1.rng g2 g1.ok
end
end Go.Proofs.Ytephecognbbaoab
