/- Walks, paths and what they weigh: in plain Lean; the best of all paths is the same, whether they are gone from the end, along links, or from the beginning, by nodes. -/
import Derived.Test.YtephecognbbaoaaPo
/- Turns of nodes, one at a time: in plain Lean. -/
namespace Go.Proofs.Ytephecognbbaoaa
open Go
set_option linter.all false

theorem fit_zero {n : Net} {x : List (List Int)} (h0 : fitA n x = 0) : checkN n = 0 ∧ RowsIn n x := by
  have hc : checkN n = 0 := by
    apply Classical.byContradiction
    intro hc
    rw [fitA, if_pos hc] at h0
    exact hc h0
  exact ⟨hc, rowsIn_of (by rw [fitA, if_neg (by omega)] at h0; exact h0)⟩

structure Trn where
  act : List Bool
  ages : List (List Int)
deriving Inhabited

def turnErr (n : Net) (t : Trn) : Int :=
  if (t.act.length : Int) ≠ n.nodes ∨ (t.ages.length : Int) ≠ n.nodes ∨ t.ages.any (fun r => decide ((r.length : Int) ≠ n.nodes)) = true then 1
  else if t.ages.any (fun r => r.any fun v => !inR v 1 20) then 3
  else 0

def turnsErr (n : Net) : List Trn → Int
  | [] => 0
  | t :: r => if turnErr n t ≠ 0 then turnErr n t else turnsErr n r

def checkT (n : Net) (t : List Trn) : Int := if checkN n ≠ 0 then checkN n else if t.length > 200 then 2 else turnsErr n t

structure TrnIn (n : Net) (t : Trn) : Prop where
  act : (t.act.length : Int) = n.nodes
  len : (t.ages.length : Int) = n.nodes
  row : ∀ r ∈ t.ages, (r.length : Int) = n.nodes
  val : ∀ r ∈ t.ages, ∀ v ∈ r, 1 ≤ v ∧ v ≤ 20

theorem trnIn_of {n : Net} {t : Trn} (h : turnErr n t = 0) : TrnIn n t := by
  unfold turnErr at h
  split at h
  · cases h
  · rename_i h1
    split at h
    · cases h
    · rename_i h2
      rw [not_or, not_or] at h1
      refine ⟨Decidable.not_not.1 h1.1, Decidable.not_not.1 h1.2.1, fun r hr => ?_, fun r hr v hv => ?_⟩
      · apply Classical.byContradiction
        intro hc
        exact h1.2.2 (List.any_eq_true.2 ⟨r, hr, decide_eq_true hc⟩)
      · apply Classical.byContradiction
        intro hc
        exact h2 (List.any_eq_true.2 ⟨r, hr, List.any_eq_true.2 ⟨v, hv, not_inR.2 (by omega)⟩⟩)

theorem trnsIn_of {n : Net} : ∀ {t : List Trn}, turnsErr n t = 0 → ∀ u ∈ t, TrnIn n u
  | [], _, _, hu => by cases hu
  | t :: r, h, u, hu => by
    rw [turnsErr] at h
    by_cases h0 : turnErr n t = 0
    · rw [if_neg (by simpa using h0)] at h
      rcases List.mem_cons.1 hu with rfl | hu
      · exact trnIn_of h0
      · exact trnsIn_of h u hu
    · rw [if_pos h0] at h
      exact absurd h h0

theorem checkT_zero {n : Net} {t : List Trn} (h : checkT n t = 0) : checkN n = 0 ∧ t.length ≤ 200 ∧ ∀ u ∈ t, TrnIn n u := by
  unfold checkT at h
  split at h
  · exact absurd h (by assumption)
  · rename_i h1
    split at h
    · cases h
    · exact ⟨Decidable.not_not.1 h1, by omega, trnsIn_of h⟩

/-- How old a state a turn uses. -/
def usedA (u : Trn) (k i to : Int) : Int := max 0 (k + 1 - at2 u.ages i to)

def nextT (n : Net) (out : List (List (List Int))) (k : Int) (u : Trn) : List (List Int) :=
  (ints n.nodes).map fun i => if at0 u.act i then (ints n.nodes).map (fun j => routeL n i j (fun to => at2 (at0 out (usedA u k i to)) to j) n.links) else at0 (at0 out k) i

/-- All states that come. -/
def runF (n : Net) : Int → List Trn → List (List (List Int)) → List (List (List Int))
  | _, [], out => out
  | k, u :: r, out => runF n (k + 1) r (out ++ [nextT n out k u])

def runA (n : Net) (x : List (List Int)) (t : List Trn) : List (List (List Int)) := runF n 0 t [x]

theorem at2_age {n : Net} {u : Trn} (h : TrnIn n u) {i to : Int} (hi : 0 ≤ i ∧ i < n.nodes) (ht : 0 ≤ to ∧ to < n.nodes) : 1 ≤ at2 u.ages i to ∧ at2 u.ages i to ≤ 20 := by
  have h1 := at0_mem u.ages hi.1 (by rw [h.len]; exact hi.2)
  exact h.val _ h1 _ (at0_mem _ ht.1 (by rw [h.row _ h1]; exact ht.2))

theorem at0_ext {X : Type} [Inhabited X] {a b : List X} (hl : a.length = b.length) (h : ∀ k : Int, 0 ≤ k → k < a.length → at0 a k = at0 b k) : a = b := by
  apply List.ext_getElem hl
  intro i h1 h2
  have := h i (by omega) (by omega)
  simpa [at0, List.getD_eq_getElem?_getD, h1, h2] using this

theorem used_in {n : Net} {u : Trn} (h : TrnIn n u) {k i to : Int} (hk : 0 ≤ k) (hi : 0 ≤ i ∧ i < n.nodes) (ht : 0 ≤ to ∧ to < n.nodes) : 0 ≤ usedA u k i to ∧ usedA u k i to ≤ k := by
  have := at2_age h hi ht
  unfold usedA
  omega

theorem routeL_in {n : Net} (hc : checkN n = 0) (i j : Int) (has : Int → Int) (hh : ∀ k, 0 ≤ k → k < n.nodes → 0 ≤ has k ∧ has k < n.alg.size) : 0 ≤ routeL n i j has n.links ∧ routeL n i j has n.links < n.alg.size := by
  rw [route_eq hc i j has hh]
  exact routeR_in (netIn_of hc) i j has hh

/-- What a turn reads is a route. -/
theorem has_in {n : Net} {u : Trn} (hu : TrnIn n u) {out : List (List (List Int))} (ho : ∀ s ∈ out, RowsIn n s) {k : Int} (hk : 0 ≤ k) (hk2 : k < out.length) {i to j : Int} (hi : 0 ≤ i ∧ i < n.nodes) (ht : 0 ≤ to ∧ to < n.nodes) (hj : 0 ≤ j ∧ j < n.nodes) :
    0 ≤ at2 (at0 out (usedA u k i to)) to j ∧ at2 (at0 out (usedA u k i to)) to j < n.alg.size := by
  have h := used_in hu hk hi ht
  exact at2_in (ho _ (at0_mem out h.1 (by omega))) ht hj

theorem ints_map_at0 {X : Type} [Inhabited X] (l : List X) {m : Int} (h : (l.length : Int) = m) : (ints m).map (fun j => at0 l j) = l := by
  refine at0_ext (by rw [List.length_map, ints_length]; omega) fun k h0 h1 => ?_
  rw [List.length_map, ints_length] at h1
  have h2 : k.toNat < (ints m).length := by rw [ints_length]; omega
  conv => lhs; rw [at0, List.getD_eq_getElem?_getD, List.getElem?_map, List.getElem?_eq_getElem h2, Option.map_some, Option.getD_some]
  congr 1
  simp [ints]
  omega

theorem nextT_in {n : Net} (hc : checkN n = 0) {u : Trn} (hu : TrnIn n u) {out : List (List (List Int))} (ho : ∀ s ∈ out, RowsIn n s) {k : Int} (hk : 0 ≤ k) (hk2 : k < out.length) : RowsIn n (nextT n out k u) := by
  have hn := netIn_of hc
  have n1 := hn.n1
  have hl := ho _ (at0_mem out hk hk2)
  refine ⟨by rw [nextT, List.length_map, ints_length]; omega, fun r hr => ?_, fun r hr v hv => ?_⟩
  all_goals
    obtain ⟨i, hi, rfl⟩ := List.mem_map.1 hr
    have hi := mem_ints.1 hi
  · split
    · rw [List.length_map, ints_length]; omega
    · exact hl.row _ (at0_mem _ hi.1 (by rw [hl.len]; exact hi.2))
  · split at hv
    · obtain ⟨j, hj, rfl⟩ := List.mem_map.1 hv
      have hj := mem_ints.1 hj
      exact routeL_in hc i j _ fun to h0 h1 => has_in hu ho hk hk2 hi ⟨h0, h1⟩ hj
    · exact hl.val _ (at0_mem _ hi.1 (by rw [hl.len]; exact hi.2)) v hv

/-- As the document has it. -/
def cellT (n : Net) (out : List (List (List Int))) (k : Int) (u : Trn) (i j : Int) : Int :=
  if at0 u.act i then routeR n i j (fun to => at2 (at0 out (usedA u k i to)) to j) else at2 (at0 out k) i j

theorem nextT_eq {n : Net} (hc : checkN n = 0) {u : Trn} (hu : TrnIn n u) {out : List (List (List Int))} (ho : ∀ s ∈ out, RowsIn n s) {k : Int} (hk : 0 ≤ k) (hk2 : k < out.length) :
    nextT n out k u = (ints n.nodes).map fun i => (ints n.nodes).map fun j => cellT n out k u i j := by
  have hl := ho _ (at0_mem out hk hk2)
  refine List.map_congr_left fun i hi => ?_
  have hi := mem_ints.1 hi
  by_cases ha : at0 u.act i = true
  · rw [if_pos ha]
    refine List.map_congr_left fun j hj => ?_
    have hj := mem_ints.1 hj
    rw [cellT, if_pos ha]
    exact route_eq hc i j _ fun to h0 h1 => has_in hu ho hk hk2 hi ⟨h0, h1⟩ hj
  · rw [if_neg ha]
    have : (fun j => cellT n out k u i j) = fun j => at0 (at0 (at0 out k) i) j := by
      funext j
      rw [cellT, if_neg ha]
      rfl
    rw [this, ints_map_at0 _ (hl.row _ (at0_mem _ hi.1 (by rw [hl.len]; exact hi.2)))]

theorem runF_in {n : Net} (hc : checkN n = 0) : ∀ {t : List Trn} {out : List (List (List Int))} {k : Int}, (∀ u ∈ t, TrnIn n u) → (∀ s ∈ out, RowsIn n s) → 0 ≤ k → k < out.length → ∀ s ∈ runF n k t out, RowsIn n s
  | [], _, _, _, ho, _, _ => ho
  | u :: r, out, k, hu, ho, hk, hk2 => by
    refine runF_in (t := r) (out := out ++ [nextT n out k u]) (k := k + 1) hc (fun v hv => hu v (by simp [hv])) (fun s hs => ?_) (by omega) (by rw [List.length_append, List.length_singleton]; omega)
    rcases List.mem_append.1 hs with hs | hs
    · exact ho s hs
    · rw [List.mem_singleton.1 hs]
      exact nextT_in hc (hu u (by simp)) ho hk hk2

theorem runF_length (n : Net) : ∀ (t : List Trn) (out : List (List (List Int))) (k : Int), (runF n k t out).length = out.length + t.length
  | [], _, _ => by simp [runF]
  | u :: r, out, k => by rw [runF, runF_length n r]; simp; omega
end Go.Proofs.Ytephecognbbaoaa

/- Nets whose algebra is strict settle, always to the same state: in plain Lean. -/
namespace Go.Proofs.Ytephecognbbaoaa
open Go
set_option linter.all false

section
variable {n : Net}

/-- In range. -/
def InV (n : Net) (a : Int) : Prop := 0 ≤ a ∧ a < n.alg.size

/-- At least as good. -/
def Le (n : Net) (a b : Int) : Prop := bestA n a b = a

theorem best_select (h : NetIn n) {a b : Int} (ha : InV n a) (hb : InV n b) : bestA n a b = a ∨ bestA n a b = b := by
  have hm : (⟨3, a, b, 0, 0⟩ : Brk) ∈ casesA n.alg 3 := mem_cases.2 ⟨rfl, ha, hb, ⟨Int.le_refl _, show (0 : Int) < 1 by decide⟩, ⟨Int.le_refl _, show (0 : Int) < 1 by decide⟩⟩
  have := holds_seven h hm (show (3 : Int) ∈ seven by decide)
  have e : holdsA n.alg ⟨3, a, b, 0, 0⟩ = (decide (at2 n.alg.best a b = a) || decide (at2 n.alg.best a b = b)) := rfl
  rw [e] at this
  simp only [Bool.or_eq_true, decide_eq_true_eq] at this
  exact this

theorem inv_in (h : NetIn n) : InV n (n.alg.size - 1) := ⟨by have := h.alg.s2; omega, by omega⟩

theorem le_inv (h : NetIn n) {a : Int} (ha : InV n a) : Le n a (n.alg.size - 1) := by
  have hm : (⟨5, a, 0, 0, 0⟩ : Brk) ∈ casesA n.alg 5 := mem_cases.2 ⟨rfl, ha, ⟨Int.le_refl _, show (0 : Int) < 1 by decide⟩, ⟨Int.le_refl _, show (0 : Int) < 1 by decide⟩, ⟨Int.le_refl _, show (0 : Int) < 1 by decide⟩⟩
  have := holds_seven h hm (show (5 : Int) ∈ seven by decide)
  have e : holdsA n.alg ⟨5, a, 0, 0, 0⟩ = decide (at2 n.alg.best (n.alg.size - 1) a = a) := rfl
  rw [e] at this
  unfold Le
  rw [best_comm h ha (inv_in h)]
  exact of_decide_eq_true this

theorem over_inv (h : NetIn n) {e : Int} (he : 0 ≤ e ∧ e < n.alg.edges.length) : overA n e (n.alg.size - 1) = n.alg.size - 1 := by
  have hm : (⟨6, 0, 0, 0, e⟩ : Brk) ∈ casesA n.alg 6 := mem_cases.2 ⟨rfl, ⟨Int.le_refl _, show (0 : Int) < 1 by decide⟩, ⟨Int.le_refl _, show (0 : Int) < 1 by decide⟩, ⟨Int.le_refl _, show (0 : Int) < 1 by decide⟩, he⟩
  have := holds_seven h hm (show (6 : Int) ∈ seven by decide)
  have e : holdsA n.alg ⟨6, 0, 0, 0, e⟩ = decide (at2 n.alg.edges e (n.alg.size - 1) = n.alg.size - 1) := rfl
  rw [e] at this
  exact of_decide_eq_true this

def StrictA (n : Net) : Prop := (brokenA n.alg [8]).law = 0

theorem over_strict (h : NetIn n) (hs : StrictA n) {e a : Int} (he : 0 ≤ e ∧ e < n.alg.edges.length) (ha : InV n a) (hi : a ≠ n.alg.size - 1) : Le n a (overA n e a) ∧ overA n e a ≠ a := by
  have hm : (⟨8, a, 0, 0, e⟩ : Brk) ∈ casesA n.alg 8 := mem_cases.2 ⟨rfl, ha, ⟨Int.le_refl _, show (0 : Int) < 1 by decide⟩, ⟨Int.le_refl _, show (0 : Int) < 1 by decide⟩, he⟩
  have := brokenA_none (laws := [8]) (by decide) hs 8 (by simp) _ hm
  have e : holdsA n.alg ⟨8, a, 0, 0, e⟩ = (decide (a = n.alg.size - 1) || (decide (at2 n.alg.best a (at2 n.alg.edges e a) = a) && !decide (at2 n.alg.edges e a = a))) := rfl
  rw [e, decide_eq_false hi, Bool.false_or, Bool.and_eq_true, Bool.not_eq_true', decide_eq_true_eq, decide_eq_false_iff_not] at this
  exact this

theorem le_refl (h : NetIn n) {a : Int} (ha : InV n a) : Le n a a := by
  rcases best_select h ha ha with e | e <;> exact e
theorem le_antisymm (h : NetIn n) {a b : Int} (ha : InV n a) (hb : InV n b) (h1 : Le n a b) (h2 : Le n b a) : a = b := by
  unfold Le at h1 h2
  rw [← h1, best_comm h ha hb, h2]
theorem le_trans (h : NetIn n) {a b c : Int} (ha : InV n a) (hb : InV n b) (hc : InV n c) (h1 : Le n a b) (h2 : Le n b c) : Le n a c := by
  unfold Le at *
  have := best_assoc h ha hb hc
  rw [h2, h1] at this
  exact this.symm
theorem le_total (h : NetIn n) {a b : Int} (ha : InV n a) (hb : InV n b) : Le n a b ∨ Le n b a := by
  rcases best_select h ha hb with e | e
  · exact .inl e
  · right
    unfold Le
    rw [best_comm h hb ha]
    exact e
theorem best_le1 (h : NetIn n) {a b : Int} (ha : InV n a) (hb : InV n b) : Le n (bestA n a b) a := by
  rcases le_total h ha hb with e | e
  · rw [show bestA n a b = a from e]; exact le_refl h ha
  · have : bestA n a b = b := by rw [best_comm h ha hb]; exact e
    rw [this]; exact e
theorem best_le2 (h : NetIn n) {a b : Int} (ha : InV n a) (hb : InV n b) : Le n (bestA n a b) b := by
  rw [best_comm h ha hb]; exact best_le1 h hb ha

/-- How many are better. -/
def rank (n : Net) (v : Int) : Nat := ((ints n.alg.size).filter fun w => decide (bestA n w v = w) && !decide (w = v)).length

theorem filter_lt {p q : Int → Bool} : ∀ (L : List Int), (∀ w ∈ L, p w = true → q w = true) → (∃ w ∈ L, q w = true ∧ p w = false) → (L.filter p).length < (L.filter q).length
  | [], _, h => by obtain ⟨w, hw, _⟩ := h; cases hw
  | x :: r, h1, h2 => by
    have hle : ∀ (L : List Int), (∀ w ∈ L, p w = true → q w = true) → (L.filter p).length ≤ (L.filter q).length := by
      intro L
      induction L with
      | nil => intro _; simp
      | cons y L ih =>
        intro hL
        have h9 := ih fun w hw => hL w (by simp [hw])
        by_cases hp : p y = true
        · rw [List.filter_cons_of_pos hp, List.filter_cons_of_pos (hL y (by simp) hp)]
          simp only [List.length_cons]; omega
        · rw [List.filter_cons_of_neg hp]
          by_cases hq : q y = true
          · rw [List.filter_cons_of_pos hq]; simp only [List.length_cons]; omega
          · rw [List.filter_cons_of_neg hq]; exact h9
    have hr := hle r fun w hw => h1 w (by simp [hw])
    obtain ⟨w, hw, hq, hp⟩ := h2
    by_cases hx : p x = true
    · rw [List.filter_cons_of_pos hx, List.filter_cons_of_pos (h1 x (by simp) hx)]
      have : w ∈ r := by
        rcases List.mem_cons.1 hw with rfl | hw
        · rw [hx] at hp; cases hp
        · exact hw
      have := filter_lt r (fun w hw => h1 w (by simp [hw])) ⟨w, this, hq, hp⟩
      simp only [List.length_cons]; omega
    · rw [List.filter_cons_of_neg hx]
      by_cases hqx : q x = true
      · rw [List.filter_cons_of_pos hqx]; simp only [List.length_cons]; omega
      · rw [List.filter_cons_of_neg hqx]
        have : w ∈ r := by
          rcases List.mem_cons.1 hw with rfl | hw
          · exact absurd hq hqx
          · exact hw
        exact filter_lt r (fun w hw => h1 w (by simp [hw])) ⟨w, this, hq, hp⟩

theorem rank_lt (h : NetIn n) {a b : Int} (ha : InV n a) (hb : InV n b) (h1 : Le n a b) (h2 : a ≠ b) : rank n a < rank n b := by
  refine filter_lt _ (fun w hw hp => ?_) ⟨a, mem_ints.2 ha, ?_, by simp⟩
  · have hw := mem_ints.1 hw
    simp only [Bool.and_eq_true, decide_eq_true_eq, Bool.not_eq_true', decide_eq_false_iff_not] at hp ⊢
    refine ⟨le_trans h hw ha hb hp.1 h1, fun e => ?_⟩
    subst e
    exact h2 (le_antisymm h ha hb h1 hp.1)
  · simp only [Bool.and_eq_true, decide_eq_true_eq, Bool.not_eq_true', decide_eq_false_iff_not]
    exact ⟨h1, h2⟩

theorem rank_top (h : NetIn n) {v : Int} (hv : InV n v) : (rank n v : Int) < n.alg.size := by
  have h1 : rank n v < ((ints n.alg.size).filter fun _ => true).length := filter_lt _ (fun _ _ _ => rfl) ⟨v, mem_ints.2 hv, rfl, by simp⟩
  rw [List.filter_eq_self.2 (fun _ _ => rfl), ints_length] at h1
  have := h.alg.s2
  omega

/-- What a fold of bests is. -/
theorem route_facts (h : NetIn n) (i : Int) (val : Lnk → Int) : ∀ (L : List Lnk) (out : Int), (∀ l ∈ L, InV n (val l)) → InV n out →
    InV n (L.foldl (fun out l => if l.fr = i then bestA n out (val l) else out) out) ∧ Le n (L.foldl (fun out l => if l.fr = i then bestA n out (val l) else out) out) out ∧
    (∀ l ∈ L, l.fr = i → Le n (L.foldl (fun out l => if l.fr = i then bestA n out (val l) else out) out) (val l)) ∧
    (L.foldl (fun out l => if l.fr = i then bestA n out (val l) else out) out = out ∨ ∃ l ∈ L, l.fr = i ∧ L.foldl (fun out l => if l.fr = i then bestA n out (val l) else out) out = val l)
  | [], out, _, ho => ⟨ho, le_refl h ho, (fun l hl => by cases hl), .inl rfl⟩
  | x :: r, out, hv, ho => by
    have hvx := hv x (by simp)
    have hvr : ∀ l ∈ r, InV n (val l) := fun l hl => hv l (by simp [hl])
    rw [List.foldl_cons]
    by_cases e : x.fr = i
    · rw [if_pos e]
      have hb : InV n (bestA n out (val x)) := best_in h ho hvx
      obtain ⟨h1, h2, h3, h4⟩ := route_facts h i val r (bestA n out (val x)) hvr hb
      refine ⟨h1, le_trans h h1 hb ho h2 (best_le1 h ho hvx), fun l hl hf => ?_, ?_⟩
      · rcases List.mem_cons.1 hl with rfl | hl
        · exact le_trans h h1 hb hvx h2 (best_le2 h ho hvx)
        · exact h3 l hl hf
      · rcases h4 with h4 | ⟨l, hl, hf, h4⟩
        · rcases best_select h ho hvx with e2 | e2
          · exact .inl (h4.trans e2)
          · exact .inr ⟨x, by simp, e, h4.trans e2⟩
        · exact .inr ⟨l, by simp [hl], hf, h4⟩
    · rw [if_neg e]
      obtain ⟨h1, h2, h3, h4⟩ := route_facts h i val r out hvr ho
      refine ⟨h1, h2, fun l hl hf => ?_, ?_⟩
      · rcases List.mem_cons.1 hl with rfl | hl
        · exact absurd hf e
        · exact h3 l hl hf
      · rcases h4 with h4 | ⟨l, hl, hf, h4⟩
        · exact .inl h4
        · exact .inr ⟨l, by simp [hl], hf, h4⟩

theorem round_at (hc : checkN n = 0) {x : List (List Int)} (hx : RowsIn n x) {i j : Int} (hi : 0 ≤ i ∧ i < n.nodes) (hj : 0 ≤ j ∧ j < n.nodes) : at2 (roundA n x) i j = routeL n i j (fun k => at2 x k j) n.links := by
  have hn := netIn_of hc
  have n1 := hn.n1
  rw [route_eq hc i j _ fun k h0 h1 => at2_in hx ⟨h0, h1⟩ hj]
  have a0 : ∀ {X : Type} [Inhabited X] (f : Int → X) {q : Int}, 0 ≤ q ∧ q < n.nodes → at0 ((ints n.nodes).map f) q = f q := fun f q hq => by
    have h1 : q.toNat < (ints n.nodes).length := by rw [ints_length]; omega
    simp only [at0, List.getD_eq_getElem?_getD, List.getElem?_map, List.getElem?_eq_getElem h1, Option.map_some, Option.getD_some]
    congr 1
    simp [ints]
    omega
  unfold at2 roundA
  rw [a0 _ hi, a0 _ hj]
  rfl

/-- Where two states differ, both are of rank t or more. -/
def Agree (n : Net) (t : Nat) (x y : List (List Int)) : Prop := ∀ i j, 0 ≤ i ∧ i < n.nodes → 0 ≤ j ∧ j < n.nodes → at2 x i j ≠ at2 y i j → t ≤ rank n (at2 x i j) ∧ t ≤ rank n (at2 y i j)

theorem agree_step1 (hc : checkN n = 0) (hs : StrictA n) {x y : List (List Int)} (hx : RowsIn n x) (hy : RowsIn n y) {t : Nat} (h : Agree n t x y) {i j : Int} (hi : 0 ≤ i ∧ i < n.nodes) (hj : 0 ≤ j ∧ j < n.nodes)
    (hle : Le n (at2 (roundA n x) i j) (at2 (roundA n y) i j)) (hne : at2 (roundA n x) i j ≠ at2 (roundA n y) i j) : t + 1 ≤ rank n (at2 (roundA n x) i j) ∧ t + 1 ≤ rank n (at2 (roundA n y) i j) := by
  have hn := netIn_of hc
  have s2 := hn.alg.s2
  have hrx := at2_in (round_in hn hx) hi hj
  have hry := at2_in (round_in hn hy) hi hj
  have hlt := rank_lt hn hrx hry hle hne
  suffices hk : t + 1 ≤ rank n (at2 (roundA n x) i j) from ⟨hk, by omega⟩
  have hvx : ∀ l ∈ n.links, InV n (overA n l.edge (at2 x l.dst j)) := fun l hl =>
    let g := hn.lnk l hl
    over_in hn ⟨g.e0, g.e1⟩ (at2_in hx ⟨g.d0, g.d1⟩ hj)
  have hvy : ∀ l ∈ n.links, InV n (overA n l.edge (at2 y l.dst j)) := fun l hl =>
    let g := hn.lnk l hl
    over_in hn ⟨g.e0, g.e1⟩ (at2_in hy ⟨g.d0, g.d1⟩ hj)
  have hb : InV n (if i = j then 0 else n.alg.size - 1 : Int) := by unfold InV; split <;> omega
  obtain ⟨_, _, _, f4⟩ := route_facts hn i (fun l => overA n l.edge (at2 x l.dst j)) n.links _ hvx hb
  obtain ⟨_, g2, g3, _⟩ := route_facts hn i (fun l => overA n l.edge (at2 y l.dst j)) n.links _ hvy hb
  have ex : at2 (roundA n x) i j = n.links.foldl (fun out l => if l.fr = i then bestA n out (overA n l.edge (at2 x l.dst j)) else out) (if i = j then 0 else n.alg.size - 1) := round_at hc hx hi hj
  have ey : at2 (roundA n y) i j = n.links.foldl (fun out l => if l.fr = i then bestA n out (overA n l.edge (at2 y l.dst j)) else out) (if i = j then 0 else n.alg.size - 1) := round_at hc hy hi hj
  rw [← ex] at f4
  rw [← ey] at g2 g3
  rcases f4 with f4 | ⟨l, hl, hf, f4⟩
  · rw [f4] at hle hne hrx
    exact absurd (le_antisymm hn hrx hry hle g2) hne
  · have g := hn.lnk l hl
    have hxk := at2_in hx ⟨g.d0, g.d1⟩ hj
    have hyk := at2_in hy ⟨g.d0, g.d1⟩ hj
    have hg3 := g3 l hl hf
    have hdiff : at2 x l.dst j ≠ at2 y l.dst j := fun e => by
      rw [e] at f4
      exact hne (le_antisymm hn hrx hry hle (by rw [f4]; exact hg3))
    have hinv : at2 x l.dst j ≠ n.alg.size - 1 := fun e => by
      rw [e, over_inv hn ⟨g.e0, g.e1⟩] at f4
      refine hne (le_antisymm hn hrx hry hle ?_)
      rw [f4]
      exact le_inv hn hry
    obtain ⟨s1, s3⟩ := over_strict hn hs ⟨g.e0, g.e1⟩ hxk hinv
    rw [← f4] at s1 s3
    have := rank_lt hn hxk hrx s1 (Ne.symm s3)
    have := (h l.dst j ⟨g.d0, g.d1⟩ hj hdiff).1
    omega

theorem agree_symm {t : Nat} {x y : List (List Int)} (h : Agree n t x y) : Agree n t y x := fun i j hi hj hne => ⟨(h i j hi hj (Ne.symm hne)).2, (h i j hi hj (Ne.symm hne)).1⟩

theorem agree_step (hc : checkN n = 0) (hs : StrictA n) {x y : List (List Int)} (hx : RowsIn n x) (hy : RowsIn n y) {t : Nat} (h : Agree n t x y) : Agree n (t + 1) (roundA n x) (roundA n y) := by
  have hn := netIn_of hc
  intro i j hi hj hne
  rcases le_total hn (at2_in (round_in hn hx) hi hj) (at2_in (round_in hn hy) hi hj) with hle | hle
  · exact agree_step1 hc hs hx hy h hi hj hle hne
  · have := agree_step1 hc hs hy hx (agree_symm h) hi hj hle (Ne.symm hne)
    exact ⟨this.2, this.1⟩

def iter (n : Net) : Nat → List (List Int) → List (List Int)
  | 0, x => x
  | t + 1, x => iter n t (roundA n x)

theorem iter_in (hn : NetIn n) : ∀ (t : Nat) {x : List (List Int)}, RowsIn n x → RowsIn n (iter n t x)
  | 0, _, h => h
  | t + 1, _, h => iter_in hn t (round_in hn h)

theorem iter_agree (hc : checkN n = 0) (hs : StrictA n) : ∀ (t u : Nat) {x y : List (List Int)}, RowsIn n x → RowsIn n y → Agree n u x y → Agree n (u + t) (iter n t x) (iter n t y)
  | 0, _, _, _, _, _, h => h
  | t + 1, u, x, y, hx, hy, h => by
    have := iter_agree hc hs t (u + 1) (round_in (netIn_of hc) hx) (round_in (netIn_of hc) hy) (agree_step hc hs hx hy h)
    rw [show u + (t + 1) = u + 1 + t by omega]
    exact this

theorem agree_eq (hn : NetIn n) {x y : List (List Int)} (hx : RowsIn n x) (hy : RowsIn n y) {t : Nat} (ht : n.alg.size - 1 ≤ t) (h : Agree n t x y) : x = y := by
  have key : ∀ i j, 0 ≤ i ∧ i < n.nodes → 0 ≤ j ∧ j < n.nodes → at2 x i j = at2 y i j := fun i j hi hj => by
    apply Classical.byContradiction
    intro hne
    have h1 := h i j hi hj hne
    have vx := at2_in hx hi hj
    have vy := at2_in hy hi hj
    have tx := rank_top hn vx
    have ty := rank_top hn vy
    rcases le_total hn vx vy with hle | hle
    · have := rank_lt hn vx vy hle hne
      omega
    · have := rank_lt hn vy vx hle (Ne.symm hne)
      omega
  refine at0_ext (by have := hx.len; have := hy.len; omega) fun i h0 h1 => ?_
  have hi : 0 ≤ i ∧ i < n.nodes := ⟨h0, by rw [← hx.len]; exact h1⟩
  have rx := hx.row _ (at0_mem x h0 h1)
  have ry := hy.row _ (at0_mem y h0 (by rw [hy.len]; exact hi.2))
  refine at0_ext (by omega) fun j g0 g1 => key i j hi ⟨g0, by rw [← rx]; exact g1⟩

/-- All states meet, by size - 1 rounds. -/
theorem iter_same (hc : checkN n = 0) (hs : StrictA n) {x y : List (List Int)} (hx : RowsIn n x) (hy : RowsIn n y) : iter n (n.alg.size - 1).toNat x = iter n (n.alg.size - 1).toNat y := by
  have hn := netIn_of hc
  have s2 := hn.alg.s2
  have h := iter_agree hc hs (n.alg.size - 1).toNat 0 hx hy (fun i j _ _ _ => ⟨Nat.zero_le _, Nat.zero_le _⟩)
  exact agree_eq hn (iter_in hn _ hx) (iter_in hn _ hy) (by omega) h

theorem iter_round : ∀ (t : Nat) (x : List (List Int)), roundA n (iter n t x) = iter n t (roundA n x)
  | 0, _ => rfl
  | t + 1, x => iter_round t (roundA n x)

theorem iter_fix : ∀ (t : Nat) {x : List (List Int)}, x = roundA n x → iter n t x = x
  | 0, _, _ => rfl
  | t + 1, x, h => by
    rw [iter, ← h]
    exact iter_fix t h

theorem settle_fix : ∀ (f t : Nat) (k : Int) (x : List (List Int)), t ≤ f → iter n t x = roundA n (iter n t x) → (settleF n f k x).1 = roundA n (settleF n f k x).1 ∧ (settleF n f k x).2 ≤ k + t ∧ ∃ u, (settleF n f k x).1 = iter n u x
  | 0, 0, k, x, _, h => ⟨h, by simp [settleF], 0, rfl⟩
  | 0, t + 1, _, _, hl, _ => by omega
  | f + 1, t, k, x, hl, h => by
    by_cases e : x = roundA n x
    · rw [settleF, if_pos e]
      exact ⟨e, by simp only; omega, 0, rfl⟩
    · rw [settleF, if_neg e]
      cases t with
      | zero => exact absurd h e
      | succ t =>
        obtain ⟨h1, h2, u, h3⟩ := settle_fix f t (k + 1) (roundA n x) (by omega) h
        exact ⟨h1, by omega, u + 1, h3⟩

theorem settle_in (hn : NetIn n) {f : Nat} {k : Int} {x : List (List Int)} (hx : RowsIn n x) : RowsIn n (settleF n f k x).1 := by
  induction f generalizing k x with
  | zero => exact hx
  | succ f ih =>
    rw [settleF]
    split
    · exact hx
    · exact ih (round_in hn hx)

theorem fit_ok (hc : checkN n = 0) {x : List (List Int)} (hx : RowsIn n x) : fitA n x = 0 := by
  rw [fitA, if_neg (by simpa using hc), rowsErr, if_neg, if_neg]
  · rw [Bool.not_eq_true, List.any_eq_false]
    intro r hr
    rw [Bool.not_eq_true, List.any_eq_false]
    intro v hv
    have := hx.val r hr v hv
    simp only [inR, Bool.not_eq_true, Bool.not_eq_false', Bool.and_eq_true, decide_eq_true_eq]
    omega
  · rintro (h | h)
    · exact h hx.len
    · obtain ⟨r, hr, h⟩ := List.any_eq_true.1 h
      exact of_decide_eq_true h (hx.row r hr)

/-- Whatever the states: they settle by size rounds, to the same. -/
theorem always (hc : checkN n = 0) (hs : StrictA n) {x y : List (List Int)} (hx : RowsIn n x) (hy : RowsIn n y) :
    (settleF n 100 0 x).1 = roundA n (settleF n 100 0 x).1 ∧ (settleF n 100 0 x).2 ≤ n.alg.size ∧ (settleF n 100 0 y).2 ≤ n.alg.size ∧ (settleF n 100 0 x).1 = (settleF n 100 0 y).1 := by
  have hn := netIn_of hc
  have s2 := hn.alg.s2
  have s24 := hn.alg.s24
  have fix : ∀ z, RowsIn n z → iter n (n.alg.size - 1).toNat z = roundA n (iter n (n.alg.size - 1).toNat z) := fun z hz => by
    rw [iter_round]
    exact iter_same hc hs hz (round_in hn hz)
  obtain ⟨a1, a2, _⟩ := settle_fix 100 (n.alg.size - 1).toNat 0 x (by omega) (fix x hx)
  obtain ⟨b1, b2, _⟩ := settle_fix 100 (n.alg.size - 1).toNat 0 y (by omega) (fix y hy)
  refine ⟨a1, by omega, by omega, ?_⟩
  have := iter_same hc hs (settle_in hn (f := 100) (k := 0) hx) (settle_in hn (f := 100) (k := 0) hy)
  rwa [iter_fix _ a1, iter_fix _ b1] at this
end
end Go.Proofs.Ytephecognbbaoaa

/- Where to: the program's way and the document's find the same: in plain Lean. -/
namespace Go.Proofs.Ytephecognbbaoaa
open Go
set_option linter.all false

section
variable {n : Net}

/-- As the program finds it. -/
def toL (n : Net) (i j : Int) (has : Int → Int) : Int :=
  if i = j then -1
  else if routeL n i j has n.links = n.alg.size - 1 then -1
  else match (ints n.nodes).find? fun k => decide (0 ≤ edgeOf n i k) && decide (overA n (edgeOf n i k) (has k) = routeL n i j has n.links) with
  | some k => k
  | none => -1

/-- As the document does. -/
def toStep (n : Net) (i : Int) (has : Int → Int) (b : Int × Int) (k : Int) : Int × Int :=
  if 0 ≤ edgeOf n i k then (if bestA n b.1 (overA n (edgeOf n i k) (has k)) ≠ b.1 then (overA n (edgeOf n i k) (has k), k) else b) else b
def toR (n : Net) (i j : Int) (has : Int → Int) : Int := if i = j then -1 else ((ints n.nodes).foldl (toStep n i has) (n.alg.size - 1, -1)).2

theorem edge_in (h : NetIn n) {i k : Int} (he : 0 ≤ edgeOf n i k) : edgeOf n i k < n.alg.edges.length := by
  unfold edgeOf at he ⊢
  cases hfd : n.links.find? fun l => decide (l.fr = i) && decide (l.dst = k) with
  | none => rw [hfd] at he; simp at he
  | some l => exact (h.lnk l (List.mem_of_find?_eq_some hfd)).e1

theorem to_fold (h : NetIn n) (i : Int) (has : Int → Int) (hh : ∀ k, 0 ≤ k → k < n.nodes → InV n (has k)) : ∀ (K : List Int) (b : Int × Int), (∀ k ∈ K, 0 ≤ k ∧ k < n.nodes) → InV n b.1 →
    (K.foldl (toStep n i has) b).1 = K.foldl (fun out k => if 0 ≤ edgeOf n i k then bestA n out (overA n (edgeOf n i k) (has k)) else out) b.1 ∧
    InV n (K.foldl (toStep n i has) b).1 ∧ Le n (K.foldl (toStep n i has) b).1 b.1 ∧
    ((K.foldl (toStep n i has) b).1 = b.1 → (K.foldl (toStep n i has) b).2 = b.2) ∧
    ((K.foldl (toStep n i has) b).1 ≠ b.1 → K.find? (fun k => decide (0 ≤ edgeOf n i k) && decide (overA n (edgeOf n i k) (has k) = (K.foldl (toStep n i has) b).1)) = some (K.foldl (toStep n i has) b).2)
  | [], b, _, hb => ⟨rfl, hb, le_refl h hb, fun _ => rfl, fun h => absurd rfl h⟩
  | k :: r, b, hK, hb => by
    rw [List.foldl_cons, List.foldl_cons]
    have hr : ∀ q ∈ r, 0 ≤ q ∧ q < n.nodes := fun q hq => hK q (by simp [hq])
    by_cases he : 0 ≤ edgeOf n i k
    · have hw : InV n (overA n (edgeOf n i k) (has k)) := over_in h ⟨he, edge_in h he⟩ (hh k (hK k (by simp)).1 (hK k (by simp)).2)
      by_cases hu : bestA n b.1 (overA n (edgeOf n i k) (has k)) = b.1
      · have e : toStep n i has b k = b := by rw [toStep, if_pos he, if_neg (not_not_intro hu)]
        obtain ⟨a1, a2, a3, a4, a5⟩ := to_fold h i has hh r b hr hb
        rw [e, if_pos he, hu]
        refine ⟨a1, a2, a3, a4, fun hne => ?_⟩
        rw [List.find?_cons_of_neg, a5 hne]
        rw [Bool.and_eq_true, decide_eq_true_eq, decide_eq_true_eq]
        rintro ⟨_, h9⟩
        rw [h9] at hu
        exact hne (le_antisymm h a2 hb a3 hu)
      · have hb1 : bestA n b.1 (overA n (edgeOf n i k) (has k)) = overA n (edgeOf n i k) (has k) := by
          rcases best_select h hb hw with e | e
          · exact absurd e hu
          · exact e
        have e : toStep n i has b k = (overA n (edgeOf n i k) (has k), k) := by rw [toStep, if_pos he, if_pos hu]
        have hlt : Le n (overA n (edgeOf n i k) (has k)) b.1 := by
          have := best_le1 h hb hw
          rw [hb1] at this
          exact this
        have hwb : overA n (edgeOf n i k) (has k) ≠ b.1 := fun e => hu (hb1.trans e)
        obtain ⟨a1, a2, a3, a4, a5⟩ := to_fold h i has hh r (overA n (edgeOf n i k) (has k), k) hr hw
        rw [e, if_pos he, hb1]
        have hnb : (r.foldl (toStep n i has) (overA n (edgeOf n i k) (has k), k)).1 ≠ b.1 := fun e9 => by
          rw [e9] at a3
          exact hwb (le_antisymm h hw hb hlt a3)
        refine ⟨a1, a2, le_trans h a2 hw hb a3 hlt, fun h9 => absurd h9 hnb, fun _ => ?_⟩
        by_cases hq : (r.foldl (toStep n i has) (overA n (edgeOf n i k) (has k), k)).1 = overA n (edgeOf n i k) (has k)
        · rw [List.find?_cons_of_pos, a4 hq]
          rw [hq, Bool.and_eq_true, decide_eq_true_eq, decide_eq_true_eq]
          exact ⟨he, rfl⟩
        · rw [List.find?_cons_of_neg, a5 hq]
          rw [Bool.and_eq_true, decide_eq_true_eq, decide_eq_true_eq]
          rintro ⟨_, h9⟩
          exact hq h9.symm
    · have e : toStep n i has b k = b := by rw [toStep, if_neg he]
      obtain ⟨a1, a2, a3, a4, a5⟩ := to_fold h i has hh r b hr hb
      rw [e, if_neg he]
      refine ⟨a1, a2, a3, a4, fun hne => ?_⟩
      rw [List.find?_cons_of_neg, a5 hne]
      rw [Bool.and_eq_true, decide_eq_true_eq]
      rintro ⟨h9, _⟩
      exact he h9

theorem to_eq (hc : checkN n = 0) {i j : Int} {has : Int → Int} (hh : ∀ k, 0 ≤ k → k < n.nodes → InV n (has k)) : toL n i j has = toR n i j has := by
  have h := netIn_of hc
  unfold toL toR
  by_cases e : i = j
  · rw [if_pos e, if_pos e]
  · rw [if_neg e, if_neg e]
    obtain ⟨a1, a2, a3, a4, a5⟩ := to_fold h i has hh (ints n.nodes) (n.alg.size - 1, -1) (fun k hk => mem_ints.1 hk) (inv_in h)
    have hr : routeL n i j has n.links = ((ints n.nodes).foldl (toStep n i has) (n.alg.size - 1, -1)).1 := by
      rw [route_eq hc i j has hh, a1]
      unfold routeR
      rw [if_neg e]
    rw [hr]
    by_cases hq : ((ints n.nodes).foldl (toStep n i has) (n.alg.size - 1, -1)).1 = n.alg.size - 1
    · rw [if_pos hq, a4 hq]
    · rw [if_neg hq, a5 hq]

/-- The table of a state. -/
def tableA (n : Net) (x : List (List Int)) : List (List Int) := (ints n.nodes).map fun i => (ints n.nodes).map fun j => toR n i j fun k => at2 x k j
end
end Go.Proofs.Ytephecognbbaoaa

namespace Go.Proofs.Ytephecognbbaoaa
open Go
set_option linter.all false

/-- What is wrong with a table. -/
def tabErr (n : Net) (t : List (List Int)) : Int :=
  if checkN n ≠ 0 then checkN n
  else if (t.length : Int) ≠ n.nodes ∨ t.any (fun r => decide ((r.length : Int) ≠ n.nodes)) = true then 1
  else if t.any (fun r => r.any fun v => !(decide (v = -1) || inR v 0 (n.nodes - 1))) then 5
  else 0

structure TabIn (n : Net) (t : List (List Int)) : Prop where
  chk : checkN n = 0
  len : (t.length : Int) = n.nodes
  row : ∀ r ∈ t, (r.length : Int) = n.nodes
  val : ∀ r ∈ t, ∀ v ∈ r, v = -1 ∨ (0 ≤ v ∧ v < n.nodes)

theorem tabIn_of {n : Net} {t : List (List Int)} (h : tabErr n t = 0) : TabIn n t := by
  unfold tabErr at h
  split at h
  · rename_i h0; exact absurd h h0
  · rename_i h0
    split at h
    · cases h
    · rename_i h1
      split at h
      · cases h
      · rename_i h2
        rw [not_or] at h1
        refine ⟨Decidable.not_not.1 h0, Decidable.not_not.1 h1.1, fun r hr => ?_, fun r hr v hv => ?_⟩
        · apply Classical.byContradiction
          intro hc
          exact h1.2 (List.any_eq_true.2 ⟨r, hr, decide_eq_true hc⟩)
        · apply Classical.byContradiction
          intro hc
          refine h2 (List.any_eq_true.2 ⟨r, hr, List.any_eq_true.2 ⟨v, hv, ?_⟩⟩)
          rw [not_or] at hc
          simp only [hc.1, decide_false, Bool.false_or]
          exact not_inR.2 (by omega)

/-- A walk by a table. -/
def walkF (t : List (List Int)) (to : Int) : Nat → Int → List Int → List Int × Bool
  | 0, _, out => (out, true)
  | f + 1, at', out => if at' = to then (out, true) else if at2 t at' to < 0 ∨ at2 t at' to ∈ out then (out, false) else walkF t to f (at2 t at' to) (out ++ [at2 t at' to])

theorem tab_at2 {n : Net} {t : List (List Int)} (h : TabIn n t) {i j : Int} (hi : 0 ≤ i ∧ i < n.nodes) (hj : 0 ≤ j ∧ j < n.nodes) : at2 t i j = -1 ∨ (0 ≤ at2 t i j ∧ at2 t i j < n.nodes) := by
  have h1 := at0_mem t hi.1 (by have := h.len; omega)
  have h2 := h.row _ h1
  exact h.val _ h1 _ (at0_mem _ hj.1 (by omega))

theorem nodup_len {m : Int} {l : List Int} (hm : 0 ≤ m) (hd : l.Nodup) (hin : ∀ k ∈ l, 0 ≤ k ∧ k < m) : (l.length : Int) ≤ m := by
  have h1 : l.length ≤ (ints m).length := by
    have hs : l ⊆ ints m := fun k hk => mem_ints.2 (hin k hk)
    exact hd.length_le_of_subset hs
  rw [ints_length] at h1
  omega

/-- Weigh: and is it a path. -/
def weighA (n : Net) : List Int → Int × Bool
  | [] => (0, false)
  | [_] => (0, true)
  | a :: b :: r => if (weighA n (b :: r)).2 = false ∨ edgeOf n a b < 0 then (0, false) else (overA n (edgeOf n a b) (weighA n (b :: r)).1, true)

def weighErr (n : Net) (p : List Int) : Int := if checkN n ≠ 0 then checkN n else if p = [] then 1 else if p.any (fun i => !inR i 0 (n.nodes - 1)) then 5 else if (weighA n p).2 then 0 else 5
def weighV (n : Net) (p : List Int) : Int := if weighErr n p = 0 then (weighA n p).1 else 0

theorem weigh_cons {n : Net} {a b : Int} {r : List Int} (h : (weighA n (a :: b :: r)).2 = true) : (weighA n (b :: r)).2 = true ∧ 0 ≤ edgeOf n a b ∧ (weighA n (a :: b :: r)).1 = overA n (edgeOf n a b) (weighA n (b :: r)).1 := by
  rw [weighA] at h ⊢
  split at h
  · cases h
  · rename_i h1
    rw [if_neg h1]
    rw [not_or] at h1
    exact ⟨by simpa using h1.1, by omega, rfl⟩

theorem weigh_more {n : Net} {a b : Int} {r : List Int} (h : (weighA n (b :: r)).2 = true) (he : 0 ≤ edgeOf n a b) : weighA n (a :: b :: r) = (overA n (edgeOf n a b) (weighA n (b :: r)).1, true) := by
  rw [weighA, if_neg]
  rw [h]
  intro hc
  rcases hc with hc | hc
  · cases hc
  · omega

theorem weigh_bad {n : Net} {a b : Int} {r : List Int} (h : (weighA n (b :: r)).2 = false) : weighA n (a :: b :: r) = (0, false) := by
  rw [weighA, if_pos (Or.inl h)]

theorem weigh_gap {n : Net} {a b : Int} {r : List Int} (he : edgeOf n a b < 0) : weighA n (a :: b :: r) = (0, false) := by
  rw [weighA, if_pos (Or.inr he)]

theorem ok_tail {n : Net} : ∀ (q : List Int) {p : List Int}, p ≠ [] → (weighA n (q ++ p)).2 = true → (weighA n p).2 = true
  | [], _, _, h => h
  | a :: q, p, hp, h => by
    rcases e : q ++ p with _ | ⟨b, r⟩
    · exact absurd (List.append_eq_nil_iff.1 e).2 hp
    · rw [List.cons_append, e] at h
      have := (weigh_cons h).1
      rw [← e] at this
      exact ok_tail q hp this

theorem ok_edge {n : Net} : ∀ (q : List Int) {a b : Int} {r : List Int}, (weighA n (q ++ a :: b :: r)).2 = true → 0 ≤ edgeOf n a b := fun q a b r h =>
  (weigh_cons (ok_tail q (by simp) h)).2.1

theorem ok_init {n : Net} : ∀ (p : List Int) {q : List Int}, p ≠ [] → (weighA n (p ++ q)).2 = true → (weighA n p).2 = true
  | [], _, h, _ => absurd rfl h
  | [a], _, _, _ => rfl
  | a :: b :: r, q, _, h => by
    have h1 := weigh_cons (show (weighA n (a :: b :: (r ++ q))).2 = true from h)
    have h2 := ok_init (b :: r) (q := q) (by simp) h1.1
    rw [weigh_more h2 h1.2.1]

theorem ok_snoc {n : Net} {k : Int} : ∀ {p : List Int} {a : Int}, p.getLast? = some a → (weighA n p).2 = true → 0 ≤ edgeOf n a k → (weighA n (p ++ [k])).2 = true
  | [], _, h, _, _ => by cases h
  | [b], a, h, _, he => by
    have : b = a := by simpa using h
    subst this
    show (weighA n (b :: k :: [])).2 = true
    rw [weigh_more rfl he]
  | b :: c :: r, a, h, ho, he => by
    have h1 := weigh_cons ho
    have h2 : (weighA n (c :: (r ++ [k]))).2 = true := ok_snoc (p := c :: r) (a := a) (by rw [← h]; simp) h1.1 he
    show (weighA n (b :: c :: (r ++ [k]))).2 = true
    rw [weigh_more h2 h1.2.1]

theorem edge_link {n : Net} (ha : Apart n.links) {l : Lnk} (hl : l ∈ n.links) : edgeOf n l.fr l.dst = l.edge := by
  unfold edgeOf
  have key : ∀ L : List Lnk, Apart L → l ∈ L → L.find? (fun x => decide (x.fr = l.fr) && decide (x.dst = l.dst)) = some l := by
    intro L
    induction L with
    | nil => intro _ h; cases h
    | cons x L ih =>
      intro h hm
      by_cases e : (decide (x.fr = l.fr) && decide (x.dst = l.dst)) = true
      · rw [List.find?_cons_of_pos (by simpa using e)]
        rcases List.mem_cons.1 hm with rfl | hm
        · rfl
        · have h1 := h.1 l hm
          simp only [Bool.and_eq_true, decide_eq_true_eq] at e
          have : l.like x = true := by simp [Lnk.like]; omega
          rw [this] at h1
          cases h1
      · rw [List.find?_cons_of_neg (by simpa using e)]
        rcases List.mem_cons.1 hm with rfl | hm
        · simp at e
        · exact ih h.2 hm
  rw [key _ ha hl]
  rfl

theorem edge_has {n : Net} {i k : Int} (he : 0 ≤ edgeOf n i k) : ∃ l ∈ n.links, l.fr = i ∧ l.dst = k ∧ l.edge = edgeOf n i k := by
  unfold edgeOf at he ⊢
  rcases hf : n.links.find? fun l => decide (l.fr = i) && decide (l.dst = k) with _ | l
  · rw [hf] at he
    exact absurd he (by decide)
  · have h1 := List.find?_some hf
    simp only [Bool.and_eq_true, decide_eq_true_eq] at h1
    exact ⟨l, List.mem_of_find?_eq_some hf, h1.1, h1.2, by rw [hf]; rfl⟩

theorem weigh_in {n : Net} (h : NetIn n) : ∀ p : List Int, InV n (weighA n p).1
  | [] => ⟨by show (0 : Int) ≤ 0; omega, by have := h.alg.s2; show (0 : Int) < _; omega⟩
  | [_] => ⟨by show (0 : Int) ≤ 0; omega, by have := h.alg.s2; show (0 : Int) < _; omega⟩
  | a :: b :: r => by
    rw [weighA]
    split
    · exact ⟨by show (0 : Int) ≤ 0; omega, by have := h.alg.s2; show (0 : Int) < _; omega⟩
    · rename_i h1
      have he : 0 ≤ edgeOf n a b := by rw [not_or] at h1; omega
      exact over_in h ⟨he, edge_in h he⟩ (weigh_in h (b :: r))

/-- The best along a list, of what is found by each that counts: it is no worse than any of it, and it is one of it, or what it was. -/
theorem fold_good {n : Net} (h : NetIn n) {X : Type} (c : X → Bool) (g : X → Int → Int) (T : X → Int → Prop) : ∀ (L : List X), (∀ x ∈ L, c x = true → ∀ b, InV n b → InV n (g x b) ∧ Le n (g x b) b ∧ (∀ v, T x v → InV n v ∧ Le n (g x b) v) ∧ (g x b = b ∨ T x (g x b))) →
    ∀ b, InV n b → InV n (L.foldl (fun b x => if c x = true then g x b else b) b) ∧ Le n (L.foldl (fun b x => if c x = true then g x b else b) b) b ∧
      (∀ x ∈ L, c x = true → ∀ v, T x v → Le n (L.foldl (fun b x => if c x = true then g x b else b) b) v) ∧
      (L.foldl (fun b x => if c x = true then g x b else b) b = b ∨ ∃ x ∈ L, c x = true ∧ T x (L.foldl (fun b x => if c x = true then g x b else b) b))
  | [], _, b, hb => ⟨hb, le_refl h hb, fun x hx => absurd hx (by simp), Or.inl rfl⟩
  | x :: L, hg, b, hb => by
    rw [List.foldl_cons]
    by_cases hc : c x = true
    · rw [if_pos hc]
      have h1 := hg x (by simp) hc b hb
      have ih := fold_good h c g T L (fun y hy => hg y (by simp [hy])) (g x b) h1.1
      refine ⟨ih.1, le_trans h ih.1 h1.1 hb ih.2.1 h1.2.1, fun y hy hcy v hv => ?_, ?_⟩
      · rcases List.mem_cons.1 hy with rfl | hy
        · have h2 := h1.2.2.1 v hv
          exact le_trans h ih.1 h1.1 h2.1 ih.2.1 h2.2
        · exact ih.2.2.1 y hy hcy v hv
      · rcases ih.2.2.2 with e | ⟨y, hy, hcy, ht⟩
        · rw [e]
          rcases h1.2.2.2 with e2 | ht
          · exact Or.inl e2
          · exact Or.inr ⟨x, by simp, hc, ht⟩
        · exact Or.inr ⟨y, by simp [hy], hcy, ht⟩
    · rw [if_neg hc]
      have ih := fold_good h c g T L (fun y hy => hg y (by simp [hy])) b hb
      refine ⟨ih.1, ih.2.1, fun y hy hcy v hv => ?_, ?_⟩
      · rcases List.mem_cons.1 hy with rfl | hy
        · exact absurd hcy hc
        · exact ih.2.2.1 y hy hcy v hv
      · rcases ih.2.2.2 with e | ⟨y, hy, hcy, ht⟩
        · exact Or.inl e
        · exact Or.inr ⟨y, by simp [hy], hcy, ht⟩

/-- A path without a node twice. -/
structure Path (n : Net) (p : List Int) : Prop where
  rng : ∀ k ∈ p, 0 ≤ k ∧ k < n.nodes
  one : p.Nodup
  ok : (weighA n p).2 = true

/-- From the end on, along links: s is what is behind. -/
def visitF (n : Net) (fr : Int) : Nat → List Int → Int → Int → Int → Int
  | 0, _, _, _, b => b
  | f + 1, s, at', w, b => if at' = fr then bestA n b w else
    n.links.foldl (fun b l => if (decide (l.dst = at') && !decide (l.fr ∈ at' :: s)) = true then visitF n fr f (at' :: s) l.fr (overA n l.edge w) b else b) b

/-- From the beginning on, by nodes. -/
def pathsF (n : Net) (to : Int) : Nat → List Int → Int
  | 0, _ => n.alg.size - 1
  | f + 1, p => if p.getLastD 0 = to then (weighA n p).1 else
    (ints n.nodes).foldl (fun b k => if (decide (0 ≤ edgeOf n (p.getLastD 0) k) && !decide (k ∈ p)) = true then bestA n b (pathsF n to f (p ++ [k])) else b) (n.alg.size - 1)

theorem path_tail {n : Net} {q p : List Int} (hp : p ≠ []) (h : Path n (q ++ p)) : Path n p :=
  ⟨fun k hk => h.rng k (by simp [hk]), (List.nodup_append.1 h.one).2.1, ok_tail q hp h.ok⟩
theorem path_init {n : Net} {q p : List Int} (hp : p ≠ []) (h : Path n (p ++ q)) : Path n p :=
  ⟨fun k hk => h.rng k (by simp [hk]), (List.nodup_append.1 h.one).1, ok_init p hp h.ok⟩

theorem visit_good {n : Net} (hc : checkN n = 0) (fr : Int) : ∀ (f : Nat) (s : List Int) (at' b : Int), Path n (at' :: s) → n.nodes ≤ s.length + f → InV n b →
    InV n (visitF n fr f s at' (weighA n (at' :: s)).1 b) ∧ Le n (visitF n fr f s at' (weighA n (at' :: s)).1 b) b ∧
      (∀ v, (∃ q, Path n (q ++ at' :: s) ∧ (q ++ at' :: s).head? = some fr ∧ v = (weighA n (q ++ at' :: s)).1) → InV n v ∧ Le n (visitF n fr f s at' (weighA n (at' :: s)).1 b) v) ∧
      (visitF n fr f s at' (weighA n (at' :: s)).1 b = b ∨ ∃ q, Path n (q ++ at' :: s) ∧ (q ++ at' :: s).head? = some fr ∧ visitF n fr f s at' (weighA n (at' :: s)).1 b = (weighA n (q ++ at' :: s)).1)
  | 0, s, at', b, hp, hf, hb => by
    have hn := netIn_of hc
    have h1 := nodup_len (by have := hn.n1; omega) hp.one hp.rng
    simp only [List.length_cons] at h1
    omega
  | f + 1, s, at', b, hp, hf, hb => by
    have hn := netIn_of hc
    have hw := weigh_in hn (at' :: s)
    rw [visitF]
    by_cases hat : at' = fr
    · rw [if_pos hat]
      refine ⟨best_in hn hb hw, best_le1 hn hb hw, ?_, ?_⟩
      · rintro v ⟨q, hq, hh, rfl⟩
        rcases q with _ | ⟨a, q⟩
        · exact ⟨hw, best_le2 hn hb hw⟩
        · have : a = fr := by simpa using hh
          subst this
          have h1 := hq.one
          rw [List.cons_append, List.nodup_cons] at h1
          exact absurd (by simp [hat]) h1.1
      · rcases best_select hn hb hw with e | e
        · exact Or.inl e
        · exact Or.inr ⟨[], hp, by simp [hat], e⟩
    · rw [if_neg hat]
      have hg : ∀ l ∈ n.links, (decide (l.dst = at') && !decide (l.fr ∈ at' :: s)) = true → Path n (l.fr :: at' :: s) ∧ overA n l.edge (weighA n (at' :: s)).1 = (weighA n (l.fr :: at' :: s)).1 := by
        intro l hl hcl
        simp only [Bool.and_eq_true, decide_eq_true_eq, Bool.not_eq_true', decide_eq_false_iff_not] at hcl
        have hk := hn.lnk l hl
        have he := edge_link (apart_of hc) hl
        rw [hcl.1] at he
        have h0 : 0 ≤ edgeOf n l.fr at' := by rw [he]; exact hk.e0
        have hm := weigh_more hp.ok h0
        refine ⟨⟨fun k hkm => ?_, ?_, by rw [hm]⟩, ?_⟩
        · rcases List.mem_cons.1 hkm with rfl | hkm
          · exact ⟨hk.f0, hk.f1⟩
          · exact hp.rng k hkm
        · exact List.nodup_cons.2 ⟨hcl.2, hp.one⟩
        · rw [hm, he]
      have key := fold_good hn (fun l : Lnk => decide (l.dst = at') && !decide (l.fr ∈ at' :: s)) (fun l b => visitF n fr f (at' :: s) l.fr (overA n l.edge (weighA n (at' :: s)).1) b)
        (fun l v => ∃ q, Path n (q ++ l.fr :: at' :: s) ∧ (q ++ l.fr :: at' :: s).head? = some fr ∧ v = (weighA n (q ++ l.fr :: at' :: s)).1) n.links (fun l hl hcl b hb => by
          have h1 := hg l hl hcl
          have ih := visit_good hc fr f (at' :: s) l.fr b h1.1 (by simp only [List.length_cons]; omega) hb
          rw [← h1.2] at ih
          exact ih) b hb
      refine ⟨key.1, key.2.1, ?_, ?_⟩
      · rintro v ⟨q, hq, hh, rfl⟩
        refine ⟨weigh_in hn _, ?_⟩
        rcases List.eq_nil_or_concat q with rfl | ⟨q', k, rfl⟩
        · exact absurd (by simpa using hh) hat
        · rw [List.concat_eq_append, List.append_assoc, List.singleton_append] at hq hh ⊢
          have he := ok_edge q' hq.ok
          obtain ⟨l, hl, h1, h2, h3⟩ := edge_has he
          refine key.2.2.1 l hl ?_ _ ⟨q', by rw [h1]; exact hq, by rw [h1]; exact hh, by rw [h1]⟩
          have h4 := (path_tail (by simp) hq).one
          rw [List.nodup_cons] at h4
          simp only [h2, h1, decide_true, Bool.true_and, Bool.not_eq_true', decide_eq_false_iff_not]
          exact h4.1
      · rcases key.2.2.2 with e | ⟨l, hl, hcl, q, hq, hh, e⟩
        · exact Or.inl e
        · exact Or.inr ⟨q ++ [l.fr], by simpa using hq, by simpa using hh, by simpa using e⟩

theorem paths_good {n : Net} (hc : checkN n = 0) (to : Int) : ∀ (f : Nat) (p : List Int), p ≠ [] → Path n p → n.nodes + 1 ≤ p.length + f →
    InV n (pathsF n to f p) ∧ (∀ v, (∃ q, Path n (p ++ q) ∧ (p ++ q).getLast? = some to ∧ v = (weighA n (p ++ q)).1) → InV n v ∧ Le n (pathsF n to f p) v) ∧
      (pathsF n to f p = n.alg.size - 1 ∨ ∃ q, Path n (p ++ q) ∧ (p ++ q).getLast? = some to ∧ pathsF n to f p = (weighA n (p ++ q)).1)
  | 0, p, hp0, hp, hf => by
    have hn := netIn_of hc
    have h1 := nodup_len (by have := hn.n1; omega) hp.one hp.rng
    omega
  | f + 1, p, hp0, hp, hf => by
    have hn := netIn_of hc
    have hw := weigh_in hn p
    obtain ⟨p', a, rfl⟩ : ∃ p' a, p = p' ++ [a] := by
      rcases List.eq_nil_or_concat p with rfl | ⟨p', a, rfl⟩
      · exact absurd rfl hp0
      · exact ⟨p', a, List.concat_eq_append⟩
    have hl : (p' ++ [a]).getLastD 0 = a := by simp
    rw [pathsF, hl]
    by_cases hat : a = to
    · rw [if_pos hat]
      refine ⟨hw, ?_, Or.inr ⟨[], by simpa using hp, by simp [hat], by simp⟩⟩
      rintro v ⟨q, hq, hh, rfl⟩
      refine ⟨weigh_in hn _, ?_⟩
      rcases List.eq_nil_or_concat q with rfl | ⟨q', k, rfl⟩
      · rw [List.append_nil]; exact le_refl hn hw
      · rw [List.concat_eq_append, ← List.append_assoc, List.getLast?_concat] at hh
        have hk : k = to := by simpa using hh
        have h1 := (List.nodup_append.1 hq.one).2.2 a (by simp) k (by simp)
        exact absurd (by rw [hat, hk]) h1
    · rw [if_neg hat]
      have hg : ∀ k ∈ ints n.nodes, (decide (0 ≤ edgeOf n a k) && !decide (k ∈ p' ++ [a])) = true → Path n ((p' ++ [a]) ++ [k]) := by
        intro k hk hck
        simp only [Bool.and_eq_true, decide_eq_true_eq, Bool.not_eq_true', decide_eq_false_iff_not] at hck
        have hkr := mem_ints.1 hk
        refine ⟨fun x hx => ?_, ?_, ok_snoc (by simp) hp.ok hck.1⟩
        · rcases List.mem_append.1 hx with hx | hx
          · exact hp.rng x hx
          · rw [List.mem_singleton.1 hx]; exact hkr
        · refine List.nodup_append.2 ⟨hp.one, by simp, fun x hx y hy => ?_⟩
          rw [List.mem_singleton.1 hy]
          rintro rfl
          exact hck.2 hx
      have key := fold_good hn (fun k : Int => decide (0 ≤ edgeOf n a k) && !decide (k ∈ p' ++ [a])) (fun k b => bestA n b (pathsF n to f (p' ++ [a] ++ [k])))
        (fun k v => ∃ q, Path n (p' ++ [a] ++ [k] ++ q) ∧ (p' ++ [a] ++ [k] ++ q).getLast? = some to ∧ v = (weighA n (p' ++ [a] ++ [k] ++ q)).1) (ints n.nodes) (fun k hk hck b hb => by
          have ih := paths_good hc to f (p' ++ [a] ++ [k]) (by simp) (hg k hk hck) (by simp only [List.length_append, List.length_cons, List.length_nil] at hf ⊢; omega)
          refine ⟨best_in hn hb ih.1, best_le1 hn hb ih.1, fun v hv => ?_, ?_⟩
          · have h2 := ih.2.1 v hv
            exact ⟨h2.1, le_trans hn (best_in hn hb ih.1) ih.1 h2.1 (best_le2 hn hb ih.1) h2.2⟩
          · rcases ih.2.2 with e | ⟨q, hq, hh, e⟩
            · rw [e]
              exact Or.inl (le_inv hn hb)
            · rcases best_select hn hb ih.1 with e2 | e2
              · exact Or.inl e2
              · exact Or.inr ⟨q, hq, hh, by rw [e2, e]⟩) (n.alg.size - 1) (inv_in hn)
      refine ⟨key.1, ?_, ?_⟩
      · rintro v ⟨q, hq, hh, rfl⟩
        refine ⟨weigh_in hn _, ?_⟩
        rcases q with _ | ⟨k, q⟩
        · exact absurd (by simpa using hh) hat
        · have e : p' ++ [a] ++ k :: q = p' ++ [a] ++ [k] ++ q := by simp
          rw [e] at hq hh ⊢
          have h1 : Path n (p' ++ [a] ++ [k]) := path_init (by simp) hq
          refine key.2.2.1 k (mem_ints.2 (h1.rng k (by simp))) ?_ _ ⟨q, hq, hh, rfl⟩
          have h2 : 0 ≤ edgeOf n a k := ok_edge p' (by have := h1.ok; simpa using this)
          have h3 := (List.nodup_append.1 h1.one).2.2
          simp only [h2, decide_true, Bool.true_and, Bool.not_eq_true', decide_eq_false_iff_not]
          intro hm
          exact h3 k hm k (by simp) rfl
      · rcases key.2.2.2 with e | ⟨k, hk, hck, q, hq, hh, e⟩
        · exact Or.inl e
        · exact Or.inr ⟨k :: q, by simpa using hq, by simpa using hh, by simpa using e⟩

/-- The best of all paths. -/
theorem paths_eq {n : Net} (hc : checkN n = 0) {fr to : Int} (hf : 0 ≤ fr ∧ fr < n.nodes) (ht : 0 ≤ to ∧ to < n.nodes) : visitF n fr 6 [] to 0 (n.alg.size - 1) = pathsF n to 6 [fr] := by
  have hn := netIn_of hc
  have n6 := hn.n6
  have one : ∀ {k : Int}, 0 ≤ k ∧ k < n.nodes → Path n [k] := fun h => ⟨fun x hx => by rw [List.mem_singleton.1 hx]; exact h, by simp, rfl⟩
  have hv := visit_good hc fr 6 [] to (n.alg.size - 1) (one ht) (by simp; omega) (inv_in hn)
  have hp := paths_good hc to 6 [fr] (by simp) (one hf) (by simp; omega)
  have e0 : (weighA n [to]).1 = 0 := rfl
  rw [e0] at hv
  refine le_antisymm hn hv.1 hp.1 ?_ ?_
  · rcases hp.2.2 with e | ⟨q, hq, hh, e⟩
    · rw [e]; exact le_inv hn hv.1
    · rw [e]
      obtain ⟨p', hp'⟩ : ∃ p', [fr] ++ q = p' ++ [to] := by
        rcases List.eq_nil_or_concat ([fr] ++ q) with e | ⟨p', a, e⟩
        · simp at e
        · rw [List.concat_eq_append] at e
          rw [e, List.getLast?_concat] at hh
          exact ⟨p', by rw [e]; simpa using hh⟩
      refine (hv.2.2.1 _ ⟨p', by rw [← hp']; exact hq, by rw [← hp']; rfl, by rw [← hp']⟩).2
  · rcases hv.2.2.2 with e | ⟨q, hq, hh, e⟩
    · rw [e]; exact le_inv hn hp.1
    · rw [e]
      obtain ⟨r, hr⟩ : ∃ r, q ++ [to] = [fr] ++ r := by
        rcases e2 : q ++ [to] with _ | ⟨a, r⟩
        · simp at e2
        · rw [e2] at hh
          exact ⟨r, by simpa using hh⟩
      refine (hp.2.1 _ ⟨r, by rw [← hr]; exact hq, by rw [← hr]; simp, by rw [← hr]⟩).2
end Go.Proofs.Ytephecognbbaoaa
