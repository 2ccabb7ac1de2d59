/- Nets whose algebra is strict settle, always to the same state: in plain Lean. -/
import Derived.Test.YtephecognbbaoaaPr
namespace Go.Proofs.Ytephecognbbaoaa
open Go
set_option linter.all false

section
variable {n : Net}

/-- In range. -/
def InV (n : Net) (a : Int) : Prop := 0 ≤ a ∧ a < n.alg.size

/-- At least as good. -/
def Le (n : Net) (a b : Int) : Prop := bestA n a b = a

theorem best_select (h : NetIn n) {a b : Int} (ha : InV n a) (hb : InV n b) : bestA n a b = a ∨ bestA n a b = b := by
  have hm : (⟨3, a, b, 0, 0⟩ : Brk) ∈ casesA n.alg 3 := mem_cases.2 ⟨rfl, ha, hb, ⟨Int.le_refl _, show (0 : Int) < 1 by decide⟩, ⟨Int.le_refl _, show (0 : Int) < 1 by decide⟩⟩
  have := holds_seven h hm (show (3 : Int) ∈ seven by decide)
  have e : holdsA n.alg ⟨3, a, b, 0, 0⟩ = (decide (at2 n.alg.best a b = a) || decide (at2 n.alg.best a b = b)) := rfl
  rw [e] at this
  simp only [Bool.or_eq_true, decide_eq_true_eq] at this
  exact this

theorem inv_in (h : NetIn n) : InV n (n.alg.size - 1) := ⟨by have := h.alg.s2; omega, by omega⟩

theorem le_inv (h : NetIn n) {a : Int} (ha : InV n a) : Le n a (n.alg.size - 1) := by
  have hm : (⟨5, a, 0, 0, 0⟩ : Brk) ∈ casesA n.alg 5 := mem_cases.2 ⟨rfl, ha, ⟨Int.le_refl _, show (0 : Int) < 1 by decide⟩, ⟨Int.le_refl _, show (0 : Int) < 1 by decide⟩, ⟨Int.le_refl _, show (0 : Int) < 1 by decide⟩⟩
  have := holds_seven h hm (show (5 : Int) ∈ seven by decide)
  have e : holdsA n.alg ⟨5, a, 0, 0, 0⟩ = decide (at2 n.alg.best (n.alg.size - 1) a = a) := rfl
  rw [e] at this
  unfold Le
  rw [best_comm h ha (inv_in h)]
  exact of_decide_eq_true this

theorem over_inv (h : NetIn n) {e : Int} (he : 0 ≤ e ∧ e < n.alg.edges.length) : overA n e (n.alg.size - 1) = n.alg.size - 1 := by
  have hm : (⟨6, 0, 0, 0, e⟩ : Brk) ∈ casesA n.alg 6 := mem_cases.2 ⟨rfl, ⟨Int.le_refl _, show (0 : Int) < 1 by decide⟩, ⟨Int.le_refl _, show (0 : Int) < 1 by decide⟩, ⟨Int.le_refl _, show (0 : Int) < 1 by decide⟩, he⟩
  have := holds_seven h hm (show (6 : Int) ∈ seven by decide)
  have e : holdsA n.alg ⟨6, 0, 0, 0, e⟩ = decide (at2 n.alg.edges e (n.alg.size - 1) = n.alg.size - 1) := rfl
  rw [e] at this
  exact of_decide_eq_true this

def StrictA (n : Net) : Prop := (brokenA n.alg [8]).law = 0

theorem over_strict (h : NetIn n) (hs : StrictA n) {e a : Int} (he : 0 ≤ e ∧ e < n.alg.edges.length) (ha : InV n a) (hi : a ≠ n.alg.size - 1) : Le n a (overA n e a) ∧ overA n e a ≠ a := by
  have hm : (⟨8, a, 0, 0, e⟩ : Brk) ∈ casesA n.alg 8 := mem_cases.2 ⟨rfl, ha, ⟨Int.le_refl _, show (0 : Int) < 1 by decide⟩, ⟨Int.le_refl _, show (0 : Int) < 1 by decide⟩, he⟩
  have := brokenA_none (laws := [8]) (by decide) hs 8 (by simp) _ hm
  have e : holdsA n.alg ⟨8, a, 0, 0, e⟩ = (decide (a = n.alg.size - 1) || (decide (at2 n.alg.best a (at2 n.alg.edges e a) = a) && !decide (at2 n.alg.edges e a = a))) := rfl
  rw [e, decide_eq_false hi, Bool.false_or, Bool.and_eq_true, Bool.not_eq_true', decide_eq_true_eq, decide_eq_false_iff_not] at this
  exact this

theorem le_refl (h : NetIn n) {a : Int} (ha : InV n a) : Le n a a := by
  rcases best_select h ha ha with e | e <;> exact e
theorem le_antisymm (h : NetIn n) {a b : Int} (ha : InV n a) (hb : InV n b) (h1 : Le n a b) (h2 : Le n b a) : a = b := by
  unfold Le at h1 h2
  rw [← h1, best_comm h ha hb, h2]
theorem le_trans (h : NetIn n) {a b c : Int} (ha : InV n a) (hb : InV n b) (hc : InV n c) (h1 : Le n a b) (h2 : Le n b c) : Le n a c := by
  unfold Le at *
  have := best_assoc h ha hb hc
  rw [h2, h1] at this
  exact this.symm
theorem le_total (h : NetIn n) {a b : Int} (ha : InV n a) (hb : InV n b) : Le n a b ∨ Le n b a := by
  rcases best_select h ha hb with e | e
  · exact .inl e
  · right
    unfold Le
    rw [best_comm h hb ha]
    exact e
theorem best_le1 (h : NetIn n) {a b : Int} (ha : InV n a) (hb : InV n b) : Le n (bestA n a b) a := by
  rcases le_total h ha hb with e | e
  · rw [show bestA n a b = a from e]; exact le_refl h ha
  · have : bestA n a b = b := by rw [best_comm h ha hb]; exact e
    rw [this]; exact e
theorem best_le2 (h : NetIn n) {a b : Int} (ha : InV n a) (hb : InV n b) : Le n (bestA n a b) b := by
  rw [best_comm h ha hb]; exact best_le1 h hb ha

/-- How many are better. -/
def rank (n : Net) (v : Int) : Nat := ((ints n.alg.size).filter fun w => decide (bestA n w v = w) && !decide (w = v)).length

theorem filter_lt {p q : Int → Bool} : ∀ (L : List Int), (∀ w ∈ L, p w = true → q w = true) → (∃ w ∈ L, q w = true ∧ p w = false) → (L.filter p).length < (L.filter q).length
  | [], _, h => by obtain ⟨w, hw, _⟩ := h; cases hw
  | x :: r, h1, h2 => by
    have hle : ∀ (L : List Int), (∀ w ∈ L, p w = true → q w = true) → (L.filter p).length ≤ (L.filter q).length := by
      intro L
      induction L with
      | nil => intro _; simp
      | cons y L ih =>
        intro hL
        have h9 := ih fun w hw => hL w (by simp [hw])
        by_cases hp : p y = true
        · rw [List.filter_cons_of_pos hp, List.filter_cons_of_pos (hL y (by simp) hp)]
          simp only [List.length_cons]; omega
        · rw [List.filter_cons_of_neg hp]
          by_cases hq : q y = true
          · rw [List.filter_cons_of_pos hq]; simp only [List.length_cons]; omega
          · rw [List.filter_cons_of_neg hq]; exact h9
    have hr := hle r fun w hw => h1 w (by simp [hw])
    obtain ⟨w, hw, hq, hp⟩ := h2
    by_cases hx : p x = true
    · rw [List.filter_cons_of_pos hx, List.filter_cons_of_pos (h1 x (by simp) hx)]
      have : w ∈ r := by
        rcases List.mem_cons.1 hw with rfl | hw
        · rw [hx] at hp; cases hp
        · exact hw
      have := filter_lt r (fun w hw => h1 w (by simp [hw])) ⟨w, this, hq, hp⟩
      simp only [List.length_cons]; omega
    · rw [List.filter_cons_of_neg hx]
      by_cases hqx : q x = true
      · rw [List.filter_cons_of_pos hqx]; simp only [List.length_cons]; omega
      · rw [List.filter_cons_of_neg hqx]
        have : w ∈ r := by
          rcases List.mem_cons.1 hw with rfl | hw
          · exact absurd hq hqx
          · exact hw
        exact filter_lt r (fun w hw => h1 w (by simp [hw])) ⟨w, this, hq, hp⟩

theorem rank_lt (h : NetIn n) {a b : Int} (ha : InV n a) (hb : InV n b) (h1 : Le n a b) (h2 : a ≠ b) : rank n a < rank n b := by
  refine filter_lt _ (fun w hw hp => ?_) ⟨a, mem_ints.2 ha, ?_, by simp⟩
  · have hw := mem_ints.1 hw
    simp only [Bool.and_eq_true, decide_eq_true_eq, Bool.not_eq_true', decide_eq_false_iff_not] at hp ⊢
    refine ⟨le_trans h hw ha hb hp.1 h1, fun e => ?_⟩
    subst e
    exact h2 (le_antisymm h ha hb h1 hp.1)
  · simp only [Bool.and_eq_true, decide_eq_true_eq, Bool.not_eq_true', decide_eq_false_iff_not]
    exact ⟨h1, h2⟩

theorem rank_top (h : NetIn n) {v : Int} (hv : InV n v) : (rank n v : Int) < n.alg.size := by
  have h1 : rank n v < ((ints n.alg.size).filter fun _ => true).length := filter_lt _ (fun _ _ _ => rfl) ⟨v, mem_ints.2 hv, rfl, by simp⟩
  rw [List.filter_eq_self.2 (fun _ _ => rfl), ints_length] at h1
  have := h.alg.s2
  omega

/-- What a fold of bests is. -/
theorem route_facts (h : NetIn n) (i : Int) (val : Lnk → Int) : ∀ (L : List Lnk) (out : Int), (∀ l ∈ L, InV n (val l)) → InV n out →
    InV n (L.foldl (fun out l => if l.fr = i then bestA n out (val l) else out) out) ∧ Le n (L.foldl (fun out l => if l.fr = i then bestA n out (val l) else out) out) out ∧
    (∀ l ∈ L, l.fr = i → Le n (L.foldl (fun out l => if l.fr = i then bestA n out (val l) else out) out) (val l)) ∧
    (L.foldl (fun out l => if l.fr = i then bestA n out (val l) else out) out = out ∨ ∃ l ∈ L, l.fr = i ∧ L.foldl (fun out l => if l.fr = i then bestA n out (val l) else out) out = val l)
  | [], out, _, ho => ⟨ho, le_refl h ho, (fun l hl => by cases hl), .inl rfl⟩
  | x :: r, out, hv, ho => by
    have hvx := hv x (by simp)
    have hvr : ∀ l ∈ r, InV n (val l) := fun l hl => hv l (by simp [hl])
    rw [List.foldl_cons]
    by_cases e : x.fr = i
    · rw [if_pos e]
      have hb : InV n (bestA n out (val x)) := best_in h ho hvx
      obtain ⟨h1, h2, h3, h4⟩ := route_facts h i val r (bestA n out (val x)) hvr hb
      refine ⟨h1, le_trans h h1 hb ho h2 (best_le1 h ho hvx), fun l hl hf => ?_, ?_⟩
      · rcases List.mem_cons.1 hl with rfl | hl
        · exact le_trans h h1 hb hvx h2 (best_le2 h ho hvx)
        · exact h3 l hl hf
      · rcases h4 with h4 | ⟨l, hl, hf, h4⟩
        · rcases best_select h ho hvx with e2 | e2
          · exact .inl (h4.trans e2)
          · exact .inr ⟨x, by simp, e, h4.trans e2⟩
        · exact .inr ⟨l, by simp [hl], hf, h4⟩
    · rw [if_neg e]
      obtain ⟨h1, h2, h3, h4⟩ := route_facts h i val r out hvr ho
      refine ⟨h1, h2, fun l hl hf => ?_, ?_⟩
      · rcases List.mem_cons.1 hl with rfl | hl
        · exact absurd hf e
        · exact h3 l hl hf
      · rcases h4 with h4 | ⟨l, hl, hf, h4⟩
        · exact .inl h4
        · exact .inr ⟨l, by simp [hl], hf, h4⟩

theorem round_at (hc : checkN n = 0) {x : List (List Int)} (hx : RowsIn n x) {i j : Int} (hi : 0 ≤ i ∧ i < n.nodes) (hj : 0 ≤ j ∧ j < n.nodes) : at2 (roundA n x) i j = routeL n i j (fun k => at2 x k j) n.links := by
  have hn := netIn_of hc
  have n1 := hn.n1
  rw [route_eq hc i j _ fun k h0 h1 => at2_in hx ⟨h0, h1⟩ hj]
  have a0 : ∀ {X : Type} [Inhabited X] (f : Int → X) {q : Int}, 0 ≤ q ∧ q < n.nodes → at0 ((ints n.nodes).map f) q = f q := fun f q hq => by
    have h1 : q.toNat < (ints n.nodes).length := by rw [ints_length]; omega
    simp only [at0, List.getD_eq_getElem?_getD, List.getElem?_map, List.getElem?_eq_getElem h1, Option.map_some, Option.getD_some]
    congr 1
    simp [ints]
    omega
  unfold at2 roundA
  rw [a0 _ hi, a0 _ hj]
  rfl

/-- Where two states differ, both are of rank t or more. -/
def Agree (n : Net) (t : Nat) (x y : List (List Int)) : Prop := ∀ i j, 0 ≤ i ∧ i < n.nodes → 0 ≤ j ∧ j < n.nodes → at2 x i j ≠ at2 y i j → t ≤ rank n (at2 x i j) ∧ t ≤ rank n (at2 y i j)

theorem agree_step1 (hc : checkN n = 0) (hs : StrictA n) {x y : List (List Int)} (hx : RowsIn n x) (hy : RowsIn n y) {t : Nat} (h : Agree n t x y) {i j : Int} (hi : 0 ≤ i ∧ i < n.nodes) (hj : 0 ≤ j ∧ j < n.nodes)
    (hle : Le n (at2 (roundA n x) i j) (at2 (roundA n y) i j)) (hne : at2 (roundA n x) i j ≠ at2 (roundA n y) i j) : t + 1 ≤ rank n (at2 (roundA n x) i j) ∧ t + 1 ≤ rank n (at2 (roundA n y) i j) := by
  have hn := netIn_of hc
  have s2 := hn.alg.s2
  have hrx := at2_in (round_in hn hx) hi hj
  have hry := at2_in (round_in hn hy) hi hj
  have hlt := rank_lt hn hrx hry hle hne
  suffices hk : t + 1 ≤ rank n (at2 (roundA n x) i j) from ⟨hk, by omega⟩
  have hvx : ∀ l ∈ n.links, InV n (overA n l.edge (at2 x l.dst j)) := fun l hl =>
    let g := hn.lnk l hl
    over_in hn ⟨g.e0, g.e1⟩ (at2_in hx ⟨g.d0, g.d1⟩ hj)
  have hvy : ∀ l ∈ n.links, InV n (overA n l.edge (at2 y l.dst j)) := fun l hl =>
    let g := hn.lnk l hl
    over_in hn ⟨g.e0, g.e1⟩ (at2_in hy ⟨g.d0, g.d1⟩ hj)
  have hb : InV n (if i = j then 0 else n.alg.size - 1 : Int) := by unfold InV; split <;> omega
  obtain ⟨_, _, _, f4⟩ := route_facts hn i (fun l => overA n l.edge (at2 x l.dst j)) n.links _ hvx hb
  obtain ⟨_, g2, g3, _⟩ := route_facts hn i (fun l => overA n l.edge (at2 y l.dst j)) n.links _ hvy hb
  have ex : at2 (roundA n x) i j = n.links.foldl (fun out l => if l.fr = i then bestA n out (overA n l.edge (at2 x l.dst j)) else out) (if i = j then 0 else n.alg.size - 1) := round_at hc hx hi hj
  have ey : at2 (roundA n y) i j = n.links.foldl (fun out l => if l.fr = i then bestA n out (overA n l.edge (at2 y l.dst j)) else out) (if i = j then 0 else n.alg.size - 1) := round_at hc hy hi hj
  rw [← ex] at f4
  rw [← ey] at g2 g3
  rcases f4 with f4 | ⟨l, hl, hf, f4⟩
  · rw [f4] at hle hne hrx
    exact absurd (le_antisymm hn hrx hry hle g2) hne
  · have g := hn.lnk l hl
    have hxk := at2_in hx ⟨g.d0, g.d1⟩ hj
    have hyk := at2_in hy ⟨g.d0, g.d1⟩ hj
    have hg3 := g3 l hl hf
    have hdiff : at2 x l.dst j ≠ at2 y l.dst j := fun e => by
      rw [e] at f4
      exact hne (le_antisymm hn hrx hry hle (by rw [f4]; exact hg3))
    have hinv : at2 x l.dst j ≠ n.alg.size - 1 := fun e => by
      rw [e, over_inv hn ⟨g.e0, g.e1⟩] at f4
      refine hne (le_antisymm hn hrx hry hle ?_)
      rw [f4]
      exact le_inv hn hry
    obtain ⟨s1, s3⟩ := over_strict hn hs ⟨g.e0, g.e1⟩ hxk hinv
    rw [← f4] at s1 s3
    have := rank_lt hn hxk hrx s1 (Ne.symm s3)
    have := (h l.dst j ⟨g.d0, g.d1⟩ hj hdiff).1
    omega

theorem agree_symm {t : Nat} {x y : List (List Int)} (h : Agree n t x y) : Agree n t y x := fun i j hi hj hne => ⟨(h i j hi hj (Ne.symm hne)).2, (h i j hi hj (Ne.symm hne)).1⟩

theorem agree_step (hc : checkN n = 0) (hs : StrictA n) {x y : List (List Int)} (hx : RowsIn n x) (hy : RowsIn n y) {t : Nat} (h : Agree n t x y) : Agree n (t + 1) (roundA n x) (roundA n y) := by
  have hn := netIn_of hc
  intro i j hi hj hne
  rcases le_total hn (at2_in (round_in hn hx) hi hj) (at2_in (round_in hn hy) hi hj) with hle | hle
  · exact agree_step1 hc hs hx hy h hi hj hle hne
  · have := agree_step1 hc hs hy hx (agree_symm h) hi hj hle (Ne.symm hne)
    exact ⟨this.2, this.1⟩

def iter (n : Net) : Nat → List (List Int) → List (List Int)
  | 0, x => x
  | t + 1, x => iter n t (roundA n x)

theorem iter_in (hn : NetIn n) : ∀ (t : Nat) {x : List (List Int)}, RowsIn n x → RowsIn n (iter n t x)
  | 0, _, h => h
  | t + 1, _, h => iter_in hn t (round_in hn h)

theorem iter_agree (hc : checkN n = 0) (hs : StrictA n) : ∀ (t u : Nat) {x y : List (List Int)}, RowsIn n x → RowsIn n y → Agree n u x y → Agree n (u + t) (iter n t x) (iter n t y)
  | 0, _, _, _, _, _, h => h
  | t + 1, u, x, y, hx, hy, h => by
    have := iter_agree hc hs t (u + 1) (round_in (netIn_of hc) hx) (round_in (netIn_of hc) hy) (agree_step hc hs hx hy h)
    rw [show u + (t + 1) = u + 1 + t by omega]
    exact this

theorem agree_eq (hn : NetIn n) {x y : List (List Int)} (hx : RowsIn n x) (hy : RowsIn n y) {t : Nat} (ht : n.alg.size - 1 ≤ t) (h : Agree n t x y) : x = y := by
  have key : ∀ i j, 0 ≤ i ∧ i < n.nodes → 0 ≤ j ∧ j < n.nodes → at2 x i j = at2 y i j := fun i j hi hj => by
    apply Classical.byContradiction
    intro hne
    have h1 := h i j hi hj hne
    have vx := at2_in hx hi hj
    have vy := at2_in hy hi hj
    have tx := rank_top hn vx
    have ty := rank_top hn vy
    rcases le_total hn vx vy with hle | hle
    · have := rank_lt hn vx vy hle hne
      omega
    · have := rank_lt hn vy vx hle (Ne.symm hne)
      omega
  refine at0_ext (by have := hx.len; have := hy.len; omega) fun i h0 h1 => ?_
  have hi : 0 ≤ i ∧ i < n.nodes := ⟨h0, by rw [← hx.len]; exact h1⟩
  have rx := hx.row _ (at0_mem x h0 h1)
  have ry := hy.row _ (at0_mem y h0 (by rw [hy.len]; exact hi.2))
  refine at0_ext (by omega) fun j g0 g1 => key i j hi ⟨g0, by rw [← rx]; exact g1⟩

/-- All states meet, by size - 1 rounds. -/
theorem iter_same (hc : checkN n = 0) (hs : StrictA n) {x y : List (List Int)} (hx : RowsIn n x) (hy : RowsIn n y) : iter n (n.alg.size - 1).toNat x = iter n (n.alg.size - 1).toNat y := by
  have hn := netIn_of hc
  have s2 := hn.alg.s2
  have h := iter_agree hc hs (n.alg.size - 1).toNat 0 hx hy (fun i j _ _ _ => ⟨Nat.zero_le _, Nat.zero_le _⟩)
  exact agree_eq hn (iter_in hn _ hx) (iter_in hn _ hy) (by omega) h

theorem iter_round : ∀ (t : Nat) (x : List (List Int)), roundA n (iter n t x) = iter n t (roundA n x)
  | 0, _ => rfl
  | t + 1, x => iter_round t (roundA n x)

theorem iter_fix : ∀ (t : Nat) {x : List (List Int)}, x = roundA n x → iter n t x = x
  | 0, _, _ => rfl
  | t + 1, x, h => by
    rw [iter, ← h]
    exact iter_fix t h

theorem settle_fix : ∀ (f t : Nat) (k : Int) (x : List (List Int)), t ≤ f → iter n t x = roundA n (iter n t x) → (settleF n f k x).1 = roundA n (settleF n f k x).1 ∧ (settleF n f k x).2 ≤ k + t ∧ ∃ u, (settleF n f k x).1 = iter n u x
  | 0, 0, k, x, _, h => ⟨h, by simp [settleF], 0, rfl⟩
  | 0, t + 1, _, _, hl, _ => by omega
  | f + 1, t, k, x, hl, h => by
    by_cases e : x = roundA n x
    · rw [settleF, if_pos e]
      exact ⟨e, by simp only; omega, 0, rfl⟩
    · rw [settleF, if_neg e]
      cases t with
      | zero => exact absurd h e
      | succ t =>
        obtain ⟨h1, h2, u, h3⟩ := settle_fix f t (k + 1) (roundA n x) (by omega) h
        exact ⟨h1, by omega, u + 1, h3⟩

theorem settle_in (hn : NetIn n) {f : Nat} {k : Int} {x : List (List Int)} (hx : RowsIn n x) : RowsIn n (settleF n f k x).1 := by
  induction f generalizing k x with
  | zero => exact hx
  | succ f ih =>
    rw [settleF]
    split
    · exact hx
    · exact ih (round_in hn hx)

theorem fit_ok (hc : checkN n = 0) {x : List (List Int)} (hx : RowsIn n x) : fitA n x = 0 := by
  rw [fitA, if_neg (by simpa using hc), rowsErr, if_neg, if_neg]
  · rw [Bool.not_eq_true, List.any_eq_false]
    intro r hr
    rw [Bool.not_eq_true, List.any_eq_false]
    intro v hv
    have := hx.val r hr v hv
    simp only [inR, Bool.not_eq_true, Bool.not_eq_false', Bool.and_eq_true, decide_eq_true_eq]
    omega
  · rintro (h | h)
    · exact h hx.len
    · obtain ⟨r, hr, h⟩ := List.any_eq_true.1 h
      exact of_decide_eq_true h (hx.row r hr)

/-- Whatever the states: they settle by size rounds, to the same. -/
theorem always (hc : checkN n = 0) (hs : StrictA n) {x y : List (List Int)} (hx : RowsIn n x) (hy : RowsIn n y) :
    (settleF n 100 0 x).1 = roundA n (settleF n 100 0 x).1 ∧ (settleF n 100 0 x).2 ≤ n.alg.size ∧ (settleF n 100 0 y).2 ≤ n.alg.size ∧ (settleF n 100 0 x).1 = (settleF n 100 0 y).1 := by
  have hn := netIn_of hc
  have s2 := hn.alg.s2
  have s24 := hn.alg.s24
  have fix : ∀ z, RowsIn n z → iter n (n.alg.size - 1).toNat z = roundA n (iter n (n.alg.size - 1).toNat z) := fun z hz => by
    rw [iter_round]
    exact iter_same hc hs hz (round_in hn hz)
  obtain ⟨a1, a2, _⟩ := settle_fix 100 (n.alg.size - 1).toNat 0 x (by omega) (fix x hx)
  obtain ⟨b1, b2, _⟩ := settle_fix 100 (n.alg.size - 1).toNat 0 y (by omega) (fix y hy)
  refine ⟨a1, by omega, by omega, ?_⟩
  have := iter_same hc hs (settle_in hn (f := 100) (k := 0) hx) (settle_in hn (f := 100) (k := 0) hy)
  rwa [iter_fix _ a1, iter_fix _ b1] at this
end
end Go.Proofs.Ytephecognbbaoaa
