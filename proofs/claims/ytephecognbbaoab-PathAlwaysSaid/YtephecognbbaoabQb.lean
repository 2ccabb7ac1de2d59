/- Rounds of routes with paths: they settle, always to the same: in plain Lean. -/
import Derived.Test.YtephecognbbaoabQa
namespace Go.Proofs.Ytephecognbbaoab
open Go
set_option linter.all false

section
variable {n : Net}

def at2R (x : List (List Rt)) (i j : Int) : Rt := at0 (at0 x i) j

def roundP (n : Net) (x : List (List Rt)) : List (List Rt) := (ints n.nodes).map fun i => (ints n.nodes).map fun j => routeP n i j fun k => at2R x k j

def settleP (n : Net) : Nat → Int → List (List Rt) → List (List Rt) × Int
  | 0, k, x => (x, k)
  | f + 1, k, x => if x = roundP n x then (x, k) else settleP n f (k + 1) (roundP n x)

/-- A state that is right. -/
structure FitP (n : Net) (x : List (List Rt)) : Prop where
  len : (x.length : Int) = n.nodes
  row : ∀ r ∈ x, (r.length : Int) = n.nodes
  ok : ∀ i j, 0 ≤ i ∧ i < n.nodes → 0 ≤ j ∧ j < n.nodes → RightR n (at2R x i j) ∧ ((at2R x i j).w ≠ n.alg.size - 1 → (at2R x i j).p.head? = some i ∧ (at2R x i j).p.getLast? = some j)

theorem at2R_ints {f : Int → Int → Rt} {m : Int} {i j : Int} (hi : 0 ≤ i ∧ i < m) (hj : 0 ≤ j ∧ j < m) : at2R ((ints m).map fun i => (ints m).map fun j => f i j) i j = f i j := by
  have a0 : ∀ {X : Type} [Inhabited X] (f : Int → X) {q : Int}, 0 ≤ q ∧ q < m → at0 ((ints m).map f) q = f q := fun f q hq => by
    have h1 : q.toNat < (ints m).length := by rw [ints_length]; omega
    simp only [at0, List.getD_eq_getElem?_getD, List.getElem?_map, List.getElem?_eq_getElem h1, Option.map_some, Option.getD_some]
    congr 1
    simp [ints]
    omega
  unfold at2R
  rw [a0 _ hi, a0 _ hj]

theorem roundP_at (x : List (List Rt)) {i j : Int} (hi : 0 ≤ i ∧ i < n.nodes) (hj : 0 ≤ j ∧ j < n.nodes) : at2R (roundP n x) i j = routeP n i j fun k => at2R x k j := at2R_ints hi hj

theorem ext_ends (i e : Int) {r : Rt} {j : Int} (h0 : r.p.getLast? = some j) (h1 : (extR n i e r).w ≠ n.alg.size - 1) : (extR n i e r).p.head? = some i ∧ (extR n i e r).p.getLast? = some j := by
  unfold extR at h1 ⊢
  split at h1
  · exact absurd rfl h1
  · rename_i hc
    rw [if_neg hc]
    refine ⟨rfl, ?_⟩
    rcases hp : r.p with _ | ⟨a, q⟩
    · rw [hp] at h0; cases h0
    · rw [hp] at h0; simpa using h0

theorem ext_valid {i e : Int} {r : Rt} (h1 : (extR n i e r).w ≠ n.alg.size - 1) : r.w ≠ n.alg.size - 1 ∧ i ∉ r.p ∧ extR n i e r = ⟨overA n e r.w, i :: r.p⟩ := by
  unfold extR at h1 ⊢
  split at h1
  · exact absurd rfl h1
  · rename_i hc
    rw [if_neg hc]
    rw [not_or, not_or] at hc
    exact ⟨hc.1, hc.2.1, rfl⟩

theorem init_ends {i j : Int} (h1 : (initR n i j).w ≠ n.alg.size - 1) : i = j ∧ initR n i j = ⟨0, [i]⟩ := by
  unfold initR at h1 ⊢
  split at h1
  · rename_i e
    exact ⟨e, if_pos e⟩
  · exact absurd rfl h1

theorem FitP.round (h : NetIn n) {x : List (List Rt)} (hx : FitP n x) : FitP n (roundP n x) := by
  have n1 := h.n1
  refine ⟨by simp [roundP, ints_length]; omega, fun r hr => ?_, fun i j hi hj => ?_⟩
  · obtain ⟨i, hi, rfl⟩ := List.mem_map.1 hr
    simp [ints_length]; omega
  · rw [roundP_at x hi hj]
    obtain ⟨a1, a2, a3, a4⟩ := routeP_facts h (j := j) hi (has := fun k => at2R x k j) fun k h0 h1 => (hx.ok k j ⟨h0, h1⟩ hj).1
    refine ⟨a1, fun hv => ?_⟩
    rcases a4 with a4 | ⟨k, hk, he, a4⟩
    · rw [a4] at hv ⊢
      obtain ⟨e1, e2⟩ := init_ends hv
      rw [e2]
      exact ⟨rfl, by simp [e1]⟩
    · rw [a4] at hv ⊢
      have h1 := ext_valid hv
      exact ext_ends i _ ((hx.ok k j hk hj).2 h1.1).2 hv

/-- A route that is what its path weighs, or none. -/
def Cons (n : Net) (i j : Int) (r : Rt) : Prop := r.w ≠ n.alg.size - 1 → Path n r.p ∧ r.p.head? = some i ∧ r.p.getLast? = some j ∧ r.w = (weighA n r.p).1

theorem cons_init {i j : Int} (hi : 0 ≤ i ∧ i < n.nodes) : Cons n i j (initR n i j) := fun hv => by
  obtain ⟨e1, e2⟩ := init_ends hv
  rw [e2]
  exact ⟨⟨fun k hk => by rw [List.mem_singleton.1 hk]; exact hi, by simp, rfl⟩, rfl, by simp [e1], rfl⟩

theorem cons_ext {i j k : Int} {r : Rt} (hi : 0 ≤ i ∧ i < n.nodes) (he : 0 ≤ edgeOf n i k) (hr : Cons n k j r) : Cons n i j (extR n i (edgeOf n i k) r) := fun hv => by
  obtain ⟨h1, h2, h3⟩ := ext_valid hv
  obtain ⟨p1, p2, p3, p4⟩ := hr h1
  have hen := ext_ends i (edgeOf n i k) p3 hv
  rw [h3] at hen ⊢
  obtain ⟨w, p⟩ := r
  rcases p with _ | ⟨a, q⟩
  · cases p2
  · have : a = k := by simpa using p2
    subst this
    have hm := weigh_more p1.ok he
    refine ⟨⟨fun x hx => ?_, List.nodup_cons.2 ⟨h2, p1.one⟩, by rw [hm]⟩, hen.1, hen.2, ?_⟩
    · rcases List.mem_cons.1 hx with rfl | hx
      · exact hi
      · exact p1.rng x hx
    · rw [hm]
      simp only at p4 ⊢
      rw [p4]

/-- All is as its paths weigh, or its paths are long. -/
def Old (n : Net) (t : Nat) (x : List (List Rt)) : Prop := ∀ i j, 0 ≤ i ∧ i < n.nodes → 0 ≤ j ∧ j < n.nodes → Cons n i j (at2R x i j) ∨ t < (at2R x i j).p.length

theorem old_round (h : NetIn n) {x : List (List Rt)} (hx : FitP n x) {t : Nat} (ho : Old n t x) : Old n (t + 1) (roundP n x) := fun i j hi hj => by
  rw [roundP_at x hi hj]
  obtain ⟨a1, a2, a3, a4⟩ := routeP_facts h (j := j) hi (has := fun k => at2R x k j) fun k h0 h1 => (hx.ok k j ⟨h0, h1⟩ hj).1
  rcases a4 with a4 | ⟨k, hk, he, a4⟩
  · rw [a4]
    exact Or.inl (cons_init hi)
  · rw [a4]
    rcases ho k j hk hj with h1 | h1
    · exact Or.inl (cons_ext hi he h1)
    · by_cases hv : (extR n i (edgeOf n i k) (at2R x k j)).w = n.alg.size - 1
      · exact Or.inl fun hc => absurd hv hc
      · right
        rw [(ext_valid hv).2.2, List.length_cons]
        omega

def iterP (n : Net) : Nat → List (List Rt) → List (List Rt)
  | 0, x => x
  | t + 1, x => iterP n t (roundP n x)

theorem iterP_fit (h : NetIn n) : ∀ (t : Nat) {x : List (List Rt)}, FitP n x → FitP n (iterP n t x)
  | 0, _, hx => hx
  | t + 1, _, hx => iterP_fit h t (hx.round h)
theorem iterP_round : ∀ (t : Nat) (x : List (List Rt)), roundP n (iterP n t x) = iterP n t (roundP n x)
  | 0, _ => rfl
  | t + 1, x => iterP_round t (roundP n x)
theorem iterP_fix : ∀ (t : Nat) {x : List (List Rt)}, x = roundP n x → iterP n t x = x
  | 0, _, _ => rfl
  | t + 1, x, h => by rw [iterP, ← h]; exact iterP_fix t h
theorem iterP_add : ∀ (s t : Nat) (x : List (List Rt)), iterP n t (iterP n s x) = iterP n (s + t) x
  | 0, t, x => by rw [Nat.zero_add]; rfl
  | s + 1, t, x => by rw [iterP, iterP_add s t, Nat.add_right_comm]; rfl

theorem old_iter (h : NetIn n) : ∀ (t s : Nat) {x : List (List Rt)}, FitP n x → Old n s x → Old n (s + t) (iterP n t x)
  | 0, _, _, _, ho => ho
  | t + 1, s, _, hx, ho => by
    have := old_iter h t (s + 1) (hx.round h) (old_round h hx ho)
    rw [Nat.add_right_comm] at this
    exact this

/-- All is as its paths weigh. -/
def ConsS (n : Net) (x : List (List Rt)) : Prop := ∀ i j, 0 ≤ i ∧ i < n.nodes → 0 ≤ j ∧ j < n.nodes → Cons n i j (at2R x i j)

theorem cons_six (h : NetIn n) {x : List (List Rt)} (hx : FitP n x) : ConsS n (iterP n 6 x) := fun i j hi hj => by
  have h0 : Old n 0 x := fun i j hi hj => by
    by_cases hv : (at2R x i j).w = n.alg.size - 1
    · exact Or.inl fun hc => absurd hv hc
    · have := (hx.ok i j hi hj).1.ne hv
      exact Or.inr (List.length_pos_iff.2 this)
  rcases old_iter h 6 0 hx h0 i j hi hj with h1 | h1
  · exact h1
  · have h2 := ((iterP_fit h 6 hx).ok i j hi hj).1
    have := nodup_len (by have := h.n1; omega) h2.one h2.rng
    have := h.n6
    omega

theorem cons_round (h : NetIn n) {x : List (List Rt)} (hx : FitP n x) (hs : ConsS n x) : ConsS n (roundP n x) := fun i j hi hj => by
  rw [roundP_at x hi hj]
  obtain ⟨a1, a2, a3, a4⟩ := routeP_facts h (j := j) hi (has := fun k => at2R x k j) fun k h0 h1 => (hx.ok k j ⟨h0, h1⟩ hj).1
  rcases a4 with a4 | ⟨k, hk, he, a4⟩
  · rw [a4]; exact cons_init hi
  · rw [a4]; exact cons_ext hi he (hs k j hk hj)

/-- All lists of nodes that end in one, none twice. -/
def six : List Int := [0, 1, 2, 3, 4, 5]
def longer (ps : List (List Int)) : List (List Int) := ps.flatMap fun p => (six.filter fun k => !decide (k ∈ p)).map fun k => k :: p
def allP (j : Int) : List (List Int) := [[j]] ++ longer [[j]] ++ longer (longer [[j]]) ++ longer (longer (longer [[j]])) ++ longer (longer (longer (longer [[j]]))) ++ longer (longer (longer (longer (longer [[j]]))))

theorem allP_len {j : Int} (h0 : 0 ≤ j) (h1 : j < 6) : (allP j).length = 326 := by
  have : j = 0 ∨ j = 1 ∨ j = 2 ∨ j = 3 ∨ j = 4 ∨ j = 5 := by omega
  rcases this with rfl | rfl | rfl | rfl | rfl | rfl <;> decide +kernel

theorem mem_longer {ps : List (List Int)} {p : List Int} {k : Int} (hp : p ∈ ps) (h0 : 0 ≤ k) (h1 : k < 6) (hk : k ∉ p) : k :: p ∈ longer ps := by
  refine List.mem_flatMap.2 ⟨p, hp, List.mem_map.2 ⟨k, List.mem_filter.2 ⟨?_, by simp [hk]⟩, rfl⟩⟩
  have : k = 0 ∨ k = 1 ∨ k = 2 ∨ k = 3 ∨ k = 4 ∨ k = 5 := by omega
  rcases this with rfl | rfl | rfl | rfl | rfl | rfl <;> decide

theorem mem_allP {p : List Int} {j : Int} (hd : p.Nodup) (hr : ∀ k ∈ p, 0 ≤ k ∧ k < 6) (hl : p.getLast? = some j) : p ∈ allP j := by
  have step : ∀ (a : Int) (q : List Int) (ps : List (List Int)), (a :: q).Nodup → (∀ k ∈ a :: q, 0 ≤ k ∧ k < 6) → q ∈ ps → a :: q ∈ longer ps := fun a q ps h1 h2 h3 =>
    mem_longer h3 (h2 a (by simp)).1 (h2 a (by simp)).2 (List.nodup_cons.1 h1).1
  have t : ∀ {a : Int} {q : List Int}, (a :: q).Nodup → q.Nodup := fun h => (List.nodup_cons.1 h).2
  have u : ∀ {a : Int} {q : List Int}, (∀ k ∈ a :: q, 0 ≤ k ∧ k < 6) → ∀ k ∈ q, 0 ≤ k ∧ k < 6 := fun h k hk => h k (by simp [hk])
  have hlen := nodup_len (by decide) hd hr
  have one : ∀ a : Int, [a].getLast? = some j → [a] ∈ [[j]] := fun a h => by simpa using h
  unfold allP
  simp only [List.mem_append]
  match p, hd, hr, hl, hlen with
  | [], _, _, hl, _ => cases hl
  | [a], hd, hr, hl, _ => exact Or.inl (Or.inl (Or.inl (Or.inl (Or.inl (one a hl)))))
  | [b, a], hd, hr, hl, _ =>
    exact Or.inl (Or.inl (Or.inl (Or.inl (Or.inr (step b _ _ hd hr (one a (by simpa using hl)))))))
  | [c, b, a], hd, hr, hl, _ =>
    exact Or.inl (Or.inl (Or.inl (Or.inr (step c _ _ hd hr (step b _ _ (t hd) (u hr) (one a (by simpa using hl)))))))
  | [d, c, b, a], hd, hr, hl, _ =>
    exact Or.inl (Or.inl (Or.inr (step d _ _ hd hr (step c _ _ (t hd) (u hr) (step b _ _ (t (t hd)) (u (u hr)) (one a (by simpa using hl)))))))
  | [e, d, c, b, a], hd, hr, hl, _ =>
    exact Or.inl (Or.inr (step e _ _ hd hr (step d _ _ (t hd) (u hr) (step c _ _ (t (t hd)) (u (u hr)) (step b _ _ (t (t (t hd))) (u (u (u hr))) (one a (by simpa using hl)))))))
  | [f, e, d, c, b, a], hd, hr, hl, _ =>
    exact Or.inr (step f _ _ hd hr (step e _ _ (t hd) (u hr) (step d _ _ (t (t hd)) (u (u hr)) (step c _ _ (t (t (t hd))) (u (u (u hr))) (step b _ _ (t (t (t (t hd)))) (u (u (u (u hr)))) (one a (by simpa using hl)))))))
  | _ :: _ :: _ :: _ :: _ :: _ :: _ :: _, _, _, _, hlen => simp only [List.length_cons] at hlen; omega

/-- How many are better. -/
def rtOf (n : Net) (p : List Int) : Rt := ⟨(weighA n p).1, p⟩
def better (n : Net) (r : Rt) (p : List Int) : Bool := !lexLe (keyR n r) (keyR n (rtOf n p))
def rankR (n : Net) (j : Int) (r : Rt) : Nat := ((allP j).filter (better n r)).length

theorem filter_ltL {X : Type} {p q : X → Bool} : ∀ (L : List X), (∀ w ∈ L, p w = true → q w = true) → (L.filter p).length ≤ (L.filter q).length ∧ ((∃ w ∈ L, q w = true ∧ p w = false) → (L.filter p).length < (L.filter q).length)
  | [], _ => ⟨by simp, fun h => by obtain ⟨w, hw, _⟩ := h; cases hw⟩
  | x :: r, h1 => by
    obtain ⟨ih1, ih2⟩ := filter_ltL r fun w hw => h1 w (by simp [hw])
    by_cases hp : p x = true
    · rw [List.filter_cons_of_pos hp, List.filter_cons_of_pos (h1 x (by simp) hp)]
      simp only [List.length_cons]
      refine ⟨by omega, fun ⟨w, hw, hq, hpw⟩ => ?_⟩
      have : w ∈ r := by
        rcases List.mem_cons.1 hw with rfl | hw
        · rw [hp] at hpw; cases hpw
        · exact hw
      have := ih2 ⟨w, this, hq, hpw⟩
      omega
    · rw [List.filter_cons_of_neg hp]
      by_cases hq : q x = true
      · rw [List.filter_cons_of_pos hq]
        simp only [List.length_cons]
        exact ⟨by omega, fun _ => by omega⟩
      · rw [List.filter_cons_of_neg hq]
        refine ⟨ih1, fun ⟨w, hw, hqw, hpw⟩ => ?_⟩
        have : w ∈ r := by
          rcases List.mem_cons.1 hw with rfl | hw
          · exact absurd hqw hq
          · exact hw
        exact ih2 ⟨w, this, hqw, hpw⟩

theorem rankR_le {j : Int} {a b : Rt} (h : LeR n a b) : rankR n j a ≤ rankR n j b :=
  (filter_ltL _ fun p hp hb => by
    unfold better at hb ⊢
    rw [Bool.not_eq_true'] at hb ⊢
    cases e : lexLe (keyR n b) (keyR n (rtOf n p)) with
    | false => rfl
    | true =>
      have := lex_trans _ _ _ h e
      rw [this] at hb; cases hb).1

theorem rankR_lt {i j : Int} {a b : Rt} (h6 : n.nodes ≤ 6) (h : LeR n a b) (hn : ¬ LeR n b a) (hc : Cons n i j a) (hv : a.w ≠ n.alg.size - 1) : rankR n j a < rankR n j b := by
  obtain ⟨h1, h2, h3, h4⟩ := hc hv
  have ha : rtOf n a.p = a := by rw [rtOf, ← h4]
  refine (filter_ltL _ fun p hp hb => ?_).2 ⟨a.p, mem_allP h1.one (fun k hk => ⟨(h1.rng k hk).1, by have := (h1.rng k hk).2; omega⟩) h3, ?_, ?_⟩
  · unfold better at hb ⊢
    rw [Bool.not_eq_true'] at hb ⊢
    cases e : lexLe (keyR n b) (keyR n (rtOf n p)) with
    | false => rfl
    | true =>
      have := lex_trans _ _ _ h e
      rw [this] at hb; cases hb
  · unfold better
    rw [ha, Bool.not_eq_true']
    cases e : lexLe (keyR n b) (keyR n a) with
    | false => rfl
    | true => exact absurd e hn
  · unfold better
    rw [ha, Bool.not_eq_false']
    exact lex_refl _

theorem rankR_top {j : Int} (hj : 0 ≤ j ∧ j < 6) (r : Rt) : rankR n j r ≤ 326 := by
  have := List.length_filter_le (better n r) (allP j)
  rw [allP_len hj.1 hj.2] at this
  exact this

/-- A longer path is worse. -/
theorem ext_worse (h : NetIn n) {i e : Int} {r : Rt} (he : 0 ≤ e ∧ e < n.alg.edges.length) (hr : RightR n r) (hv : (extR n i e r).w ≠ n.alg.size - 1) : LeR n r (extR n i e r) ∧ ¬ LeR n (extR n i e r) r := by
  obtain ⟨h1, h2, h3⟩ := ext_valid hv
  rw [h3] at hv ⊢
  have hle := rank_le h hr.w (over_in h he hr.w) (le_law7 h he hr.w)
  have e1 : keyR n r = 0 :: (rank n r.w : Int) :: (r.p.length : Int) :: r.p := if_neg h1
  have e2 : keyR n ⟨overA n e r.w, i :: r.p⟩ = 0 :: (rank n (overA n e r.w) : Int) :: ((i :: r.p).length : Int) :: i :: r.p := if_neg hv
  have g : ∀ (a b : Int) (p q : List Int), lexLe (a :: p) (b :: q) = if a = b then lexLe p q else decide (a < b) := fun a b p q => by rw [lexLe]
  rw [LeR, LeR, e1, e2]
  constructor
  · rw [g, if_pos rfl, g]
    by_cases hq : rank n r.w = rank n (overA n e r.w)
    · rw [if_pos (by omega), g, if_neg (by simp only [List.length_cons]; omega)]
      simp only [decide_eq_true_eq, List.length_cons]
      omega
    · rw [if_neg (by omega), decide_eq_true_eq]
      omega
  · rw [g, if_pos rfl, g]
    by_cases hq : rank n r.w = rank n (overA n e r.w)
    · rw [if_pos (by omega), g, if_neg (by simp only [List.length_cons]; omega)]
      simp only [decide_eq_true_eq, List.length_cons]
      omega
    · rw [if_neg (by omega), decide_eq_true_eq]
      omega

/-- Where two states differ, both are of rank t or more. -/
def AgreeP (n : Net) (t : Nat) (x y : List (List Rt)) : Prop := ∀ i j, 0 ≤ i ∧ i < n.nodes → 0 ≤ j ∧ j < n.nodes → at2R x i j ≠ at2R y i j → t ≤ rankR n j (at2R x i j) ∧ t ≤ rankR n j (at2R y i j)

theorem agreeP_step1 (h : NetIn n) {x y : List (List Rt)} (hx : FitP n x) (hy : FitP n y) (cx : ConsS n x) {t : Nat} (ha : AgreeP n t x y) {i j : Int} (hi : 0 ≤ i ∧ i < n.nodes) (hj : 0 ≤ j ∧ j < n.nodes)
    (hne : at2R (roundP n x) i j ≠ at2R (roundP n y) i j) (hle : LeR n (at2R (roundP n x) i j) (at2R (roundP n y) i j)) : t + 1 ≤ rankR n j (at2R (roundP n x) i j) := by
  rw [roundP_at x hi hj, roundP_at y hi hj] at hne hle
  rw [roundP_at x hi hj]
  obtain ⟨a1, a2, a3, a4⟩ := routeP_facts h (j := j) hi (has := fun k => at2R x k j) fun k h0 h1 => (hx.ok k j ⟨h0, h1⟩ hj).1
  obtain ⟨b1, b2, b3, b4⟩ := routeP_facts h (j := j) hi (has := fun k => at2R y k j) fun k h0 h1 => (hy.ok k j ⟨h0, h1⟩ hj).1
  rcases a4 with a4 | ⟨k, hk, he, a4⟩
  · exfalso
    rw [← a4] at b2
    exact hne (leR_antisymm h a1 b1 hle b2)
  · have hei := edge_in h he
    have hr := (hx.ok k j hk hj).1
    have hv : (extR n i (edgeOf n i k) (at2R x k j)).w ≠ n.alg.size - 1 := fun hv => by
      have e : extR n i (edgeOf n i k) (at2R x k j) = invR n := by
        have h1 := a1.inv
        rw [a4] at h1
        have := h1 hv
        rcases hz : extR n i (edgeOf n i k) (at2R x k j) with ⟨w, p⟩
        rw [hz] at hv this
        simp only at hv this
        rw [hv, this]; rfl
      have hl := leR_inv (n := n) (routeP n i j fun k => at2R y k j)
      rw [← e, ← a4] at hl
      exact hne (leR_antisymm h a1 b1 hle hl)
    have hxy : at2R x k j ≠ at2R y k j := fun e => by
      have h3 := b3 k hk.1 hk.2 he
      rw [← e, ← a4] at h3
      exact hne (leR_antisymm h a1 b1 hle h3)
    have h1 := (ha k j hk hj hxy).1
    obtain ⟨w1, w2⟩ := ext_worse h (i := i) ⟨he, hei⟩ hr hv
    have h2 := rankR_lt (i := k) h.n6 w1 w2 (cx k j hk hj) (ext_valid hv).1
    rw [a4]
    omega

theorem agreeP_symm {t : Nat} {x y : List (List Rt)} (h : AgreeP n t x y) : AgreeP n t y x := fun i j hi hj hne => ⟨(h i j hi hj (Ne.symm hne)).2, (h i j hi hj (Ne.symm hne)).1⟩

theorem agreeP_step (h : NetIn n) {x y : List (List Rt)} (hx : FitP n x) (hy : FitP n y) (cx : ConsS n x) (cy : ConsS n y) {t : Nat} (ha : AgreeP n t x y) : AgreeP n (t + 1) (roundP n x) (roundP n y) := fun i j hi hj hne => by
  rcases leR_total (n := n) (at2R (roundP n x) i j) (at2R (roundP n y) i j) with hl | hl
  · have h1 := agreeP_step1 h hx hy cx ha hi hj hne hl
    have h2 := rankR_le (j := j) hl
    omega
  · have h1 := agreeP_step1 h hy hx cy (agreeP_symm ha) hi hj (Ne.symm hne) hl
    have h2 := rankR_le (j := j) hl
    omega

theorem agreeP_iter (h : NetIn n) : ∀ (t s : Nat) {x y : List (List Rt)}, FitP n x → FitP n y → ConsS n x → ConsS n y → AgreeP n s x y → AgreeP n (s + t) (iterP n t x) (iterP n t y)
  | 0, _, _, _, _, _, _, _, ha => ha
  | t + 1, s, _, _, hx, hy, cx, cy, ha => by
    have := agreeP_iter h t (s + 1) (hx.round h) (hy.round h) (cons_round h hx cx) (cons_round h hy cy) (agreeP_step h hx hy cx cy ha)
    rw [Nat.add_right_comm] at this
    exact this

theorem at0_extR {X : Type} [Inhabited X] {a b : List X} (hl : a.length = b.length) (h : ∀ k : Int, 0 ≤ k → k < a.length → at0 a k = at0 b k) : a = b := by
  apply List.ext_getElem hl
  intro k h1 h2
  have := h k (by omega) (by omega)
  simpa [at0, h1, h2] using this

theorem fitP_ext {x y : List (List Rt)} (hx : FitP n x) (hy : FitP n y) (h : ∀ i j, 0 ≤ i ∧ i < n.nodes → 0 ≤ j ∧ j < n.nodes → at2R x i j = at2R y i j) : x = y := by
  have h1 := hx.len
  have h2 := hy.len
  refine at0_extR (by omega) fun i hi0 hi1 => ?_
  have h3 := hx.row _ (at0_mem x hi0 (by omega))
  have h4 := hy.row _ (at0_mem y hi0 (by omega))
  exact at0_extR (by omega) fun j hj0 hj1 => h i j ⟨hi0, by omega⟩ ⟨hj0, by omega⟩

theorem iterP_same (h : NetIn n) {x y : List (List Rt)} (hx : FitP n x) (hy : FitP n y) : iterP n 333 x = iterP n 333 y := by
  have e : ∀ z, iterP n 333 z = iterP n 327 (iterP n 6 z) := fun z => (iterP_add 6 327 z).symm
  have fx := iterP_fit h 6 hx
  have fy := iterP_fit h 6 hy
  have ha := agreeP_iter h 327 0 fx fy (cons_six h hx) (cons_six h hy) fun _ _ _ _ _ => ⟨Nat.zero_le _, Nat.zero_le _⟩
  rw [e, e]
  refine fitP_ext (iterP_fit h 327 fx) (iterP_fit h 327 fy) fun i j hi hj => ?_
  apply Classical.byContradiction
  intro hne
  have h1 := (ha i j hi hj hne).1
  have h2 := rankR_top (n := n) (j := j) ⟨hj.1, by have := h.n6; omega⟩ (at2R (iterP n 327 (iterP n 6 x)) i j)
  omega

theorem settleP_fix : ∀ (f t : Nat) (k : Int) (x : List (List Rt)), t ≤ f → iterP n t x = roundP n (iterP n t x) → (settleP n f k x).1 = roundP n (settleP n f k x).1 ∧ (settleP n f k x).2 ≤ k + t ∧ ∃ u, (settleP n f k x).1 = iterP n u x
  | 0, t, k, x, ht, h => by
    have : t = 0 := by omega
    subst this
    exact ⟨h, by simp [settleP], 0, rfl⟩
  | f + 1, t, k, x, ht, h => by
    rw [settleP]
    by_cases e : x = roundP n x
    · rw [if_pos e]
      exact ⟨e, by simp only; omega, 0, rfl⟩
    · rw [if_neg e]
      rcases t with _ | t
      · exact absurd h e
      · obtain ⟨h1, h2, u, h3⟩ := settleP_fix f t (k + 1) (roundP n x) (by omega) h
        exact ⟨h1, by omega, u + 1, h3⟩

/-- Whatever the states: they settle, to the same; and what they settle to is as its paths weigh. -/
theorem always_paths (hc : checkN n = 0) {x y : List (List Rt)} (hx : FitP n x) (hy : FitP n y) :
    (settleP n 500 0 x).2 < 500 ∧ (settleP n 500 0 y).2 < 500 ∧ (settleP n 500 0 x).1 = (settleP n 500 0 y).1 ∧ FitP n (settleP n 500 0 x).1 ∧ ConsS n (settleP n 500 0 x).1 := by
  have h := netIn_of hc
  have fix : ∀ z, FitP n z → iterP n 333 z = roundP n (iterP n 333 z) := fun z hz => by
    rw [iterP_round]
    exact iterP_same h hz (hz.round h)
  obtain ⟨a1, a2, u, a3⟩ := settleP_fix 500 333 0 x (by decide) (fix x hx)
  obtain ⟨b1, b2, v, b3⟩ := settleP_fix 500 333 0 y (by decide) (fix y hy)
  have fx : FitP n (settleP n 500 0 x).1 := by rw [a3]; exact iterP_fit h u hx
  have fy : FitP n (settleP n 500 0 y).1 := by rw [b3]; exact iterP_fit h v hy
  have e := iterP_same h fx fy
  rw [iterP_fix _ a1, iterP_fix _ b1] at e
  refine ⟨by omega, by omega, e, fx, ?_⟩
  have := cons_six h fx
  rwa [iterP_fix _ a1] at this
end
end Go.Proofs.Ytephecognbbaoab
