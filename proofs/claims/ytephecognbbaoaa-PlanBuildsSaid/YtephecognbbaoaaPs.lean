/- Schedules of a strict algebra end where rounds end: in plain Lean. -/
import Derived.Test.YtephecognbbaoaaPv
import Derived.Test.YtephecognbbaoaaPt
namespace Go.Proofs.Ytephecognbbaoaa
open Go
set_option linter.all false

section
variable {n : Net}

/-- One route, made of what differs late alone. -/
theorem cell_step1 (hc : checkN n = 0) (hs : StrictA n) {i j : Int} {f g : Int → Int} (hf : ∀ l ∈ n.links, InV n (f l.dst)) (hg : ∀ l ∈ n.links, InV n (g l.dst)) {t : Nat}
    (h : ∀ l ∈ n.links, l.fr = i → f l.dst ≠ g l.dst → t ≤ rank n (f l.dst)) (hle : Le n (routeL n i j f n.links) (routeL n i j g n.links)) (hne : routeL n i j f n.links ≠ routeL n i j g n.links)
    (hrx : InV n (routeL n i j f n.links)) (hry : InV n (routeL n i j g n.links)) : t + 1 ≤ rank n (routeL n i j f n.links) ∧ t + 1 ≤ rank n (routeL n i j g n.links) := by
  have hn := netIn_of hc
  have s2 := hn.alg.s2
  have hlt := rank_lt hn hrx hry hle hne
  suffices hk : t + 1 ≤ rank n (routeL n i j f n.links) from ⟨hk, by omega⟩
  have hvx : ∀ l ∈ n.links, InV n (overA n l.edge (f l.dst)) := fun l hl =>
    let q := hn.lnk l hl
    over_in hn ⟨q.e0, q.e1⟩ (hf l hl)
  have hvy : ∀ l ∈ n.links, InV n (overA n l.edge (g l.dst)) := fun l hl =>
    let q := hn.lnk l hl
    over_in hn ⟨q.e0, q.e1⟩ (hg l hl)
  have hb : InV n (if i = j then 0 else n.alg.size - 1 : Int) := by unfold InV; split <;> omega
  obtain ⟨_, _, _, f4⟩ := route_facts hn i (fun l => overA n l.edge (f l.dst)) n.links _ hvx hb
  obtain ⟨_, g2, g3, _⟩ := route_facts hn i (fun l => overA n l.edge (g l.dst)) n.links _ hvy hb
  have ex : routeL n i j f n.links = n.links.foldl (fun out l => if l.fr = i then bestA n out (overA n l.edge (f l.dst)) else out) (if i = j then 0 else n.alg.size - 1) := rfl
  have ey : routeL n i j g n.links = n.links.foldl (fun out l => if l.fr = i then bestA n out (overA n l.edge (g l.dst)) else out) (if i = j then 0 else n.alg.size - 1) := rfl
  rw [← ex] at f4
  rw [← ey] at g2 g3
  rcases f4 with f4 | ⟨l, hl, hfr, f4⟩
  · rw [f4] at hle hne hrx
    exact absurd (le_antisymm hn hrx hry hle g2) hne
  · have q := hn.lnk l hl
    have hxk := hf l hl
    have hyk := hg l hl
    have hg3 := g3 l hl hfr
    have hdiff : f l.dst ≠ g l.dst := fun e => by
      rw [e] at f4
      exact hne (le_antisymm hn hrx hry hle (by rw [f4]; exact hg3))
    have hinv : f l.dst ≠ n.alg.size - 1 := fun e => by
      rw [e, over_inv hn ⟨q.e0, q.e1⟩] at f4
      refine hne (le_antisymm hn hrx hry hle ?_)
      rw [f4]
      exact le_inv hn hry
    obtain ⟨s1, s3⟩ := over_strict hn hs ⟨q.e0, q.e1⟩ hxk hinv
    rw [← f4] at s1 s3
    have := rank_lt hn hxk hrx s1 (Ne.symm s3)
    have := h l hl hfr hdiff
    omega

theorem cell_step (hc : checkN n = 0) (hs : StrictA n) {i j : Int} {f g : Int → Int} (hf : ∀ k, 0 ≤ k → k < n.nodes → InV n (f k)) (hg : ∀ k, 0 ≤ k → k < n.nodes → InV n (g k)) {t : Nat}
    (h : ∀ l ∈ n.links, l.fr = i → f l.dst ≠ g l.dst → t ≤ rank n (f l.dst) ∧ t ≤ rank n (g l.dst)) (hne : routeL n i j f n.links ≠ routeL n i j g n.links) :
    t + 1 ≤ rank n (routeL n i j f n.links) ∧ t + 1 ≤ rank n (routeL n i j g n.links) := by
  have hn := netIn_of hc
  have hrx : InV n (routeL n i j f n.links) := routeL_in hc i j f hf
  have hry : InV n (routeL n i j g n.links) := routeL_in hc i j g hg
  have hf' : ∀ l ∈ n.links, InV n (f l.dst) := fun l hl => let q := hn.lnk l hl; hf _ q.d0 q.d1
  have hg' : ∀ l ∈ n.links, InV n (g l.dst) := fun l hl => let q := hn.lnk l hl; hg _ q.d0 q.d1
  rcases le_total hn hrx hry with hle | hle
  · exact cell_step1 hc hs hf' hg' (fun l hl hfr hd => (h l hl hfr hd).1) hle hne hrx hry
  · have := cell_step1 hc hs hg' hf' (fun l hl hfr hd => (h l hl hfr (Ne.symm hd)).2) hle (Ne.symm hne) hry hrx
    exact ⟨this.2, this.1⟩

/-- All states of a schedule: where it began, and each made of those before it. -/
structure Sched (n : Net) (t : List Trn) (o : List (List (List Int))) : Prop where
  len : o.length = t.length + 1
  inn : ∀ s ∈ o, RowsIn n s
  step : ∀ k : Int, 0 ≤ k → k < t.length → at0 o (k + 1) = nextT n o k (at0 t k)

theorem at0_app {X : Type} [Inhabited X] (a b : List X) {k : Int} (h0 : 0 ≤ k) (h : k < a.length) : at0 (a ++ b) k = at0 a k := by
  have : k.toNat < a.length := by omega
  simp [at0, List.getD_eq_getElem?_getD, List.getElem?_append_left this]
theorem at0_app2 {X : Type} [Inhabited X] (a b : List X) {k : Int} (h0 : 0 ≤ k) : at0 (a ++ b) (a.length + k) = at0 b k := by
  have : ((a.length : Int) + k).toNat = a.length + k.toNat := by omega
  simp [at0, List.getD_eq_getElem?_getD, this, List.getElem?_append_right]

theorem nextT_app {u : Trn} (hu : TrnIn n u) (out b : List (List (List Int))) {k : Int} (hk : 0 ≤ k) (hk2 : k < out.length) (hl : ∀ l ∈ n.links, 0 ≤ l.dst ∧ l.dst < n.nodes) : nextT n (out ++ b) k u = nextT n out k u := by
  refine List.map_congr_left fun i hi => ?_
  have hi := mem_ints.1 hi
  split
  · refine List.map_congr_left fun j hj => ?_
    unfold routeL
    have key : ∀ (L : List Lnk), (∀ l ∈ L, 0 ≤ l.dst ∧ l.dst < n.nodes) → ∀ z : Int, L.foldl (fun out' l => if l.fr = i then bestA n out' (overA n l.edge (at2 (at0 (out ++ b) (usedA u k i l.dst)) l.dst j)) else out') z = L.foldl (fun out' l => if l.fr = i then bestA n out' (overA n l.edge (at2 (at0 out (usedA u k i l.dst)) l.dst j)) else out') z := by
      intro L
      induction L with
      | nil => intro _ z; rfl
      | cons l L ih =>
        intro hL z
        have h1 := used_in hu hk hi (hL l (by simp))
        rw [List.foldl_cons, List.foldl_cons, at0_app out b h1.1 (by omega)]
        exact ih (fun x hx => hL x (by simp [hx])) _
    exact key _ hl _
  · rw [at0_app out b hk hk2]

theorem runF_keep : ∀ (r : List Trn) (k : Int) (out : List (List (List Int))), ∃ b, runF n k r out = out ++ b
  | [], _, out => ⟨[], by simp [runF]⟩
  | u :: r, k, out => by
    obtain ⟨b, h⟩ := runF_keep r (k + 1) (out ++ [nextT n out k u])
    exact ⟨nextT n out k u :: b, by rw [runF, h]; simp⟩

theorem runF_step (hl : ∀ l ∈ n.links, 0 ≤ l.dst ∧ l.dst < n.nodes) : ∀ (r : List Trn) (k : Int) (out : List (List (List Int))), (∀ u ∈ r, TrnIn n u) → 0 ≤ k → (out.length : Int) = k + 1 →
    ∀ q : Int, 0 ≤ q → q < r.length → at0 (runF n k r out) (k + q + 1) = nextT n (runF n k r out) (k + q) (at0 r q)
  | [], _, _, _, _, _, q, h0, h1 => by simp at h1; omega
  | u :: r, k, out, hu, hk, ho, q, h0, h1 => by
    rw [List.length_cons] at h1
    rw [runF]
    by_cases hq : q = 0
    · subst hq
      obtain ⟨b, hb⟩ := runF_keep r (k + 1) (out ++ [nextT n out k u])
      have e2 := nextT_app (hu u (by simp)) out ([nextT n out k u] ++ b) (k := k) hk (by omega) hl
      rw [hb, Int.add_zero, List.append_assoc, show at0 (u :: r) 0 = u from rfl, e2]
      have e3 := at0_app2 out ([nextT n out k u] ++ b) (k := 0) (by omega)
      rw [Int.add_zero, ho] at e3
      rw [e3]
      rfl
    · have ih := runF_step hl r (k + 1) (out ++ [nextT n out k u]) (fun v hv => hu v (by simp [hv])) (by omega) (by rw [List.length_append, List.length_singleton]; omega) (q - 1) (by omega) (by omega)
      have e : q.toNat = (q - 1).toNat + 1 := by omega
      have e2 : at0 (u :: r) q = at0 r (q - 1) := by unfold at0; rw [e]; rfl
      rw [e2]
      rw [show k + 1 + (q - 1) = k + q by omega] at ih
      exact ih

theorem sched_of (hc : checkN n = 0) {t : List Trn} (ht : ∀ u ∈ t, TrnIn n u) {x : List (List Int)} (hx : RowsIn n x) : Sched n t (runA n x t) := by
  have hn := netIn_of hc
  refine ⟨by rw [runA, runF_length]; simp; omega, ?_, fun k h0 h1 => ?_⟩
  · exact runF_in hc ht (fun s hs => by rw [List.mem_singleton.1 hs]; exact hx) (by omega) (by simp)
  · have := runF_step (n := n) (fun l hl => let q := hn.lnk l hl; ⟨q.d0, q.d1⟩) t 0 [x] ht (by omega) (by simp) k h0 h1
    rw [Int.zero_add] at this
    exact this

/-- Where a row differs from the state that stays, it is of rank m or more. -/
def RowOk (n : Net) (m : Nat) (s y : List (List Int)) (i : Int) : Prop := ∀ j, 0 ≤ j ∧ j < n.nodes → at2 y i j ≠ at2 s i j → m ≤ rank n (at2 y i j) ∧ m ≤ rank n (at2 s i j)

theorem at2_ints {f : Int → Int → Int} {m : Int} {i j : Int} (hi : 0 ≤ i ∧ i < m) (hj : 0 ≤ j ∧ j < m) : at2 ((ints m).map fun i => (ints m).map fun j => f i j) i j = f i j := by
  have a0 : ∀ {X : Type} [Inhabited X] (f : Int → X) {q : Int}, 0 ≤ q ∧ q < m → at0 ((ints m).map f) q = f q := fun f q hq => by
    have h1 : q.toNat < (ints m).length := by rw [ints_length]; omega
    simp only [at0, List.getD_eq_getElem?_getD, List.getElem?_map, List.getElem?_eq_getElem h1, Option.map_some, Option.getD_some]
    congr 1
    simp [ints]
    omega
  unfold at2
  rw [a0 _ hi, a0 _ hj]

theorem at0_ints_map {X : Type} [Inhabited X] {m : Int} (f : Int → X) {q : Int} (hq : 0 ≤ q ∧ q < m) : at0 ((ints m).map f) q = f q := by
  have h1 : q.toNat < (ints m).length := by rw [ints_length]; omega
  simp only [at0, List.getD_eq_getElem?_getD, List.getElem?_map, List.getElem?_eq_getElem h1, Option.map_some, Option.getD_some]
  congr 1
  simp [ints]
  omega

/-- An active node's row. -/
theorem row_active (hc : checkN n = 0) (hs : StrictA n) {s : List (List Int)} (hS : RowsIn n s) (hfix : s = roundA n s) {u : Trn} (hu : TrnIn n u) {o : List (List (List Int))} (ho : ∀ y ∈ o, RowsIn n y) {k : Int} (hk0 : 0 ≤ k) (hk1 : k < o.length) {m : Nat} {i : Int} (hi : 0 ≤ i ∧ i < n.nodes) (ha : at0 u.act i = true)
    (hold : ∀ l ∈ n.links, l.fr = i → RowOk n m s (at0 o (usedA u k i l.dst)) l.dst) : RowOk n (m + 1) s (nextT n o k u) i := by
  have hn := netIn_of hc
  intro j hj hne
  have e1 : at2 (nextT n o k u) i j = routeL n i j (fun to => at2 (at0 o (usedA u k i to)) to j) n.links := by
    unfold at2 nextT
    rw [at0_ints_map _ hi, if_pos ha, at0_ints_map _ hj]
    rfl
  have e2 : at2 s i j = routeL n i j (fun to => at2 s to j) n.links := by
    conv => lhs; rw [hfix]
    exact round_at hc hS hi hj
  rw [e1, e2] at hne ⊢
  refine cell_step hc hs (fun to h0 h1 => has_in hu ho hk0 hk1 hi ⟨h0, h1⟩ hj) (fun to h0 h1 => at2_in hS ⟨h0, h1⟩ hj) (fun l hl hfr hd => ?_) hne
  exact hold l hl hfr j hj hd

/-- After one cycle more. -/
theorem cycle_step (hc : checkN n = 0) (hs : StrictA n) {s : List (List Int)} (hS : RowsIn n s) (hfix : s = roundA n s) {t : List Trn} (ht : ∀ u ∈ t, TrnIn n u) {o : List (List (List Int))} (hr : Sched n t o) {m : Nat} {a b : Int} (ha : 0 ≤ a) (hb : 0 ≤ b)
    (hA : ∀ q, a ≤ q → q ≤ t.length → ∀ i, 0 ≤ i → i < n.nodes → RowOk n m s (at0 o q) i)
    (hB : ∀ q, b ≤ q → q < t.length → olderA n (at0 t q) q a = false) :
    ∀ (f : Nat) (q : Int), q = b + f → q ≤ t.length → ∀ i, 0 ≤ i → i < n.nodes → (∃ k, b ≤ k ∧ k < q ∧ at0 (at0 t k).act i = true) → RowOk n (m + 1) s (at0 o q) i := by
  have hn := netIn_of hc
  have hlen := hr.len
  intro f
  induction f with
  | zero => intro q hq _ i _ _ ⟨k, h1, h2, _⟩; omega
  | succ f ih =>
    intro q hq hql i h0 h1 ⟨k, g1, g2, g3⟩
    have hu := ht _ (at0_mem t (k := q - 1) (by omega) (by omega))
    have hstep := hr.step (q - 1) (by omega) (by omega)
    rw [show q - 1 + 1 = q by omega] at hstep
    rw [hstep]
    by_cases hact : at0 (at0 t (q - 1)).act i = true
    · refine row_active hc hs hS hfix hu hr.inn (by omega) (by omega) ⟨h0, h1⟩ hact fun l hl hfr => ?_
      have q9 := hn.lnk l hl
      have hus := used_in hu (k := q - 1) (i := i) (to := l.dst) (by omega) ⟨h0, h1⟩ ⟨q9.d0, q9.d1⟩
      have hnot := hB (q - 1) (by omega) (by omega)
      have hge : a ≤ usedA (at0 t (q - 1)) (q - 1) i l.dst := by
        apply Classical.byContradiction
        intro hc9
        have : olderA n (at0 t (q - 1)) (q - 1) a = true := List.any_eq_true.2 ⟨l, hl, by rw [hfr, hact, Bool.true_and]; exact decide_eq_true (by omega)⟩
        rw [this] at hnot
        cases hnot
      exact hA _ hge (by omega) l.dst q9.d0 q9.d1
    · have hlt : k < q - 1 := by
        rcases Int.lt_or_eq_of_le (show k ≤ q - 1 by omega) with h | h
        · exact h
        · rw [h] at g3; exact absurd g3 hact
      have h9 := ih (q - 1) (by omega) (by omega) i h0 h1 ⟨k, g1, hlt, g3⟩
      intro j hj hne
      have e1 : at2 (nextT n o (q - 1) (at0 t (q - 1))) i j = at2 (at0 o (q - 1)) i j := by
        unfold at2 nextT
        rw [at0_ints_map _ ⟨h0, h1⟩, if_neg hact]
      rw [e1] at hne ⊢
      exact h9 j hj hne

theorem at0_drop {X : Type} [Inhabited X] (t : List X) {a k : Int} (ha : 0 ≤ a) (hk : a ≤ k) : at0 (t.drop a.toNat) (k - a) = at0 t k := by
  have : a.toNat + (k - a).toNat = k.toNat := by omega
  simp [at0, List.getD_eq_getElem?_getD, List.getElem?_drop, this]

theorem cycles_good (hc : checkN n = 0) (hs : StrictA n) {s : List (List Int)} (hS : RowsIn n s) (hfix : s = roundA n s) {t : List Trn} (ht : ∀ u ∈ t, TrnIn n u) {o : List (List (List Int))} (hr : Sched n t o) :
    ∀ (f : Nat) (m : Nat) (a b : Int), 0 ≤ a → a ≤ t.length → 0 ≤ b →
      (∀ q, a ≤ q → q ≤ t.length → ∀ i, 0 ≤ i → i < n.nodes → RowOk n m s (at0 o q) i) → (∀ q, b ≤ q → q < t.length → olderA n (at0 t q) q a = false) →
      ∀ i, 0 ≤ i → i < n.nodes → RowOk n (cyclesF n t f b m).toNat s (at0 o t.length) i
  | 0, m, a, b, ha, hal, hb, hA, hB, i, h0, h1 => by
    rw [cyclesF, Int.toNat_natCast]
    exact hA _ hal (Int.le_refl _) i h0 h1
  | f + 1, m, a, b, ha, hal, hb, hA, hB, i, h0, h1 => by
    rw [cyclesF]
    cases hcy : cycleA n t b with
    | none =>
      simp only [Int.toNat_natCast]
      exact hA _ hal (Int.le_refl _) i h0 h1
    | some d =>
      simp only
      unfold cycleA at hcy
      obtain ⟨e, he, hd⟩ := Option.map_eq_some_iff.1 hcy
      have htd : ∀ {k : Nat}, ∀ u ∈ t.drop k, TrnIn n u := fun u hu => ht u (List.mem_of_mem_drop hu)
      obtain ⟨e1, e2, e3⟩ := endF_facts htd (Met.nil n) he
      rw [List.length_drop] at e2
      have hel : e ≤ t.length ∨ t.length < b := by omega
      rcases hel with hel | hel
      · obtain ⟨d1, d2, d3, d4⟩ := doneF_facts (n := n) (e := e) (r := t.drop e.toNat) (k := e) (d := e) (Int.le_refl _) (Int.le_refl _)
        rw [hd] at d1 d2 d3 d4
        rw [List.length_drop] at d3 d4
        have := cycles_good hc hs hS hfix ht hr f (m + 1) e d (by omega) hel (by omega) (fun q g1 g2 i g3 g4 => ?_) (fun q g1 g2 => ?_) i h0 h1
        · rw [show ((m + 1 : Nat) : Int) = (m : Int) + 1 by omega] at this
          exact this
        · obtain ⟨k, k1, k2, k3⟩ : ∃ k, b ≤ k ∧ k < e ∧ at0 (at0 (t.drop b.toNat) (k - b)).act i = true := by
            rcases e3 i g3 g4 with h | h
            · cases h
            · exact h
          rw [at0_drop t hb k1] at k3
          exact cycle_step hc hs hS hfix ht hr ha hb hA hB (q - b).toNat q (by omega) g2 i g3 g4 ⟨k, k1, by omega, k3⟩
        · have := d4 q g1 (by omega) (by omega)
          rw [at0_drop t (by omega) (by omega)] at this
          exact this
      · -- nobody is left: no cycle
        have hnil : t.drop b.toNat = [] := List.drop_eq_nil_of_le (by omega)
        rw [hnil, endF] at he
        have := (netIn_of hc).n1
        rw [if_neg (by simp; omega)] at he
        cases he

/-- What a schedule of cycles enough ends at. -/
theorem async_settles (hc : checkN n = 0) (hs : StrictA n) {t : List Trn} (ht : ∀ u ∈ t, TrnIn n u) {x : List (List Int)} (hx : RowsIn n x) (hk : n.alg.size ≤ cyclesA n t) :
    at0 (runA n x t) t.length = (settleF n 100 0 (beginA n)).1 ∧ (runA n x t).length = t.length + 1 := by
  have hn := netIn_of hc
  have s2 := hn.alg.s2
  have hb := begin_in hn
  obtain ⟨a1, _, _, _⟩ := always hc hs hb hb
  have hS := settle_in hn (f := 100) (k := 0) hb
  have hr := sched_of hc ht hx
  have h := cycles_good hc hs hS a1 ht hr (t.length + 1) 0 0 0 (by omega) (by omega) (by omega) (fun q h0 h1 i h2 h3 j hj _ => ⟨Nat.zero_le _, Nat.zero_le _⟩) (fun q h0 h1 => by
    unfold olderA
    rw [List.any_eq_false]
    intro l hl
    rw [Bool.and_eq_true, decide_eq_true_eq]
    rintro ⟨_, h9⟩
    unfold usedA at h9
    omega)
  refine ⟨?_, hr.len⟩
  have hy := hr.inn _ (at0_mem (runA n x t) (k := t.length) (by omega) (by have := hr.len; omega))
  refine agree_eq hn hy hS (t := (cyclesA n t).toNat) (by omega) fun i j hi hj hne => ?_
  exact h i hi.1 hi.2 j hj hne
end
end Go.Proofs.Ytephecognbbaoaa
