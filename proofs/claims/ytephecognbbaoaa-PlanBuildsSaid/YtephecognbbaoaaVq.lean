/- The algebras that checked plans stand for: their form. -/
import Derived.Test.YtephecognbbaoaaVp
namespace Go.Proofs.Ytephecognbbaoaa
open Go
set_option linter.all false

theorem inM {m : Int} {f : Int → Int} {v : Int} (h : v ∈ (ints m).map f) : ∃ k, (0 ≤ k ∧ k < m) ∧ v = f k := by
  obtain ⟨k, hk, rfl⟩ := List.mem_map.1 h
  exact ⟨k, mem_ints.1 hk, rfl⟩

/-- Numbers of pairs. -/
structure PairOk (N m : Int) : Prop where
  n : 1 ≤ N
  m : 1 ≤ m
theorem PairOk.last {N m : Int} (h : PairOk N m) : 1 ≤ N * m := by
  have := Int.mul_pos (a := N) (b := m) (by have := h.n; omega) (by have := h.m; omega)
  omega
theorem PairOk.div {N m i : Int} (h : PairOk N m) (h0 : 0 ≤ i) (h1 : i < N * m) : 0 ≤ i / m ∧ i / m < N :=
  ⟨Int.ediv_nonneg h0 (by have := h.m; omega), Int.ediv_lt_of_lt_mul (by have := h.m; omega) h1⟩
theorem PairOk.mod {N m i : Int} (h : PairOk N m) : 0 ≤ i % m ∧ i % m < m :=
  ⟨Int.emod_nonneg _ (by have := h.m; omega), Int.emod_lt_of_pos _ (by have := h.m; omega)⟩
theorem PairOk.mul {N m p q : Int} (h : PairOk N m) (p0 : 0 ≤ p) (p1 : p < N) (q0 : 0 ≤ q) (q1 : q < m) : 0 ≤ p * m + q ∧ p * m + q < N * m := by
  have hm := h.m
  have h1 : 0 ≤ p * m := Int.mul_nonneg p0 (by omega)
  have h2 : (p + 1) * m ≤ N * m := Int.mul_le_mul_of_nonneg_right (by omega) (by omega)
  rw [Int.add_mul, Int.one_mul] at h2
  omega
theorem PairOk.back {N m p q : Int} (h : PairOk N m) (q0 : 0 ≤ q) (q1 : q < m) : (p * m + q) / m = p ∧ (p * m + q) % m = q := by
  have hm := h.m
  constructor
  · rw [Int.add_comm, Int.add_mul_ediv_right _ _ (by omega), Int.ediv_eq_zero_of_lt q0 q1, Int.zero_add]
  · rw [Int.add_comm, Int.add_mul_emod_self_right, Int.emod_eq_of_lt q0 q1]
theorem PairOk.of {N m i : Int} (h : PairOk N m) : i / m * m + i % m = i := by
  have := Int.mul_ediv_add_emod i m
  rw [Int.mul_comm] at this
  exact this

theorem pairN_in {x y : Alg} (h : PairOk (x.size - 1) (y.size - 1)) {p q : Int} (p0 : 0 ≤ p) (p1 : p < x.size) (q0 : 0 ≤ q) (q1 : q < y.size) : 0 ≤ pairN x y p q ∧ pairN x y p q ≤ (x.size - 1) * (y.size - 1) := by
  have hl := h.last
  unfold pairN
  by_cases c : p = x.size - 1 ∨ q = y.size - 1
  · rw [if_pos c]; omega
  · rw [if_neg c]
    have := h.mul p0 (by omega) q0 (by omega)
    omega

section
variable {x y : Alg}

/-- An algebra's form. -/
structure FormA (a : Alg) : Prop where
  s2 : 2 ≤ a.size
  s24 : a.size ≤ 24
  bl : (a.best.length : Int) = a.size
  row : ∀ r ∈ a.best ++ a.edges, (r.length : Int) = a.size
  val : ∀ r ∈ a.best ++ a.edges, ∀ v ∈ r, 0 ≤ v ∧ v ≤ a.size - 1

theorem FormA.best_in {a : Alg} (h : FormA a) {i j : Int} (h0 : 0 ≤ i) (h1 : i < a.size) (h2 : 0 ≤ j) (h3 : j < a.size) : 0 ≤ at2 a.best i j ∧ at2 a.best i j < a.size := by
  have hm := at0_mem a.best h0 (by have := h.bl; omega)
  have hr := h.row _ (List.mem_append_left _ hm)
  have := h.val _ (List.mem_append_left _ hm) _ (at0_mem _ h2 (by omega))
  unfold at2
  omega
theorem FormA.edge_in {a : Alg} (h : FormA a) {i j : Int} (h0 : 0 ≤ i) (h1 : i < a.edges.length) (h2 : 0 ≤ j) (h3 : j < a.size) : 0 ≤ at2 a.edges i j ∧ at2 a.edges i j < a.size := by
  have hm := at0_mem a.edges h0 h1
  have hr := h.row _ (List.mem_append_right _ hm)
  have := h.val _ (List.mem_append_right _ hm) _ (at0_mem _ h2 (by omega))
  unfold at2
  omega

theorem len_ints {X : Type} {m : Int} {f : Int → X} (h : 0 ≤ m) : (((ints m).map f).length : Int) = m := by
  rw [List.length_map, ints_length]
  omega

theorem form_simple {n : Int} {e : List Int} {f : Int → Int → Int} (h1 : 1 ≤ n) (h22 : n ≤ 22) (hf : ∀ x ∈ e, ∀ k, 0 ≤ k → 0 ≤ f x k) : FormA (simpleA n e f) := by
  refine ⟨by simp only [simpleA]; omega, by simp only [simpleA]; omega, len_ints (by omega), fun r hr => ?_, fun r hr v hv => ?_⟩
  · rcases List.mem_append.1 hr with hr | hr
    · obtain ⟨i, hi, rfl⟩ := List.mem_map.1 hr
      exact ints_map_len (by omega)
    · obtain ⟨i, hi, rfl⟩ := List.mem_map.1 hr
      exact ints_map_len (by omega)
  · rcases List.mem_append.1 hr with hr | hr
    · obtain ⟨i, hi, rfl⟩ := List.mem_map.1 hr
      have hi := mem_ints.1 hi
      obtain ⟨k, hk, rfl⟩ := inM hv
      simp only [simpleA]
      omega
    · obtain ⟨i, hi, rfl⟩ := List.mem_map.1 hr
      obtain ⟨k, hk, rfl⟩ := inM hv
      have := hf i hi k hk.1
      simp only [simpleA]
      split <;> omega

theorem form_pairOk (hx : FormA x) (hy : FormA y) : PairOk (x.size - 1) (y.size - 1) := ⟨by have := hx.s2; omega, by have := hy.s2; omega⟩

theorem pairBest_in (hx : FormA x) (hy : FormA y) {i k : Int} (i0 : 0 ≤ i) (i1 : i < (x.size - 1) * (y.size - 1) + 1) (k0 : 0 ≤ k) (k1 : k < (x.size - 1) * (y.size - 1) + 1) : 0 ≤ pairBest x y i k ∧ pairBest x y i k ≤ (x.size - 1) * (y.size - 1) := by
  have h := form_pairOk hx hy
  have hl := h.last
  unfold pairBest
  by_cases c1 : i = (x.size - 1) * (y.size - 1)
  · rw [if_pos c1]; omega
  rw [if_neg c1]
  by_cases c2 : k = (x.size - 1) * (y.size - 1)
  · rw [if_pos c2]; omega
  rw [if_neg c2]
  by_cases c3 : i / (y.size - 1) = k / (y.size - 1)
  · rw [if_pos c3]
    have a1 := h.div i0 (by omega)
    have a2 := h.mod (i := i)
    have a3 := h.mod (i := k)
    have := hy.best_in a2.1 (by omega) a3.1 (by omega)
    exact pairN_in h a1.1 (by omega) this.1 this.2
  rw [if_neg c3]
  split <;> omega

theorem pairEdge_in (hx : FormA x) (hy : FormA y) (he : x.edges.length = y.edges.length) {e k : Int} (e0 : 0 ≤ e) (e1 : e < x.edges.length) (k0 : 0 ≤ k) (k1 : k < (x.size - 1) * (y.size - 1) + 1) : 0 ≤ pairEdge x y e k ∧ pairEdge x y e k ≤ (x.size - 1) * (y.size - 1) := by
  have h := form_pairOk hx hy
  have hl := h.last
  unfold pairEdge
  by_cases c2 : k = (x.size - 1) * (y.size - 1)
  · rw [if_pos c2]; omega
  rw [if_neg c2]
  have a1 := h.div k0 (by omega)
  have a3 := h.mod (i := k)
  have b1 := hx.edge_in e0 e1 a1.1 (by omega)
  have b2 := hy.edge_in e0 (by omega) a3.1 (by omega)
  exact pairN_in h b1.1 b1.2 b2.1 b2.2

theorem form_pair (hx : FormA x) (hy : FormA y) (he : x.edges.length = y.edges.length) (h24 : (x.size - 1) * (y.size - 1) + 1 ≤ 24) : FormA (pairA x y) := by
  have h := form_pairOk hx hy
  have hl := h.last
  refine ⟨by simp only [pairA]; omega, by simp only [pairA]; omega, len_ints (by omega), fun r hr => ?_, fun r hr v hv => ?_⟩
  · rcases List.mem_append.1 hr with hr | hr
    · obtain ⟨i, hi, rfl⟩ := List.mem_map.1 hr
      exact ints_map_len (by omega)
    · obtain ⟨i, hi, rfl⟩ := List.mem_map.1 hr
      exact ints_map_len (by omega)
  · rcases List.mem_append.1 hr with hr | hr
    · obtain ⟨i, hi, rfl⟩ := List.mem_map.1 hr
      have hi := mem_ints.1 hi
      obtain ⟨k, hk, rfl⟩ := inM hv
      have := pairBest_in hx hy hi.1 hi.2 hk.1 hk.2
      simp only [pairA]
      omega
    · obtain ⟨i, hi, rfl⟩ := List.mem_map.1 hr
      have hi := mem_ints.1 hi
      obtain ⟨k, hk, rfl⟩ := inM hv
      have := pairEdge_in hx hy he hi.1 hi.2 hk.1 hk.2
      simp only [pairA]
      omega

theorem form_filter (hx : FormA x) {e : List Int} (he : e.length = x.edges.length) : FormA (filterA e x) := by
  have s2 := hx.s2
  refine ⟨hx.s2, hx.s24, hx.bl, fun r hr => ?_, fun r hr v hv => ?_⟩
  · rcases List.mem_append.1 hr with hr | hr
    · exact hx.row r (List.mem_append_left _ hr)
    · obtain ⟨i, hi, rfl⟩ := List.mem_map.1 hr
      exact ints_map_len (by show 0 ≤ x.size; omega)
  · rcases List.mem_append.1 hr with hr | hr
    · exact hx.val r (List.mem_append_left _ hr) v hv
    · obtain ⟨i, hi, rfl⟩ := List.mem_map.1 hr
      have hi := mem_ints.1 hi
      obtain ⟨k, hk, rfl⟩ := inM hv
      have := hx.edge_in hi.1 (by omega) hk.1 hk.2
      simp only [filterA]
      unfold at2 at this
      split <;> omega
end

/-- A checked plan's algebra. -/
structure BuiltOk (p : Pl) : Prop where
  form : FormA (buildP p)
  size : (buildP p).size = sizeP p
  edges : ((buildP p).edges.length : Int) = edgesP p

mutual
theorem build_ok : ∀ (p : Pl), checkP p = 0 → BuiltOk p
  | .mk k n e ps, h => by
    obtain ⟨hps, hc⟩ := check_cases h
    have ih := build_okL ps hps
    rcases hc with ⟨rfl, rfl, hn, he⟩ | ⟨rfl, rfl, hn, he⟩ | ⟨rfl, rfl, rfl, x, y, rfl, hee, hs⟩ | ⟨rfl, rfl, x, rfl, hel, hev⟩
    · have hb : buildP (.mk 1 n e []) = simpleA n e (fun x a => a + x) := by rw [buildP, if_pos rfl]
      refine ⟨?_, ?_, ?_⟩
      · rw [hb]; exact form_simple hn.1 hn.2 fun x hx k hk => by have := he x hx; show 0 ≤ k + x; omega
      · rw [hb, sizeP, if_neg (by decide), if_neg (by decide)]; rfl
      · rw [hb, edgesP, if_neg (by decide)]; simp [simpleA]
    · have hb : buildP (.mk 2 n e []) = simpleA n e (fun x a => max a x) := by rw [buildP, if_neg (by decide), if_pos rfl]
      refine ⟨?_, ?_, ?_⟩
      · rw [hb]; exact form_simple hn.1 hn.2 fun x hx k hk => by show 0 ≤ max k x; omega
      · rw [hb, sizeP, if_neg (by decide), if_neg (by decide)]; rfl
      · rw [hb, edgesP, if_neg (by decide)]; simp [simpleA]
    · have hx := ih x (by simp)
      have hy := ih y (by simp)
      have hb : buildP (.mk 3 0 [] [x, y]) = pairA (buildP x) (buildP y) := by rw [buildP, if_neg (by decide), if_neg (by decide), if_pos rfl, buildL_map]; rfl
      have hee2 : (buildP x).edges.length = (buildP y).edges.length := by have := hx.edges; have := hy.edges; omega
      refine ⟨?_, ?_, ?_⟩
      · rw [hb]; exact form_pair hx.form hy.form hee2 (by rw [hx.size, hy.size]; exact hs)
      · rw [hb, sizeP, if_pos rfl, sizeL_map, pairA, hx.size, hy.size]; rfl
      · rw [hb, edgesP, if_pos rfl, edgesL_map]
        show (((ints (buildP x).edges.length).map _).length : Int) = edgesP x
        rw [len_ints (by omega), hx.edges]
    · have hx := ih x (by simp)
      have hb : buildP (.mk 4 0 e [x]) = filterA e (buildP x) := by rw [buildP, if_neg (by decide), if_neg (by decide), if_neg (by decide), buildL_map]; rfl
      refine ⟨?_, ?_, ?_⟩
      · rw [hb]; exact form_filter hx.form (by have := hx.edges; omega)
      · rw [hb, sizeP, if_neg (by decide), if_pos rfl, sizeL_map]; exact hx.size
      · rw [hb, edgesP, if_neg (by decide)]
        show (((ints e.length).map _).length : Int) = _
        rw [len_ints (by omega)]
theorem build_okL : ∀ (ps : List Pl), (∀ x ∈ ps, checkP x = 0) → ∀ x ∈ ps, BuiltOk x
  | [], _, x, hx => by cases hx
  | y :: r, h, x, hx => by
    have h1 := build_ok y (h y (by simp))
    have h2 := build_okL r (fun z hz => h z (by simp [hz]))
    rcases List.mem_cons.1 hx with rfl | hx
    · exact h1
    · exact h2 x hx
end
end Go.Proofs.Ytephecognbbaoaa
