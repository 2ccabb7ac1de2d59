/- Plans: the law, in plain Lean. -/
import Derived.Test.YtephecognbbaoaaVr
namespace Go.Proofs.Ytephecognbbaoaa
open Go
set_option linter.all false

/-- What is wrong with a plan. -/
def errP (p : Pl) : Int := if 4 < deepP p 4 ∨ wideP p = true then 2 else checkP p

theorem errP_zero {p : Pl} (h : errP p = 0) : wideP p = false ∧ checkP p = 0 := by
  unfold errP at h
  split at h
  · cases h
  · rename_i hc
    rw [not_or] at hc
    exact ⟨by simpa using hc.2, h⟩

mutual
theorem edges_le : ∀ (p : Pl), checkP p = 0 → wideP p = false → edgesP p ≤ 8
  | .mk k n e ps, h, hw => by
    obtain ⟨hps, hc⟩ := check_cases h
    rw [wideP, Bool.or_eq_false_iff, decide_eq_false_iff_not] at hw
    have ih := edges_leL ps hps hw.2
    rw [edgesP]
    rcases hc with ⟨rfl, rfl, hn, he⟩ | ⟨rfl, rfl, hn, he⟩ | ⟨rfl, rfl, rfl, x, y, rfl, hee, hs⟩ | ⟨rfl, rfl, x, rfl, hel, hev⟩
    · rw [if_neg (by decide)]; omega
    · rw [if_neg (by decide)]; omega
    · rw [if_pos rfl, edgesL_map]
      exact ih x (by simp)
    · rw [if_neg (by decide)]; omega
theorem edges_leL : ∀ (ps : List Pl), (∀ x ∈ ps, checkP x = 0) → wideL ps = false → ∀ x ∈ ps, edgesP x ≤ 8
  | [], _, _, x, hx => by cases hx
  | y :: r, h, hw, x, hx => by
    rw [wideL, Bool.or_eq_false_iff] at hw
    have h1 := edges_le y (h y (by simp)) hw.1
    have h2 := edges_leL r (fun z hz => h z (by simp [hz])) hw.2
    rcases List.mem_cons.1 hx with rfl | hx
    · exact h1
    · exact h2 x hx
end

theorem right_built {p : Pl} (h : errP p = 0) : Right (buildP p) := by
  obtain ⟨hw, hc⟩ := errP_zero h
  have hb := build_ok p hc
  have he := edges_le p hc hw
  exact ⟨hb.form.s2, hb.form.s24, by have := hb.edges; omega, hb.form.bl, hb.form.row, hb.form.val⟩

theorem seven_built {p : Pl} (h : errP p = 0) : brokenA (buildP p) seven = zeroB := by
  obtain ⟨hw, hc⟩ := errP_zero h
  exact broken_none fun law hl b hb => (build_law p hc).holds (build_ok p hc).form hl hb

theorem strict_none {p : Pl} (hc : checkP p = 0) (hs : StrictO (buildP p)) : brokenA (buildP p) [8] = zeroB :=
  broken_none fun law hl b hb => by
    rw [List.mem_singleton.1 hl] at hb
    exact strict_holds (build_law p hc) hs (build_ok p hc).form hb

theorem strict_hops {p : Pl} (h : errP p = 0) (hk : p.kind = 1) : brokenA (buildP p) [8] = zeroB := by
  obtain ⟨hw, hc⟩ := errP_zero h
  obtain ⟨k, n, e, ps⟩ := p
  have hk : k = 1 := hk
  subst hk
  refine strict_none hc ?_
  obtain ⟨_, h1⟩ := check_cases hc
  rcases h1 with ⟨_, rfl, hn, he⟩ | ⟨h1, _⟩ | ⟨h1, _⟩ | ⟨h1, _⟩
  · rw [buildP, if_pos rfl]
    exact strict_simple hn.1 fun x hx k hk => by have := he x hx; show k < k + x; omega
  · cases h1
  · cases h1
  · cases h1

theorem strict_pairs {p : Pl} (h : errP p = 0) (hk : p.kind = 3) (hs : ∃ x ∈ p.parts, (brokenA (buildP x) [8]).law = 0) : brokenA (buildP p) [8] = zeroB := by
  obtain ⟨hw, hc⟩ := errP_zero h
  obtain ⟨k, n, e, ps⟩ := p
  have hk : k = 3 := hk
  subst hk
  refine strict_none hc ?_
  obtain ⟨hps, h1⟩ := check_cases hc
  rcases h1 with ⟨h1, _⟩ | ⟨h1, _⟩ | ⟨_, rfl, rfl, x, y, rfl, hee, hs2⟩ | ⟨h1, _⟩
  · cases h1
  · cases h1
  · have hx := build_ok x (hps x (by simp))
    have hy := build_ok y (hps y (by simp))
    have hb : buildP (.mk 3 0 [] [x, y]) = pairA (buildP x) (buildP y) := by rw [buildP, if_neg (by decide), if_neg (by decide), if_pos rfl, buildL_map]; rfl
    have hee2 : (buildP x).edges.length = (buildP y).edges.length := by have := hx.edges; have := hy.edges; omega
    rw [hb]
    refine strict_pair (build_law x (hps x (by simp))) (build_law y (hps y (by simp))) hx.form hy.form hee2 ?_
    obtain ⟨q, hq, hz⟩ := hs
    have hq : q = x ∨ q = y := by simpa [Pl.parts] using hq
    rcases hq with rfl | rfl
    · exact .inl (strict_of hz)
    · exact .inr (strict_of hz)
  · cases h1
end Go.Proofs.Ytephecognbbaoaa
