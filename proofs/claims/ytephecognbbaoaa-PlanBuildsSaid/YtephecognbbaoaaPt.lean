/- Cycles of turns: in plain Lean. -/
import Derived.Test.YtephecognbbaoaaPv
namespace Go.Proofs.Ytephecognbbaoaa
open Go
set_option linter.all false

/-- Which nodes have been met. -/
def addK : List Int → Int → List Bool → List Int
  | K, _, [] => K
  | K, i, a :: r => addK (if a = true ∧ i ∉ K then K ++ [i] else K) (i + 1) r

/-- Where all have been met. -/
def endF (n : Net) : List Trn → Int → List Int → Option Int
  | [], e, K => if n.nodes ≤ K.length then some e else none
  | u :: r, e, K => if n.nodes ≤ K.length then some e else endF n r (e + 1) (addK K 0 u.act)

def olderA (n : Net) (u : Trn) (k e : Int) : Bool := n.links.any fun l => at0 u.act l.fr && decide (usedA u k l.fr l.dst < e)

/-- Behind which turn nothing older is used. -/
def doneF (n : Net) (e : Int) : List Trn → Int → Int → Int
  | [], _, d => d
  | u :: r, k, d => doneF n e r (k + 1) (if olderA n u k e then k + 1 else d)

def cycleA (n : Net) (t : List Trn) (fr : Int) : Option Int := (endF n (t.drop fr.toNat) fr []).map fun e => doneF n e (t.drop e.toNat) e e

def cyclesF (n : Net) (t : List Trn) : Nat → Int → Int → Int
  | 0, _, many => many
  | f + 1, fr, many => match cycleA n t fr with
    | none => many
    | some to => cyclesF n t f to (many + 1)

def cyclesA (n : Net) (t : List Trn) : Int := cyclesF n t (t.length + 1) 0 0

/-- A list of met nodes. -/
structure Met (n : Net) (K : List Int) : Prop where
  nd : K.Nodup
  mem : ∀ i ∈ K, 0 ≤ i ∧ i < n.nodes

theorem Met.nil (n : Net) : Met n [] := ⟨List.nodup_nil, fun _ h => by cases h⟩
theorem Met.add {n : Net} {K : List Int} (h : Met n K) {i : Int} (h0 : 0 ≤ i ∧ i < n.nodes) (hi : i ∉ K) : Met n (K ++ [i]) :=
  ⟨List.nodup_append.2 ⟨h.nd, by simp, fun a ha b hb e => by rw [List.mem_singleton.1 hb] at e; exact hi (e ▸ ha)⟩, fun j hj => by
    rcases List.mem_append.1 hj with hj | hj
    · exact h.mem j hj
    · rw [List.mem_singleton.1 hj]; exact h0⟩

theorem met_addK {n : Net} : ∀ {l : List Bool} {K : List Int} {i : Int}, Met n K → 0 ≤ i → i + l.length ≤ n.nodes → Met n (addK K i l)
  | [], _, _, h, _, _ => h
  | a :: r, K, i, h, h0, h1 => by
    rw [List.length_cons] at h1
    rw [addK]
    refine met_addK ?_ (by omega) (by omega)
    split
    · rename_i hc
      exact h.add ⟨h0, by omega⟩ hc.2
    · exact h

theorem mem_addK : ∀ {l : List Bool} {K : List Int} {i j : Int}, j ∈ addK K i l ↔ j ∈ K ∨ (i ≤ j ∧ j < i + l.length ∧ at0 l (j - i) = true)
  | [], K, i, j => by simp [addK]; omega
  | a :: r, K, i, j => by
    rw [addK, mem_addK, List.length_cons]
    by_cases hj : j = i
    · subst hj
      have h0 : at0 (a :: r) (j - j) = a := by simp [at0]
      rw [h0]
      constructor
      · rintro (h | h)
        · split at h
          · rename_i hc
            exact .inr ⟨by omega, by omega, hc.1⟩
          · exact .inl h
        · omega
      · rintro (h | h)
        · left; split
          · exact List.mem_append.2 (.inl h)
          · exact h
        · left
          by_cases hm : j ∈ K
          · split
            · exact List.mem_append.2 (.inl hm)
            · exact hm
          · rw [if_pos ⟨h.2.2, hm⟩]
            simp
    · have hs : i < j → at0 (a :: r) (j - i) = at0 r (j - (i + 1)) := fun h => by
        have e : (j - i).toNat = (j - (i + 1)).toNat + 1 := by omega
        simp [at0, List.getD_eq_getElem?_getD, e]
      constructor
      · rintro (h | h)
        · left
          split at h
          · rcases List.mem_append.1 h with h | h
            · exact h
            · exact absurd (List.mem_singleton.1 h) hj
          · exact h
        · exact .inr ⟨by omega, by omega, by rw [hs (by omega)]; exact h.2.2⟩
      · rintro (h | h)
        · left; split
          · exact List.mem_append.2 (.inl h)
          · exact h
        · exact .inr ⟨by omega, by omega, by rw [← hs (by omega)]; exact h.2.2⟩

theorem nodup_sub : ∀ {K L : List Int}, K.Nodup → (∀ i ∈ K, i ∈ L) → K.length ≤ L.length
  | [], _, _, _ => Nat.zero_le _
  | k :: r, L, h, hs => by
    rw [List.nodup_cons] at h
    have hk := hs k (by simp)
    have := nodup_sub (K := r) (L := L.erase k) h.2 fun i hi => (List.mem_erase_of_ne (show i ≠ k from fun e => h.1 (by rw [← e]; exact hi))).2 (hs i (by simp [hi]))
    rw [List.length_erase_of_mem hk] at this
    have := List.length_pos_of_mem hk
    simp only [List.length_cons]
    omega

/-- As many as there are: all. -/
theorem met_all {n : Net} {K : List Int} (h : Met n K) : n.nodes ≤ K.length ↔ ∀ i, 0 ≤ i → i < n.nodes → i ∈ K := by
  constructor
  · intro hl i h0 h1
    apply Classical.byContradiction
    intro hi
    have := nodup_sub (h.add ⟨h0, h1⟩ hi).nd (L := ints n.nodes) fun j hj => mem_ints.2 ((h.add ⟨h0, h1⟩ hi).mem j hj)
    rw [ints_length] at this
    simp at this
    omega
  · intro ha
    have := nodup_sub (ints_nodup n.nodes) (L := K) fun j hj => ha j (mem_ints.1 hj).1 (mem_ints.1 hj).2
    rw [ints_length] at this
    omega

theorem endF_facts {n : Net} : ∀ {r : List Trn} {K : List Int} {e0 e : Int}, (∀ u ∈ r, TrnIn n u) → Met n K → endF n r e0 K = some e →
    e0 ≤ e ∧ e ≤ e0 + r.length ∧ ∀ i, 0 ≤ i → i < n.nodes → i ∈ K ∨ ∃ k, e0 ≤ k ∧ k < e ∧ at0 (at0 r (k - e0)).act i = true
  | [], K, e0, e, _, hK, h => by
    rw [endF] at h
    split at h
    · cases h
      rename_i hl
      exact ⟨by omega, by simp, fun i h0 h1 => .inl ((met_all hK).1 hl i h0 h1)⟩
    · cases h
  | u :: r, K, e0, e, hu, hK, h => by
    rw [endF] at h
    split at h
    · cases h
      rename_i hl
      exact ⟨by omega, by omega, fun i h0 h1 => .inl ((met_all hK).1 hl i h0 h1)⟩
    · have hul := (hu u (by simp)).act
      obtain ⟨h1, h2, h3⟩ := endF_facts (fun v hv => hu v (by simp [hv])) (met_addK hK (by omega) (by omega)) h
      refine ⟨by omega, by rw [List.length_cons]; omega, fun i h4 h5 => ?_⟩
      rcases h3 i h4 h5 with h6 | ⟨k, h6, h7, h8⟩
      · rcases mem_addK.1 h6 with h6 | ⟨_, _, h6⟩
        · exact .inl h6
        · refine .inr ⟨e0, by omega, by omega, ?_⟩
          rw [Int.sub_self]
          simpa [at0] using h6
      · refine .inr ⟨k, by omega, by omega, ?_⟩
        have e : (k - e0).toNat = (k - (e0 + 1)).toNat + 1 := by omega
        have : at0 (u :: r) (k - e0) = at0 r (k - (e0 + 1)) := by simp [at0, List.getD_eq_getElem?_getD, e]
        rw [this]
        exact h8

theorem endF_more {n : Net} (h1 : 1 ≤ n.nodes) {r : List Trn} {e0 e : Int} (hu : ∀ u ∈ r, TrnIn n u) (h : endF n r e0 [] = some e) : e0 < e := by
  obtain ⟨a, b, c⟩ := endF_facts hu (Met.nil n) h
  rcases c 0 (by omega) (by omega) with c | ⟨k, c1, c2, _⟩
  · cases c
  · omega

theorem doneF_facts {n : Net} {e : Int} : ∀ {r : List Trn} {k d : Int}, e ≤ d → d ≤ k → e ≤ doneF n e r k d ∧ d ≤ doneF n e r k d ∧ doneF n e r k d ≤ k + r.length ∧ ∀ q, doneF n e r k d ≤ q → k ≤ q → q < k + r.length → olderA n (at0 r (q - k)) q e = false
  | [], k, d, h1, h2 => ⟨h1, Int.le_refl _, by simpa [doneF] using h2, fun q _ h3 h4 => by simp at h4; omega⟩
  | u :: r, k, d, h1, h2 => by
    rw [doneF, List.length_cons]
    obtain ⟨a1, a2, a3, a4⟩ := doneF_facts (n := n) (e := e) (r := r) (k := k + 1) (d := if olderA n u k e then k + 1 else d) (by split <;> omega) (by split <;> omega)
    refine ⟨a1, Int.le_trans (by split <;> omega) a2, by omega, fun q g1 g2 g3 => ?_⟩
    by_cases hq : q = k
    · subst hq
      rw [Int.sub_self, show at0 (u :: r) 0 = u from rfl]
      apply Classical.byContradiction
      intro hc
      have hc : olderA n u q e = true := by simpa using hc
      rw [if_pos hc] at a2
      rw [if_pos hc] at g1
      omega
    · have e9 : (q - k).toNat = (q - (k + 1)).toNat + 1 := by omega
      have : at0 (u :: r) (q - k) = at0 r (q - (k + 1)) := by simp [at0, List.getD_eq_getElem?_getD, e9]
      rw [this]
      exact a4 q g1 (by omega) (by omega)
end Go.Proofs.Ytephecognbbaoaa
