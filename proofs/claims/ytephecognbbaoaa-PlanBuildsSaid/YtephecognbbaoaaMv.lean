/- An own object gets a new place: the last one of the store. -/
import Derived.Test.YtephecognbbaoaaLo
namespace Go.Proofs.Ytephecognbbaoaa
open Go
set_option linter.all false

theorem Sim.moveO {K0 : World} {imm : Imm} {m : Own} {w : World} {σ : Store} (hs : Sim K0 imm m w σ) {b k : Nat} {es : List (List AV)} (ho : σ[b]? = some (.cells k es)) :
    ∃ m', OLe m m' ∧ m' σ.length = m b ∧ Sim K0 imm m' w (σ.set b .dead ++ [.cells k es]) := by
  obtain ⟨hlt, ho⟩ := List.getElem?_eq_some_iff.1 ho
  have hb := hs.obs b hlt
  rw [ho] at hb
  obtain ⟨blk, sz, h1, h2, h3⟩ := hb
  have hd : m σ.length = none := hs.dom _ (Nat.le_refl _)
  have hle : OLe m (upd m σ.length (blk, sz)) := .upd hd _
  have hne : ∀ id, id ≠ σ.length → upd m σ.length (blk, sz) id = m id := fun id h => by unfold upd; rw [if_neg h]
  have hat : upd m σ.length (blk, sz) σ.length = some (blk, sz) := by unfold upd; rw [if_pos rfl]
  refine ⟨upd m σ.length (blk, sz), hle, by rw [hat, h1], hs.os, hs.tape, hs.output, hs.size, hs.imm_ok, fun id h => ?_, fun id h => ?_, fun i j hi hj li lj e => ?_⟩
  · simp only [List.length_append, List.length_set, List.length_cons, List.length_nil] at h
    rw [hne _ (by omega)]
    exact hs.dom id (by omega)
  · simp only [List.length_append, List.length_set, List.length_cons, List.length_nil] at h
    rcases Nat.lt_or_ge id σ.length with hl | hl
    · rw [List.getElem_append_left (by rw [List.length_set]; exact hl), List.getElem_set]
      split
      · trivial
      · exact (hs.obs id hl).keep (.refl _) hle (fun h => by rw [hne _ (by omega)]; exact h) (fun _ h _ => h) (fun _ _ _ _ => rfl)
    · obtain rfl : id = σ.length := by omega
      rw [List.getElem_append_right (by rw [List.length_set]; exact Nat.le_refl _)]
      simp only [List.length_set, Nat.sub_self, List.getElem_cons_zero]
      obtain ⟨cs, T, fr, g1, g2, g3, g4, g5⟩ := h3
      refine ⟨blk, sz, hat, h2, cs, T, fr, g1, g2, g3, g4, fun i hi => ⟨(g5 i hi).1, fun j hj => ?_⟩⟩
      obtain ⟨v, e, r⟩ := (g5 i hi).2 j hj
      exact ⟨v, e, r.mono (.refl _) hle⟩
  · simp only [List.length_append, List.length_set, List.length_cons, List.length_nil] at hi hj
    have key : ∀ (i : Nat) (hi : i < σ.length), Ob.live ((σ.set b .dead)[i]'(by rw [List.length_set]; exact hi)) = true → i ≠ b ∧ Ob.live σ[i] = true := fun i hi h => by
      rw [List.getElem_set] at h
      split at h
      · cases h
      · exact ⟨by omega, h⟩
    have hbl : σ[b].live = true := by rw [ho]; rfl
    rcases Nat.lt_or_ge i σ.length with hi' | hi'
    · rw [List.getElem_append_left (by rw [List.length_set]; exact hi')] at li
      have ki := key i hi' li
      rcases Nat.lt_or_ge j σ.length with hj' | hj'
      · rw [List.getElem_append_left (by rw [List.length_set]; exact hj')] at lj
        rw [hne _ (by omega), hne _ (by omega)] at e
        exact hs.inj i j hi' hj' ki.2 (key j hj' lj).2 e
      · obtain rfl : j = σ.length := by omega
        rw [hne _ (by omega), hat, ← h1] at e
        exact absurd (hs.inj i b hi' hlt ki.2 hbl e) ki.1
    · obtain rfl : i = σ.length := by omega
      rcases Nat.lt_or_ge j σ.length with hj' | hj'
      · rw [List.getElem_append_left (by rw [List.length_set]; exact hj')] at lj
        have kj := key j hj' lj
        rw [hne j (by omega), hat, ← h1] at e
        exact absurd (hs.inj j b hj' hlt kj.2 hbl e.symm) kj.1
      · omega

theorem move_rep {imm : Imm} {m m' : Own} {b b' k s n c : Nat} (hb : m' b' = m b) {v : Value} (h : Rep imm m v (.own b k s n c)) : Rep imm m' v (.own b' k s n c) := by
  cases h with
  | own _ _ _ _ _ cap blk sz x hm hn hcc hx hc => exact .own _ _ _ _ _ cap blk sz x (by rw [hb, hm]) hn hcc hx hc

/-- The slice in a slot, its array put last. -/
theorem AWP_moveT {rd : Option Nat} {P : Program} {N : Nat} {Q : Post} {α : AF} {σ : Store} {c : Code} (t : Nat) {b k s n cc k' : Nat} {es : List (List AV)} (hl : look α t = some (.own b k s n cc)) (ho : σ[b]? = some (.cells k' es))
    (h : AWPr rd P N c Q ((t, .own σ.length k s n cc) :: α) (σ.set b .dead ++ [.cells k' es])) : AWPr rd P N c Q α σ := by
  intro K imm m w a hs hf
  obtain ⟨v, hv, hr⟩ := hf.slot t _ hl
  obtain ⟨m', hle, he, hs'⟩ := hs.moveO ho
  refine Code.wpIn_mono (fun _ _ _ hq => lift_mono (.refl _) hle hq) (h K imm m' w a hs' ⟨hf.defers, hf.size, fun t' av ht => ?_⟩)
  simp only [look] at ht
  split at ht
  · rename_i e
    subst e
    cases ht
    exact ⟨v, hv, move_rep he hr⟩
  · obtain ⟨u, hu, r⟩ := hf.slot t' av ht
    exact ⟨u, hu, r.mono (.refl _) hle⟩

/-- The slice in a cell of an own object, its array put last. -/
theorem AWP_moveC {rd : Option Nat} {P : Program} {N : Nat} {Q : Post} {α : AF} {σ : Store} {c : Code} (p i j : Nat) {b k s n cc k' kk : Nat} {es rows : List (List AV)} {e : List AV} (hne : p ≠ b) (hp : σ[p]? = some (.cells kk rows)) (hi : rows[i]? = some e) (hj : e[j]? = some (.own b k s n cc)) (ho : σ[b]? = some (.cells k' es))
    (h : AWPr rd P N c Q α ((σ.set b .dead).set p (.cells kk (rows.set i (e.set j (.own σ.length k s n cc)))) ++ [.cells k' es])) : AWPr rd P N c Q α σ := by
  intro K imm m w a hs hf
  obtain ⟨m', hle, he, hs'⟩ := hs.moveO ho
  obtain ⟨hplt, hp⟩ := List.getElem?_eq_some_iff.1 hp
  have hplt' : p < (σ.set b .dead ++ [Ob.cells k' es]).length := by simp; omega
  have hob : (σ.set b .dead ++ [Ob.cells k' es])[p] = .cells kk rows := by
    rw [List.getElem_append_left (by rw [List.length_set]; exact hplt), List.getElem_set, if_neg (Ne.symm hne), hp]
  have h9 := hs'.obs p hplt'
  rw [hob] at h9
  obtain ⟨blk, sz, h1, h2, cs, T, fr, h3, h4, h5, h6, h7⟩ := h9
  have h0 := hs.obs p hplt
  rw [hp] at h0
  obtain ⟨blk', sz', g1, g2, cs', T', fr', g3, g4, g5, g6, g7⟩ := h0
  have e1 := hle _ _ g1
  rw [h1] at e1
  cases e1
  rw [h3] at g3
  cases g3
  have hs2 : Sim K imm m' w ((σ.set b .dead).set p (.cells kk (rows.set i (e.set j (.own σ.length k s n cc)))) ++ [.cells k' es]) := by
    rw [← List.set_append_left _ _ (by rw [List.length_set]; exact hplt)]
    refine hs'.setO ⟨rfl, rfl, rfl, Nat.le_refl _⟩ hplt' h1 (by rw [hob]; rfl) (fun _ _ => rfl) _ ⟨blk, sz, h1, h2, cs, T, fr, h3, h4, h5, by simpa using h6, fun i' hi' => ?_⟩
    simp only [List.length_set] at hi'
    obtain ⟨hi1, hi2⟩ := List.getElem?_eq_some_iff.1 hi
    obtain ⟨hj1, hj2⟩ := List.getElem?_eq_some_iff.1 hj
    simp only [List.getElem_set]
    split
    · rename_i e1
      subst e1
      refine ⟨by rw [List.length_set, ← hi2]; exact (h7 i _).1, fun j' hj' => ?_⟩
      simp only [List.length_set] at hj'
      simp only [List.getElem_set]
      split
      · rename_i e2
        subst e2
        obtain ⟨v, e3, r⟩ := (g7 i hi1).2 j (by rw [hi2]; exact hj1)
        refine ⟨v, e3, move_rep he (b := b) ?_⟩
        rw [← hj2]
        simpa only [hi2] using r
      · obtain ⟨v, e3, r⟩ := (h7 i hi1).2 j' (by rw [hi2]; exact hj')
        refine ⟨v, e3, ?_⟩
        simpa only [hi2] using r
    · exact h7 i' hi'
  exact Code.wpIn_mono (fun _ _ _ hq => lift_mono (.refl _) hle hq) (h K imm m' w a hs2 (hf.mono (.refl _) hle))

/-- A callee that makes what it likes, and answers with something of it. -/
theorem ACalls.useX {P : Program} {f : FuncId} {args : List AV} {σ : Store} {T : Store → AV → Prop} {R : AV → Store → Prop} (h : ACalls P f args σ fun r σ' => ∃ τ, σ' = σ ++ τ ∧ T τ r) (hr : ∀ τ r, T τ r → R r (σ ++ τ)) : ACalls P f args σ R :=
  h.mono fun r σ' ⟨τ, h1, h2⟩ => by subst h1; exact hr τ r h2
end Go.Proofs.Ytephecognbbaoaa
