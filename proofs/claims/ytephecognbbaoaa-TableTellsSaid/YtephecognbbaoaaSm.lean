/- How the relation between memory and store goes on over allocations, stores and draws. -/
import Derived.Test.YtephecognbbaoaaOp
namespace Go.Proofs.Ytephecognbbaoaa
open Go
set_option linter.all false

def upd (m : Own) (id : Nat) (x : Nat × Nat) : Own := fun b => if b = id then some x else m b

section
variable {P : Program} {K : World} {imm : Imm} {m : Own} {w w' : World} {σ : Store}

/-- Two worlds beside each other: the streams as they were. -/
structure Beside (w w' : World) : Prop where
  os : w'.os = w.os
  tape : w'.tape = w.tape
  output : w'.output = w.output
  size : w.heap.size ≤ w'.heap.size

theorem heap_lt {b : Nat} {o : Obj} (h : w.heap[b]? = some o) : b < w.heap.size := by
  rcases Nat.lt_or_ge b w.heap.size with h' | h'
  · exact h'
  · rw [Array.getElem?_eq_none h'] at h; cases h

theorem ObOk.keep {imm' : Imm} {m' : Own} {id : Nat} {ob : Ob} (h : ObOk imm m w id ob) (hi : ILe imm imm') (hm : OLe m m') (hres : m id = none → m' id = none)
    (hnew : ∀ b, imm b = none → b < w.heap.size → imm' b = none)
    (hh : ob.live = true → ∀ blk sz, m id = some (blk, sz) → w'.heap[blk]? = w.heap[blk]?) : ObOk imm' m' w' id ob := by
  cases ob with
  | res => exact hres h
  | dead => trivial
  | cells k es =>
    obtain ⟨blk, sz, h1, h2, cs, T, fr, h3, h4, h5, h6, h7⟩ := h
    refine ⟨blk, sz, hm _ _ h1, hnew _ h2 (heap_lt h3), cs, T, fr, by rw [hh rfl _ _ h1]; exact h3, h4, h5, h6, fun i hi' => ⟨(h7 i hi').1, fun j hj => ?_⟩⟩
    obtain ⟨v, e, r⟩ := (h7 i hi').2 j hj
    exact ⟨v, e, r.mono hi hm⟩
  | map es =>
    obtain ⟨blk, sz, h1, h2, ents, clock, h3, h4, h5, h6⟩ := h
    exact ⟨blk, sz, hm _ _ h1, hnew _ h2 (heap_lt h3), ents, clock, by rw [hh rfl _ _ h1]; exact h3, h4, h5, fun i hi' hj => (h6 i hi' hj).mono hi hm⟩
  | lp l al N r =>
    obtain ⟨blk, sz, h1, h2, h3, h4, h5, h6, h7⟩ := h
    exact ⟨blk, sz, hm _ _ h1, hnew _ h2 (heap_lt h4), h3, by rw [hh rfl _ _ h1]; exact h4, h5, fun t av ht => let ⟨v, e, q⟩ := h6 t av ht; ⟨v, e, q.mono hi hm⟩, h7⟩

theorem ObOk.lt {id : Nat} {ob : Ob} (h : ObOk imm m w id ob) (hl : ob.live = true) : ∃ blk sz, m id = some (blk, sz) ∧ blk < w.heap.size ∧ imm blk = none := by
  cases ob with
  | cells k es =>
    obtain ⟨blk, sz, h1, h2, cs, T, fr, h3, _⟩ := h
    exact ⟨blk, sz, h1, heap_lt h3, h2⟩
  | map es =>
    obtain ⟨blk, sz, h1, h2, ents, clock, h3, _⟩ := h
    exact ⟨blk, sz, h1, heap_lt h3, h2⟩
  | lp l al N r =>
    obtain ⟨blk, sz, h1, h2, h3, h4, _⟩ := h
    exact ⟨blk, sz, h1, heap_lt h4, h2⟩
  | _ => cases hl

theorem Sim.other {i j : Nat} (hs : Sim K imm m w σ) (hi : i < σ.length) (hj : j < σ.length) (li : σ[i].live = true) (lj : σ[j].live = true) (hne : i ≠ j)
    {bi bj : Nat × Nat} (ei : m i = some bi) (ej : m j = some bj) : bi.1 ≠ bj.1 := fun e => hne (hs.inj i j hi hj li lj (by simp [ei, ej, e]))

/-- Nothing that lay there has turned. -/
theorem Sim.keep (hs : Sim K imm m w σ) (hb : Beside w w') (hh : ∀ b, b < w.heap.size → w'.heap[b]? = w.heap[b]?) : Sim K imm m w' σ where
  os := hb.os.trans hs.os
  tape := hb.tape.trans hs.tape
  output := hb.output.trans hs.output
  size := Nat.le_trans hs.size hb.size
  imm_ok := fun b o h => by rw [hh b (heap_lt (hs.imm_ok b o h))]; exact hs.imm_ok b o h
  dom := hs.dom
  obs := fun id h => by
    refine (hs.obs id h).keep (.refl _) (.refl _) (fun h => h) (fun _ h _ => h) fun hl b s e' => ?_
    obtain ⟨blk, sz, e, hlt, _⟩ := (hs.obs id h).lt hl
    rw [e] at e'; cases e'; exact hh _ hlt
  inj := hs.inj

theorem OLe.upd (hd : m σ.length = none) (x : Nat × Nat) : OLe m (upd m σ.length x) := fun b o h => by
  unfold Proofs.Ytephecognbbaoaa.upd
  split
  · rename_i e; subst e; rw [hd] at h; cases h
  · exact h

/-- A new block of the call's own. -/
theorem Sim.push (hs : Sim K imm m w σ) (hb : Beside w w') (cs : Array Value) (T : TypeId) (fr : Nat × Nat) (hw : w'.heap = w.heap.push (.cells cs T fr))
    (k : Nat) (es : List (List AV)) (hfr : ∀ o, o < cs.size → ¬ (fr.1 ≤ o ∧ o < fr.2)) (hle : es.length * k ≤ cs.size)
    (hrep : ∀ i (hi : i < es.length), es[i].length = k ∧ ∀ j (hj : j < es[i].length), ∃ v, cs[i * k + j]? = some v ∧ Rep imm m v es[i][j]) :
    Sim K imm (upd m σ.length (w.heap.size, cs.size)) w' (σ ++ [.cells k es]) := by
  have hd : m σ.length = none := hs.dom _ (Nat.le_refl _)
  have hold : ∀ b, b < w.heap.size → w'.heap[b]? = w.heap[b]? := fun b h => by rw [hw, Array.getElem?_push, if_neg (by omega)]
  have hk := hs.keep hb hold
  refine ⟨hk.os, hk.tape, hk.output, hk.size, hk.imm_ok, fun id h => ?_, fun id h => ?_, fun i j hi hj li lj e => ?_⟩
  · simp only [List.length_append, List.length_cons, List.length_nil] at h
    unfold upd
    rw [if_neg (by omega)]
    exact hs.dom id (by omega)
  · simp only [List.length_append, List.length_cons, List.length_nil] at h
    rcases Nat.lt_or_ge id σ.length with hlt | hge
    · rw [List.getElem_append_left hlt]
      refine (hk.obs id hlt).keep (.refl _) (.upd hd _) (fun hn => ?_) (fun _ h _ => h) (fun _ _ _ _ => rfl)
      unfold upd
      rw [if_neg (by omega)]
      exact hn
    · obtain rfl : id = σ.length := by omega
      rw [List.getElem_append_right (Nat.le_refl _)]
      simp only [Nat.sub_self, List.getElem_cons_zero]
      refine ⟨w.heap.size, cs.size, by simp [upd], ?_, cs, T, fr, by rw [hw]; simp, rfl, hfr, hle, fun i hi => ⟨(hrep i hi).1, fun j hj => ?_⟩⟩
      · cases himm : imm w.heap.size with
        | none => rfl
        | some o => exact absurd (heap_lt (hs.imm_ok _ _ himm)) (Nat.lt_irrefl _)
      · obtain ⟨v, e, r⟩ := (hrep i hi).2 j hj
        exact ⟨v, e, r.mono (.refl _) (.upd hd _)⟩
  · simp only [List.length_append, List.length_cons, List.length_nil] at hi hj
    have key : ∀ (i : Nat) (hi : i < (σ ++ [Ob.cells k es]).length), (σ ++ [Ob.cells k es])[i].live = true → i < σ.length → ∃ b, upd m σ.length (w.heap.size, cs.size) i = some b ∧ b.1 < w.heap.size := by
      intro i hi hl hlt
      rw [List.getElem_append_left hlt] at hl
      obtain ⟨blk, sz, e, hb, _⟩ := (hs.obs i hlt).lt hl
      exact ⟨(blk, sz), by unfold upd; rw [if_neg (by omega)]; exact e, hb⟩
    rcases Nat.lt_or_ge i σ.length with hi' | hi' <;> rcases Nat.lt_or_ge j σ.length with hj' | hj'
    · rw [List.getElem_append_left hi'] at li
      rw [List.getElem_append_left hj'] at lj
      refine hs.inj i j hi' hj' li lj ?_
      simpa [upd, Nat.ne_of_lt hi', Nat.ne_of_lt hj'] using e
    · obtain ⟨b, eb, hb⟩ := key i (by simp; omega) li hi'
      obtain rfl : j = σ.length := by omega
      rw [eb] at e
      simp [upd] at e
      omega
    · obtain ⟨b, eb, hb⟩ := key j (by simp; omega) lj hj'
      obtain rfl : i = σ.length := by omega
      rw [eb] at e
      simp [upd] at e
      omega
    · omega

/-- A new block that nobody will write. -/
theorem Sim.pushImm (hs : Sim K imm m w σ) (hb : Beside w w') (o : Obj) (hw : w'.heap = w.heap.push o) :
    ∃ imm', ILe imm imm' ∧ imm' w.heap.size = some o ∧ Sim K imm' m w' σ := by
  have hnone : imm w.heap.size = none := by
    cases himm : imm w.heap.size with
    | none => rfl
    | some o => exact absurd (heap_lt (hs.imm_ok _ _ himm)) (Nat.lt_irrefl _)
  have hi : ILe imm (fun b => if b = w.heap.size then some o else imm b) := fun b o' h => by
    dsimp only
    split
    · rename_i e; subst e; rw [hnone] at h; cases h
    · exact h
  have hold : ∀ b, b < w.heap.size → w'.heap[b]? = w.heap[b]? := fun b h => by rw [hw, Array.getElem?_push, if_neg (by omega)]
  have hk := hs.keep hb hold
  refine ⟨_, hi, by simp, hk.os, hk.tape, hk.output, hk.size, fun b o' h => ?_, hk.dom, fun id h => ?_, hk.inj⟩
  · split at h
    · rename_i e; subst e; cases h; rw [hw]; simp
    · exact hk.imm_ok b o' h
  · have hob := hs.obs id h
    refine hob.keep hi (.refl _) (fun h => h) (fun b hb hlt => ?_) (fun hl blk sz e => ?_)
    · rw [if_neg (by omega)]
      exact hb
    · obtain ⟨blk', sz', e', hlt, _⟩ := hob.lt hl
      rw [e] at e'; cases e'
      exact hold _ hlt

/-- An own object that is written: its block turns, and no other. -/
theorem Sim.set (hs : Sim K imm m w σ) (hb : Beside w w') {b blk sz : Nat} (hlt : b < σ.length) (hm : m b = some (blk, sz)) {k : Nat} {es0 : List (List AV)} (hob : σ[b] = .cells k es0)
    (hother : ∀ c, c ≠ blk → w'.heap[c]? = w.heap[c]?) (cs : Array Value) (T : TypeId) (fr : Nat × Nat) (hw : w'.heap[blk]? = some (.cells cs T fr)) (hsz : cs.size = sz)
    (hfr : ∀ o, o < sz → ¬ (fr.1 ≤ o ∧ o < fr.2)) (es : List (List AV)) (hle : es.length * k ≤ sz)
    (hrep : ∀ i (hi : i < es.length), es[i].length = k ∧ ∀ j (hj : j < es[i].length), ∃ v, cs[i * k + j]? = some v ∧ Rep imm m v es[i][j]) :
    Sim K imm m w' (σ.set b (.cells k es)) := by
  have hl0 : σ[b].live = true := by rw [hob]; rfl
  obtain ⟨blk', sz', e', hblt, himm⟩ := (hs.obs b hlt).lt hl0
  rw [hm] at e'
  cases e'
  have hlive : ∀ i (h : i < (σ.set b (.cells k es)).length) (h' : i < σ.length), (σ.set b (.cells k es))[i].live = true → σ[i].live = true := by
    intro i h h' hl
    rw [List.getElem_set] at hl
    split at hl
    · rename_i e; subst e; exact hl0
    · exact hl
  refine ⟨hb.os.trans hs.os, hb.tape.trans hs.tape, hb.output.trans hs.output, Nat.le_trans hs.size hb.size, fun c o h => ?_, fun id h => ?_, fun id h => ?_, fun i j hi hj li lj e => ?_⟩
  · rw [hother c (fun e => by subst e; rw [himm] at h; cases h)]
    exact hs.imm_ok c o h
  · simp only [List.length_set] at h
    exact hs.dom id h
  · have h' : id < σ.length := by simpa using h
    rw [List.getElem_set]
    split
    · rename_i e
      subst e
      exact ⟨blk, sz, hm, himm, cs, T, fr, hw, hsz, hfr, hle, hrep⟩
    · rename_i hne
      refine (hs.obs id h').keep (.refl _) (.refl _) (fun h => h) (fun _ h _ => h) fun hl c s e => hother c fun ec => ?_
      exact hs.other hlt h' hl0 hl hne hm e ec.symm
  · have hi' : i < σ.length := by simpa using hi
    have hj' : j < σ.length := by simpa using hj
    exact hs.inj i j hi' hj' (hlive i hi hi' li) (hlive j hj hj' lj) e

/-- An own object that is let go. -/
theorem Sim.kill (hs : Sim K imm m w σ) (b : Nat) : Sim K imm m w (σ.set b .dead) := by
  have hlive : ∀ i (h : i < (σ.set b .dead).length) (h' : i < σ.length), (σ.set b .dead)[i].live = true → σ[i].live = true := by
    intro i h h' hl
    rw [List.getElem_set] at hl
    split at hl
    · cases hl
    · exact hl
  refine ⟨hs.os, hs.tape, hs.output, hs.size, hs.imm_ok, fun id h => ?_, fun id h => ?_, fun i j hi hj li lj e => ?_⟩
  · simp only [List.length_set] at h
    exact hs.dom id h
  · have h' : id < σ.length := by simpa using h
    rw [List.getElem_set]
    split
    · trivial
    · exact hs.obs id h'
  · have hi' : i < σ.length := by simpa using hi
    have hj' : j < σ.length := by simpa using hj
    exact hs.inj i j hi' hj' (hlive i hi hi' li) (hlive j hj hj' lj) e

/-- An own object that becomes immutable: all its values are then known by content. -/
theorem Sim.freeze (hs : Sim K imm m w σ) {b : Nat} (hlt : b < σ.length) (hl : σ[b].live = true) {blk sz : Nat} (hm : m b = some (blk, sz)) {o : Obj} (ho : w.heap[blk]? = some o) :
    ∃ imm', ILe imm imm' ∧ imm' blk = some o ∧ Sim K imm' m w (σ.set b .dead) := by
  obtain ⟨blk', sz', e', hblt, himm⟩ := (hs.obs b hlt).lt hl
  rw [hm] at e'
  cases e'
  have hi : ILe imm (fun c => if c = blk then some o else imm c) := fun c o' h => by
    dsimp only
    split
    · rename_i e; subst e; rw [himm] at h; cases h
    · exact h
  have hk := hs.kill b
  refine ⟨_, hi, by simp, hs.os, hs.tape, hs.output, hs.size, fun c o' h => ?_, hk.dom, fun id h => ?_, hk.inj⟩
  · split at h
    · rename_i e; subst e; cases h; exact ho
    · exact hs.imm_ok c o' h
  · have h' : id < σ.length := by simpa using h
    rw [List.getElem_set]
    split
    · trivial
    · rename_i hne
      cases hob : σ[id] with
      | res => have := hs.obs id h'; rw [hob] at this; exact this
      | dead => trivial
      | cells k es =>
        have h0 := hs.obs id h'
        rw [hob] at h0
        obtain ⟨b2, s2, h1, h2, rest⟩ := h0
        have hne2 : b2 ≠ blk := fun e => hs.other hlt h' hl (by rw [hob]; rfl) hne hm h1 e.symm
        refine ⟨b2, s2, h1, by dsimp only; rw [if_neg hne2]; exact h2, ?_⟩
        obtain ⟨cs, T, fr, h3, h4, h5, h6, h7⟩ := rest
        refine ⟨cs, T, fr, h3, h4, h5, h6, fun i hi' => ⟨(h7 i hi').1, fun j hj => ?_⟩⟩
        obtain ⟨v, e, r⟩ := (h7 i hi').2 j hj
        exact ⟨v, e, r.mono hi (.refl _)⟩
      | map es =>
        have h0 := hs.obs id h'
        rw [hob] at h0
        obtain ⟨b2, s2, h1, h2, ents, clock, h3, h4, h5, h6⟩ := h0
        have hne2 : b2 ≠ blk := fun e => hs.other hlt h' hl (by rw [hob]; rfl) hne hm h1 e.symm
        exact ⟨b2, s2, h1, by dsimp only; rw [if_neg hne2]; exact h2, ents, clock, h3, h4, h5, fun i hi' hj => (h6 i hi' hj).mono hi (.refl _)⟩
      | lp l al N r =>
        have h0 := hs.obs id h'
        rw [hob] at h0
        obtain ⟨b2, s2, h1, h2, h3, h4, h5, h6, h7⟩ := h0
        have hne2 : b2 ≠ blk := fun e => hs.other hlt h' hl (by rw [hob]; rfl) hne hm h1 e.symm
        exact ⟨b2, s2, h1, by dsimp only; rw [if_neg hne2]; exact h2, h3, h4, h5, fun t av ht => let ⟨v, e, q⟩ := h6 t av ht; ⟨v, e, q.mono hi (.refl _)⟩, h7⟩

/-- What came later is let go. -/
theorem Sim.cut {m0 : Own} {imm0 : Imm} {w0 : World} {τ : Store} (hs : Sim K imm m w (σ ++ τ)) (h0 : Sim K imm0 m0 w0 σ) : Sim K imm (cut m σ.length) w σ := by
  have bdob : ∀ id (h : id < σ.length), ∀ ob, σ[id] = ob → (match ob with
      | .cells _ es => ∀ i (hi : i < es.length) j (hj : j < es[i].length), Bd σ.length es[i][j]
      | .map es => ∀ i (hi : i < es.length), Bd σ.length es[i].2
      | _ => True) := by
    intro id h ob hob
    have := h0.obs id h
    rw [hob] at this
    cases ob with
    | res => trivial
    | dead => trivial
    | cells k es =>
      obtain ⟨blk, sz, h1, h2, cs, T, fr, h3, h4, h5, h6, h7⟩ := this
      intro i hi j hj
      obtain ⟨v, _, r⟩ := (h7 i hi).2 j hj
      exact r.bd h0.dom
    | map es =>
      obtain ⟨blk, sz, h1, h2, ents, clock, h3, h4, h5, h6⟩ := this
      intro i hi
      exact (h6 i hi (by omega)).bd h0.dom
    | lp l al N r => trivial
  refine ⟨hs.os, hs.tape, hs.output, hs.size, hs.imm_ok, fun id h => ?_, fun id h => ?_, fun i j hi hj li lj e => ?_⟩
  · unfold Proofs.Ytephecognbbaoaa.cut
    rw [if_neg (by omega)]
  · have h1 := hs.obs id (by simp; omega)
    rw [List.getElem_append_left h] at h1
    have hb := bdob id h _ rfl
    cases hob : σ[id] with
    | res => rw [hob] at h1; show Proofs.Ytephecognbbaoaa.cut m σ.length id = none; unfold Proofs.Ytephecognbbaoaa.cut; rw [if_pos h]; exact h1
    | dead => trivial
    | cells k es =>
      rw [hob] at h1 hb
      obtain ⟨blk, sz, h1, h2, cs, T, fr, h3, h4, h5, h6, h7⟩ := h1
      refine ⟨blk, sz, by unfold Proofs.Ytephecognbbaoaa.cut; rw [if_pos h]; exact h1, h2, cs, T, fr, h3, h4, h5, h6, fun i hi => ⟨(h7 i hi).1, fun j hj => ?_⟩⟩
      obtain ⟨v, e, r⟩ := (h7 i hi).2 j hj
      exact ⟨v, e, r.cut (hb i hi j hj)⟩
    | map es =>
      rw [hob] at h1 hb
      obtain ⟨blk, sz, h1, h2, ents, clock, h3, h4, h5, h6⟩ := h1
      exact ⟨blk, sz, by unfold Proofs.Ytephecognbbaoaa.cut; rw [if_pos h]; exact h1, h2, ents, clock, h3, h4, h5, fun i hi hj => (h6 i hi hj).cut (hb i hi)⟩
    | lp l al N r =>
      rw [hob] at h1
      obtain ⟨blk, sz, h1, h2, h3, h4, h5, h6, h7⟩ := h1
      exact ⟨blk, sz, by unfold Proofs.Ytephecognbbaoaa.cut; rw [if_pos h]; exact h1, h2, h3, h4, h5, fun t av ht => let ⟨v, e, q⟩ := h6 t av ht; ⟨v, e, q.cut ((h7 t av ht).up (by omega))⟩, h7⟩
  · have e2 : ∀ i, i < σ.length → Proofs.Ytephecognbbaoaa.cut m σ.length i = m i := fun i h => by unfold Proofs.Ytephecognbbaoaa.cut; rw [if_pos h]
    rw [e2 i hi, e2 j hj] at e
    exact hs.inj i j (by simp; omega) (by simp; omega) (by rw [List.getElem_append_left hi]; exact li) (by rw [List.getElem_append_left hj]; exact lj) e

/-- An own object's block goes on under a new name; it is written, and no other. -/
theorem Sim.move (hs : Sim K imm m w σ) (hb : Beside w w') {b blk sz : Nat} (hlt : b < σ.length) (hm : m b = some (blk, sz)) {k0 : Nat} {es0 : List (List AV)} (hob : σ[b] = .cells k0 es0)
    (hother : ∀ c, c ≠ blk → w'.heap[c]? = w.heap[c]?) (cs : Array Value) (T : TypeId) (fr : Nat × Nat) (hw : w'.heap[blk]? = some (.cells cs T fr)) (hsz : cs.size = sz)
    (hfr : ∀ o, o < sz → ¬ (fr.1 ≤ o ∧ o < fr.2)) (k : Nat) (es : List (List AV)) (hle : es.length * k ≤ sz)
    (hrep : ∀ i (hi : i < es.length), es[i].length = k ∧ ∀ j (hj : j < es[i].length), ∃ v, cs[i * k + j]? = some v ∧ Rep imm m v es[i][j]) :
    Sim K imm (upd m σ.length (blk, sz)) w' (σ.set b .dead ++ [.cells k es]) := by
  have hl0 : σ[b].live = true := by rw [hob]; rfl
  have hd : m σ.length = none := hs.dom _ (Nat.le_refl _)
  obtain ⟨blk', sz', e', hblt, himm⟩ := (hs.obs b hlt).lt hl0
  rw [hm] at e'
  cases e'
  have hk := hs.kill b
  have hlen : (σ.set b .dead).length = σ.length := by simp
  have hne : ∀ i (hi : i < (σ.set b .dead).length), (σ.set b .dead)[i].live = true → ∃ bi, m i = some bi ∧ bi.1 ≠ blk := by
    intro i hi hl
    have hi' : i < σ.length := by simpa using hi
    obtain ⟨b2, s2, e2, _, _⟩ := (hk.obs i hi).lt hl
    rw [List.getElem_set] at hl
    split at hl
    · cases hl
    · rename_i hni
      exact ⟨_, e2, hs.other hi' hlt hl hl0 (fun e => hni e.symm) e2 hm⟩
  refine ⟨hb.os.trans hs.os, hb.tape.trans hs.tape, hb.output.trans hs.output, Nat.le_trans hs.size hb.size, fun c o h => ?_, fun id h => ?_, fun id h => ?_, fun i j hi hj li lj e => ?_⟩
  · rw [hother c (fun e => by subst e; rw [himm] at h; cases h)]
    exact hs.imm_ok c o h
  · simp only [List.length_append, List.length_set, List.length_cons, List.length_nil] at h
    unfold upd
    rw [if_neg (by omega)]
    exact hs.dom id (by omega)
  · simp only [List.length_append, List.length_set, List.length_cons, List.length_nil] at h
    rcases Nat.lt_or_ge id σ.length with h' | h'
    · have h2 : id < (σ.set b .dead).length := by omega
      rw [List.getElem_append_left h2]
      refine (hk.obs id h2).keep (.refl _) (.upd hd _) (fun hn => ?_) (fun _ h _ => h) (fun hl c s e => ?_)
      · unfold upd
        rw [if_neg (by omega)]
        exact hn
      · obtain ⟨bi, e2, hbi⟩ := hne id h2 hl
        rw [e] at e2
        cases e2
        exact hother _ hbi
    · obtain rfl : id = σ.length := by omega
      rw [List.getElem_append_right (by omega)]
      simp only [List.length_set, Nat.sub_self, List.getElem_cons_zero]
      refine ⟨blk, sz, by simp [upd], himm, cs, T, fr, hw, hsz, hfr, hle, fun i hi => ⟨(hrep i hi).1, fun j hj => ?_⟩⟩
      obtain ⟨v, e, r⟩ := (hrep i hi).2 j hj
      exact ⟨v, e, r.mono (.refl _) (.upd hd _)⟩
  · simp only [List.length_append, List.length_set, List.length_cons, List.length_nil] at hi hj
    rcases Nat.lt_or_ge i σ.length with hi' | hi' <;> rcases Nat.lt_or_ge j σ.length with hj' | hj'
    · rw [List.getElem_append_left (by omega)] at li lj
      refine hk.inj i j (by omega) (by omega) li lj ?_
      simpa [upd, Nat.ne_of_lt hi', Nat.ne_of_lt hj'] using e
    · rw [List.getElem_append_left (by omega)] at li
      obtain ⟨bi, e2, hbi⟩ := hne i (by omega) li
      obtain rfl : j = σ.length := by omega
      simp [upd, Nat.ne_of_lt hi', e2] at e
      exact absurd e hbi
    · rw [List.getElem_append_left (by omega)] at lj
      obtain ⟨bi, e2, hbi⟩ := hne j (by omega) lj
      obtain rfl : i = σ.length := by omega
      simp [upd, Nat.ne_of_lt hj', e2] at e
      exact absurd e.symm hbi
    · omega
end
end Go.Proofs.Ytephecognbbaoaa
