/- Freezing an own slice; contracts cut off behind the caller's store; weakening. -/
import Derived.Test.YtephecognbbaoabFn
namespace Go.Proofs.Ytephecognbbaoab
open Go
set_option linter.all false

section
variable {rd : Option Nat} {P : Program} {N : Nat} {K0 : World} {imm : Imm} {m : Own} {w : World} {α : AF} {σ : Store} {a : Act} {Q : Post}

theorem Sim.freeze_reps (hs : Sim K0 imm m w σ) {b k s n c : Nat} {es : List (List AV)} (he : elemsA σ (.own b k s n c) = some es) :
    ∃ imm', ILe imm imm' ∧ Sim K0 imm' m w (σ.set b .dead) ∧ ∀ v, Rep imm m v (.own b k s n c) → Rep imm' m v (.sl es) := by
  rw [elemsA_eq] at he
  simp only [elemsB] at he
  split at he
  · rename_i k' es' hb
    split at he
    · rename_i hc
      obtain ⟨rfl, hle⟩ := hc
      cases he
      obtain ⟨hlt, hob⟩ := List.getElem?_eq_some_iff.1 hb
      have h0 := hs.obs b hlt
      rw [hob] at h0
      obtain ⟨blk, sz, h1, h2, cs, T, fr, h3, h4, h5, h6, h7⟩ := h0
      obtain ⟨imm', hile, hi2, hs'⟩ := hs.freeze hlt (by rw [hob]; rfl) h1 h3
      refine ⟨imm', hile, hs', fun v hr => ?_⟩
      cases hr with
      | own b k s n c cap blk' sz' x hm hn hcc hx hc =>
        rw [h1] at hm
        cases hm
        subst hx
        have hcell : ∀ i (h : i < n) j (hj : j < es'[s + i].length), ∃ u, cs[(s + i) * k' + j]? = some u ∧ Rep imm m u es'[s + i][j] := fun i h j hj => (h7 (s + i) (by omega)).2 j hj
        refine .sl _ cap n _ k' (fun i j => (cs[(s + i) * k' + j]?).getD undef) (by simp; omega) (by omega) (fun i hi => ?_) (fun hpos => ⟨blk, s * k', rfl, fun i hi j hj => ?_⟩) (fun i hi j hj => ?_)
        · simp only [List.getElem_take, List.getElem_drop]
          exact (h7 _ _).1
        · simp only [List.length_take, List.length_drop] at hi
          obtain ⟨u, e, _⟩ := hcell i (by omega) j (by rw [(h7 (s + i) (by omega)).1]; exact hj)
          have e3 : s * k' + (i * k' + j) = (s + i) * k' + j := by rw [Nat.add_mul]; omega
          simp [icell, hi2, e3, e]
        · simp only [List.length_take, List.length_drop] at hi
          simp only [List.getElem_take, List.getElem_drop] at hj ⊢
          obtain ⟨u, e, r⟩ := hcell i (by omega) j hj
          rw [e]
          exact r.mono hile (.refl _)
    · cases he
  · cases he

theorem Sim.freeze_rep (hs : Sim K0 imm m w σ) {v : Value} {b k s n c : Nat} {es : List (List AV)} (hr : Rep imm m v (.own b k s n c)) (he : elemsA σ (.own b k s n c) = some es) :
    ∃ imm', ILe imm imm' ∧ Sim K0 imm' m w (σ.set b .dead) ∧ Rep imm' m v (.sl es) :=
  let ⟨i, h1, h2, h3⟩ := hs.freeze_reps he
  ⟨i, h1, h2, h3 v hr⟩

/-- An own slice in a slot becomes known by its content. -/
theorem AWP_freeze {c : Code} (t : Nat) {b k s n d : Nat} {es : List (List AV)} (hl : look α t = some (.own b k s n d)) (he : elemsA σ (.own b k s n d) = some es)
    (h : AWPr rd P N c Q ((t, .sl es) :: α) (σ.set b .dead)) : AWPr rd P N c Q α σ := by
  intro K imm m w a hs hf
  obtain ⟨v, hv, hr⟩ := hf.slot t _ hl
  obtain ⟨imm', hi, hs', hr'⟩ := hs.freeze_rep hr he
  refine Code.wpIn_mono (fun _ _ _ hq => lift_mono hi (.refl _) hq) (h K imm' m w a hs' ⟨hf.defers.mono (by assumption), hf.size, fun t' av ht => ?_⟩)
  simp only [look] at ht
  split at ht
  · rename_i e
    subst e
    cases ht
    exact ⟨v, hv, hr'⟩
  · obtain ⟨u, hu, r⟩ := hf.slot t' av ht
    exact ⟨u, hu, r.mono hi (.refl _)⟩

/-- The same, of a whole row. -/
theorem AWP_freezeAll {c : Code} (t : Nat) {b k n d : Nat} {es : List (List AV)} (hl : look α t = some (.own b k 0 n d)) (he : σ[b]? = some (.cells k es)) (hn : n = es.length)
    (h : AWPr rd P N c Q ((t, .sl es) :: α) (σ.set b .dead)) : AWPr rd P N c Q α σ :=
  AWP_freeze t hl (by subst hn; simp [elemsA, he]) h

/-- An own box that is only read from here on becomes known by its content. -/
theorem AWP_freezeP {c : Code} (t : Nat) {b k : Nat} {e : List AV} (hl : look α t = some (.ptr b k 0 0)) (he : σ[b]? = some (.cells k [e]))
    (h : AWPr rd P N c Q ((t, .cp e 0) :: α) (σ.set b .dead)) : AWPr rd P N c Q α σ := by
  intro K imm m w a hs hf
  obtain ⟨v, hv, hr⟩ := hf.slot t _ hl
  obtain ⟨hlt, hob⟩ := List.getElem?_eq_some_iff.1 he
  have h0 := hs.obs b hlt
  rw [hob] at h0
  obtain ⟨blk, sz, h1, h2, cs, T, fr, h3, h4, h5, h6, h7⟩ := h0
  obtain ⟨imm', hi, hi2, hs'⟩ := hs.freeze hlt (by rw [hob]; rfl) h1 h3
  have hr' : Rep imm' m v (.cp e 0) := by
    cases hr with
    | ptr _ _ _ _ blk' sz' x hm hx =>
      rw [h1] at hm
      cases hm
      subst hx
      have hcell : ∀ j (hj : j < e.length), ∃ u, cs[j]? = some u ∧ Rep imm m u e[j] := fun j hj => by
        have := (h7 0 (by simp)).2 j (by simpa using hj)
        simpa using this
      refine .cp blk 0 _ e 0 (fun j => (cs[j]?).getD undef) (by simp) (fun j hj => ?_) (fun j hj => ?_)
      · obtain ⟨u, e1, _⟩ := hcell j hj
        simp [icell, hi2, e1]
      · obtain ⟨u, e1, r⟩ := hcell j hj
        rw [e1]
        exact r.mono hi (.refl _)
  refine Code.wpIn_mono (fun _ _ _ hq => lift_mono hi (.refl _) hq) (h K imm' m w a hs' ⟨hf.defers.mono (by assumption), hf.size, fun t' av ht => ?_⟩)
  simp only [look] at ht
  split at ht
  · rename_i e
    subst e
    cases ht
    exact ⟨v, hv, hr'⟩
  · obtain ⟨u, hu, r⟩ := hf.slot t' av ht
    exact ⟨u, hu, r.mono hi (.refl _)⟩

/-- A map of the call's own in a slot becomes known by its content. -/
theorem AWP_freezeM {c : Code} (t : Nat) {b : Nat} {es : List (Value × AV)} (hl : look α t = some (.mp b)) (he : isMap σ[b]? = some es)
    (h : AWPr rd P N c Q ((t, .cm es) :: α) (σ.set b .dead)) : AWPr rd P N c Q α σ := by
  intro K imm m w a hs hf
  obtain ⟨v, hv, hr⟩ := hf.slot t _ hl
  obtain ⟨blk, sz, ents, clock, rfl, hm, himm, h3, h4, h5, h6, hlt, hob⟩ := map_block hs hr he
  obtain ⟨imm', hi, hi2, hs'⟩ := hs.freeze hlt (by rw [hob]; rfl) hm h3
  refine Code.wpIn_mono (fun _ _ _ hq => lift_mono hi (.refl _) hq) (h K imm' m w a hs' ⟨hf.defers.mono hi, hf.size, fun t' av ht => ?_⟩)
  simp only [look] at ht
  split at ht
  · rename_i e
    subst e
    cases ht
    exact ⟨_, hv, .cm blk es ents clock hi2 h4 h5 fun i h1 h2 => (h6 i h1 h2).mono hi (.refl _)⟩
  · obtain ⟨u, hu, r⟩ := hf.slot t' av ht
    exact ⟨u, hu, r.mono hi (.refl _)⟩

/-- What follows is shown once, for all states that come to it. -/
theorem AWP_seq_v {x y : Code} {ι : Type} (A : ι → AF) (S : ι → Store) (rest : ∀ i, AWPr rd P N y Q (A i) (S i))
    (h : ∀ J : AF → Store → Prop, (∀ α σ, AWPr rd P N y Q α σ → J α σ) → (∀ i, AWPr rd P N y Q (A i) (S i)) → AWPr rd P N x (thenQ J Q) α σ) : AWPr rd P N (.seq x y) Q α σ :=
  AWP_seq (h _ (fun _ _ h => h) rest)

/-- The store behind the call is the caller's own again. -/
theorem ACalls.cut {f : FuncId} {args : List AV} {R : AV → Prop} (h : ACalls P f args σ fun r σ' => (∃ τ, σ' = σ ++ τ) ∧ Bd σ.length r ∧ R r) : ACalls P f args σ fun r σ' => σ' = σ ∧ R r := by
  intro K imm m w vs hs hv
  refine (h K imm m w vs hs hv).mono ?_
  rintro e w' ⟨imm', m', v, r, σ', he, hi, ho, hs', hr, ⟨τ, rfl⟩, hb, hR⟩
  refine ⟨imm', Proofs.Ytephecognbbaoab.cut m' σ.length, v, r, σ, he, hi, fun b o hbo => ?_, hs'.cut hs, hr.cut hb, rfl, hR⟩
  have hlt : b < σ.length := by
    rcases Nat.lt_or_ge b σ.length with h | h
    · exact h
    · rw [hs.dom b h] at hbo; cases hbo
  unfold Proofs.Ytephecognbbaoab.cut
  rw [if_pos hlt]
  exact ho _ _ hbo

/-- Everything that lies in memory, held fast. -/
theorem Sim.all (hs : Sim K0 imm m w σ) : Sim K0 (fun b => w.heap[b]?) m w (σ.map fun _ => .dead) where
  os := hs.os
  tape := hs.tape
  output := hs.output
  size := hs.size
  imm_ok := fun _ _ h => h
  dom := fun id h => hs.dom id (by simpa using h)
  obs := fun id h => by simp only [List.getElem_map]; trivial
  inj := fun i j hi hj li => by simp only [List.getElem_map] at li; cases li

/-- One argument as the callee that only reads sees it: an own slice by its content. -/
def Seen (σ : Store) (a a' : AV) : Prop := a = a' ∨ ∃ es, elemsA σ a = some es ∧ a' = .sl es

def SeenL (σ : Store) : List AV → List AV → Prop
  | [], [] => True
  | a :: r, a' :: r' => Seen σ a a' ∧ SeenL σ r r'
  | _, _ => False

theorem SeenL.get : ∀ (l l' : List AV), SeenL σ l l' → l.length = l'.length ∧ ∀ i (h : i < l.length) (h' : i < l'.length), Seen σ l[i] l'[i]
  | [], [], _ => ⟨rfl, fun i h => by simp at h⟩
  | a :: r, a' :: r', h => by
    obtain ⟨h1, h2⟩ := SeenL.get r r' h.2
    refine ⟨by simp [h1], fun i hi hi' => ?_⟩
    cases i with
    | zero => exact h.1
    | succ i => exact h2 i _ _
  | [], _ :: _, h => h.elim
  | _ :: _, [], h => h.elim

/-- A callee that answers by a plain value, whatever the store: it may be handed own slices, and leaves the store alone. -/
theorem ACalls.borrow {f : FuncId} {args args' : List AV} {R : Value → Prop} (hseen : SeenL σ args args')
    (h : ∀ τ, ACalls P f args' τ fun r τ' => τ' = τ ∧ ∃ v, r = .c v ∧ R v) : ACalls P f args σ fun r σ' => σ' = σ ∧ ∃ v, r = .c v ∧ R v := by
  intro K imm m w vs hs hv
  have hall := hs.all
  have hile : ILe imm (fun b => w.heap[b]?) := fun b o h => hs.imm_ok b o h
  have hv' : RepL (fun b => w.heap[b]?) m vs args' := by
    obtain ⟨h1, h2⟩ := hseen.get
    refine ⟨by rw [hv.1, h1], fun i hi1 hi2 => ?_⟩
    rcases h2 i (by omega) hi2 with e | ⟨es, he, e⟩
    · rw [← e]
      exact (hv.2 i hi1 (by omega)).mono hile (.refl _)
    · rw [e]
      obtain ⟨p, cap, hvi, hcap, hat⟩ := slice_at hs (hv.2 i hi1 (by omega)) he
      rw [hvi]
      rcases Nat.eq_zero_or_pos es.length with h0 | h0
      · exact .sl p cap _ es 0 (fun _ _ => undef) rfl hcap (fun i hi => by omega) (fun h => by omega) (fun i hi => by omega)
      · obtain ⟨b, o, k, rfl, hk, hc⟩ := hat h0
        refine .sl _ cap _ es k (fun i j => (w.cell? ⟨b, o + (i * k + j), none⟩).getD undef) rfl hcap hk (fun _ => ⟨b, o, rfl, fun i hi j hj => ?_⟩) (fun i hi j hj => ?_)
        · obtain ⟨u, hu, _⟩ := hc i hi j (by rw [hk i hi]; exact hj)
          rw [hu]
          unfold World.cell? at hu
          unfold icell
          split at hu
          · rename_i c T fr hb
            simp only at hb
            simp only [hb]
            simpa using hu
          · cases hu
        · obtain ⟨u, hu, r⟩ := hc i hi j hj
          rw [hu]
          exact r.mono hile (.refl _)
  refine (h (σ.map fun _ => .dead) K _ m w vs hall hv').mono ?_
  rintro e w' ⟨imm', m', v, r, τ', he, hi, ho, hs', hr, rfl, u, rfl, hR⟩
  obtain rfl := hr.c_inv
  have hb : Beside w w' := ⟨hs'.os.trans hs.os.symm, hs'.tape.trans hs.tape.symm, hs'.output.trans hs.output.symm, by
    rcases Nat.eq_zero_or_pos w.heap.size with h0 | h0
    · omega
    · have := heap_lt (hs'.imm_ok (w.heap.size - 1) _ (hi _ _ (Array.getElem?_eq_getElem (by omega))))
      omega⟩
  refine ⟨imm, m, v, .c v, σ, he, .refl _, .refl _, hs.keep hb fun b hb => ?_, .c v, rfl, v, rfl, hR⟩
  have := hs'.imm_ok b _ (hi b _ (Array.getElem?_eq_getElem hb))
  rw [this, Array.getElem?_eq_getElem hb]
end
/-- What a frame is to know, entry by entry. -/
def alls (α : AF) : AF → Prop
  | [] => True
  | (k, v) :: r => look α k = some v ∧ alls α r

theorem ALe_of {α : AF} : ∀ {β : AF}, alls α β → ALe α β
  | [], _ => fun t av h => by cases h
  | (k, v) :: r, h => fun t av ht => by
    simp only [look] at ht
    split at ht
    · rename_i e
      subst e
      cases ht
      exact h.1
    · exact ALe_of h.2 t av ht
theorem st0 (σ l : Store) : (σ ++ l)[σ.length]? = l[0]? := by rw [List.getElem?_append_right (Nat.le_refl _), Nat.sub_self]
theorem st1 (σ l : Store) (k : Nat) : (σ ++ l)[σ.length + k]? = l[k]? := by rw [List.getElem?_append_right (by omega), Nat.add_sub_cancel_left]
theorem ss0 (σ l : Store) (x : Ob) : (σ ++ l).set σ.length x = σ ++ l.set 0 x := by simp
theorem ss1 (σ l : Store) (k : Nat) (x : Ob) : (σ ++ l).set (σ.length + k) x = σ ++ l.set k x := by simp
end Go.Proofs.Ytephecognbbaoab
