/- Values that own slices within slices, known by their content. -/
import Derived.Test.YtephecognbbaoaaLo
namespace Go.Proofs.Ytephecognbbaoaa
open Go
set_option linter.all false

/-- In store S the value a has the content c; only objects of D are looked into. -/
inductive Deep (S : Store) (D : Nat → Prop) : AV → AV → Prop
  | wk (a c : AV) (h : Wk a c) : Deep S D a c
  | agg (l l' : List AV) (hl : l.length = l'.length) (h : ∀ i (h1 : i < l.length) (h2 : i < l'.length), Deep S D l[i] l'[i]) : Deep S D (.agg l) (.agg l')
  | tup (l l' : List AV) (hl : l.length = l'.length) (h : ∀ i (h1 : i < l.length) (h2 : i < l'.length), Deep S D l[i] l'[i]) : Deep S D (.tup l) (.tup l')
  | own (b k s n c : Nat) (es es' : List (List AV)) (hb : D b) (he : elemsB S (.own b k s n c) = some es) (hl : es.length = es'.length)
      (hk : ∀ i (h1 : i < es.length) (h2 : i < es'.length), es[i].length = es'[i].length)
      (h : ∀ i (h1 : i < es.length) (h2 : i < es'.length) j (h3 : j < es[i].length) (h4 : j < es'[i].length), Deep S D es[i][j] es'[i][j]) : Deep S D (.own b k s n c) (.sl es')
  | sl (es es' : List (List AV)) (hl : es.length = es'.length) (hk : ∀ i (h1 : i < es.length) (h2 : i < es'.length), es[i].length = es'[i].length)
      (h : ∀ i (h1 : i < es.length) (h2 : i < es'.length) j (h3 : j < es[i].length) (h4 : j < es'[i].length), Deep S D es[i][j] es'[i][j]) : Deep S D (.sl es) (.sl es')

def DeepL (S : Store) (D : Nat → Prop) (l l' : List AV) : Prop := l.length = l'.length ∧ ∀ i (h1 : i < l.length) (h2 : i < l'.length), Deep S D l[i] l'[i]
def DeepR (S : Store) (D : Nat → Prop) (l l' : List (List AV)) : Prop := l.length = l'.length ∧ ∀ i (h1 : i < l.length) (h2 : i < l'.length), DeepL S D l[i] l'[i]

theorem Deep.same {S : Store} {D : Nat → Prop} (a : AV) : Deep S D a a := .wk a a (.refl a)
theorem Deep.nil {S : Store} {D : Nat → Prop} : Deep S D (.c (.slice none 0 0)) (.sl []) := .wk _ _ .nil
theorem Deep.emp {S : Store} {D : Nat → Prop} : Deep S D .emp (.sl []) := .wk _ _ .emp
theorem DeepL.nil {S : Store} {D : Nat → Prop} : DeepL S D [] [] := ⟨rfl, fun i h => by simp at h⟩
theorem DeepL.cons {S : Store} {D : Nat → Prop} {a c : AV} {l l' : List AV} (h : Deep S D a c) (h' : DeepL S D l l') : DeepL S D (a :: l) (c :: l') :=
  ⟨by simp [h'.1], fun i h1 h2 => by
    cases i with
    | zero => exact h
    | succ i => exact h'.2 i (by simpa using h1) (by simpa using h2)⟩
theorem DeepL.same {S : Store} {D : Nat → Prop} (l : List AV) : DeepL S D l l := ⟨rfl, fun i h1 h2 => .same _⟩
theorem DeepR.nil {S : Store} {D : Nat → Prop} : DeepR S D [] [] := ⟨rfl, fun i h => by simp at h⟩
theorem DeepR.cons {S : Store} {D : Nat → Prop} {a c : List AV} {l l' : List (List AV)} (h : DeepL S D a c) (h' : DeepR S D l l') : DeepR S D (a :: l) (c :: l') :=
  ⟨by simp [h'.1], fun i h1 h2 => by
    cases i with
    | zero => exact h
    | succ i => exact h'.2 i (by simpa using h1) (by simpa using h2)⟩
theorem DeepR.same {S : Store} {D : Nat → Prop} (l : List (List AV)) : DeepR S D l l := ⟨rfl, fun i h1 h2 => .same _⟩
theorem DeepR.map {S : Store} {D : Nat → Prop} {X : Type} {f g : X → List AV} : ∀ (l : List X), (∀ x ∈ l, DeepL S D (f x) (g x)) → DeepR S D (l.map f) (l.map g)
  | [], _ => .nil
  | x :: r, h => .cons (h x (by simp)) (DeepR.map r fun y hy => h y (by simp [hy]))
theorem Deep.aggL {S : Store} {D : Nat → Prop} {l l' : List AV} (h : DeepL S D l l') : Deep S D (.agg l) (.agg l') := .agg l l' h.1 h.2
theorem Deep.tupL {S : Store} {D : Nat → Prop} {l l' : List AV} (h : DeepL S D l l') : Deep S D (.tup l) (.tup l') := .tup l l' h.1 h.2
theorem Deep.slR {S : Store} {D : Nat → Prop} {l l' : List (List AV)} (h : DeepR S D l l') : Deep S D (.sl l) (.sl l') :=
  .sl l l' h.1 (fun i h1 h2 => (h.2 i h1 h2).1) fun i h1 h2 j h3 h4 => (h.2 i h1 h2).2 j h3 h4
theorem Deep.ownR {S : Store} {D : Nat → Prop} {b k s n c : Nat} {es es' : List (List AV)} (hb : D b) (he : elemsB S (.own b k s n c) = some es) (h : DeepR S D es es') : Deep S D (.own b k s n c) (.sl es') :=
  .own b k s n c es es' hb he h.1 (fun i h1 h2 => (h.2 i h1 h2).1) fun i h1 h2 j h3 h4 => (h.2 i h1 h2).2 j h3 h4
/-- A whole row. -/
theorem Deep.ownW {S : Store} {D : Nat → Prop} {b k n c : Nat} {es es' : List (List AV)} (hb : D b) (ho : S[b]? = some (.cells k es)) (hn : n = es.length) (h : DeepR S D es es') : Deep S D (.own b k 0 n c) (.sl es') :=
  .ownR hb (by subst hn; simp [elemsB, ho]) h

theorem Deep.congr {S S' : Store} {D D' : Nat → Prop} (hD : ∀ b, D b → D' b ∧ ∀ o, S[b]? = some o → S'[b]? = some o) {a c : AV} (h : Deep S D a c) : Deep S' D' a c := by
  induction h with
  | wk a c h => exact .wk a c h
  | agg l l' hl _ ih => exact .agg l l' hl ih
  | tup l l' hl _ ih => exact .tup l l' hl ih
  | own b k s n c es es' hb he hl hk _ ih =>
    refine .own b k s n c es es' (hD b hb).1 ?_ hl hk ih
    unfold elemsB at he ⊢
    simp only at he ⊢
    cases ho : S[b]? with
    | none => rw [ho] at he; cases he
    | some o => rw [(hD b hb).2 o ho]; rw [ho] at he; exact he
  | sl es es' hl hk _ ih => exact .sl es es' hl hk ih

theorem Deep.ext {S : Store} {D : Nat → Prop} (τ : Store) {a c : AV} (h : Deep S D a c) : Deep (S ++ τ) D a c :=
  h.congr fun b hb => ⟨hb, fun o ho => by
    obtain ⟨hlt, _⟩ := List.getElem?_eq_some_iff.1 ho
    rw [List.getElem?_append_left hlt, ho]⟩
theorem Deep.set {S : Store} {D : Nat → Prop} {b : Nat} (hb : ¬ D b) (o : Ob) {a c : AV} (h : Deep S D a c) : Deep (S.set b o) D a c :=
  h.congr fun b' hb' => ⟨hb', fun o' ho => by
    have hne : b ≠ b' := by rintro rfl; exact hb hb'
    rw [List.getElem?_set_ne hne]
    exact ho⟩
theorem Deep.mono {S : Store} {D D' : Nat → Prop} (hD : ∀ b, D b → D' b) {a c : AV} (h : Deep S D a c) : Deep S D' a c := h.congr fun b hb => ⟨hD b hb, fun _ h => h⟩
theorem DeepL.congr {S S' : Store} {D D' : Nat → Prop} (hD : ∀ b, D b → D' b ∧ ∀ o, S[b]? = some o → S'[b]? = some o) {l l' : List AV} (h : DeepL S D l l') : DeepL S' D' l l' := ⟨h.1, fun i h1 h2 => (h.2 i h1 h2).congr hD⟩
theorem DeepR.congr {S S' : Store} {D D' : Nat → Prop} (hD : ∀ b, D b → D' b ∧ ∀ o, S[b]? = some o → S'[b]? = some o) {l l' : List (List AV)} (h : DeepR S D l l') : DeepR S' D' l l' := ⟨h.1, fun i h1 h2 => (h.2 i h1 h2).congr hD⟩

section
variable {rd : Option Nat} {P : Program} {N : Nat} {K0 : World} {imm : Imm} {m : Own} {w : World} {α : AF} {σ : Store} {Q : Post}

/-- What is known of the content, once the objects are held fast. -/
theorem deep_rep {imm' : Imm} (hs : Sim K0 imm m w σ) (hi : ILe imm imm') {D : Nat → Prop} (hD : ∀ b, D b → ∀ (h : b < σ.length), σ[b].live = true → ∀ blk sz, m b = some (blk, sz) → imm' blk = w.heap[blk]?)
    {a c : AV} (h : Deep σ D a c) : ∀ v, Rep imm m v a → Rep imm' m v c := by
  induction h with
  | wk a c h => exact fun v hr => (h imm m v hr).mono hi (.refl _)
  | agg l l' hl _ ih =>
    intro v hr
    cases hr with
    | agg cs _ h1 h2 => exact .agg cs l' (by omega) fun i hi1 hi2 => ih i (by omega) hi2 _ (h2 i hi1 (by omega))
  | tup l l' hl _ ih =>
    intro v hr
    cases hr with
    | tup cs _ h1 h2 => exact .tup cs l' (by omega) fun i hi1 hi2 => ih i (by omega) hi2 _ (h2 i hi1 (by omega))
  | own b k s n c es es' hb he hl hk _ ih =>
    intro v hr
    simp only [elemsB] at he
    split at he
    · rename_i k' es0 hob
      split at he
      · rename_i hc
        obtain ⟨rfl, hle⟩ := hc
        cases he
        obtain ⟨hlt, hob⟩ := List.getElem?_eq_some_iff.1 hob
        have h0 := hs.obs b hlt
        have hD0 := hD b hb hlt (by rw [hob]; rfl)
        rw [hob] at h0
        obtain ⟨blk, sz, h1, h2, cs, T, fr, h3, h4, h5, h6, h7⟩ := h0
        have himm := hD0 blk sz h1
        cases hr with
        | own _ _ _ _ _ cap blk' sz' x hm hn hcc hx hc =>
          rw [h1] at hm
          cases hm
          subst hx
          have hn2 : es'.length = n := by rw [← hl]; simp; omega
          have hel : ∀ i (hi : i < n), ((es0.drop s).take n)[i]'(by simp; omega) = es0[s + i]'(by omega) := fun i hi => by simp
          have hcell : ∀ i (hi : i < n) j (hj : j < es0[s + i].length), ∃ u, cs[(s + i) * k' + j]? = some u ∧ Rep imm m u es0[s + i][j] := fun i h j hj => (h7 (s + i) (by omega)).2 j hj
          have hkl : ∀ i (hi : i < es'.length), es'[i].length = k' := fun i hi => by
            rw [← hk i (by rw [hl]; exact hi) hi, hel i (by omega)]
            exact (h7 (s + i) (by omega)).1
          refine .sl _ cap n es' k' (fun i j => (cs[(s + i) * k' + j]?).getD undef) hn2.symm (by omega) hkl (fun hpos => ⟨blk, s * k', rfl, fun i hi j hj => ?_⟩) (fun i hi j hj => ?_)
          · obtain ⟨u, e, _⟩ := hcell i (by omega) j (by rw [(h7 (s + i) (by omega)).1]; exact hj)
            have e3 : s * k' + (i * k' + j) = (s + i) * k' + j := by rw [Nat.add_mul]; omega
            unfold icell
            rw [himm, h3]
            simp only [e3, e]
            rfl
          · have hj2 : j < es0[s + i].length := by rw [(h7 (s + i) (by omega)).1, ← hkl i hi]; exact hj
            obtain ⟨u, e, r⟩ := hcell i (by omega) j hj2
            rw [e]
            have e9 := hel i (by omega)
            have := ih i (by rw [hl]; exact hi) hi j (by rw [e9]; exact hj2) hj u (by simp only [e9]; exact r)
            exact this
      · cases he
    · cases he
  | sl es es' hl hk _ ih =>
    intro v hr
    cases hr with
    | sl p cap n _ k vals hn hcap hkk hp hrr =>
      refine .sl p cap n es' k vals (by omega) hcap (fun i hi => by rw [← hk i (by omega) hi]; exact hkk i (by omega)) (fun h0 => ?_) (fun i hi j hj => ih i (by omega) hi j (by rw [hk i (by omega) hi]; exact hj) hj _ (hrr i (by omega) j (by rw [hk i (by omega) hi]; exact hj)))
      obtain ⟨b, o, e, hc⟩ := hp (by omega)
      exact ⟨b, o, e, fun i hi' j hj => icell_mono hi (hc i (by omega) j hj)⟩

def killL : List Nat → Store → Store
  | [], S => S
  | i :: r, S => killL r (S.set i .dead)

theorem killL_length : ∀ (ids : List Nat) (S : Store), (killL ids S).length = S.length
  | [], _ => rfl
  | i :: r, S => by rw [killL, killL_length r, List.length_set]

theorem killL_get : ∀ (ids : List Nat) (S : Store) (b : Nat), (killL ids S)[b]? = if b ∈ ids ∧ b < S.length then some .dead else S[b]?
  | [], S, b => by simp [killL]
  | i :: r, S, b => by
    rw [killL, killL_get r, List.length_set, List.getElem?_set]
    by_cases h1 : b ∈ r ∧ b < S.length
    · rw [if_pos h1, if_pos ⟨by simp [h1.1], h1.2⟩]
    · rw [if_neg h1]
      by_cases h2 : i = b
      · rw [if_pos h2]
        by_cases h3 : i < S.length
        · rw [if_pos h3, if_pos ⟨by simp [h2], by omega⟩]
        · rw [if_neg h3, if_neg (by omega), List.getElem?_eq_none (by omega)]
      · rw [if_neg h2, if_neg]
        rintro ⟨h3, h4⟩
        rcases List.mem_cons.1 h3 with rfl | h3
        · exact h2 rfl
        · exact h1 ⟨h3, h4⟩

theorem Sim.killL : ∀ (ids : List Nat) {imm : Imm} {S : Store}, Sim K0 imm m w S → ∃ imm', ILe imm imm' ∧ Sim K0 imm' m w (killL ids S) ∧
    ∀ b ∈ ids, ∀ (h : b < S.length), S[b].live = true → ∀ blk sz, m b = some (blk, sz) → imm' blk = w.heap[blk]?
  | [], imm, S, hs => ⟨imm, .refl _, hs, fun b hb => by cases hb⟩
  | i :: r, imm, S, hs => by
    have key : ∃ imm1, ILe imm imm1 ∧ Sim K0 imm1 m w (S.set i .dead) ∧ ∀ (h : i < S.length), S[i].live = true → ∀ blk sz, m i = some (blk, sz) → imm1 blk = w.heap[blk]? := by
      by_cases hlt : i < S.length
      · by_cases hl : S[i].live = true
        · obtain ⟨blk, sz, hm, hb, _⟩ := (hs.obs i hlt).lt hl
          obtain ⟨o, ho⟩ : ∃ o, w.heap[blk]? = some o := ⟨_, Array.getElem?_eq_getElem hb⟩
          obtain ⟨imm1, h1, h2, h3⟩ := hs.freeze hlt hl hm ho
          refine ⟨imm1, h1, h3, fun _ _ blk' sz' hm' => ?_⟩
          rw [hm] at hm'
          cases hm'
          rw [h2, ho]
        · exact ⟨imm, .refl _, hs.kill i, fun _ h => absurd h hl⟩
      · exact ⟨imm, .refl _, hs.kill i, fun h => absurd h hlt⟩
    obtain ⟨imm1, a1, a2, a3⟩ := key
    obtain ⟨imm2, b1, b2, b3⟩ := Sim.killL r a2
    refine ⟨imm2, a1.trans b1, b2, fun b hb hlt hl blk sz hm => ?_⟩
    by_cases e : b = i
    · subst e
      have h9 := a3 hlt hl blk sz hm
      obtain ⟨blk', sz', hm', hb', _⟩ := (hs.obs b hlt).lt hl
      rw [hm] at hm'
      cases hm'
      have ho : w.heap[blk]? = some w.heap[blk] := Array.getElem?_eq_getElem hb'
      rw [ho] at h9 ⊢
      exact b1 _ _ h9
    · rcases List.mem_cons.1 hb with e' | hb
      · exact absurd e' e
      · have e3 : (S.set i .dead)[b]'(by rw [List.length_set]; exact hlt) = S[b] := List.getElem_set_ne (fun h => e h.symm) _
        exact b3 b hb (by rw [List.length_set]; exact hlt) (by rw [e3]; exact hl) blk sz hm

/-- A store that knows the same, the objects of a list held fast, others' cells known by what they come to. -/
def StDeep (S : Store) (ids : List Nat) (S' : Store) : Prop := S'.length = S.length ∧ ∀ b (h1 : b < S.length) (h2 : b < S'.length),
  S'[b] = .dead ∨ (b ∉ ids ∧ (S'[b] = S[b] ∨ ∃ k es es', S[b] = .cells k es ∧ S'[b] = .cells k es' ∧ DeepR S (· ∈ ids) es es'))

theorem Sim.deepAll (hs : Sim K0 imm m w σ) (ids : List Nat) : ∃ imm', ILe imm imm' ∧ (∀ a c, Deep σ (fun b => b ∈ ids ∨ σ.length ≤ b) a c → ∀ v, Rep imm m v a → Rep imm' m v c) ∧ ∀ S', StDeep σ ids S' → Sim K0 imm' m w S' := by
  obtain ⟨imm', hi, hk, hD⟩ := Sim.killL ids hs
  refine ⟨imm', hi, fun a c h => deep_rep hs hi (fun b hb hlt => hD b (hb.resolve_right (by omega)) hlt) h, fun S' ⟨hl, hS⟩ => ?_⟩
  have hkl := killL_length ids σ
  have hkg : ∀ b (h : b < σ.length), b ∉ ids → (Proofs.Ytephecognbbaoaa.killL ids σ)[b]'(by omega) = σ[b] := fun b h hb => by
    have h1 := killL_get ids σ b
    rw [if_neg (fun h => hb h.1), List.getElem?_eq_getElem h, List.getElem?_eq_getElem (by omega)] at h1
    exact Option.some.inj h1
  refine ⟨hk.os, hk.tape, hk.output, hk.size, hk.imm_ok, fun id h => hk.dom id (by omega), fun b h2 => ?_, fun i j hi1 hj1 li lj e => ?_⟩
  · have h1 : b < σ.length := by omega
    rcases hS b h1 h2 with e | ⟨hb, e | ⟨k, es, es', e1, e2, e3⟩⟩
    · rw [e]; trivial
    · rw [e, ← hkg b h1 hb]
      exact hk.obs b (by omega)
    · rw [e2]
      have h0 := hs.obs b h1
      have h9 := hk.obs b (by omega)
      rw [hkg b h1 hb] at h9
      rw [e1] at h0 h9
      obtain ⟨blk, sz, g1, g2, cs, T, fr, g3, g4, g5, g6, g7⟩ := h0
      obtain ⟨blk', sz', q1, q2, _⟩ := h9
      rw [g1] at q1
      cases q1
      refine ⟨blk, sz, g1, q2, cs, T, fr, g3, g4, g5, by rw [← e3.1]; exact g6, fun i hi' => ?_⟩
      have hlt : i < es.length := by rw [e3.1]; exact hi'
      have e4 := e3.2 i hlt hi'
      refine ⟨by rw [← e4.1]; exact (g7 i hlt).1, fun j hj => ?_⟩
      obtain ⟨v, hv, r⟩ := (g7 i hlt).2 j (by rw [e4.1]; exact hj)
      exact ⟨v, hv, deep_rep hs hi hD (e4.2 j (by rw [e4.1]; exact hj) hj) v r⟩
  · have live : ∀ b (h : b < S'.length), S'[b].live = true → ((Proofs.Ytephecognbbaoaa.killL ids σ)[b]'(by omega)).live = true := fun b h hl2 => by
      rcases hS b (by omega) h with e | ⟨hb, e | ⟨k, es, es', e1, e2, e3⟩⟩
      · rw [e] at hl2; cases hl2
      · rw [hkg b (by omega) hb, ← e]; exact hl2
      · rw [hkg b (by omega) hb, e1]; rfl
    exact hk.inj i j (by omega) (by omega) (live i hi1 li) (live j hj1 lj) e

theorem StDeep.kill (ids : List Nat) (S : Store) : StDeep S ids (Proofs.Ytephecognbbaoaa.killL ids S) := by
  refine ⟨killL_length ids S, fun b h1 h2 => ?_⟩
  have h := killL_get ids S b
  by_cases hb : b ∈ ids
  · rw [if_pos ⟨hb, h1⟩, List.getElem?_eq_getElem h2] at h
    exact .inl (Option.some.inj h)
  · rw [if_neg (fun h => hb h.1), List.getElem?_eq_getElem h2, List.getElem?_eq_getElem h1] at h
    exact .inr ⟨hb, .inl (Option.some.inj h)⟩

/-- One object's cells more are known by what they come to. -/
theorem StDeep.cell {S S' : Store} {ids : List Nat} (h : StDeep S ids S') {b k : Nat} {es es' : List (List AV)} (hb : b ∉ ids) (ho : S[b]? = some (.cells k es)) (hd : DeepR S (· ∈ ids) es es') : StDeep S ids (S'.set b (.cells k es')) := by
  refine ⟨by rw [List.length_set]; exact h.1, fun b' h1 h2 => ?_⟩
  rw [List.length_set] at h2
  by_cases e : b' = b
  · subst e
    obtain ⟨hlt, ho⟩ := List.getElem?_eq_some_iff.1 ho
    exact .inr ⟨hb, .inr ⟨k, es, es', ho, by simp, hd⟩⟩
  · rw [List.getElem_set_ne (fun h => e h.symm)]
    exact h.2 b' h1 h2

theorem AWP_deep {c : Code} (ids : List Nat) (S' : Store) (β : AF) (hS : StDeep σ ids S') (hβ : ∀ t av, look β t = some av → ∃ a, look α t = some a ∧ Deep σ (· ∈ ids) a av) (h : AWPr rd P N c Q β S') : AWPr rd P N c Q α σ := by
  intro K imm m w a hs hf
  obtain ⟨imm', hi, hr, hs'⟩ := hs.deepAll ids
  refine Code.wpIn_mono (fun _ _ _ hq => lift_mono hi (.refl _) hq) (h K imm' m w a (hs' S' hS) ⟨hf.defers.mono hi, hf.size, fun t av ht => ?_⟩)
  obtain ⟨a0, h1, h2⟩ := hβ t av ht
  obtain ⟨v, hv, r⟩ := hf.slot t a0 h1
  exact ⟨v, hv, hr a0 av (h2.mono fun _ h => .inl h) v r⟩

/-- A slot is known by its content from here on. -/
theorem AWP_deepT {c : Code} (t : Nat) (ids : List Nat) (S' : Store) {a av : AV} (hl : look α t = some a) (hd : Deep σ (· ∈ ids) a av) (hS : StDeep σ ids S') (h : AWPr rd P N c Q ((t, av) :: α) S') : AWPr rd P N c Q α σ :=
  AWP_deep ids S' _ hS (fun t' av' ht => by
    simp only [look] at ht
    split at ht
    · rename_i e
      subst e
      cases ht
      exact ⟨a, hl, hd⟩
    · exact ⟨av', ht, .same _⟩) h

/-- Cells are known by what they come to. -/
theorem AWP_deepS {c : Code} (ids : List Nat) (S' : Store) (hS : StDeep σ ids S') (h : AWPr rd P N c Q α S') : AWPr rd P N c Q α σ :=
  AWP_deep ids S' α hS (fun t av ht => ⟨av, ht, .same _⟩) h

/-- A callee that sees what it is handed by its content; what is handed is held fast from then on. -/
theorem ACalls.useD {f : FuncId} {args args' : List AV} {R : AV → Store → Prop} (ids : List Nat) (S' : Store) (hS : StDeep σ ids S') (hd : DeepL σ (· ∈ ids) args args') (h : ACalls P f args' S' R) : ACalls P f args σ R := by
  intro K imm m w vs hs hv
  obtain ⟨imm', hi, hr, hs'⟩ := hs.deepAll ids
  refine (h K imm' m w vs (hs' S' hS) ⟨by rw [hv.1, hd.1], fun i h1 h2 => ?_⟩).mono ?_
  · exact hr _ _ ((hd.2 i (by rw [hd.1]; exact h2) h2).mono fun _ h => .inl h) _ (hv.2 i h1 (by rw [hd.1]; exact h2))
  · rintro e w' ⟨i, m', v, r, s, a, b, c, d, e', hR⟩
    exact ⟨i, m', v, r, s, a, hi.trans b, c, d, e', hR⟩

/-- Where a function ends whose answer is known by its content. -/
def DeepQ (σ : Store) (X r : AV) (σ' : Store) : Prop := (∃ τ, σ' = σ ++ τ) ∧ Bd σ.length X ∧ Deep σ' (σ.length ≤ ·) r X

theorem DeepQ_of {σ' τ : Store} {X r : AV} (hs : σ' = σ ++ τ) (hb : Bd σ.length X) (hd : Deep σ' (σ.length ≤ ·) r X) : DeepQ σ X r σ' := ⟨⟨τ, hs⟩, hb, hd⟩

theorem ACalls.deep {f : FuncId} {args : List AV} {X : AV} (h : ACalls P f args σ (DeepQ σ X)) : ACalls P f args σ fun r σ' => σ' = σ ∧ r = X := by
  refine ACalls.cut ?_
  intro K imm m w vs hs hv
  refine (h K imm m w vs hs hv).mono ?_
  rintro e w' ⟨imm', m', v, r, σ', he, hi, ho, hs', hr, ⟨τ, rfl⟩, hb, hd⟩
  obtain ⟨imm'', hi', hr', hk⟩ := hs'.deepAll ((List.range τ.length).map (σ.length + ·))
  refine ⟨imm'', m', v, X, Proofs.Ytephecognbbaoaa.killL ((List.range τ.length).map (σ.length + ·)) (σ ++ τ), he, hi.trans hi', ho, hk _ (.kill _ _), hr' r X ?_ v hr, ?_, hb, rfl⟩
  · refine hd.mono fun b hb => ?_
    by_cases hlt : b < (σ ++ τ).length
    · exact .inl (List.mem_map.2 ⟨b - σ.length, by simp at hlt ⊢; omega, by omega⟩)
    · exact .inr (by omega)
  · refine ⟨(Proofs.Ytephecognbbaoaa.killL ((List.range τ.length).map (σ.length + ·)) (σ ++ τ)).drop σ.length, ?_⟩
    apply List.ext_getElem?
    intro i
    rcases Nat.lt_or_ge i σ.length with h1 | h1
    · rw [List.getElem?_append_left h1, killL_get, if_neg, List.getElem?_append_left h1]
      rintro ⟨h2, _⟩
      obtain ⟨q, _, h3⟩ := List.mem_map.1 h2
      omega
    · have e : (σ ++ (Proofs.Ytephecognbbaoaa.killL ((List.range τ.length).map (σ.length + ·)) (σ ++ τ)).drop σ.length)[i]? = (Proofs.Ytephecognbbaoaa.killL ((List.range τ.length).map (σ.length + ·)) (σ ++ τ))[i]? := by
        rw [List.getElem?_append_right h1, List.getElem?_drop]
        rw [show σ.length + (i - σ.length) = i by omega]
      rw [e]
/-- Values that speak of no memory. -/
def PureA (a : AV) : Prop := ∀ imm m imm' m' v, Rep imm m v a → Rep imm' m' v a
theorem PureA.c (v : Value) : PureA (.c v) := fun _ _ _ _ _ h => by rw [h.c_inv]; exact .c v
theorem PureA.tup {l : List AV} (hl : ∀ a ∈ l, PureA a) : PureA (.tup l) := fun _ _ _ _ _ h => by
  cases h with
  | tup cs _ h1 h2 => exact .tup cs l h1 fun i a b => hl _ (List.getElem_mem b) _ _ _ _ _ (h2 i a b)

/-- A callee that only reads, and answers by a plain value: it may be handed slices within slices of the caller's own. -/
theorem ACalls.borrowD {f : FuncId} {args args' : List AV} {X : AV} (hX : PureA X) (hd : DeepL σ (fun _ => True) args args') (h : ∀ τ, ACalls P f args' τ fun r τ' => τ' = τ ∧ r = X) : ACalls P f args σ fun r σ' => σ' = σ ∧ r = X := by
  intro K imm m w vs hs hv
  have hall := hs.all
  have hile : ILe imm (fun b => w.heap[b]?) := fun b o h => hs.imm_ok b o h
  have hv' : RepL (fun b => w.heap[b]?) m vs args' :=
    ⟨by rw [hv.1, hd.1], fun i h1 h2 => deep_rep hs hile (fun _ _ _ _ _ _ _ => rfl) (hd.2 i (by rw [hd.1]; exact h2) h2) _ (hv.2 i h1 (by rw [hd.1]; exact h2))⟩
  refine (h (σ.map fun _ => .dead) K _ m w vs hall hv').mono ?_
  rintro e w' ⟨imm', m', v, r, τ', he, hi, ho, hs', hr, rfl, rfl⟩
  have hb : Beside w w' := ⟨hs'.os.trans hs.os.symm, hs'.tape.trans hs.tape.symm, hs'.output.trans hs.output.symm, by
    rcases Nat.eq_zero_or_pos w.heap.size with h0 | h0
    · omega
    · have := heap_lt (hs'.imm_ok (w.heap.size - 1) _ (hi _ _ (Array.getElem?_eq_getElem (by omega))))
      omega⟩
  refine ⟨imm, m, v, r, σ, he, .refl _, .refl _, hs.keep hb fun b hb => ?_, hX _ _ _ _ _ hr, rfl, rfl⟩
  have := hs'.imm_ok b _ (hi b _ (Array.getElem?_eq_getElem hb))
  rw [this, Array.getElem?_eq_getElem hb]
end
end Go.Proofs.Ytephecognbbaoaa
