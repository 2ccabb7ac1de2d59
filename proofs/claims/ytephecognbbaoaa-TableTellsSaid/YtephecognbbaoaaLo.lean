/- Loops whose frame is kept but for the slots that a round writes. -/
import Derived.Test.YtephecognbbaoaaDr
import Derived.LoopNIn
namespace Go.Proofs.Ytephecognbbaoaa
open Go
set_option linter.all false

/-- The slots that a piece of code writes. -/
def dsts : List Oper → List Nat
  | [] => []
  | o :: r => match o.dst with | some d => d :: dsts r | none => dsts r

def writes : Code → List Nat
  | .region _ ops _ => dsts ops.toList
  | .seq a b => writes a ++ writes b
  | .cond _ a b => writes a ++ writes b
  | .block _ b => writes b
  | .loop b => writes b
  | .rangeFunc _ ps a b => ps.toList ++ writes a ++ writes b
  | .scope b => writes b
  | _ => []

/-- A frame without some slots; each slot once. -/
def keep : List Nat → AF → AF
  | _, [] => []
  | W, (k, v) :: r => match W.elem k with
    | true => keep W r
    | false => (k, v) :: keep (k :: W) r

theorem look_keep : ∀ (α : AF) (W : List Nat) (t : Nat) (av : AV), look (keep W α) t = some av → look α t = some av ∧ t ∉ W := by
  intro α
  induction α with
  | nil => intro W t av h; cases h
  | cons p r ih =>
    intro W t av h
    obtain ⟨k, v⟩ := p
    simp only [keep] at h
    cases hk : W.elem k with
    | true =>
      rw [hk] at h
      obtain ⟨h1, h2⟩ := ih W t av h
      refine ⟨?_, h2⟩
      simp only [look]
      rw [if_neg]
      · exact h1
      · rintro rfl
        exact h2 (by simpa using hk)
    | false =>
      rw [hk] at h
      simp only [look] at h ⊢
      have hn : k ∉ W := by simpa using hk
      split at h
      · rename_i e
        rw [if_pos e]
        exact ⟨h, by rw [← e]; exact hn⟩
      · rename_i e
        rw [if_neg e]
        obtain ⟨h1, h2⟩ := ih (k :: W) t av h
        exact ⟨h1, fun hh => h2 (by simp [hh])⟩

theorem look_app : ∀ (α β : AF) (t : Nat) (av : AV), look (α ++ β) t = some av → look α t = some av ∨ look β t = some av
  | [], β, t, av, h => .inr h
  | (k, v) :: r, β, t, av, h => by
    simp only [List.cons_append, look] at h ⊢
    split at h
    · rename_i e; rw [if_pos e]; exact .inl h
    · rename_i e; rw [if_neg e]; exact look_app r β t av h

theorem ALe.app {α β γ : AF} (h1 : ALe α β) (h2 : ALe α γ) : ALe α (β ++ γ) := fun t av h =>
  (look_app β γ t av h).elim (h1 t av) (h2 t av)

theorem ALe_keep (W : List Nat) (α : AF) : ALe α (keep W α) := fun t av h => (look_keep α W t av h).1

section
variable {rd : Option Nat} {P : Program} {N : Nat} {Q : Post} {α : AF} {σ : Store}

/-- A loop: of the frame ahead of it all is kept but the slots that a round writes; of these B tells, of the store S; τ: whatever was made on the way. -/
theorem AWP_loopF {c : Code} {ι : Type} (H : ι → Prop) (B : ι → Store → AF) (S : ι → Store → Store) (μ : ι → Nat) (x : ι) (τ : Store) (h0 : H x) (hs : S x τ = σ) (ha : ALe α (B x τ))
    (round : ∀ x τ, H x → ∀ K : AF → Store → Prop, (∀ y τ' α' σ', H y → μ y < μ x → ALe α' (B y τ' ++ keep (writes c) α) → S y τ' = σ' → K α' σ') →
      AWPr rd P N c (thenQ K Q) (B x τ ++ keep (writes c) α) (S x τ)) : AWPr rd P N (.loop c) Q α σ := by
  refine AWP_loop (ι := ι × Store) (fun p => H p.1) (fun p => B p.1 p.2 ++ keep (writes c) α) (fun p => S p.1 p.2) (fun p => μ p.1) (x, τ) h0 ?_ hs ?_
  · exact ha.app (ALe_keep _ _)
  · rintro ⟨x, τ⟩ hx
    refine round x τ hx _ ?_
    intro y τ' α' σ' hy hlt hal hst
    exact ⟨(y, τ'), hy, hlt, hal, hst⟩

/-- A loop that counts from 0 to n. -/
theorem AWP_for {c : Code} {ST : Type} (n : Int) (H : Int → ST → Prop) (B : Int → ST → Store → AF) (S : Int → ST → Store → Store) (s : ST) (τ : Store) (hn : 0 ≤ n) (h0 : H 0 s) (hs : S 0 s τ = σ) (ha : ALe α (B 0 s τ))
    (round : ∀ k s τ, 0 ≤ k → k ≤ n → H k s → ∀ L : AF → Store → Prop, (k < n → ∀ s' τ' α' σ', H (k + 1) s' → ALe α' (B (k + 1) s' τ' ++ keep (writes c) α) → S (k + 1) s' τ' = σ' → L α' σ') →
      AWPr rd P N c (thenQ L Q) (B k s τ ++ keep (writes c) α) (S k s τ)) : AWPr rd P N (.loop c) Q α σ := by
  refine AWP_loopF (ι := Int × ST) (fun p => 0 ≤ p.1 ∧ p.1 ≤ n ∧ H p.1 p.2) (fun p τ => B p.1 p.2 τ) (fun p τ => S p.1 p.2 τ) (fun p => (n - p.1).toNat) (0, s) τ ⟨Int.le_refl _, hn, h0⟩ hs ha ?_
  rintro ⟨k, s⟩ τ ⟨h1, h2, h3⟩ K hK
  refine round k s τ h1 h2 h3 K ?_
  intro hlt s' τ' α' σ' h' hal hst
  exact hK (k + 1, s') τ' α' σ' ⟨by simp only; omega, by simp only; omega, h'⟩ (by simp only; omega) hal hst

/-- A loop of at most m rounds. -/
def ARounds (rd : Option Nat) (P : Program) (N : Nat) (c : Code) (Q : Post) : Nat → AF → Store → Prop
  | 0, _, _ => False
  | m + 1, α, σ => AWPr rd P N c (thenQ (ARounds rd P N c Q m) Q) α σ

theorem ARounds_step {c : Code} {n : Nat} (h : AWPr rd P N c (thenQ (ARounds rd P N c Q n) Q) α σ) : ARounds rd P N c Q (n + 1) α σ := h

theorem ARounds_run {c : Code} {K : World} : ∀ (n : Nat) (imm : Imm) (m : Own) (α : AF) (σ : Store) (a : Act) (w : World), ARounds rd P N c Q n α σ → Sim K imm m w σ → FOk K imm m N a α → Code.roundsIn (Rnd rd) 0 P c (lift K N imm m Q) n a w
  | 0, _, _, _, _, _, _, h, _, _ => h.elim
  | n + 1, imm, m, α, σ, a, w, h, hs, hf => by
    have key : ∀ (n : Nat) (imm imm' : Imm) (m m' : Own) (a : Act) (w : World), ILe imm imm' → OLe m m' → Code.roundsIn (Rnd rd) 0 P c (lift K N imm' m' Q) n a w → Code.roundsIn (Rnd rd) 0 P c (lift K N imm m Q) n a w := by
      intro n
      induction n with
      | zero => intro imm imm' m m' a w _ _ h; exact h
      | succ n ih =>
        intro imm imm' m m' a w h1 h2 h
        refine Code.wpIn_mono (fun e a w hq => ?_) h
        cases e with
        | normal => exact ih imm imm' m m' a w h1 h2 hq
        | _ => exact lift_mono h1 h2 hq
    refine Code.wpIn_mono ?_ (h K imm m w a hs hf)
    rintro e a' w' ⟨i, o, α', σ', hi, ho, hs', hf', hq⟩
    cases e with
    | normal => exact key n imm i m o a' w' hi ho (ARounds_run n i o α' σ' a' w' hq hs' hf')
    | _ => exact ⟨i, o, α', σ', hi, ho, hs', hf', hq⟩

theorem AWP_rounds {c : Code} (n : Nat) (h : ARounds rd P N c Q n α σ) : AWPr rd P N (.loop c) Q α σ := fun K imm m w a hs hf =>
  wpIn_loop_rounds n (ARounds_run n imm m α σ a w h hs hf)

/-- The element at a place; what is asked behind the end does not matter. -/
def at0 {X : Type} [Inhabited X] (l : List X) (k : Int) : X := l.getD k.toNat default

theorem drop_at {X : Type} [Inhabited X] (l : List X) {k : Int} (h0 : 0 ≤ k) (h : k < l.length) : l.drop k.toNat = at0 l k :: l.drop (k + 1).toNat := by
  have e : (k + 1).toNat = k.toNat + 1 := by omega
  have hk : k.toNat < l.length := by omega
  rw [List.drop_eq_getElem_cons hk, e, at0, List.getD_eq_getElem?_getD, List.getElem?_eq_getElem hk]
  rfl

theorem take_at {X : Type} [Inhabited X] (l : List X) {k : Int} (h0 : 0 ≤ k) (h : k < l.length) : l.take (k + 1).toNat = l.take k.toNat ++ [at0 l k] := by
  have e : (k + 1).toNat = k.toNat + 1 := by omega
  have hk : k.toNat < l.length := by omega
  rw [e, List.take_add_one, List.getElem?_eq_getElem hk, at0, List.getD_eq_getElem?_getD, List.getElem?_eq_getElem hk]
  rfl

theorem at0_mem {X : Type} [Inhabited X] (l : List X) {k : Int} (h0 : 0 ≤ k) (h : k < l.length) : at0 l k ∈ l := by
  have hk : k.toNat < l.length := by omega
  rw [at0, List.getD_eq_getElem?_getD, List.getElem?_eq_getElem hk]
  exact List.getElem_mem _

theorem on_map {X : Type} [Inhabited X] (f : X → List AV) (l : List X) (k : Int) (K : List AV → Prop) : on (l.map f)[k.toNat]? K = (k.toNat < l.length ∧ K (f (at0 l k))) := by
  simp only [List.getElem?_map, at0, List.getD_eq_getElem?_getD]
  rcases Nat.lt_or_ge k.toNat l.length with h | h
  · rw [List.getElem?_eq_getElem h]
    simp [on, h]
  · rw [List.getElem?_eq_none h]
    exact propext ⟨fun h' => h'.elim, fun h' => absurd h'.1 (Nat.not_lt.2 h)⟩

/-- A loop over a list: H tells, of what is left of the list and of the state, what is to be shown yet. -/
theorem AWP_each {c : Code} {X ST : Type} [Inhabited X] (l : List X) (H : Int → List X → ST → Prop) (B : Int → ST → Store → AF) (S : Int → ST → Store → Store) (s : ST) (τ : Store) (h0 : H 0 l s) (hs : S 0 s τ = σ) (ha : ALe α (B 0 s τ))
    (round : ∀ (k : Int) r s τ, 0 ≤ k → k < l.length → H k (at0 l k :: r) s → ∀ L : AF → Store → Prop, (∀ s' τ' α' σ', H (k + 1) r s' → ALe α' (B (k + 1) s' τ' ++ keep (writes c) α) → S (k + 1) s' τ' = σ' → L α' σ') →
      AWPr rd P N c (thenQ L Q) (B k s τ ++ keep (writes c) α) (S k s τ))
    (last : ∀ (k : Int) s τ, k = (l.length : Int) → H k [] s → ∀ L : AF → Store → Prop, AWPr rd P N c (thenQ L Q) (B k s τ ++ keep (writes c) α) (S k s τ)) : AWPr rd P N (.loop c) Q α σ := by
  refine AWP_for (l.length : Int) (fun k s => H k (l.drop k.toNat) s) B S s τ (by omega) (by simpa using h0) hs ha ?_
  intro k s τ h1 h2 h3 K hK
  by_cases hlt : k < l.length
  · rw [drop_at l h1 hlt] at h3
    exact round k _ s τ h1 hlt h3 K (hK hlt)
  · have e : k = (l.length : Int) := by omega
    rw [List.drop_of_length_le (by omega)] at h3
    exact last k s τ e h3 K

end
/-- What is known of a value as a is known as b, too. -/
def Wk (a b : AV) : Prop := ∀ imm m v, Rep imm m v a → Rep imm m v b
def WkL (l l' : List AV) : Prop := ∀ imm m vs, RepL imm m vs l → RepL imm m vs l'
theorem Wk.refl (a : AV) : Wk a a := fun _ _ _ h => h
theorem Wk.eq {a b : AV} (h : a = b) : Wk a b := h ▸ Wk.refl a
theorem Wk.nil : Wk (.c (.slice none 0 0)) (.sl []) := fun imm m v h => by
  rw [h.c_inv]
  exact .sl none 0 0 [] 0 (fun _ _ => undef) rfl (Nat.le_refl _) (fun i hi => by simp at hi) (fun h => by simp at h) (fun i hi => by simp at hi)
theorem Wk.emp : Wk .emp (.sl []) := fun imm m v h => by
  cases h
  exact .sl _ _ _ [] 0 (fun _ _ => undef) rfl (Nat.le_refl _) (fun i hi => by simp at hi) (fun h => by simp at h) (fun i hi => by simp at hi)
theorem WkL.nil : WkL [] [] := fun _ _ _ h => h
theorem WkL.refl (l : List AV) : WkL l l := fun _ _ _ h => h
theorem WkL.cons {a b : AV} {l l' : List AV} (h : Wk a b) (h' : WkL l l') : WkL (a :: l) (b :: l') := fun imm m vs hr => by
  obtain ⟨h1, h2⟩ := hr
  match vs, h1 with
  | v :: vs, h1 =>
    have ht := h' imm m vs ⟨by simpa using h1, fun i hi1 hi2 => h2 (i + 1) (by simp; omega) (by simp; omega)⟩
    refine ⟨by simp [ht.1], fun i hi1 hi2 => ?_⟩
    cases i with
    | zero => exact h _ _ _ (h2 0 (by simp) (by simp))
    | succ i => exact ht.2 i (by simpa using hi1) (by simpa using hi2)
theorem Wk.agg {l l' : List AV} (h : WkL l l') : Wk (.agg l) (.agg l') := fun imm m v hr => by
  cases hr with
  | agg cs _ hl hh =>
    obtain ⟨h1, h2⟩ := h imm m cs ⟨hl, hh⟩
    exact .agg cs l' h1 h2
theorem Wk.tup {l l' : List AV} (h : WkL l l') : Wk (.tup l) (.tup l') := fun imm m v hr => by
  cases hr with
  | tup cs _ hl hh =>
    obtain ⟨h1, h2⟩ := h imm m cs ⟨hl, hh⟩
    exact .tup cs l' h1 h2

theorem ACalls.wk {P : Program} {f : FuncId} {args : List AV} {σ : Store} {R R' : AV → Store → Prop} (h : ACalls P f args σ R) (hr : ∀ r σ', R r σ' → ∃ r', Wk r r' ∧ R' r' σ') : ACalls P f args σ R' :=
  fun K imm m w vs hs hv => (h K imm m w vs hs hv).mono fun _ _ ⟨i, m', v, r, s, a, b, c, d, e, f⟩ => let ⟨r', hw, hR⟩ := hr _ _ f; ⟨i, m', v, r', s, a, b, c, d, hw _ _ _ e, hR⟩

/-- Where a function ends that leaves its caller's store alone. -/
def CutQ (σ : Store) (X r : AV) (σ' : Store) : Prop := (∃ τ, σ' = σ ++ τ) ∧ Bd σ.length r ∧ Wk r X
theorem ACalls.cutX {P : Program} {f : FuncId} {args : List AV} {σ : Store} {X : AV} (h : ACalls P f args σ (CutQ σ X)) : ACalls P f args σ fun r σ' => σ' = σ ∧ r = X :=
  (ACalls.cut h).wk fun _ _ ⟨h1, h2⟩ => ⟨X, h2, h1, rfl⟩
theorem CutQ_of {σ σ' τ : Store} {X r : AV} (hs : σ' = σ ++ τ) (hb : Bd σ.length r) (hx : r = X) : CutQ σ X r σ' := ⟨⟨τ, hs⟩, hb, .eq hx⟩
theorem CutQ_w {σ σ' τ : Store} {X r : AV} (hs : σ' = σ ++ τ) (hb : Bd σ.length r) (hx : Wk r X) : CutQ σ X r σ' := ⟨⟨τ, hs⟩, hb, hx⟩
theorem CutQ_c {σ σ' τ : Store} {v v' : Value} (hs : σ' = σ ++ τ) (hx : v = v') : CutQ σ (.c v') (.c v) σ' := ⟨⟨τ, hs⟩, .c _, by rw [hx]; exact .refl _⟩

/-- All of these speak of no own object from n on. -/
def BdL (n : Nat) (l : List AV) : Prop := ∀ i (h : i < l.length), Bd n l[i]
theorem BdL.nil {n : Nat} : BdL n [] := fun i h => by simp at h
theorem BdL.cons {n : Nat} {a : AV} {l : List AV} (h : Bd n a) (h' : BdL n l) : BdL n (a :: l) := fun i hi => by
  cases i with
  | zero => exact h
  | succ i => exact h' i (by simpa using hi)
theorem Bd.aggL {n : Nat} {l : List AV} (h : BdL n l) : Bd n (.agg l) := .agg l h
theorem Bd.tupL {n : Nat} {l : List AV} (h : BdL n l) : Bd n (.tup l) := .tup l h
theorem Bd.slL {n : Nat} {X : Type} {f : X → List AV} (hf : ∀ x, BdL n (f x)) (l : List X) : Bd n (.sl (l.map f)) := .sl _ fun i hi j hj => by
  simp only [List.getElem_map] at hj ⊢
  exact hf _ j hj

/-- A slice that grows by append, from nil on: as a value, and as the object behind it. -/
def accV {X : Type} (k b : Nat) : List X → AV
  | [] => .c (.slice none 0 0)
  | x :: r => .own b k 0 (r.length + 1) (r.length + 1)
def accO {X : Type} (f : X → List AV) (k : Nat) : List X → Ob
  | [] => .dead
  | x :: r => .cells k ((x :: r).map f)
theorem accV_snoc {X : Type} (k b : Nat) (l : List X) (x : X) : accV k b (l ++ [x]) = .own b k 0 (l.length + 1) (l.length + 1) := by
  cases l <;> simp [accV]
theorem accO_snoc {X : Type} (f : X → List AV) (k : Nat) (l : List X) (x : X) : accO f k (l ++ [x]) = .cells k (l.map f ++ [f x]) := by
  cases l <;> simp [accO]

theorem Sim.pad {K0 : World} {imm : Imm} {m : Own} {w : World} {σ : Store} (hs : Sim K0 imm m w σ) : Sim K0 imm m w (σ ++ [.dead]) where
  os := hs.os
  tape := hs.tape
  output := hs.output
  size := hs.size
  imm_ok := hs.imm_ok
  dom := fun id h => hs.dom id (by simp at h; omega)
  obs := fun id h => by
    rcases Nat.lt_or_ge id σ.length with hlt | hge
    · rw [List.getElem_append_left hlt]
      exact hs.obs id hlt
    · rw [List.getElem_append_right hge]
      simp only [List.length_append, List.length_cons, List.length_nil] at h
      simp only [show id - σ.length = 0 by omega, List.getElem_cons_zero]
      trivial
  inj := fun i j hi hj li lj e => by
    simp only [List.length_append, List.length_cons, List.length_nil] at hi hj
    rcases Nat.lt_or_ge i σ.length with hi' | hi'
    · rcases Nat.lt_or_ge j σ.length with hj' | hj'
      · rw [List.getElem_append_left hi'] at li
        rw [List.getElem_append_left hj'] at lj
        exact hs.inj i j hi' hj' li lj e
      · rw [List.getElem_append_right hj'] at lj
        simp only [show j - σ.length = 0 by omega, List.getElem_cons_zero] at lj
        cases lj
    · rw [List.getElem_append_right hi'] at li
      simp only [show i - σ.length = 0 by omega, List.getElem_cons_zero] at li
      cases li

/-- Room for what will be made. -/
theorem AWP_pad {rd : Option Nat} {P : Program} {N : Nat} {Q : Post} {α : AF} {σ : Store} {c : Code} (h : AWPr rd P N c Q α (σ ++ [.dead])) : AWPr rd P N c Q α σ :=
  fun K imm m w a hs hf => h K imm m w a hs.pad hf

/-- The store without the object behind a slice. -/
def killA (σ : Store) : AV → Store
  | .own b _ _ _ _ => σ.set b .dead
  | _ => σ

theorem Sim.freezeA {K0 : World} {imm : Imm} {m : Own} {w : World} {σ : Store} (hs : Sim K0 imm m w σ) {a : AV} {es : List (List AV)} (he : elemsA σ a = some es) :
    ∃ imm', ILe imm imm' ∧ Sim K0 imm' m w (killA σ a) ∧ ∀ v, Rep imm m v a → Rep imm' m v (.sl es) := by
  have he0 := he
  rw [elemsA_eq] at he
  unfold elemsB at he
  split at he
  · cases he
    exact ⟨imm, .refl _, hs, fun v h => h⟩
  · cases he
    refine ⟨imm, .refl _, hs, fun v h => ?_⟩
    cases h
    exact .sl _ _ _ [] 0 (fun _ _ => undef) rfl (Nat.le_refl _) (fun i hi => by simp at hi) (fun h => by simp at h) (fun i hi => by simp at hi)
  · cases he
    refine ⟨imm, .refl _, hs, fun v h => ?_⟩
    rw [h.c_inv]
    exact .sl _ _ _ [] 0 (fun _ _ => undef) rfl (Nat.le_refl _) (fun i hi => by simp at hi) (fun h => by simp at h) (fun i hi => by simp at hi)
  · exact hs.freeze_reps he0
  · cases he

/-- A slice in a slot becomes known by its content. -/
theorem AWP_freezeT {rd : Option Nat} {P : Program} {N : Nat} {Q : Post} {α : AF} {σ : Store} {c : Code} (t : Nat) {a : AV} {es : List (List AV)} (hl : look α t = some a) (he : elemsA σ a = some es)
    (h : AWPr rd P N c Q ((t, .sl es) :: α) (killA σ a)) : AWPr rd P N c Q α σ := by
  intro K imm m w a' hs hf
  obtain ⟨v, hv, hr⟩ := hf.slot t _ hl
  obtain ⟨imm', hi, hs', hr'⟩ := hs.freezeA he
  refine Code.wpIn_mono (fun _ _ _ hq => lift_mono hi (.refl _) hq) (h K imm' m w a' hs' ⟨hf.defers.mono (by assumption), hf.size, fun t' av ht => ?_⟩)
  simp only [look] at ht
  split at ht
  · rename_i e
    subst e
    cases ht
    exact ⟨v, hv, hr' v hr⟩
  · obtain ⟨u, hu, r⟩ := hf.slot t' av ht
    exact ⟨u, hu, r.mono hi (.refl _)⟩

theorem elemsA_acc {X : Type} (f : X → List AV) (k : Nat) (l : List X) (σ τ ρ : Store) : elemsA (σ ++ (τ ++ accO f k l :: ρ)) (accV k (σ.length + τ.length) l) = some (l.map f) := by
  cases l with
  | nil => rfl
  | cons x r =>
    have e : (σ ++ (τ ++ accO f k (x :: r) :: ρ))[σ.length + τ.length]? = some (.cells k ((x :: r).map f)) := by rw [st1, st0]; rfl
    rw [elemsA_eq]
    simp only [accV, elemsB, e]
    simp [List.take_of_length_le]

theorem killA_acc {X : Type} (f : X → List AV) (k : Nat) (l : List X) (σ τ ρ : Store) : killA (σ ++ (τ ++ accO f k l :: ρ)) (accV k (σ.length + τ.length) l) = σ ++ (τ ++ .dead :: ρ) := by
  cases l with
  | nil => rfl
  | cons x r => simp only [accV, killA, ss1, ss0, List.set_cons_zero]

/-- What was grown by append becomes known by its content. -/
theorem AWP_freezeAcc {rd : Option Nat} {P : Program} {N : Nat} {Q : Post} {α : AF} {c : Code} {X : Type} (t : Nat) (f : X → List AV) (k : Nat) (l : List X) (σ τ ρ : Store) (hl : look α t = some (accV k (σ.length + τ.length) l))
    (h : AWPr rd P N c Q ((t, .sl (l.map f)) :: α) (σ ++ (τ ++ .dead :: ρ))) : AWPr rd P N c Q α (σ ++ (τ ++ accO f k l :: ρ)) :=
  AWP_freezeT t hl (elemsA_acc f k l σ τ ρ) (by rw [killA_acc]; exact h)

/-- A slice in a cell of an own object becomes known by its content. -/
theorem AWP_freezeC {rd : Option Nat} {P : Program} {N : Nat} {Q : Post} {α : AF} {σ : Store} {c : Code} (b i j : Nat) {k : Nat} {rows : List (List AV)} {e : List AV} {a : AV} {es : List (List AV)} (hb : (killA σ a)[b]? = some (.cells k rows)) (hi : rows[i]? = some e) (hj : e[j]? = some a)
    (he : elemsA σ a = some es) (h : AWPr rd P N c Q α ((killA σ a).set b (.cells k (rows.set i (e.set j (.sl es)))))) (hb0 : σ[b]? = some (.cells k rows)) : AWPr rd P N c Q α σ := by
  intro K imm m w a' hs hf
  obtain ⟨imm', hil, hs', hr'⟩ := hs.freezeA he
  obtain ⟨hlt0, hob0⟩ := List.getElem?_eq_some_iff.1 hb0
  have h0 := hs.obs b hlt0
  rw [hob0] at h0
  obtain ⟨hlt, hob⟩ := List.getElem?_eq_some_iff.1 hb
  have h9 := hs'.obs b hlt
  rw [hob] at h9
  obtain ⟨blk, sz, h1, h2, cs, T, fr, h3, h4, h5, h6, h7⟩ := h9
  obtain ⟨blk', sz', g1, g2, cs', T', fr', g3, g4, g5, g6, g7⟩ := h0
  rw [h1] at g1
  cases g1
  rw [h3] at g3
  cases g3
  have hs2 : Sim K imm' m w ((killA σ a).set b (.cells k (rows.set i (e.set j (.sl es))))) := by
    refine hs'.setO ⟨rfl, rfl, rfl, Nat.le_refl _⟩ hlt h1 (by rw [hob]; rfl) (fun _ _ => rfl) _ ⟨blk, sz, h1, h2, cs, T, fr, h3, h4, h5, by simpa using h6, fun i' hi' => ?_⟩
    simp only [List.length_set] at hi'
    obtain ⟨hi1, hi2⟩ := List.getElem?_eq_some_iff.1 hi
    obtain ⟨hj1, hj2⟩ := List.getElem?_eq_some_iff.1 hj
    simp only [List.getElem_set]
    split
    · rename_i e1
      subst e1
      refine ⟨by rw [List.length_set, ← hi2]; exact (h7 i _).1, fun j' hj' => ?_⟩
      simp only [List.length_set] at hj'
      simp only [List.getElem_set]
      split
      · rename_i e2
        subst e2
        obtain ⟨v, e3, r⟩ := (g7 i hi1).2 j (by rw [hi2]; exact hj1)
        refine ⟨v, e3, hr' v ?_⟩
        rw [← hj2]
        simpa only [hi2] using r
      · obtain ⟨v, e3, r⟩ := (h7 i hi1).2 j' (by rw [hi2]; exact hj')
        refine ⟨v, e3, ?_⟩
        simpa only [hi2] using r
    · exact h7 i' hi'
  exact Code.wpIn_mono (fun _ _ _ hq => lift_mono hil (.refl _) hq) (h K imm' m w a' hs2 (hf.mono hil (.refl _)))

/-- A slice that was grown by append, in a cell, becomes known by its content. -/
theorem AWP_freezeS {rd : Option Nat} {P : Program} {N : Nat} {Q : Post} {α : AF} {st : Store} {c : Code} {X : Type} (σ p q ρ : Store) {k kk b : Nat} {rows : List (List AV)} {e : List AV} (i j : Nat) (f : X → List AV) (l : List X)
    (hst : st = σ ++ (p ++ .cells k rows :: (q ++ accO f kk l :: ρ))) (hi : rows[i]? = some e) (hj : e[j]? = some (accV kk b l)) (hb : b = σ.length + (p.length + 1 + q.length))
    (h : AWPr rd P N c Q α (σ ++ (p ++ .cells k (rows.set i (e.set j (.sl (l.map f)))) :: (q ++ .dead :: ρ)))) : AWPr rd P N c Q α st := by
  subst hst
  subst hb
  have hk : killA (σ ++ (p ++ .cells k rows :: (q ++ accO f kk l :: ρ))) (accV kk (σ.length + (p.length + 1 + q.length)) l) = σ ++ (p ++ .cells k rows :: (q ++ .dead :: ρ)) := by
    have := killA_acc f kk l σ (p ++ .cells k rows :: q) ρ
    simp only [List.append_assoc, List.cons_append, List.length_append, List.length_cons] at this
    rw [← this]
    congr 2
    omega
  have he : elemsA (σ ++ (p ++ .cells k rows :: (q ++ accO f kk l :: ρ))) (accV kk (σ.length + (p.length + 1 + q.length)) l) = some (l.map f) := by
    have := elemsA_acc f kk l σ (p ++ .cells k rows :: q) ρ
    simp only [List.append_assoc, List.cons_append, List.length_append, List.length_cons] at this
    rw [← this]
    congr 2
    omega
  refine AWP_freezeC (σ.length + p.length) i j (k := k) (rows := rows) ?_ hi hj he ?_ ?_
  · rw [hk, st1, st0]; rfl
  · rw [hk, ss1, ss0]
    exact h
  · rw [st1, st0]; rfl

/-- A contract of a callee that leaves the store alone, used. -/
theorem ACalls.use {P : Program} {f : FuncId} {args : List AV} {σ : Store} {X : AV} {R : AV → Store → Prop} (h : ACalls P f args σ fun r σ' => σ' = σ ∧ r = X) (hr : R X σ) : ACalls P f args σ R :=
  h.mono fun _ _ ⟨h1, h2⟩ => by subst h1; subst h2; exact hr

/-- What is known of a value as a is, where more is known of memory, known as b. -/
def WkF (imm : Imm) (m : Own) (imm' : Imm) (a b : AV) : Prop := ∀ v, Rep imm m v a → Rep imm' m v b
def WkFL (imm : Imm) (m : Own) (imm' : Imm) (l l' : List AV) : Prop := ∀ vs, RepL imm m vs l → RepL imm' m vs l'
theorem WkF.same {imm imm' : Imm} {m : Own} (hi : ILe imm imm') (a : AV) : WkF imm m imm' a a := fun _ h => h.mono hi (.refl _)
theorem WkFL.nil {imm imm' : Imm} {m : Own} : WkFL imm m imm' [] [] := fun vs h => ⟨h.1, fun i h1 h2 => by simp at h2⟩
theorem WkFL.cons {imm imm' : Imm} {m : Own} {a b : AV} {l l' : List AV} (h : WkF imm m imm' a b) (h' : WkFL imm m imm' l l') : WkFL imm m imm' (a :: l) (b :: l') := fun vs hr => by
  obtain ⟨h1, h2⟩ := hr
  match vs, h1 with
  | v :: vs, h1 =>
    have ht := h' vs ⟨by simpa using h1, fun i hi1 hi2 => h2 (i + 1) (by simp; omega) (by simp; omega)⟩
    refine ⟨by simp [ht.1], fun i hi1 hi2 => ?_⟩
    cases i with
    | zero => exact h _ (h2 0 (by simp) (by simp))
    | succ i => exact ht.2 i (by simpa using hi1) (by simpa using hi2)
theorem WkF.agg {imm imm' : Imm} {m : Own} {l l' : List AV} (h : WkFL imm m imm' l l') : WkF imm m imm' (.agg l) (.agg l') := fun v hr => by
  cases hr with
  | agg cs _ hl hh =>
    obtain ⟨h1, h2⟩ := h cs ⟨hl, hh⟩
    exact .agg cs l' h1 h2

/-- A contract used whose caller hands a slice of its own, to be known by its content from then on. -/
theorem ACalls.useF {P : Program} {f : FuncId} {args args' : List AV} {σ : Store} {X : AV} {R : AV → Store → Prop} {b k n c : Nat} {es : List (List AV)} (he : elemsA σ (.own b k 0 n c) = some es)
    (hw : ∀ imm m imm', ILe imm imm' → WkF imm m imm' (.own b k 0 n c) (.sl es) → WkFL imm m imm' args args')
    (h : ACalls P f args' (σ.set b .dead) fun r σ' => σ' = σ.set b .dead ∧ r = X) (hr : R X (σ.set b .dead)) : ACalls P f args σ R := by
  intro K imm m w vs hs hv
  obtain ⟨imm', hi, hs', hf⟩ := hs.freeze_reps he
  refine (h K imm' m w vs hs' (hw imm m imm' hi hf vs hv)).mono ?_
  rintro e w' ⟨i, m', v, r, s, a, b, c, d, e', rfl, rfl⟩
  exact ⟨i, m', v, _, _, a, hi.trans b, c, d, e', hr⟩

theorem alls_app : ∀ (β γ α : AF), alls α (β ++ γ) = (alls α β ∧ alls α γ)
  | [], γ, α => by simp [alls]
  | (k, v) :: r, γ, α => by simp [alls, alls_app r γ α, and_assoc]
end Go.Proofs.Ytephecognbbaoaa
