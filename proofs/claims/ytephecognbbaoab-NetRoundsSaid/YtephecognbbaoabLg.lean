/- The abstract logic: frames, contracts, and the rules for structured code. -/
import Derived.Test.YtephecognbbaoabAv
import Derived.RangeFuncIn
namespace Go.Proofs.Ytephecognbbaoab
open Go
set_option linter.all false

/-- The mark that a range over a function leaves among the deferred calls. -/
def mark (r : Nat) : Deferred := { target := .collected r, args := #[] }

/-- Nothing is deferred but such marks; their blocks hold no call. -/
def Marks (K : World) (imm : Imm) (ds : List Deferred) : Prop :=
  ∃ rs : List Nat, rs.Nodup ∧ ds = rs.map mark ∧ ∀ r ∈ rs, K.heap.size ≤ r ∧ imm r = some (.deferred (some []))

theorem Marks.nil (K : World) (imm : Imm) : Marks K imm [] := ⟨[], .nil, rfl, fun _ h => by cases h⟩
theorem Marks.mono {K : World} {imm imm' : Imm} {ds : List Deferred} (hi : ILe imm imm') (h : Marks K imm ds) : Marks K imm' ds :=
  let ⟨rs, h1, h2, h3⟩ := h; ⟨rs, h1, h2, fun r hr => ⟨(h3 r hr).1, hi _ _ (h3 r hr).2⟩⟩

structure FOk (K : World) (imm : Imm) (m : Own) (N : Nat) (a : Act) (α : AF) : Prop where
  defers : Marks K imm a.defers
  size : a.tmps.size = N
  slot : ∀ t av, look α t = some av → ∃ v, a.tmps[t]? = some v ∧ Rep imm m v av

theorem FOk.mono {K : World} {imm imm' : Imm} {m m' : Own} {N : Nat} {a : Act} {α : AF} (hi : ILe imm imm') (hm : OLe m m') (h : FOk K imm m N a α) : FOk K imm' m' N a α :=
  ⟨h.defers.mono hi, h.size, fun t av ht => let ⟨v, e, r⟩ := h.slot t av ht; ⟨v, e, r.mono hi hm⟩⟩

/-- The frame knows at least what β says. -/
def ALe (α β : AF) : Prop := ∀ t av, look β t = some av → look α t = some av

theorem FOk.weak {K : World} {imm : Imm} {m : Own} {N : Nat} {a : Act} {α β : AF} (h : FOk K imm m N a α) (hl : ALe α β) : FOk K imm m N a β :=
  ⟨h.defers, h.size, fun t av ht => h.slot t av (hl t av ht)⟩

theorem FOk.put {K : World} {imm : Imm} {m : Own} {N : Nat} {a : Act} {α : AF} (h : FOk K imm m N a α) {d : Nat} (hd : d < N) {v : Value} {av : AV} (hr : Rep imm m v av) : FOk K imm m N (a.put (some d) v) ((d, av) :: α) := by
  refine ⟨h.defers, by simp [Act.put, h.size], fun t av' ht => ?_⟩
  have hs := h.size
  simp only [look] at ht
  by_cases hdt : d = t
  · rw [if_pos hdt] at ht
    cases ht
    subst hdt
    exact ⟨v, by simp [Act.put, hs, hd], hr⟩
  · rw [if_neg hdt] at ht
    obtain ⟨u, e, r⟩ := h.slot t av' ht
    exact ⟨u, by simp [Act.put, Array.getElem?_setIfInBounds, hdt, e], r⟩

/-- A slot that is written but of which nothing is to be known. -/
theorem FOk.none {K : World} {imm : Imm} {m : Own} {N : Nat} {a : Act} {α : AF} (h : FOk K imm m N a α) (v : Value) : FOk K imm m N (a.put none v) α := h

abbrev Post := Exit → AF → Store → Prop

def lift (K : World) (N : Nat) (imm0 : Imm) (m0 : Own) (Q : Post) : Exit → Act → World → Prop := fun e a w =>
  ∃ imm m α σ, ILe imm0 imm ∧ OLe m0 m ∧ Sim K imm m w σ ∧ FOk K imm m N a α ∧ Q e α σ

/-- The frames of which is spoken: plain ones; those of a round of loop l. -/
def Rnd : Option Nat → Fence
  | none => Fence.wide
  | some l => Fence.wide.inRound l

theorem Rnd_fn (rd : Option Nat) (f : FuncId) : (Rnd rd).fn f := by cases rd <;> trivial
theorem Rnd_depth (rd : Option Nat) : (Rnd rd).depth = none := by cases rd <;> rfl
theorem Rnd_round (rd : Option Nat) : (Rnd rd).round = rd := by cases rd <;> rfl

def AWPr (rd : Option Nat) (P : Program) (N : Nat) (c : Code) (Q : Post) (α : AF) (σ : Store) : Prop :=
  ∀ K imm m w a, Sim K imm m w σ → FOk K imm m N a α → Code.wpIn (Rnd rd) 0 P c (lift K N imm m Q) a w

abbrev AWP (P : Program) (N : Nat) (c : Code) (Q : Post) (α : AF) (σ : Store) : Prop := AWPr none P N c Q α σ

theorem AWP_of_wp {P : Program} {N : Nat} {c : Code} {Q : Post} {α : AF} {σ : Store} (h : ∀ K imm m w a, Sim K imm m w σ → FOk K imm m N a α → Code.wp P c (lift K N imm m Q) a w) : AWP P N c Q α σ :=
  fun K imm m w a hs hf => wpIn_wide.2 (h K imm m w a hs hf)

/-- The contract of a call: from abstract arguments and store to an abstract result and store. -/
def ACalls (P : Program) (f : FuncId) (args : List AV) (σ : Store) (R : AV → Store → Prop) : Prop :=
  ∀ K imm m w vs, Sim K imm m w σ → RepL imm m vs args → Calls P f vs.toArray w fun e w' =>
    ∃ imm' m' v r σ', e = .returned v ∧ ILe imm imm' ∧ OLe m m' ∧ Sim K imm' m' w' σ' ∧ Rep imm' m' v r ∧ R r σ'

theorem ACalls.mono {P : Program} {f : FuncId} {args : List AV} {σ : Store} {R R' : AV → Store → Prop} (h : ACalls P f args σ R) (hr : ∀ r σ', R r σ' → R' r σ') : ACalls P f args σ R' :=
  fun K imm m w vs hs hv => (h K imm m w vs hs hv).mono fun _ _ ⟨i, m', v, r, s, a, b, c, d, e, f⟩ => ⟨i, m', v, r, s, a, b, c, d, e, hr _ _ f⟩

section
variable {rd : Option Nat} {P : Program} {N : Nat} {Q : Post} {α : AF} {σ : Store}

theorem lift_mono {K : World} {imm imm' : Imm} {m m' : Own} {Q : Post} {e : Exit} {a : Act} {w : World} (hi : ILe imm imm') (hm : OLe m m') (h : lift K N imm' m' Q e a w) : lift K N imm m Q e a w :=
  let ⟨i, o, α, σ, a, b, c⟩ := h; ⟨i, o, α, σ, hi.trans a, hm.trans b, c⟩

theorem AWPr.mono {c : Code} {Q' : Post} (h : AWPr rd P N c Q α σ) (hq : ∀ e α σ, Q e α σ → Q' e α σ) : AWPr rd P N c Q' α σ :=
  fun K imm m w a hs hf => Code.wpIn_mono (fun _ _ _ ⟨i, o, α, σ, a, b, c, d, e⟩ => ⟨i, o, α, σ, a, b, c, d, hq _ _ _ e⟩) (h K imm m w a hs hf)

theorem AWPr.weak {c : Code} {β : AF} (hl : ALe α β) (h : AWPr rd P N c Q β σ) : AWPr rd P N c Q α σ :=
  fun K imm m w a hs hf => h K imm m w a hs (hf.weak hl)

/-- What is asked where a piece of code comes to its end, to an exit. -/
def thenQ (R : AF → Store → Prop) (Q : Post) : Post := fun e α σ =>
  match e with
  | .normal => R α σ
  | e => Q e α σ

def blockQ (id : Nat) (Q : Post) : Post := fun e α σ =>
  match e with
  | .exit id' => if id' = id then Q .normal α σ else Q (.exit id') α σ
  | e => Q e α σ

theorem AWP_seq {x y : Code} (h : AWPr rd P N x (thenQ (fun α σ => AWPr rd P N y Q α σ) Q) α σ) : AWPr rd P N (.seq x y) Q α σ := by
  intro K imm m w a hs hf
  refine wpIn_seq (Code.wpIn_mono ?_ (h K imm m w a hs hf))
  rintro e a' w' ⟨i, o, α', σ', hi, ho, hs', hf', hq⟩
  cases e with
  | normal => exact Code.wpIn_mono (fun _ _ _ hh => lift_mono hi ho hh) (hq K i o w' a' hs' hf')
  | _ => exact ⟨i, o, α', σ', hi, ho, hs', hf', hq⟩

theorem AWP_seq_k {x y : Code} (h : ∀ K : AF → Store → Prop, (∀ α σ, AWPr rd P N y Q α σ → K α σ) → AWPr rd P N x (thenQ K Q) α σ) : AWPr rd P N (.seq x y) Q α σ :=
  AWP_seq (h _ fun _ _ h => h)

theorem AWP_block {id : Nat} {c : Code} (h : AWPr rd P N c (blockQ id Q) α σ) : AWPr rd P N (.block id c) Q α σ := by
  intro K imm m w a hs hf
  refine wpIn_block (Code.wpIn_mono ?_ (h K imm m w a hs hf))
  rintro e a' w' ⟨i, o, α', σ', hi, ho, hs', hf', hq⟩
  cases e with
  | exit id' =>
    simp only [Exit.inBlock]
    simp only [blockQ] at hq
    split
    · rename_i he; rw [if_pos he] at hq; exact ⟨i, o, α', σ', hi, ho, hs', hf', hq⟩
    · rename_i he; rw [if_neg he] at hq; exact ⟨i, o, α', σ', hi, ho, hs', hf', hq⟩
  | _ => exact ⟨i, o, α', σ', hi, ho, hs', hf', hq⟩

theorem AWP_skip (h : Q .normal α σ) : AWPr rd P N .skip Q α σ := fun K imm m w a hs hf =>
  wpIn_skip ⟨imm, m, α, σ, .refl _, .refl _, hs, hf, h⟩

theorem AWP_exit {id : Nat} (h : Q (.exit id) α σ) : AWPr rd P N (.exit id) Q α σ := fun K imm m w a hs hf =>
  wpIn_exit ⟨imm, m, α, σ, .refl _, .refl _, hs, hf, h⟩

theorem AWP_ret (h : Q .ret α σ) : AWPr rd P N .ret Q α σ := fun K imm m w a hs hf =>
  wpIn_ret ⟨imm, m, α, σ, .refl _, .refl _, hs, hf, h⟩

theorem FOk.eval {K : World} {imm : Imm} {m : Own} {a : Act} {t : Nat} {av : AV} (h : FOk K imm m N a α) (hl : look α t = some av) : ∃ v, a.eval (.tmp t) = v ∧ Rep imm m v av := by
  obtain ⟨v, e, r⟩ := h.slot t av hl
  exact ⟨v, by simp [Act.eval, e], r⟩

theorem AWP_cond {t : Nat} {x y : Code} {b : Bool} (hl : look α t = some (.c (.bool b))) (h1 : b = true → AWPr rd P N x Q α σ) (h2 : b = false → AWPr rd P N y Q α σ) : AWPr rd P N (.cond (.tmp t) x y) Q α σ := by
  intro K imm m w a hs hf
  obtain ⟨v, e, r⟩ := hf.eval hl
  cases r
  exact wpIn_cond_split e (fun hb => h1 hb K imm m w a hs hf) (fun hb => h2 hb K imm m w a hs hf)

theorem least {p : Nat → Prop} : ∀ n, p n → ∃ n, p n ∧ ∀ k, p k → n ≤ k := by
  intro n
  induction n using Nat.strongRecOn with
  | _ n ih =>
    intro hn
    by_cases h : ∃ k, k < n ∧ p k
    · obtain ⟨k, hk, hp⟩ := h
      exact ih k hk hp
    · exact ⟨n, hn, fun k hk => by
        rcases Nat.lt_or_ge k n with h' | h'
        · exact absurd ⟨k, h', hk⟩ h
        · exact h'⟩

theorem wpIn_loop_nat {F : Fence} {n' : Nat} {c : Code} {Q : Exit → Act → World → Prop} (Inv : Nat → Act → World → Prop) {a : Act} {w : World} (n : Nat) (h0 : Inv n a w)
    (round : ∀ n a w, Inv n a w → c.wpIn F n' P (Exit.then (fun a' w' => ∃ n', n' < n ∧ Inv n' a' w') Q) a w) : (Code.loop c).wpIn F n' P Q a w := by
  classical
  let μ : Act → World → Nat := fun a w => if h : ∃ n, Inv n a w then Classical.choose (least (p := fun n => Inv n a w) h.choose h.choose_spec) else 0
  have hμ : ∀ a w n, Inv n a w → Inv (μ a w) a w ∧ μ a w ≤ n := by
    intro a w n h
    have hex : ∃ n, Inv n a w := ⟨n, h⟩
    have hs := Classical.choose_spec (least (p := fun n => Inv n a w) hex.choose hex.choose_spec)
    have e : μ a w = Classical.choose (least (p := fun n => Inv n a w) hex.choose hex.choose_spec) := dif_pos hex
    rw [e]
    exact ⟨hs.1, hs.2 n h⟩
  refine wpIn_loop (fun a w => ∃ n, Inv n a w) μ ⟨n, h0⟩ ?_
  rintro a w ⟨n, h⟩
  refine Code.wpIn_mono ?_ (round (μ a w) a w (hμ a w n h).1)
  intro e a' w' hq
  cases e with
  | normal =>
    obtain ⟨n', hlt, hI⟩ := hq
    exact ⟨⟨n', hI⟩, Nat.lt_of_le_of_lt (hμ a' w' n' hI).2 hlt⟩
  | _ => exact hq

/-- A loop: at each round's head one of the states 'x' with 'H x' is known; a round lowers the measure. -/
theorem AWP_loop {c : Code} {ι : Type} (H : ι → Prop) (A : ι → AF) (S : ι → Store) (μ : ι → Nat) (x : ι) (h0 : H x) (ha : ALe α (A x)) (hs : S x = σ)
    (round : ∀ x, H x → AWPr rd P N c (thenQ (fun α' σ' => ∃ y, H y ∧ μ y < μ x ∧ ALe α' (A y) ∧ S y = σ') Q) (A x) (S x)) : AWPr rd P N (.loop c) Q α σ := by
  intro K imm m w a hsim hf
  subst hs
  refine wpIn_loop_nat (fun n a w => ∃ imm' m' y, ILe imm imm' ∧ OLe m m' ∧ Sim K imm' m' w (S y) ∧ FOk K imm' m' N a (A y) ∧ H y ∧ μ y = n) (μ x)
    ⟨imm, m, x, .refl _, .refl _, hsim, hf.weak ha, h0, rfl⟩ ?_
  rintro n a w ⟨imm', m', y, hi, ho, hs', hf', hy, rfl⟩
  refine Code.wpIn_mono ?_ (round y hy K imm' m' w a hs' hf')
  rintro e a' w' ⟨i, o, α', σ', hi', ho', hs'', hf'', hq⟩
  cases e with
  | normal =>
    obtain ⟨z, hz, hlt, hal, hst⟩ := hq
    subst hst
    exact ⟨μ z, hlt, i, o, z, hi.trans hi', ho.trans ho', hs'', hf''.weak hal, hz, rfl⟩
  | _ => exact ⟨i, o, α', σ', hi.trans hi', ho.trans ho', hs'', hf'', hq⟩
end
end Go.Proofs.Ytephecognbbaoab
