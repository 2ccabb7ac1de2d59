/- Regions: the operations one behind the other. -/
import Derived.Test.YtephecognbbaoabAo
import Derived.TacticsIn
namespace Go.Proofs.Ytephecognbbaoab
open Go
set_option linter.all false

def evF (α : AF) : Operand → Option AV
  | .tmp t => look α t
  | .const v => some (.c v)
  | .global _ => none
  | .func f => some (.fn f [] [])

/-- A slot is written. -/
def putA (N : Nat) (d : Option Tmp) (av : AV) (α : AF) (K : AF → Prop) : Prop :=
  match d with
  | some d => d < N ∧ K ((d, av) :: α)
  | none => K α

/-- Is the operation wanted? What its guard was is known behind it. -/
def guardA (ops : List Oper) (g : Option (Nat × Bool)) (α : AF) (step skip : AF → Prop) : Prop :=
  match g with
  | none => step α
  | some (j, want) => on ((ops[j]?).bind (·.dst)) fun d => on (look α d) fun v => match v with
    | .c (.bool true) => match want with | true => step α | false => skip α
    | .c (.bool false) => match want with | true => skip α | false => step α
    | .c (.tuple _) => skip α
    | _ => False

/-- A slot whose Bool is not decided is decided first. -/
def splitA (ops : List Oper) (g : Option (Nat × Bool)) (α : AF) (K : AF → Prop) : Prop :=
  match g with
  | none => K α
  | some (j, _) => on ((ops[j]?).bind (·.dst)) fun d => on (look α d) fun v => match v with
    | .c (.bool b) => match b with
      | b => splitB b (K ((d, .c (.bool true)) :: α)) (K ((d, .c (.bool false)) :: α))
    | _ => K α

def areg (P : Program) (N : Nat) (ops : List Oper) (K : AF → Store → Prop) : List Oper → AF → Store → Prop
  | [], α, σ => K α σ
  | o :: r, α, σ => splitA ops o.guard α fun α => guardA ops o.guard α
      (fun α => AOp P o.op (evF α) σ fun av σ' => putA N o.dst av α fun α' => areg P N ops K r α' σ')
      (fun α => putA N o.dst (.c undef) α fun α' => areg P N ops K r α' σ)

section
variable {rd : Option Nat} {P : Program} {N : Nat} {K0 : World} {imm : Imm} {m : Own} {w : World} {α : AF} {σ : Store} {a : Act}

theorem evF_rep (hf : FOk K0 imm m N a α) : ∀ x av, evF α x = some av → Rep imm m (a.eval x) av := by
  intro x av h
  cases x with
  | tmp t => obtain ⟨v, e, r⟩ := hf.eval h; rw [e]; exact r
  | const v => cases h; exact .c v
  | global g => cases h
  | func f => cases h; exact .fn f [] [] [] [] rfl rfl (fun i h => by simp at h) (fun i h => by simp at h)

theorem putA_sound {d : Option Tmp} {av : AV} {K : AF → Prop} {v : Value} (hf : FOk K0 imm m N a α) (hr : Rep imm m v av) (h : putA N d av α K) :
    ∃ α', FOk K0 imm m N (a.put d v) α' ∧ K α' := by
  cases d with
  | none => exact ⟨α, hf, h⟩
  | some d => exact ⟨_, hf.put h.1 hr, h.2⟩

theorem look_same {α : AF} {d : Nat} {v : AV} (h : look α d = some v) (t : Nat) : look ((d, v) :: α) t = look α t := by
  simp only [look]
  split
  · rename_i e; subst e; exact h.symm
  · rfl

theorem splitA_inv {ops : List Oper} {g : Option (Nat × Bool)} {K : AF → Prop} (h : splitA ops g α K) : ∃ α', (∀ t, look α' t = look α t) ∧ K α' := by
  unfold splitA at h
  split at h
  · exact ⟨α, fun _ => rfl, h⟩
  · replace h := on_elim h; obtain ⟨d, hd, h⟩ := h
    replace h := on_elim h; obtain ⟨v, hv, h⟩ := h
    split at h
    · rename_i b
      cases b
      · exact ⟨_, look_same hv, h.2 rfl⟩
      · exact ⟨_, look_same hv, h.1 rfl⟩
    · exact ⟨α, fun _ => rfl, h⟩

theorem FOk.same {β : AF} (hf : FOk K0 imm m N a α) (h : ∀ t, look β t = look α t) : FOk K0 imm m N a β :=
  ⟨hf.defers, hf.size, fun t av ht => hf.slot t av (by rw [← h]; exact ht)⟩

theorem guardA_sound {ops : List Oper} {o : Oper} {step skip : AF → Prop} (hf : FOk K0 imm m N a α) (h : splitA ops o.guard α fun α => guardA ops o.guard α step skip) :
    (Region.wanted o (yielded ops.toArray a.tmps) = true ∧ ∃ α', FOk K0 imm m N a α' ∧ step α') ∨ (Region.wanted o (yielded ops.toArray a.tmps) = false ∧ ∃ α', FOk K0 imm m N a α' ∧ skip α') := by
  obtain ⟨β, hβ, h⟩ := splitA_inv h
  replace hf := hf.same hβ
  clear hβ
  unfold guardA at h
  cases hg : o.guard with
  | none => rw [hg] at h; exact .inl ⟨by simp [Region.wanted, hg], β, hf, h⟩
  | some g =>
    obtain ⟨j, want⟩ := g
    rw [hg] at h
    replace h := on_elim h; obtain ⟨d, hd, h⟩ := h
    replace h := on_elim h; obtain ⟨v, hv, h⟩ := h
    obtain ⟨u, hu, r⟩ := hf.slot d v hv
    have hj : ((ops.toArray[j]?).bind (·.dst)).bind (a.tmps[·]?) = some u := by
      simp only [List.getElem?_toArray, hd, Option.bind_some, hu]
    split at h
    · have := r.c_inv
      subst this
      have hy : yielded ops.toArray a.tmps j = some true := by simp only [yielded, hj]
      cases want
      · exact .inr ⟨by simp [Region.wanted, hg, hy], β, hf, h⟩
      · exact .inl ⟨by simp [Region.wanted, hg, hy], β, hf, h⟩
    · have := r.c_inv
      subst this
      have hy : yielded ops.toArray a.tmps j = some false := by simp only [yielded, hj]
      cases want
      · exact .inl ⟨by simp [Region.wanted, hg, hy], β, hf, h⟩
      · exact .inr ⟨by simp [Region.wanted, hg, hy], β, hf, h⟩
    · have := r.c_inv
      subst this
      have hy : yielded ops.toArray a.tmps j = none := by simp only [yielded, hj]
      exact .inr ⟨by simp [Region.wanted, hg, hy], β, hf, h⟩
    · exact h.elim

/-- What an operation's outcome gives the rest. -/
theorem uponIn_of_up {o : Oper} {Kont : AV → Store → Prop} {next : Act → World → Prop} {Q : Exit → Act → World → Prop} {r : Result Next}
    (hup : Up P K0 imm m Kont r) (hnext : ∀ imm' m' v av σ' w', ILe imm imm' → OLe m m' → Sim K0 imm' m' w' σ' → Rep imm' m' v av → Kont av σ' → next (a.put o.dst v) w') :
    o.uponIn (Rnd rd) 0 P a next Q r := by
  cases r with
  | halt x w' => exact hup.elim
  | ok n w' =>
    cases n with
    | value v => obtain ⟨i, m', av, σ', a1, a2, a3, a4, a5⟩ := hup; exact hnext _ _ _ _ _ _ a1 a2 a3 a4 a5
    | skip => obtain ⟨i, m', av, σ', a1, a2, a3, a4, a5⟩ := hup; exact hnext _ _ _ _ _ _ a1 a2 a3 a4 a5
    | enter f args =>
      refine ⟨fun h => (by rw [Rnd_depth] at h; cases h), ?_⟩
      have h : CallsIn Fence.wide 0 P f args w' fun e w'' => ∃ imm' m' v r σ', e = .returned v ∧ ILe imm imm' ∧ OLe m m' ∧ Sim K0 imm' m' w'' σ' ∧ Rep imm' m' v r ∧ Kont r σ' := callsIn_wide.2 hup
      have h' : CallsIn (Rnd rd) 0 P f args w' fun e w'' => ∃ imm' m' v r σ', e = .returned v ∧ ILe imm imm' ∧ OLe m m' ∧ Sim K0 imm' m' w'' σ' ∧ Rep imm' m' v r ∧ Kont r σ' := by
        cases rd <;> exact h
      refine CallsIn.mono h' ?_
      rintro e w'' ⟨i, m', v, av, σ', rfl, a1, a2, a3, a4, a5⟩
      exact hnext _ _ _ _ _ _ a1 a2 a3 a4 a5
    | round l f tmps assign body =>
      refine ⟨fun h => (by rw [Rnd_depth] at h; cases h), ?_⟩
      have h' : RoundIn (Rnd rd) 0 P l f tmps assign body w' fun e w'' => ∃ imm' m' v r σ', e = .returned v ∧ ILe imm imm' ∧ OLe m m' ∧ Sim K0 imm' m' w'' σ' ∧ Rep imm' m' v r ∧ Kont r σ' := by
        cases rd <;> exact hup
      refine RoundIn.mono h' ?_
      rintro e w'' ⟨i, m', v, av, σ', rfl, a1, a2, a3, a4, a5⟩
      exact hnext _ _ _ _ _ _ a1 a2 a3 a4 a5
    | _ => exact hup.elim

theorem wpIn_of_up {o : Oper} {Kont : AV → Store → Prop} {next : Act → World → Prop} {Q : Exit → Act → World → Prop} (hnd : ∀ c, o.op ≠ .defer c)
    (hup : Up P K0 imm m Kont ((execOp a.eval o).run P w)) (hnext : ∀ imm' m' v av σ' w', ILe imm imm' → OLe m m' → Sim K0 imm' m' w' σ' → Rep imm' m' v av → Kont av σ' → next (a.put o.dst v) w') :
    o.wpIn (Rnd rd) 0 P a w next Q := by
  refine ⟨fun f _ => Rnd_fn _ _, ?_⟩
  have hsem : o.semAt (Rnd rd).round a.eval = execOp a.eval o := by
    rw [Rnd_round]
    cases rd with
    | none => exact Oper.semAt_none ..
    | some l => exact Oper.semAt_some _ _ _ hnd
  rw [hsem]
  exact uponIn_of_up hup hnext

theorem uponIn_mono {F : Fence} {n : Nat} {o : Oper} {K K' : Act → World → Prop} {Q Q' : Exit → Act → World → Prop} (hk : ∀ a w, K a w → K' a w) (hq : ∀ e a w, Q e a w → Q' e a w) {r : Result Next} (h : o.uponIn F n P a K Q r) : o.uponIn F n P a K' Q' r := by
  cases r with
  | ok nx w' =>
    cases nx <;> simp only [Oper.uponIn] at h ⊢ <;>
      first
        | exact hk _ _ h
        | exact ⟨h.1, CallsIn.mono h.2 (fun e w'' he => by cases e <;> first | exact hk _ _ he | exact hq _ _ _ he | (obtain ⟨a, w, h⟩ := he; exact ⟨a, w, hq _ _ _ h⟩))⟩
        | exact ⟨h.1, RoundIn.mono h.2 (fun e w'' he => by cases e <;> first | exact hk _ _ he | exact hq _ _ _ he | (obtain ⟨a, w, h⟩ := he; exact ⟨a, w, hq _ _ _ h⟩))⟩
        | exact ⟨h.1, RowsIn.mono h.2 (fun _ _ he => hk _ _ he)⟩
        | exact h
  | halt x w' => cases x <;> simp only [Oper.uponIn] at h ⊢ <;> first | exact hq _ _ _ h | exact h

theorem wpListIn_mono {F : Fence} {n : Nat} {ops : Array Oper} {Q Q' : Exit → Act → World → Prop} (hq : ∀ e a w, Q e a w → Q' e a w) : ∀ (l : List Oper) (a : Act) (w : World), wpListIn F n P ops Q l a w → wpListIn F n P ops Q' l a w := by
  intro l
  induction l with
  | nil => intro a w h; exact hq _ _ _ h
  | cons o r ih =>
    intro a w h
    unfold wpListIn at h ⊢
    split
    · rename_i hw
      rw [if_pos hw] at h
      exact ⟨h.1, uponIn_mono ih hq h.2⟩
    · rename_i hw
      rw [if_neg hw] at h
      exact ⟨h.1, ih _ _ h.2⟩

theorem AOp_noDefer {op : Op} {ev : Operand → Option AV} {K : AV → Store → Prop} (h : AOp P op ev σ K) : ∀ c, op ≠ .defer c := by
  rintro c rfl
  exact h

theorem areg_sound {ops : List Oper} {Q : Post} : ∀ (l : List Oper) (α : AF) (σ : Store) (imm : Imm) (m : Own) (w : World) (a : Act), Sim K0 imm m w σ → FOk K0 imm m N a α →
    areg P N ops (fun α σ => Q .normal α σ) l α σ → wpListIn (Rnd rd) 0 P ops.toArray (lift K0 N imm m Q) l a w := by
  intro l
  induction l with
  | nil => intro α σ imm m w a hs hf h; exact ⟨imm, m, α, σ, .refl _, .refl _, hs, hf, h⟩
  | cons o r ih =>
    intro α σ imm m w a hs hf h
    have mono : ∀ (imm' : Imm) (m' : Own), ILe imm imm' → OLe m m' → ∀ a' w', wpListIn (Rnd rd) 0 P ops.toArray (lift K0 N imm' m' Q) r a' w' → wpListIn (Rnd rd) 0 P ops.toArray (lift K0 N imm m Q) r a' w' := by
      intro imm' m' hi ho
      have hq : ∀ e a w, lift K0 N imm' m' Q e a w → lift K0 N imm m Q e a w := fun e a w h => lift_mono hi ho h
      exact wpListIn_mono hq r
    simp only [areg] at h
    unfold wpListIn
    rcases guardA_sound hf h with ⟨hw, β, hfb, h⟩ | ⟨hw, β, hfb, h⟩
    · rw [if_pos hw]
      have hup := AOp_sound (dst := o.dst) (type := o.type) (pos := o.pos) (after := o.after) (guard := o.guard) o.op hs (evF_rep hfb) h
      refine wpIn_of_up (AOp_noDefer h) hup fun imm' m' v av σ' w' hi ho hs' hr hk => ?_
      obtain ⟨α', hf', hk'⟩ := putA_sound (hfb.mono hi ho) hr hk
      exact mono imm' m' hi ho _ _ (ih α' σ' imm' m' w' _ hs' hf' hk')
    · rw [if_neg (by rw [hw]; simp)]
      obtain ⟨α', hf', hk'⟩ := putA_sound hfb (.c undef) h
      exact ⟨fun f _ => Rnd_fn _ _, ih α' σ imm m w _ hs hf' hk'⟩

theorem AWP_region {id : Nat} {ops : List Oper} {Q : Post} (h : areg P N ops (fun α σ => Q .normal α σ) ops α σ) : AWPr rd P N (.region id ops.toArray false) Q α σ :=
  fun _ imm m w a hs hf => wpIn_region_lit (areg_sound ops α σ imm m w a hs hf h)
end
end Go.Proofs.Ytephecognbbaoab
