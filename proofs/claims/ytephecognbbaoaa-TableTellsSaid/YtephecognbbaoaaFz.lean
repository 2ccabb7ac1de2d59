/- Freezing an own slice; contracts cut off behind the caller's store; weakening. -/
import Derived.Test.YtephecognbbaoaaAo
import Derived.TacticsIn
import Derived.RangeFuncRecord
namespace Go.Proofs.Ytephecognbbaoaa
open Go
set_option linter.all false

def evF (α : AF) : Operand → Option AV
  | .tmp t => look α t
  | .const v => some (.c v)
  | .global _ => none
  | .func f => some (.fn f [] [])

/-- A slot is written. -/
def putA (N : Nat) (d : Option Tmp) (av : AV) (α : AF) (K : AF → Prop) : Prop :=
  match d with
  | some d => d < N ∧ K ((d, av) :: α)
  | none => K α

/-- Is the operation wanted? What its guard was is known behind it. -/
def guardA (ops : List Oper) (g : Option (Nat × Bool)) (α : AF) (step skip : AF → Prop) : Prop :=
  match g with
  | none => step α
  | some (j, want) => on ((ops[j]?).bind (·.dst)) fun d => on (look α d) fun v => match v with
    | .c (.bool true) => match want with | true => step α | false => skip α
    | .c (.bool false) => match want with | true => skip α | false => step α
    | .c (.tuple _) => skip α
    | _ => False

/-- A slot whose Bool is not decided is decided first. -/
def splitA (ops : List Oper) (g : Option (Nat × Bool)) (α : AF) (K : AF → Prop) : Prop :=
  match g with
  | none => K α
  | some (j, _) => on ((ops[j]?).bind (·.dst)) fun d => on (look α d) fun v => match v with
    | .c (.bool b) => match b with
      | b => splitB b (K ((d, .c (.bool true)) :: α)) (K ((d, .c (.bool false)) :: α))
    | _ => K α

def areg (P : Program) (N : Nat) (ops : List Oper) (K : AF → Store → Prop) : List Oper → AF → Store → Prop
  | [], α, σ => K α σ
  | o :: r, α, σ => splitA ops o.guard α fun α => guardA ops o.guard α
      (fun α => AOp P o.op (evF α) σ fun av σ' => putA N o.dst av α fun α' => areg P N ops K r α' σ')
      (fun α => putA N o.dst (.c undef) α fun α' => areg P N ops K r α' σ)

section
variable {rd : Option Nat} {P : Program} {N : Nat} {K0 : World} {imm : Imm} {m : Own} {w : World} {α : AF} {σ : Store} {a : Act}

theorem evF_rep (hf : FOk K0 imm m N a α) : ∀ x av, evF α x = some av → Rep imm m (a.eval x) av := by
  intro x av h
  cases x with
  | tmp t => obtain ⟨v, e, r⟩ := hf.eval h; rw [e]; exact r
  | const v => cases h; exact .c v
  | global g => cases h
  | func f => cases h; exact .fn f [] [] [] [] rfl rfl (fun i h => by simp at h) (fun i h => by simp at h)

theorem putA_sound {d : Option Tmp} {av : AV} {K : AF → Prop} {v : Value} (hf : FOk K0 imm m N a α) (hr : Rep imm m v av) (h : putA N d av α K) :
    ∃ α', FOk K0 imm m N (a.put d v) α' ∧ K α' := by
  cases d with
  | none => exact ⟨α, hf, h⟩
  | some d => exact ⟨_, hf.put h.1 hr, h.2⟩

theorem look_same {α : AF} {d : Nat} {v : AV} (h : look α d = some v) (t : Nat) : look ((d, v) :: α) t = look α t := by
  simp only [look]
  split
  · rename_i e; subst e; exact h.symm
  · rfl

theorem splitA_inv {ops : List Oper} {g : Option (Nat × Bool)} {K : AF → Prop} (h : splitA ops g α K) : ∃ α', (∀ t, look α' t = look α t) ∧ K α' := by
  unfold splitA at h
  split at h
  · exact ⟨α, fun _ => rfl, h⟩
  · replace h := on_elim h; obtain ⟨d, hd, h⟩ := h
    replace h := on_elim h; obtain ⟨v, hv, h⟩ := h
    split at h
    · rename_i b
      cases b
      · exact ⟨_, look_same hv, h.2 rfl⟩
      · exact ⟨_, look_same hv, h.1 rfl⟩
    · exact ⟨α, fun _ => rfl, h⟩

theorem FOk.same {β : AF} (hf : FOk K0 imm m N a α) (h : ∀ t, look β t = look α t) : FOk K0 imm m N a β :=
  ⟨hf.defers, hf.size, fun t av ht => hf.slot t av (by rw [← h]; exact ht)⟩

theorem guardA_sound {ops : List Oper} {o : Oper} {step skip : AF → Prop} (hf : FOk K0 imm m N a α) (h : splitA ops o.guard α fun α => guardA ops o.guard α step skip) :
    (Region.wanted o (yielded ops.toArray a.tmps) = true ∧ ∃ α', FOk K0 imm m N a α' ∧ step α') ∨ (Region.wanted o (yielded ops.toArray a.tmps) = false ∧ ∃ α', FOk K0 imm m N a α' ∧ skip α') := by
  obtain ⟨β, hβ, h⟩ := splitA_inv h
  replace hf := hf.same hβ
  clear hβ
  unfold guardA at h
  cases hg : o.guard with
  | none => rw [hg] at h; exact .inl ⟨by simp [Region.wanted, hg], β, hf, h⟩
  | some g =>
    obtain ⟨j, want⟩ := g
    rw [hg] at h
    replace h := on_elim h; obtain ⟨d, hd, h⟩ := h
    replace h := on_elim h; obtain ⟨v, hv, h⟩ := h
    obtain ⟨u, hu, r⟩ := hf.slot d v hv
    have hj : ((ops.toArray[j]?).bind (·.dst)).bind (a.tmps[·]?) = some u := by
      simp only [List.getElem?_toArray, hd, Option.bind_some, hu]
    split at h
    · have := r.c_inv
      subst this
      have hy : yielded ops.toArray a.tmps j = some true := by simp only [yielded, hj]
      cases want
      · exact .inr ⟨by simp [Region.wanted, hg, hy], β, hf, h⟩
      · exact .inl ⟨by simp [Region.wanted, hg, hy], β, hf, h⟩
    · have := r.c_inv
      subst this
      have hy : yielded ops.toArray a.tmps j = some false := by simp only [yielded, hj]
      cases want
      · exact .inl ⟨by simp [Region.wanted, hg, hy], β, hf, h⟩
      · exact .inr ⟨by simp [Region.wanted, hg, hy], β, hf, h⟩
    · have := r.c_inv
      subst this
      have hy : yielded ops.toArray a.tmps j = none := by simp only [yielded, hj]
      exact .inr ⟨by simp [Region.wanted, hg, hy], β, hf, h⟩
    · exact h.elim

/-- What an operation's outcome gives the rest. -/
theorem uponIn_of_up {o : Oper} {Kont : AV → Store → Prop} {next : Act → World → Prop} {Q : Exit → Act → World → Prop} {r : Result Next}
    (hup : Up P K0 imm m Kont r) (hnext : ∀ imm' m' v av σ' w', ILe imm imm' → OLe m m' → Sim K0 imm' m' w' σ' → Rep imm' m' v av → Kont av σ' → next (a.put o.dst v) w') :
    o.uponIn (Rnd rd) 0 P a next Q r := by
  cases r with
  | halt x w' => exact hup.elim
  | ok n w' =>
    cases n with
    | value v => obtain ⟨i, m', av, σ', a1, a2, a3, a4, a5⟩ := hup; exact hnext _ _ _ _ _ _ a1 a2 a3 a4 a5
    | skip => obtain ⟨i, m', av, σ', a1, a2, a3, a4, a5⟩ := hup; exact hnext _ _ _ _ _ _ a1 a2 a3 a4 a5
    | enter f args =>
      refine ⟨fun h => (by rw [Rnd_depth] at h; cases h), ?_⟩
      have h : CallsIn Fence.wide 0 P f args w' fun e w'' => ∃ imm' m' v r σ', e = .returned v ∧ ILe imm imm' ∧ OLe m m' ∧ Sim K0 imm' m' w'' σ' ∧ Rep imm' m' v r ∧ Kont r σ' := callsIn_wide.2 hup
      have h' : CallsIn (Rnd rd) 0 P f args w' fun e w'' => ∃ imm' m' v r σ', e = .returned v ∧ ILe imm imm' ∧ OLe m m' ∧ Sim K0 imm' m' w'' σ' ∧ Rep imm' m' v r ∧ Kont r σ' := by
        cases rd <;> exact h
      refine CallsIn.mono h' ?_
      rintro e w'' ⟨i, m', v, av, σ', rfl, a1, a2, a3, a4, a5⟩
      exact hnext _ _ _ _ _ _ a1 a2 a3 a4 a5
    | round l f tmps assign body =>
      refine ⟨fun h => (by rw [Rnd_depth] at h; cases h), ?_⟩
      have h' : RoundIn (Rnd rd) 0 P l f tmps assign body w' fun e w'' => ∃ imm' m' v r σ', e = .returned v ∧ ILe imm imm' ∧ OLe m m' ∧ Sim K0 imm' m' w'' σ' ∧ Rep imm' m' v r ∧ Kont r σ' := by
        cases rd <;> exact hup
      refine RoundIn.mono h' ?_
      rintro e w'' ⟨i, m', v, av, σ', rfl, a1, a2, a3, a4, a5⟩
      exact hnext _ _ _ _ _ _ a1 a2 a3 a4 a5
    | _ => exact hup.elim

theorem wpIn_of_up {o : Oper} {Kont : AV → Store → Prop} {next : Act → World → Prop} {Q : Exit → Act → World → Prop} (hnd : ∀ c, o.op ≠ .defer c)
    (hup : Up P K0 imm m Kont ((execOp a.eval o).run P w)) (hnext : ∀ imm' m' v av σ' w', ILe imm imm' → OLe m m' → Sim K0 imm' m' w' σ' → Rep imm' m' v av → Kont av σ' → next (a.put o.dst v) w') :
    o.wpIn (Rnd rd) 0 P a w next Q := by
  refine ⟨fun f _ => Rnd_fn _ _, ?_⟩
  have hsem : o.semAt (Rnd rd).round a.eval = execOp a.eval o := by
    rw [Rnd_round]
    cases rd with
    | none => exact Oper.semAt_none ..
    | some l => exact Oper.semAt_some _ _ _ hnd
  rw [hsem]
  exact uponIn_of_up hup hnext

theorem uponIn_mono {F : Fence} {n : Nat} {o : Oper} {K K' : Act → World → Prop} {Q Q' : Exit → Act → World → Prop} (hk : ∀ a w, K a w → K' a w) (hq : ∀ e a w, Q e a w → Q' e a w) {r : Result Next} (h : o.uponIn F n P a K Q r) : o.uponIn F n P a K' Q' r := by
  cases r with
  | ok nx w' =>
    cases nx <;> simp only [Oper.uponIn] at h ⊢ <;>
      first
        | exact hk _ _ h
        | exact ⟨h.1, CallsIn.mono h.2 (fun e w'' he => by cases e <;> first | exact hk _ _ he | exact hq _ _ _ he | (obtain ⟨a, w, h⟩ := he; exact ⟨a, w, hq _ _ _ h⟩))⟩
        | exact ⟨h.1, RoundIn.mono h.2 (fun e w'' he => by cases e <;> first | exact hk _ _ he | exact hq _ _ _ he | (obtain ⟨a, w, h⟩ := he; exact ⟨a, w, hq _ _ _ h⟩))⟩
        | exact ⟨h.1, RowsIn.mono h.2 (fun _ _ he => hk _ _ he)⟩
        | exact h
  | halt x w' => cases x <;> simp only [Oper.uponIn] at h ⊢ <;> first | exact hq _ _ _ h | exact h

theorem wpListIn_mono {F : Fence} {n : Nat} {ops : Array Oper} {Q Q' : Exit → Act → World → Prop} (hq : ∀ e a w, Q e a w → Q' e a w) : ∀ (l : List Oper) (a : Act) (w : World), wpListIn F n P ops Q l a w → wpListIn F n P ops Q' l a w := by
  intro l
  induction l with
  | nil => intro a w h; exact hq _ _ _ h
  | cons o r ih =>
    intro a w h
    unfold wpListIn at h ⊢
    split
    · rename_i hw
      rw [if_pos hw] at h
      exact ⟨h.1, uponIn_mono ih hq h.2⟩
    · rename_i hw
      rw [if_neg hw] at h
      exact ⟨h.1, ih _ _ h.2⟩

theorem AOp_noDefer {op : Op} {ev : Operand → Option AV} {K : AV → Store → Prop} (h : AOp P op ev σ K) : ∀ c, op ≠ .defer c := by
  rintro c rfl
  exact h

theorem areg_sound {ops : List Oper} {Q : Post} : ∀ (l : List Oper) (α : AF) (σ : Store) (imm : Imm) (m : Own) (w : World) (a : Act), Sim K0 imm m w σ → FOk K0 imm m N a α →
    areg P N ops (fun α σ => Q .normal α σ) l α σ → wpListIn (Rnd rd) 0 P ops.toArray (lift K0 N imm m Q) l a w := by
  intro l
  induction l with
  | nil => intro α σ imm m w a hs hf h; exact ⟨imm, m, α, σ, .refl _, .refl _, hs, hf, h⟩
  | cons o r ih =>
    intro α σ imm m w a hs hf h
    have mono : ∀ (imm' : Imm) (m' : Own), ILe imm imm' → OLe m m' → ∀ a' w', wpListIn (Rnd rd) 0 P ops.toArray (lift K0 N imm' m' Q) r a' w' → wpListIn (Rnd rd) 0 P ops.toArray (lift K0 N imm m Q) r a' w' := by
      intro imm' m' hi ho
      have hq : ∀ e a w, lift K0 N imm' m' Q e a w → lift K0 N imm m Q e a w := fun e a w h => lift_mono hi ho h
      exact wpListIn_mono hq r
    simp only [areg] at h
    unfold wpListIn
    rcases guardA_sound hf h with ⟨hw, β, hfb, h⟩ | ⟨hw, β, hfb, h⟩
    · rw [if_pos hw]
      have hup := AOp_sound (dst := o.dst) (type := o.type) (pos := o.pos) (after := o.after) (guard := o.guard) o.op hs (evF_rep hfb) h
      refine wpIn_of_up (AOp_noDefer h) hup fun imm' m' v av σ' w' hi ho hs' hr hk => ?_
      obtain ⟨α', hf', hk'⟩ := putA_sound (hfb.mono hi ho) hr hk
      exact mono imm' m' hi ho _ _ (ih α' σ' imm' m' w' _ hs' hf' hk')
    · rw [if_neg (by rw [hw]; simp)]
      obtain ⟨α', hf', hk'⟩ := putA_sound hfb (.c undef) h
      exact ⟨fun f _ => Rnd_fn _ _, ih α' σ imm m w _ hs hf' hk'⟩

theorem AWP_region {id : Nat} {ops : List Oper} {Q : Post} (h : areg P N ops (fun α σ => Q .normal α σ) ops α σ) : AWPr rd P N (.region id ops.toArray false) Q α σ :=
  fun _ imm m w a hs hf => wpIn_region_lit (areg_sound ops α σ imm m w a hs hf h)
end
end Go.Proofs.Ytephecognbbaoaa
namespace Go.Proofs.Ytephecognbbaoaa
open Go
set_option linter.all false

def resA (P : Program) (α : AF) (σ : Store) : List ResultVar → Option (List AV)
  | [] => some []
  | .tmp t :: r => (look α t).bind fun v => (resA P α σ r).bind fun l => some (v :: l)
  | .cell s T :: r => (look α s).bind fun p => (loadA P σ T p).bind fun v => (resA P α σ r).bind fun l => some (v :: l)

def oneOf : List AV → AV
  | [v] => v
  | l => .tup l

/-- Where a function ends. -/
def retQ (P : Program) (rs : List ResultVar) (R : AV → Store → Prop) : Post := fun e α σ =>
  match e with
  | .normal => on (resA P α σ rs) fun l => R (oneOf l) σ
  | .ret => on (resA P α σ rs) fun l => R (oneOf l) σ
  | _ => False

def enterA : Nat → List AV → AF
  | _, [] => []
  | i, v :: r => (i, v) :: enterA (i + 1) r

section
variable {P : Program} {K0 : World} {imm : Imm} {m : Own} {w : World} {α : AF} {σ : Store} {a : Act}

theorem enterA_look : ∀ (vs : List AV) (i t : Nat) (av : AV), look (enterA i vs) t = some av → ∃ (h : t - i < vs.length), i ≤ t ∧ vs[t - i] = av := by
  intro vs
  induction vs with
  | nil => intro i t av h; cases h
  | cons v r ih =>
    intro i t av h
    simp only [enterA, look] at h
    split at h
    · rename_i e
      subst e
      cases h
      exact ⟨by simp, Nat.le_refl _, by simp⟩
    · rename_i hne
      obtain ⟨h1, h2, h3⟩ := ih (i + 1) t av h
      have e : t - i = t - (i + 1) + 1 := by omega
      refine ⟨by simp only [List.length_cons]; omega, by omega, ?_⟩
      simp only [e, List.getElem_cons_succ]
      exact h3

def resOne (tmps : Array Value) (x : ResultVar) : Sem Value :=
  match x with
  | .tmp t => pure (tmps.getD t undef)
  | .cell a t => do loadVar t (← asAddr (tmps.getD a undef))

theorem results_eq (fn : Func) (tmps : Array Value) : results fn tmps = (do
    let vs ← fn.results.mapM (resOne tmps)
    pure (if h : vs.size = 1 then vs[0] else .tuple vs)) := rfl

theorem results_run {fn : Func} {rs : List ResultVar} (hrs : fn.results = rs.toArray) {N : Nat} (hs : Sim K0 imm m w σ) (hf : FOk K0 imm m N a α) {l : List AV} (h : resA P α σ rs = some l) :
    ∃ v, (results fn a.tmps).run P w = .ok v w ∧ Rep imm m v (oneOf l) := by
  have key : ∀ (rs : List ResultVar) (l : List AV), resA P α σ rs = some l → ∃ vs : List Value, (rs.mapM (resOne a.tmps)).run P w = .ok vs w ∧ RepL imm m vs l := by
    intro rs
    induction rs with
    | nil => intro l h; cases h; exact ⟨[], rfl, rfl, fun i h => by simp at h⟩
    | cons x r ih =>
      intro l h
      have cons : ∀ {v : Value} {av : AV} {vs : List Value} {l' : List AV}, Rep imm m v av → RepL imm m vs l' → RepL imm m (v :: vs) (av :: l') := fun {v av vs l'} h1 h2 =>
        ⟨by simp [h2.1], fun i hi1 hi2 => by
          cases i with
          | zero => exact h1
          | succ i => exact h2.2 i (by simpa using hi1) (by simpa using hi2)⟩
      cases x with
      | tmp t =>
        simp only [resA, Option.bind_eq_some_iff] at h
        obtain ⟨av, hav, l', hl, e⟩ := h
        cases e
        obtain ⟨vs, h1, h2⟩ := ih l' hl
        obtain ⟨u, hu, r1⟩ := hf.slot t av hav
        refine ⟨u :: vs, ?_, cons r1 h2⟩
        simp only [List.mapM_cons, resOne, Sem.run_bind, Sem.run_pure, Result.andThen_ok, h1]
        simp [hu]
      | cell s T =>
        simp only [resA, Option.bind_eq_some_iff] at h
        obtain ⟨p, hp, av, hav, l', hl, e⟩ := h
        cases e
        obtain ⟨vs, h1, h2⟩ := ih l' hl
        obtain ⟨u, hu, r1⟩ := hf.slot s p hp
        obtain ⟨x, hx, r2⟩ := load_run hs r1 hav
        refine ⟨x :: vs, ?_, cons r2 h2⟩
        have hptr : ∃ ad, u = .pointer (some ad) := by
          unfold loadA at hav
          split at hav
          · cases r1; exact ⟨_, rfl⟩
          · cases r1; exact ⟨_, rfl⟩
          · cases hav
        obtain ⟨ad, rfl⟩ := hptr
        simp only [Instr.loadAt, Instr.sureAddr, Sem.run_bind, Sem.run_pure, Result.andThen_ok] at hx
        have hget : a.tmps.getD s undef = .pointer (some ad) := by simp [hu]
        simp only [List.mapM_cons, resOne, Sem.run_bind, hget, asAddr, Sem.run_pure, Result.andThen_ok, hx, h1]
  obtain ⟨vs, h1, h2⟩ := key rs l h
  have hm : (rs.toArray.mapM (resOne a.tmps)).run P w = .ok vs.toArray w := by
    rw [List.mapM_toArray]
    simp [h1]
  simp only [results_eq, hrs, Sem.run_bind, hm, Result.andThen_ok, Sem.run_pure]
  match hvs : vs, hl : l, h2 with
  | [], [], h2 => exact ⟨_, rfl, .tup [] [] rfl (fun i h => by simp at h)⟩
  | [v], [av], h2 => exact ⟨v, rfl, h2.2 0 (by simp) (by simp)⟩
  | v1 :: v2 :: vr, a1 :: a2 :: ar, h2 => exact ⟨.tuple (v1 :: v2 :: vr).toArray, by simp, .tup _ _ h2.1 h2.2⟩
  | [], _ :: _, h2 => exact absurd h2.1 (by simp)
  | _ :: _, [], h2 => exact absurd h2.1 (by simp)
  | [_], _ :: _ :: _, h2 => exact absurd h2.1 (by simp)
  | _ :: _ :: _, [_], h2 => exact absurd h2.1 (by simp)

/-- Only cells count. -/
theorem Rep.cells {imm imm' : Imm} {m : Own} (hi : ∀ b o v, icell imm b o = some v → icell imm' b o = some v) (hmp : ∀ b ents clock, imm b = some (.map ents clock) → imm' b = some (.map ents clock)) {v : Value} {a : AV} (h : Rep imm m v a) : Rep imm' m v a := by
  induction h with
  | c v => exact .c v
  | emp p => exact .emp p
  | agg cs l hl _ ih => exact .agg cs l hl ih
  | tup cs l hl _ ih => exact .tup cs l hl ih
  | sl p cap n es k vals hn hcap hk hp _ ih =>
    refine .sl p cap n es k vals hn hcap hk (fun h0 => ?_) ih
    obtain ⟨b, o, e, hc⟩ := hp h0
    exact ⟨b, o, e, fun i hi' j hj => hi _ _ _ (hc i hi' j hj)⟩
  | cp b o x e off vals hx hc _ ih => exact .cp b o x e off vals hx (fun j hj => hi _ _ _ (hc j hj)) ih
  | own b k s n c cap blk sz x h hn hcc hx hc => exact .own b k s n c cap blk sz x h hn hcc hx hc
  | ptr b k i off blk sz x h hx => exact .ptr b k i off blk sz x h hx
  | fn f fs cs first cap hf hc _ _ ih1 ih2 => exact .fn f fs cs first cap hf hc ih1 ih2
  | mp b blk sz h => exact .mp b blk sz h
  | cm blk es ents clock h hl hk _ ih => exact .cm blk es ents clock (hmp _ _ _ h) hl hk ih

/-- Block r is no more known. -/
def drop1 (imm : Imm) (r : Nat) : Imm := fun b => if b = r then none else imm b

theorem drop1_cells {imm : Imm} {r : Nat} {ds : Option (List Deferred)} (hr : imm r = some (.deferred ds)) : ∀ b i v, icell imm b i = some v → icell (drop1 imm r) b i = some v := by
  intro b i v h
  unfold icell drop1 at *
  by_cases e : b = r
  · subst e
    rw [hr] at h
    cases h
  · rw [if_neg e]
    exact h

theorem drop1_map {imm : Imm} {r : Nat} {ds : Option (List Deferred)} (hr : imm r = some (.deferred ds)) : ∀ b ents clock, imm b = some (.map ents clock) → drop1 imm r b = some (.map ents clock) := by
  intro b ents clock h
  unfold drop1
  rw [if_neg (fun e => by subst e; rw [hr] at h; cases h)]
  exact h

theorem Sim.shut {imm : Imm} (hs : Sim K0 imm m w σ) {r : Nat} {ds : Option (List Deferred)} (hr : imm r = some (.deferred ds)) (o' : Obj) : Sim K0 (drop1 imm r) m (w.putObj r o') σ := by
  have hne : ∀ blk, imm blk = none → blk ≠ r := fun blk h e => by rw [e, hr] at h; cases h
  have hR : ∀ {v : Value} {a : AV}, Rep imm m v a → Rep (drop1 imm r) m v a := fun h => h.cells (drop1_cells hr) (drop1_map hr)
  have hd : ∀ blk, imm blk = none → drop1 imm r blk = none := fun blk h => by unfold drop1; split <;> first | rfl | exact h
  refine ⟨hs.os, hs.tape, hs.output, by rw [World.putObj_size]; exact hs.size, fun b ob h => ?_, hs.dom, fun id hid => ?_, hs.inj⟩
  · unfold drop1 at h
    split at h
    · cases h
    · rename_i e
      rw [World.putObj_heap_other e]
      exact hs.imm_ok b ob h
  · have := hs.obs id hid
    revert this
    cases σ[id] with
    | res => exact fun h => h
    | dead => exact fun _ => trivial
    | cells k es =>
      rintro ⟨blk, sz, h1, h2, cs, T, fr, h3, h4, h5, h6, h7⟩
      exact ⟨blk, sz, h1, hd _ h2, cs, T, fr, by rw [World.putObj_heap_other (hne _ h2)]; exact h3, h4, h5, h6, fun i hi => ⟨(h7 i hi).1, fun j hj => let ⟨v, e, q⟩ := (h7 i hi).2 j hj; ⟨v, e, hR q⟩⟩⟩
    | map es =>
      rintro ⟨blk, sz, h1, h2, ents, clock, h3, h4, h5, h6⟩
      exact ⟨blk, sz, h1, hd _ h2, ents, clock, by rw [World.putObj_heap_other (hne _ h2)]; exact h3, h4, h5, fun i hi hj => hR (h6 i hi hj)⟩
    | lp l al N rc =>
      rintro ⟨blk, sz, h1, h2, h3, h4, h5, h6, h7⟩
      exact ⟨blk, sz, h1, hd _ h2, h3, by rw [World.putObj_heap_other (hne _ h2)]; exact h4, h5, fun t av ht => let ⟨v, e, q⟩ := h6 t av ht; ⟨v, e, hR q⟩, h7⟩

/-- On the way out the marks are taken up, one by one. -/
theorem leave_marks {F : Fence} {n : Nat} {fn : Func} {tmps : Array Value} {R : Ending → World → Prop} : ∀ (rs : List Nat) (imm : Imm) (w : World), rs.Nodup → (∀ r ∈ rs, K0.heap.size ≤ r ∧ imm r = some (.deferred (some []))) → Sim K0 imm m w σ →
    (∀ imm' w', (∀ b, b < K0.heap.size → imm' b = imm b) → (∀ b i v, icell imm b i = some v → icell imm' b i = some v) → (∀ b ents clock, imm b = some (.map ents clock) → imm' b = some (.map ents clock)) → Sim K0 imm' m w' σ → LeavesIn F n P fn tmps R [] .returning w') → LeavesInM F n P fn tmps R (rs.map mark) .returning w
  | [], imm, w, _, _, hs, h => h imm w (fun _ _ => rfl) (fun _ _ _ h => h) (fun _ _ _ h => h) hs
  | r :: rs, imm, w, hn, hr, hs, h => by
    obtain ⟨h1, h2⟩ := hr r (by simp)
    have hcells := drop1_cells h2
    refine ⟨by simp, .inl ⟨r, _, rfl, run_takeDeferred (hs.imm_ok r _ h2), ?_⟩⟩
    refine leave_marks rs (drop1 imm r) _ (List.nodup_cons.1 hn).2 (fun r' hr' => ?_) (hs.shut h2 _) (fun imm' w' e1 e2 e3 hs' => h imm' w' (fun b hb => ?_) (fun b i v hv => e2 _ _ _ (hcells _ _ _ hv)) (fun b ents clock hv => e3 _ _ _ (drop1_map h2 _ _ _ hv)) hs')
    · refine ⟨(hr r' (by simp [hr'])).1, ?_⟩
      unfold drop1
      rw [if_neg (fun e : r' = r => (List.nodup_cons.1 hn).1 (e ▸ hr'))]
      exact (hr r' (by simp [hr'])).2
    · rw [e1 b hb]
      unfold drop1
      rw [if_neg (by omega)]

/-- A function's contract out of its body. -/
theorem ACalls_of_awp {f : FuncId} {fn : Func} {c : Code} {rs : List ResultVar} {args : List AV} {R : AV → Store → Prop} (hf : P.funcs[f]? = some fn) (hb : fn.body = some c) (hrs : fn.results = rs.toArray)
    (h : AWP P (args.length + (fn.ntmps - args.length)) c (retQ P rs R) (enterA 0 args) σ) : ACalls P f args σ R := by
  intro K imm m w vs hs0 hv
  have hs : Sim w imm m w σ := ⟨rfl, rfl, rfl, Nat.le_refl _, hs0.imm_ok, hs0.dom, hs0.obs, hs0.inj⟩
  refine callsIn_wide (n := 0) |>.1 (callsIn_of_wp_marks hf hb trivial ?_ rfl)
  have hlen := hv.1
  have hfok : FOk w imm m (args.length + (fn.ntmps - args.length)) { tmps := vs.toArray ++ Array.replicate (fn.ntmps - vs.toArray.size) undef, defers := [] } (enterA 0 args) := by
    refine ⟨Marks.nil _ _, by simp [hlen], fun t av ht => ?_⟩
    obtain ⟨h1, _, h3⟩ := enterA_look args 0 t av ht
    simp only [Nat.sub_zero] at h1 h3
    subst h3
    refine ⟨vs[t], ?_, hv.2 t (by omega) h1⟩
    rw [Array.getElem?_append_left (by simp; omega)]
    simp
  refine Code.wpIn_mono ?_ (h w imm m w _ hs hfok)
  rintro e a' w' ⟨i, o, α', σ', hi, ho, hs', hf', hq⟩
  have fin : ∀ l, resA P α' σ' rs = some l → R (oneOf l) σ' → LeavesInM Fence.wide 0 P fn a'.tmps (fun e w' => ∃ imm' m' v r σ', e = .returned v ∧ ILe imm imm' ∧ OLe m m' ∧ Sim K imm' m' w' σ' ∧ Rep imm' m' v r ∧ R r σ') a'.defers .returning w' := by
    intro l hl hR
    obtain ⟨ms, hn, hms, hm⟩ := hf'.defers
    rw [hms]
    refine leave_marks ms i w' hn hm hs' ?_
    intro imm' w'' e1 e2 e3 hs''
    have hf'' : FOk w imm' o (args.length + (fn.ntmps - args.length)) { a' with defers := [] } α' := ⟨Marks.nil _ _, hf'.size, fun t av ht => let ⟨v, hv, r⟩ := hf'.slot t av ht; ⟨v, hv, r.cells e2 e3⟩⟩
    obtain ⟨v, hv, r⟩ := results_run hrs hs'' hf'' hl
    refine ⟨v, hv, imm', o, v, _, σ', rfl, fun b ob hb => ?_, ho, ⟨hs''.os.trans hs0.os, hs''.tape.trans hs0.tape, hs''.output.trans hs0.output, Nat.le_trans hs0.size hs''.size, hs''.imm_ok, hs''.dom, hs''.obs, hs''.inj⟩, r, hR⟩
    have hlt : b < w.heap.size := (Array.getElem?_eq_some_iff.1 (hs.imm_ok b ob hb)).1
    rw [e1 b hlt]
    exact hi b ob hb
  cases e with
  | normal => obtain ⟨l, hl, hR⟩ := on_elim hq; exact fin l hl hR
  | ret => obtain ⟨l, hl, hR⟩ := on_elim hq; exact fin l hl hR
  | _ => exact hq.elim
end
end Go.Proofs.Ytephecognbbaoaa
namespace Go.Proofs.Ytephecognbbaoaa
open Go
set_option linter.all false

section
variable {rd : Option Nat} {P : Program} {N : Nat} {K0 : World} {imm : Imm} {m : Own} {w : World} {α : AF} {σ : Store} {a : Act} {Q : Post}

theorem Sim.freeze_reps (hs : Sim K0 imm m w σ) {b k s n c : Nat} {es : List (List AV)} (he : elemsA σ (.own b k s n c) = some es) :
    ∃ imm', ILe imm imm' ∧ Sim K0 imm' m w (σ.set b .dead) ∧ ∀ v, Rep imm m v (.own b k s n c) → Rep imm' m v (.sl es) := by
  rw [elemsA_eq] at he
  simp only [elemsB] at he
  split at he
  · rename_i k' es' hb
    split at he
    · rename_i hc
      obtain ⟨rfl, hle⟩ := hc
      cases he
      obtain ⟨hlt, hob⟩ := List.getElem?_eq_some_iff.1 hb
      have h0 := hs.obs b hlt
      rw [hob] at h0
      obtain ⟨blk, sz, h1, h2, cs, T, fr, h3, h4, h5, h6, h7⟩ := h0
      obtain ⟨imm', hile, hi2, hs'⟩ := hs.freeze hlt (by rw [hob]; rfl) h1 h3
      refine ⟨imm', hile, hs', fun v hr => ?_⟩
      cases hr with
      | own b k s n c cap blk' sz' x hm hn hcc hx hc =>
        rw [h1] at hm
        cases hm
        subst hx
        have hcell : ∀ i (h : i < n) j (hj : j < es'[s + i].length), ∃ u, cs[(s + i) * k' + j]? = some u ∧ Rep imm m u es'[s + i][j] := fun i h j hj => (h7 (s + i) (by omega)).2 j hj
        refine .sl _ cap n _ k' (fun i j => (cs[(s + i) * k' + j]?).getD undef) (by simp; omega) (by omega) (fun i hi => ?_) (fun hpos => ⟨blk, s * k', rfl, fun i hi j hj => ?_⟩) (fun i hi j hj => ?_)
        · simp only [List.getElem_take, List.getElem_drop]
          exact (h7 _ _).1
        · simp only [List.length_take, List.length_drop] at hi
          obtain ⟨u, e, _⟩ := hcell i (by omega) j (by rw [(h7 (s + i) (by omega)).1]; exact hj)
          have e3 : s * k' + (i * k' + j) = (s + i) * k' + j := by rw [Nat.add_mul]; omega
          simp [icell, hi2, e3, e]
        · simp only [List.length_take, List.length_drop] at hi
          simp only [List.getElem_take, List.getElem_drop] at hj ⊢
          obtain ⟨u, e, r⟩ := hcell i (by omega) j hj
          rw [e]
          exact r.mono hile (.refl _)
    · cases he
  · cases he

theorem Sim.freeze_rep (hs : Sim K0 imm m w σ) {v : Value} {b k s n c : Nat} {es : List (List AV)} (hr : Rep imm m v (.own b k s n c)) (he : elemsA σ (.own b k s n c) = some es) :
    ∃ imm', ILe imm imm' ∧ Sim K0 imm' m w (σ.set b .dead) ∧ Rep imm' m v (.sl es) :=
  let ⟨i, h1, h2, h3⟩ := hs.freeze_reps he
  ⟨i, h1, h2, h3 v hr⟩

/-- An own slice in a slot becomes known by its content. -/
theorem AWP_freeze {c : Code} (t : Nat) {b k s n d : Nat} {es : List (List AV)} (hl : look α t = some (.own b k s n d)) (he : elemsA σ (.own b k s n d) = some es)
    (h : AWPr rd P N c Q ((t, .sl es) :: α) (σ.set b .dead)) : AWPr rd P N c Q α σ := by
  intro K imm m w a hs hf
  obtain ⟨v, hv, hr⟩ := hf.slot t _ hl
  obtain ⟨imm', hi, hs', hr'⟩ := hs.freeze_rep hr he
  refine Code.wpIn_mono (fun _ _ _ hq => lift_mono hi (.refl _) hq) (h K imm' m w a hs' ⟨hf.defers.mono (by assumption), hf.size, fun t' av ht => ?_⟩)
  simp only [look] at ht
  split at ht
  · rename_i e
    subst e
    cases ht
    exact ⟨v, hv, hr'⟩
  · obtain ⟨u, hu, r⟩ := hf.slot t' av ht
    exact ⟨u, hu, r.mono hi (.refl _)⟩

/-- The same, of a whole row. -/
theorem AWP_freezeAll {c : Code} (t : Nat) {b k n d : Nat} {es : List (List AV)} (hl : look α t = some (.own b k 0 n d)) (he : σ[b]? = some (.cells k es)) (hn : n = es.length)
    (h : AWPr rd P N c Q ((t, .sl es) :: α) (σ.set b .dead)) : AWPr rd P N c Q α σ :=
  AWP_freeze t hl (by subst hn; simp [elemsA, he]) h

/-- An own box that is only read from here on becomes known by its content. -/
theorem AWP_freezeP {c : Code} (t : Nat) {b k : Nat} {e : List AV} (hl : look α t = some (.ptr b k 0 0)) (he : σ[b]? = some (.cells k [e]))
    (h : AWPr rd P N c Q ((t, .cp e 0) :: α) (σ.set b .dead)) : AWPr rd P N c Q α σ := by
  intro K imm m w a hs hf
  obtain ⟨v, hv, hr⟩ := hf.slot t _ hl
  obtain ⟨hlt, hob⟩ := List.getElem?_eq_some_iff.1 he
  have h0 := hs.obs b hlt
  rw [hob] at h0
  obtain ⟨blk, sz, h1, h2, cs, T, fr, h3, h4, h5, h6, h7⟩ := h0
  obtain ⟨imm', hi, hi2, hs'⟩ := hs.freeze hlt (by rw [hob]; rfl) h1 h3
  have hr' : Rep imm' m v (.cp e 0) := by
    cases hr with
    | ptr _ _ _ _ blk' sz' x hm hx =>
      rw [h1] at hm
      cases hm
      subst hx
      have hcell : ∀ j (hj : j < e.length), ∃ u, cs[j]? = some u ∧ Rep imm m u e[j] := fun j hj => by
        have := (h7 0 (by simp)).2 j (by simpa using hj)
        simpa using this
      refine .cp blk 0 _ e 0 (fun j => (cs[j]?).getD undef) (by simp) (fun j hj => ?_) (fun j hj => ?_)
      · obtain ⟨u, e1, _⟩ := hcell j hj
        simp [icell, hi2, e1]
      · obtain ⟨u, e1, r⟩ := hcell j hj
        rw [e1]
        exact r.mono hi (.refl _)
  refine Code.wpIn_mono (fun _ _ _ hq => lift_mono hi (.refl _) hq) (h K imm' m w a hs' ⟨hf.defers.mono (by assumption), hf.size, fun t' av ht => ?_⟩)
  simp only [look] at ht
  split at ht
  · rename_i e
    subst e
    cases ht
    exact ⟨v, hv, hr'⟩
  · obtain ⟨u, hu, r⟩ := hf.slot t' av ht
    exact ⟨u, hu, r.mono hi (.refl _)⟩

/-- A map of the call's own in a slot becomes known by its content. -/
theorem AWP_freezeM {c : Code} (t : Nat) {b : Nat} {es : List (Value × AV)} (hl : look α t = some (.mp b)) (he : isMap σ[b]? = some es)
    (h : AWPr rd P N c Q ((t, .cm es) :: α) (σ.set b .dead)) : AWPr rd P N c Q α σ := by
  intro K imm m w a hs hf
  obtain ⟨v, hv, hr⟩ := hf.slot t _ hl
  obtain ⟨blk, sz, ents, clock, rfl, hm, himm, h3, h4, h5, h6, hlt, hob⟩ := map_block hs hr he
  obtain ⟨imm', hi, hi2, hs'⟩ := hs.freeze hlt (by rw [hob]; rfl) hm h3
  refine Code.wpIn_mono (fun _ _ _ hq => lift_mono hi (.refl _) hq) (h K imm' m w a hs' ⟨hf.defers.mono hi, hf.size, fun t' av ht => ?_⟩)
  simp only [look] at ht
  split at ht
  · rename_i e
    subst e
    cases ht
    exact ⟨_, hv, .cm blk es ents clock hi2 h4 h5 fun i h1 h2 => (h6 i h1 h2).mono hi (.refl _)⟩
  · obtain ⟨u, hu, r⟩ := hf.slot t' av ht
    exact ⟨u, hu, r.mono hi (.refl _)⟩

/-- What follows is shown once, for all states that come to it. -/
theorem AWP_seq_v {x y : Code} {ι : Type} (A : ι → AF) (S : ι → Store) (rest : ∀ i, AWPr rd P N y Q (A i) (S i))
    (h : ∀ J : AF → Store → Prop, (∀ α σ, AWPr rd P N y Q α σ → J α σ) → (∀ i, AWPr rd P N y Q (A i) (S i)) → AWPr rd P N x (thenQ J Q) α σ) : AWPr rd P N (.seq x y) Q α σ :=
  AWP_seq (h _ (fun _ _ h => h) rest)

/-- The store behind the call is the caller's own again. -/
theorem ACalls.cut {f : FuncId} {args : List AV} {R : AV → Prop} (h : ACalls P f args σ fun r σ' => (∃ τ, σ' = σ ++ τ) ∧ Bd σ.length r ∧ R r) : ACalls P f args σ fun r σ' => σ' = σ ∧ R r := by
  intro K imm m w vs hs hv
  refine (h K imm m w vs hs hv).mono ?_
  rintro e w' ⟨imm', m', v, r, σ', he, hi, ho, hs', hr, ⟨τ, rfl⟩, hb, hR⟩
  refine ⟨imm', Proofs.Ytephecognbbaoaa.cut m' σ.length, v, r, σ, he, hi, fun b o hbo => ?_, hs'.cut hs, hr.cut hb, rfl, hR⟩
  have hlt : b < σ.length := by
    rcases Nat.lt_or_ge b σ.length with h | h
    · exact h
    · rw [hs.dom b h] at hbo; cases hbo
  unfold Proofs.Ytephecognbbaoaa.cut
  rw [if_pos hlt]
  exact ho _ _ hbo

/-- Everything that lies in memory, held fast. -/
theorem Sim.all (hs : Sim K0 imm m w σ) : Sim K0 (fun b => w.heap[b]?) m w (σ.map fun _ => .dead) where
  os := hs.os
  tape := hs.tape
  output := hs.output
  size := hs.size
  imm_ok := fun _ _ h => h
  dom := fun id h => hs.dom id (by simpa using h)
  obs := fun id h => by simp only [List.getElem_map]; trivial
  inj := fun i j hi hj li => by simp only [List.getElem_map] at li; cases li

/-- One argument as the callee that only reads sees it: an own slice by its content. -/
def Seen (σ : Store) (a a' : AV) : Prop := a = a' ∨ ∃ es, elemsA σ a = some es ∧ a' = .sl es

def SeenL (σ : Store) : List AV → List AV → Prop
  | [], [] => True
  | a :: r, a' :: r' => Seen σ a a' ∧ SeenL σ r r'
  | _, _ => False

theorem SeenL.get : ∀ (l l' : List AV), SeenL σ l l' → l.length = l'.length ∧ ∀ i (h : i < l.length) (h' : i < l'.length), Seen σ l[i] l'[i]
  | [], [], _ => ⟨rfl, fun i h => by simp at h⟩
  | a :: r, a' :: r', h => by
    obtain ⟨h1, h2⟩ := SeenL.get r r' h.2
    refine ⟨by simp [h1], fun i hi hi' => ?_⟩
    cases i with
    | zero => exact h.1
    | succ i => exact h2 i _ _
  | [], _ :: _, h => h.elim
  | _ :: _, [], h => h.elim

/-- A callee that answers by a plain value, whatever the store: it may be handed own slices, and leaves the store alone. -/
theorem ACalls.borrow {f : FuncId} {args args' : List AV} {R : Value → Prop} (hseen : SeenL σ args args')
    (h : ∀ τ, ACalls P f args' τ fun r τ' => τ' = τ ∧ ∃ v, r = .c v ∧ R v) : ACalls P f args σ fun r σ' => σ' = σ ∧ ∃ v, r = .c v ∧ R v := by
  intro K imm m w vs hs hv
  have hall := hs.all
  have hile : ILe imm (fun b => w.heap[b]?) := fun b o h => hs.imm_ok b o h
  have hv' : RepL (fun b => w.heap[b]?) m vs args' := by
    obtain ⟨h1, h2⟩ := hseen.get
    refine ⟨by rw [hv.1, h1], fun i hi1 hi2 => ?_⟩
    rcases h2 i (by omega) hi2 with e | ⟨es, he, e⟩
    · rw [← e]
      exact (hv.2 i hi1 (by omega)).mono hile (.refl _)
    · rw [e]
      obtain ⟨p, cap, hvi, hcap, hat⟩ := slice_at hs (hv.2 i hi1 (by omega)) he
      rw [hvi]
      rcases Nat.eq_zero_or_pos es.length with h0 | h0
      · exact .sl p cap _ es 0 (fun _ _ => undef) rfl hcap (fun i hi => by omega) (fun h => by omega) (fun i hi => by omega)
      · obtain ⟨b, o, k, rfl, hk, hc⟩ := hat h0
        refine .sl _ cap _ es k (fun i j => (w.cell? ⟨b, o + (i * k + j), none⟩).getD undef) rfl hcap hk (fun _ => ⟨b, o, rfl, fun i hi j hj => ?_⟩) (fun i hi j hj => ?_)
        · obtain ⟨u, hu, _⟩ := hc i hi j (by rw [hk i hi]; exact hj)
          rw [hu]
          unfold World.cell? at hu
          unfold icell
          split at hu
          · rename_i c T fr hb
            simp only at hb
            simp only [hb]
            simpa using hu
          · cases hu
        · obtain ⟨u, hu, r⟩ := hc i hi j hj
          rw [hu]
          exact r.mono hile (.refl _)
  refine (h (σ.map fun _ => .dead) K _ m w vs hall hv').mono ?_
  rintro e w' ⟨imm', m', v, r, τ', he, hi, ho, hs', hr, rfl, u, rfl, hR⟩
  obtain rfl := hr.c_inv
  have hb : Beside w w' := ⟨hs'.os.trans hs.os.symm, hs'.tape.trans hs.tape.symm, hs'.output.trans hs.output.symm, by
    rcases Nat.eq_zero_or_pos w.heap.size with h0 | h0
    · omega
    · have := heap_lt (hs'.imm_ok (w.heap.size - 1) _ (hi _ _ (Array.getElem?_eq_getElem (by omega))))
      omega⟩
  refine ⟨imm, m, v, .c v, σ, he, .refl _, .refl _, hs.keep hb fun b hb => ?_, .c v, rfl, v, rfl, hR⟩
  have := hs'.imm_ok b _ (hi b _ (Array.getElem?_eq_getElem hb))
  rw [this, Array.getElem?_eq_getElem hb]
end
/-- What a frame is to know, entry by entry. -/
def alls (α : AF) : AF → Prop
  | [] => True
  | (k, v) :: r => look α k = some v ∧ alls α r

theorem ALe_of {α : AF} : ∀ {β : AF}, alls α β → ALe α β
  | [], _ => fun t av h => by cases h
  | (k, v) :: r, h => fun t av ht => by
    simp only [look] at ht
    split at ht
    · rename_i e
      subst e
      cases ht
      exact h.1
    · exact ALe_of h.2 t av ht
theorem st0 (σ l : Store) : (σ ++ l)[σ.length]? = l[0]? := by rw [List.getElem?_append_right (Nat.le_refl _), Nat.sub_self]
theorem st1 (σ l : Store) (k : Nat) : (σ ++ l)[σ.length + k]? = l[k]? := by rw [List.getElem?_append_right (by omega), Nat.add_sub_cancel_left]
theorem ss0 (σ l : Store) (x : Ob) : (σ ++ l).set σ.length x = σ ++ l.set 0 x := by simp
theorem ss1 (σ l : Store) (k : Nat) (x : Ob) : (σ ++ l).set (σ.length + k) x = σ ++ l.set k x := by simp
end Go.Proofs.Ytephecognbbaoaa
