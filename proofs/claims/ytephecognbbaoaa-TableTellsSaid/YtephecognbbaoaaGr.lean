/- Regions that draw their order and make objects meanwhile. -/
import Derived.Test.YtephecognbbaoaaDk
namespace Go.Proofs.Ytephecognbbaoaa
open Go
set_option linter.all false

/-- Operations that change the store; bs: whether slices of constants count among them, and whether calls do. -/
def loudG (bs : Bool × Bool) : Op → Bool
  | .store .. => true
  | .alloc .. => true
  | .box .. => true
  | .insert .. => true
  | .mapUpdate .. => true
  | .makeMap _ none => true
  | .makeSlice .. => true
  | .buildSlice _ n _ => bs.1 || n == 0
  | .call { callee := .builtin .append, args := _, argTypes := _ } => true
  | .call { callee := .builtin .copy, args := _, argTypes := _ } => true
  | .call { callee := .value (.func _), args := _, argTypes := _ } => bs.2
  | _ => false

/-- Operations whose answer does not hang on the store. -/
def pureOp : Op → Bool
  | .move .. => true
  | .assign .. => true
  | .pick .. => true
  | .binOp .. => true
  | .unOp .. => true
  | .extract .. => true
  | .nilCheck .. => true
  | .fieldAddr .. => true
  | .indexAddr .. => true
  | .index .. => true
  | .field .. => true
  | .makeFunc .. => true
  | .build .. => true
  | .slice .. => true
  | _ => false

def allPure (bs : Bool × Bool) (ops : List Oper) : Bool := ops.all fun o => loudG bs o.op || pureOp o.op

def Pre (a b : Store) : Prop := ∃ τ, b = a ++ τ

/-- The stores that may lie there meanwhile. -/
def Grown (pu : Bool) (σ0 σ : Store) : Prop := pu = true ∨ ∃ τ, σ = σ0 ++ τ

theorem appendE_det {P : Program} {e : TypeId} {s x : AV} {σ : Store} {K : AV → Store → Prop} (h : appendE P e s x σ K) : ∃ v σ', appendE P e s x σ (fun v' σ'' => v' = v ∧ σ'' = σ') ∧ K v σ' := by
  unfold appendE at h
  obtain ⟨h1, h2, h3, h⟩ := h
  obtain ⟨olds, ho, h⟩ := on_elim h
  obtain ⟨news, hn, h4, h⟩ := on_elim h
  unfold appendE
  cases s with
  | own b k i n c =>
    obtain ⟨h5, h6, h7⟩ := h
    by_cases hc : n + news.length ≤ c ∧ n ≠ c
    · obtain ⟨h8, h9⟩ := h6 hc
      obtain ⟨ob, hob, h9⟩ := on_elim h9
      cases ob with
      | cells k' es => exact ⟨_, _, ⟨h1, h2, h3, by rw [ho, hn]; exact ⟨h4, h5, fun _ => ⟨h8, by rw [hob]; exact ⟨rfl, rfl⟩⟩, fun h => by omega⟩⟩, h9⟩
      | _ => exact h9.elim
    · obtain ⟨a1, a2, a3, a4, a5⟩ := h7 (by omega)
      exact ⟨_, _, ⟨h1, h2, h3, by rw [ho, hn]; exact ⟨h4, h5, fun h => absurd h hc, fun _ => ⟨a1, a2, a3, a4, rfl, rfl⟩⟩⟩, a5⟩
  | emp =>
    by_cases hc : news.length = 0
    · exact ⟨_, _, ⟨h1, h2, h3, by rw [ho, hn]; exact ⟨h4, fun _ => ⟨rfl, rfl⟩, fun h => by omega⟩⟩, h.1 hc⟩
    · obtain ⟨a1, a2, a3⟩ := h.2 (by omega)
      exact ⟨_, _, ⟨h1, h2, h3, by rw [ho, hn]; exact ⟨h4, fun h => absurd h hc, fun _ => ⟨a1, a2, rfl, rfl⟩⟩⟩, a3⟩
  | c v =>
    by_cases hc : news.length = 0
    · exact ⟨_, _, ⟨h1, h2, h3, by rw [ho, hn]; exact ⟨h4, fun _ => ⟨rfl, rfl⟩, fun h => by omega⟩⟩, h.1 hc⟩
    · obtain ⟨a1, a2, a3⟩ := h.2 (by omega)
      exact ⟨_, _, ⟨h1, h2, h3, by rw [ho, hn]; exact ⟨h4, fun h => absurd h hc, fun _ => ⟨a1, a2, rfl, rfl⟩⟩⟩, a3⟩
  | _ => exact h.elim

theorem insertA_det {P : Program} {T : TypeId} {m k x : AV} {σ : Store} {K : Store → Prop} (h : insertA P T m k x σ K) : ∃ σ', insertA P T m k x σ (fun σ'' => σ'' = σ') ∧ K σ' := by
  unfold insertA at h ⊢
  obtain ⟨t, ht, h⟩ := on_elim h
  obtain ⟨kv, hk, h⟩ := on_elim h
  simp only [ht, hk, on_some]
  split at h
  · obtain ⟨es, hes, h⟩ := on_elim h
    simp only [hes, on_some]
    exact ⟨_, ⟨h.1, h.2.1, h.2.2.1, h.2.2.2.1, rfl⟩, h.2.2.2.2⟩
  · exact h.elim

/-- A callee that changes nothing, with slices of the caller's own. -/
def callS (P : Program) (f : FuncId) (args : List AV) (σ : Store) (K : AV → Store → Prop) : Prop := ∃ v, ACalls P f args σ (fun r σ' => r = v ∧ σ' = σ) ∧ K v σ
theorem callS_use {P : Program} {f : FuncId} {args : List AV} {σ : Store} {X : AV} {K : AV → Store → Prop} (h : ACalls P f args σ fun r σ' => σ' = σ ∧ r = X) (hk : K X σ) : callS P f args σ K := ⟨X, h.mono fun _ _ ⟨h1, h2⟩ => ⟨h2, h1⟩, hk⟩
@[congr] theorem callS_cg {P : Program} {f : FuncId} {args args' : List AV} {σ : Store} {K : AV → Store → Prop} (h : pass args = args') : callS P f args σ K = callS P f args' σ K := by rw [← h, pass_eq]

def AOpD (P : Program) (op : Op) (ev : Operand → Option AV) (σ : Store) (K : AV → Store → Prop) : Prop :=
  match op with
  | .call { callee := .value f, args := args, argTypes := _ } => on (ev f) fun f => on (evL ev args.toList) fun as => match f with
    | .fn g first cap => callOk P g = true ∧ callS P g (first ++ as ++ cap) σ K
    | _ => False
  | op => AOp P op ev σ K

theorem AOp_det {bs : Bool × Bool} {P : Program} {op : Op} {ev : Operand → Option AV} {σ : Store} {K : AV → Store → Prop} (hl : loudG bs op = true) (h : AOpD P op ev σ K) : ∃ v σ', AOp P op ev σ (fun v' σ'' => v' = v ∧ σ'' = σ') ∧ K v σ' := by
  cases op <;> (try (cases hl; done))
  case alloc T =>
    obtain ⟨z, hz, h⟩ := on_elim h
    simp only [AOp, hz, on_some]
    exact ⟨_, _, ⟨rfl, rfl⟩, h⟩
  case box T x =>
    obtain ⟨a, ha, h⟩ := on_elim h
    simp only [AOp, ha, on_some]
    exact ⟨_, _, ⟨rfl, rfl⟩, h⟩
  case buildSlice T n ps =>
    obtain ⟨k, hk, h⟩ := on_elim h
    obtain ⟨qs, hqs, h⟩ := on_elim h
    obtain ⟨es, hes, h⟩ := on_elim h
    refine ⟨_, _, ?_, h.2.2.2⟩
    simp only [AOp]
    rw [on_eq hk, on_eq hqs, on_eq hes]
    exact ⟨h.1, h.2.1, h.2.2.1, rfl, rfl⟩
  case store T a x =>
    obtain ⟨p, hp, h⟩ := on_elim h
    obtain ⟨v, hv, h⟩ := on_elim h
    obtain ⟨σ', hσ, h⟩ := on_elim h
    refine ⟨_, _, ?_, h⟩
    simp only [AOp]
    rw [on_eq hp, on_eq hv, on_eq hσ]
    exact ⟨trivial, rfl⟩
  case makeSlice T l c =>
    obtain ⟨nl, hl, h⟩ := on_elim h
    obtain ⟨nc, hc, h⟩ := on_elim h
    simp only [AOp, hl, hc, on_some]
    unfold makeA at h ⊢
    split at h
    · obtain ⟨z, hz, h⟩ := on_elim h
      simp only [hz, on_some]
      exact ⟨_, _, ⟨h.1, h.2.1, h.2.2.1, h.2.2.2.1, h.2.2.2.2.1, rfl, rfl⟩, h.2.2.2.2.2⟩
    · exact h.elim
  case makeMap T r =>
    cases r with
    | none => exact ⟨_, _, ⟨rfl, rfl⟩, h⟩
    | some r => cases hl
  case insert T m k x =>
    obtain ⟨a, ha, h⟩ := on_elim h
    obtain ⟨b, hb, h⟩ := on_elim h
    obtain ⟨c, hc, h⟩ := on_elim h
    obtain ⟨σ', h1, h2⟩ := insertA_det h
    refine ⟨_, σ', ?_, h2⟩
    simp only [AOp]
    rw [on_eq ha, on_eq hb, on_eq hc]
    simpa only [true_and] using h1
  case mapUpdate T m k x =>
    obtain ⟨a, ha, h⟩ := on_elim h
    obtain ⟨b, hb, h⟩ := on_elim h
    obtain ⟨c, hc, h⟩ := on_elim h
    obtain ⟨σ', h1, h2⟩ := insertA_det h
    refine ⟨_, σ', ?_, h2⟩
    simp only [AOp]
    rw [on_eq ha, on_eq hb, on_eq hc]
    simpa only [true_and] using h1
  case call c =>
    obtain ⟨callee, args, ts⟩ := c
    cases callee with
    | value f =>
      obtain ⟨fv, hf, h⟩ := on_elim h
      obtain ⟨as, has, h⟩ := on_elim h
      split at h
      · obtain ⟨h1, v, h2, h3⟩ := h
        refine ⟨v, _, ?_, h3⟩
        simp only [AOp]
        rw [on_eq hf, on_eq has]
        exact ⟨h1, h2⟩
      · exact h.elim
    | builtin b =>
      cases b <;> (try (cases hl; done))
      case copy =>
        obtain ⟨as, has, h⟩ := on_elim h
        split at h
        · rename_i x s t t' hts
          unfold copyA at h
          split at h
          · rename_i e hT
            obtain ⟨h1, h2, h⟩ := h
            obtain ⟨news, hn, h3, h4, h⟩ := on_elim h
            split at h
            · rename_i b k i n c
              obtain ⟨h5, h⟩ := h
              obtain ⟨ob, hob, h⟩ := on_elim h
              split at h
              · rename_i k' es
                obtain ⟨h6, h7, h8⟩ := h
                refine ⟨_, _, ?_, h8⟩
                simp only [AOp]
                rw [on_eq has]
                simp only [hts, copyA, hT]
                refine ⟨h1, h2, ?_⟩
                rw [on_eq hn]
                refine ⟨h3, h4, h5, ?_⟩
                rw [on_eq hob]
                exact ⟨h6, h7, rfl, rfl⟩
              · exact h.elim
            · exact h.elim
          · exact h.elim
        · exact h.elim
      obtain ⟨as, has, h⟩ := on_elim h
      split at h
      · rename_i s x t t' hts
        obtain ⟨rfl, h⟩ := h
        unfold appendA appendD at h
        split at h
        · rename_i e hT
          obtain ⟨v, σ', h1, h2⟩ := appendE_det h
          refine ⟨v, σ', ?_, h2⟩
          simp only [AOp]
          rw [on_eq has]
          simp only [hts, appendA, hT]
          exact ⟨trivial, h1⟩
        · exact h.elim
      · exact h.elim
    | _ => cases hl

theorem AOpK_pure {P : Program} {ev : Operand → Option AV} {σ : Store} {K : AV → Prop} (op : Op) (hp : pureOp op = true) (h : AOpK P op ev σ K) : ∃ v, (∀ σ', AOpQ P op ev σ' v) ∧ K v := by
  obtain ⟨v, hq, hk⟩ := AOpK_ex op h
  refine ⟨v, fun σ' => ?_, hk⟩
  cases op <;> (try (cases hp; done)) <;> (simp only [AOpQ, AOp, and_true] at hq ⊢; exact hq)

/-- The part of a region in which objects are made, in the text's order. -/
def greg (P : Program) (N : Nat) (ops : List Oper) (bs : Bool × Bool) (pu : Bool) (σ0 : Store) (K : AF → Store → Prop) : List Oper → AF → Store → Prop
  | [], α, σ => K α σ
  | o :: r, α, σ => splitA ops o.guard α fun α => guardA ops o.guard α
      (fun α => match loudG bs o.op with
        | true => AOpD P o.op (evF α) σ fun v σ' => Grown pu σ0 σ' ∧ putA N o.dst v α fun α' => greg P N ops bs pu σ0 K r α' σ'
        | false => AOpK P o.op (evF α) σ0 fun v => putA N o.dst v α fun α' => greg P N ops bs pu σ0 K r α' σ)
      (fun α => putA N o.dst (.c undef) α fun α' => greg P N ops bs pu σ0 K r α' σ)

section
variable {rd : Option Nat} {P : Program} {N : Nat} {K0 : World} {ops : List Oper} {bs : Bool × Bool} {pu : Bool} {σ0 : Store} {α0 : AF}

def stepG (P : Program) (N : Nat) (ops : List Oper) (bs : Bool × Bool) (pu : Bool) (σ0 : Store) (α : AF) (σ : Store) (o : Oper) (b : Bool) (v : AV) (σ' : Store) : Prop :=
  (∀ d, o.dst = some d → d < N) ∧
  ((b = true ∧ ((loudG bs o.op = true ∧ AOp P o.op (evF α) σ (fun v' σ'' => v' = v ∧ σ'' = σ') ∧ Grown pu σ0 σ') ∨ (loudG bs o.op = false ∧ σ' = σ ∧ ∀ σ1, Grown pu σ0 σ1 → AOpQ P o.op (evF α) σ1 v)) ∧ (∀ g want, o.guard = some (g, want) → ∃ d, (ops[g]?).bind (·.dst) = some d ∧ look α d = some (.c (.bool want)))) ∨
   (b = false ∧ v = .c undef ∧ σ' = σ ∧ ∃ g want d, o.guard = some (g, want) ∧ (ops[g]?).bind (·.dst) = some d ∧ (look α d = some (.c (.bool (!want))) ∨ ∃ t, look α d = some (.c (.tuple t)))))

theorem frL_congr : ∀ (k : Nat) (vs vs' : Nat → AV), (∀ j, j < k → vs j = vs' j) → frL ops α0 vs k = frL ops α0 vs' k := by
  intro k
  induction k with
  | zero => intro vs vs' _; rfl
  | succ k ih =>
    intro vs vs' he
    simp only [frL, he k (by omega), ih vs vs' fun j hj => he j (by omega)]

theorem trace_of_greg {K : AF → Store → Prop} (hpu : pu = true → allPure bs ops = true) : ∀ (l : List Oper) (k : Nat) (vs0 : Nat → AV) (bs0 : Nat → Bool) (ss0 : Nat → Store) (β : AF), (∀ t, look β t = look (frL ops α0 vs0 k) t) → (∀ j, j < l.length → l[j]? = ops[k + j]?) → greg P N ops bs pu σ0 K l β (ss0 k) →
    ∃ (vs : Nat → AV) (bl : Nat → Bool) (ss : Nat → Store), (∀ j, j < k → vs j = vs0 j ∧ bl j = bs0 j) ∧ (∀ j, j ≤ k → ss j = ss0 j) ∧ (∀ j (h : j < l.length), stepG P N ops bs pu σ0 (frL ops α0 vs (k + j)) (ss (k + j)) l[j] (bl (k + j)) (vs (k + j)) (ss (k + j + 1))) ∧ ∃ γ, (∀ t, look γ t = look (frL ops α0 vs (k + l.length)) t) ∧ K γ (ss (k + l.length))
  | [], k, vs0, bs0, ss0, β, hβ, _, h => ⟨vs0, bs0, ss0, fun _ _ => ⟨rfl, rfl⟩, fun _ _ => rfl, fun j h => by simp at h, β, hβ, h⟩
  | o :: r, k, vs0, bs0, ss0, β, hβ, hl, h => by
    have ho : ops[k]? = some o := by have := hl 0 (by simp); simpa using this.symm
    have go : ∀ (b : Bool) (v : AV) (σ' : Store) (β : AF), (∀ t, look β t = look (frL ops α0 vs0 k) t) → stepG P N ops bs pu σ0 (frL ops α0 vs0 k) (ss0 k) o b v σ' → putA N o.dst v β (fun α' => greg P N ops bs pu σ0 K r α' σ') →
        ∃ (vs : Nat → AV) (bl : Nat → Bool) (ss : Nat → Store), (∀ j, j < k → vs j = vs0 j ∧ bl j = bs0 j) ∧ (∀ j, j ≤ k → ss j = ss0 j) ∧ (∀ j (h : j < (o :: r).length), stepG P N ops bs pu σ0 (frL ops α0 vs (k + j)) (ss (k + j)) (o :: r)[j] (bl (k + j)) (vs (k + j)) (ss (k + j + 1))) ∧ ∃ γ, (∀ t, look γ t = look (frL ops α0 vs (k + (o :: r).length)) t) ∧ K γ (ss (k + (o :: r).length)) := by
      intro b v σ' β hβ hst hput
      let vs1 : Nat → AV := fun j => if j = k then v else vs0 j
      let bs1 : Nat → Bool := fun j => if j = k then b else bs0 j
      let ss1 : Nat → Store := fun j => if j = k + 1 then σ' else ss0 j
      have hfr : frL ops α0 vs1 k = frL ops α0 vs0 k := frL_congr k _ _ fun j hj => by simp only [vs1]; rw [if_neg (by omega)]
      obtain ⟨β', hβ', hq⟩ : ∃ β', (∀ t, look β' t = look (frL ops α0 vs1 (k + 1)) t) ∧ greg P N ops bs pu σ0 K r β' σ' := by
        have hd : (ops[k]?).bind (·.dst) = o.dst := by rw [ho]; rfl
        unfold putA at hput
        cases hdst : o.dst with
        | none =>
          rw [hdst] at hput hd
          refine ⟨β, fun t => ?_, hput⟩
          simp only [frL, hd, hfr]
          exact hβ t
        | some d =>
          rw [hdst] at hput hd
          refine ⟨_, fun t => ?_, hput.2⟩
          simp only [frL, hd, hfr, look, vs1, if_true]
          split
          · rfl
          · exact hβ t
      obtain ⟨vs, bl, ss, h1, h1s, h2, γ, h3, h4⟩ := trace_of_greg hpu r (k + 1) vs1 bs1 ss1 β' hβ' (fun j hj => by
        have := hl (j + 1) (by simp; omega)
        rw [show k + 1 + j = k + (j + 1) by omega, ← this]
        rfl) (by simp only [ss1, if_true]; exact hq)
      refine ⟨vs, bl, ss, fun j hj => ?_, fun j hj => ?_, fun j hj => ?_, γ, by rw [show k + (o :: r).length = k + 1 + r.length by simp; omega]; exact h3, by rw [show k + (o :: r).length = k + 1 + r.length by simp; omega]; exact h4⟩
      · have := h1 j (by omega)
        simp only [vs1, bs1, if_neg (show ¬ j = k by omega)] at this
        exact this
      · have := h1s j (by omega)
        simp only [ss1, if_neg (show ¬ j = k + 1 by omega)] at this
        exact this
      · cases j with
        | zero =>
          have e1 := h1 k (by omega)
          have e2 := h1s k (by omega)
          have e3 := h1s (k + 1) (by omega)
          simp only [vs1, bs1, if_true] at e1
          simp only [ss1, if_true] at e3
          simp only [ss1, if_neg (show ¬ k = k + 1 by omega)] at e2
          simp only [Nat.add_zero, List.getElem_cons_zero, e1.1, e1.2, e2, e3]
          rw [frL_congr k vs vs0 fun j hj => by have := h1 j (by omega); simp only [vs1, if_neg (show ¬ j = k by omega)] at this; exact this.1]
          exact hst
        | succ j =>
          have := h2 j (by simpa using hj)
          rw [show k + 1 + j = k + (j + 1) by omega] at this
          exact this
    simp only [greg] at h
    obtain ⟨β1, hβ1, h⟩ := splitA_inv h
    have hb : ∀ t, look β1 t = look (frL ops α0 vs0 k) t := fun t => (hβ1 t).trans (hβ t)
    clear hβ1 hβ
    have act : (match loudG bs o.op with
        | true => AOpD P o.op (evF β1) (ss0 k) fun v σ' => Grown pu σ0 σ' ∧ putA N o.dst v β1 fun α' => greg P N ops bs pu σ0 K r α' σ'
        | false => AOpK P o.op (evF β1) σ0 fun v => putA N o.dst v β1 fun α' => greg P N ops bs pu σ0 K r α' (ss0 k)) →
        ∃ v σ', ((loudG bs o.op = true ∧ AOp P o.op (evF (frL ops α0 vs0 k)) (ss0 k) (fun v' σ'' => v' = v ∧ σ'' = σ') ∧ Grown pu σ0 σ') ∨ (loudG bs o.op = false ∧ σ' = ss0 k ∧ ∀ σ1, Grown pu σ0 σ1 → AOpQ P o.op (evF (frL ops α0 vs0 k)) σ1 v)) ∧ putA N o.dst v β1 fun α' => greg P N ops bs pu σ0 K r α' σ' := by
      intro h
      rw [evF_same hb] at h
      cases hlo : loudG bs o.op with
      | true =>
        rw [hlo] at h
        obtain ⟨v, σ', h1, h2, h3⟩ := AOp_det hlo h
        exact ⟨v, σ', .inl ⟨rfl, h1, h2⟩, h3⟩
      | false =>
        rw [hlo] at h
        cases hp : pu with
        | true =>
          have hpo : pureOp o.op = true := by
            have := List.all_eq_true.1 (hpu hp) o (List.mem_of_getElem? ho)
            rw [hlo] at this
            simpa using this
          obtain ⟨v, h1, h2⟩ := AOpK_pure o.op hpo h
          exact ⟨v, _, .inr ⟨rfl, rfl, fun σ1 _ => h1 σ1⟩, hp ▸ h2⟩
        | false =>
          obtain ⟨v, h1, h2⟩ := AOpK_ext o.op h
          refine ⟨v, _, .inr ⟨rfl, rfl, fun σ1 hg => ?_⟩, hp ▸ h2⟩
          rcases hg with hg | ⟨τ, rfl⟩
          · cases hg
          · exact h1 τ
    unfold guardA at h
    cases hg : o.guard with
    | none =>
      rw [hg] at h
      obtain ⟨v, σ', hv, hp⟩ := act h
      refine go true v σ' β1 hb ⟨fun d hd => ?_, .inl ⟨rfl, hv, fun g want h => by rw [hg] at h; cases h⟩⟩ hp
      rw [hd] at hp
      exact hp.1
    | some g =>
      obtain ⟨g, want⟩ := g
      rw [hg] at h
      replace h := on_elim h; obtain ⟨d, hd, h⟩ := h
      replace h := on_elim h; obtain ⟨u, hu, h⟩ := h
      rw [hb] at hu
      have skip : (look (frL ops α0 vs0 k) d = some (.c (.bool (!want))) ∨ ∃ t, look (frL ops α0 vs0 k) d = some (.c (.tuple t))) → putA N o.dst (.c undef) β1 (fun α' => greg P N ops bs pu σ0 K r α' (ss0 k)) → _ := fun hu hp =>
        go false (.c undef) (ss0 k) β1 hb ⟨fun d hd => by rw [hd] at hp; exact hp.1, .inr ⟨rfl, rfl, rfl, g, want, d, hg, hd, hu⟩⟩ hp
      split at h
      · cases want
        · exact skip (.inl hu) h
        · obtain ⟨v, σ', hv, hp⟩ := act h
          exact go true v σ' β1 hb ⟨fun d hd => by rw [hd] at hp; exact hp.1, .inl ⟨rfl, hv, fun g' want' h' => by
            rw [hg] at h'
            cases h'
            exact ⟨d, hd, hu⟩⟩⟩ hp
      · cases want
        · obtain ⟨v, σ', hv, hp⟩ := act h
          exact go true v σ' β1 hb ⟨fun d hd => by rw [hd] at hp; exact hp.1, .inl ⟨rfl, hv, fun g' want' h' => by
            rw [hg] at h'
            cases h'
            exact ⟨d, hd, hu⟩⟩⟩ hp
        · exact skip (.inl hu) h
      · rename_i t
        exact skip (.inr ⟨t, hu⟩) h
      · exact h.elim

/-- A test of a constant. -/
theorem AWP_condC {rd : Option Nat} {P : Program} {N : Nat} {Q : Post} {α : AF} {σ : Store} {b : Bool} {x y : Code} (h1 : b = true → AWPr rd P N x Q α σ) (h2 : b = false → AWPr rd P N y Q α σ) : AWPr rd P N (.cond (.const (.bool b)) x y) Q α σ := by
  intro K imm m w a hs hf
  exact wpIn_cond_split (show a.eval (.const (.bool b)) = .bool b from rfl) (fun hb => h1 hb K imm m w a hs hf) (fun hb => h2 hb K imm m w a hs hf)

/-- What changes the store comes in the text's order. -/
def loudOrd (bs : Bool × Bool) (ops : List Oper) (p : Nat) : Bool :=
  let b := befL ops []
  let l := (List.range p).filter fun j => match ops[j]? with | some o => loudG bs o.op | none => true
  l.all fun j => l.all fun i => !decide (i < j) || (b.getD j 0).testBit i

theorem loudOrd_spec {p i j : Nat} {x y : Oper} (h : loudOrd bs ops p = true) (hij : i < j) (hj : j < p) (hx : ops[i]? = some x) (hy : ops[j]? = some y) (h1 : loudG bs x.op = true) (h2 : loudG bs y.op = true) : Anc ops i j := by
  simp only [loudOrd, List.all_eq_true, List.mem_filter, List.mem_range] at h
  have := h j ⟨hj, by rw [hy]; exact h2⟩ i ⟨by omega, by rw [hx]; exact h1⟩
  simp only [hij, decide_true, Bool.not_true, Bool.false_or] at this
  exact befL_spec ops ops [] (fun j => by simp) (fun j i h => by simp at h) j i this

/-- **A region that draws its order, and makes objects.** -/
theorem AWP_drawG {Q : Post} {id : Nat} {σ : Store} (bs : Bool × Bool) (pu : Bool) (p : Nat) (hm : P.follows .mixedOrders = true) (hB : (drawB ops p && edgesBack ops && noSelect ops && decide (p ≤ ops.length) && loudOrd bs ops p && (!pu || allPure bs ops)) = true)
    (h : greg P N ops bs pu σ (fun α σ => areg P N ops (fun α σ => Q .normal α σ) (ops.drop p) α σ) (ops.take p) α0 σ) : AWPr rd P N (.region id ops.toArray true) Q α0 σ := by
  intro K imm m w a hs hf
  simp only [Bool.and_eq_true, decide_eq_true_eq] at hB
  obtain ⟨⟨⟨⟨⟨hB1, hB2⟩, hB3⟩, hB4⟩, hB5⟩, hB6⟩ := hB
  have hpu : pu = true → allPure bs ops = true := fun h => by simpa [h] using hB6
  have hc : Conf ops p := fun i j x y hij hx hy h => drawB_spec hB1 hij hx hy h
  obtain ⟨vs, bl, ss, _, hss0, h2, γ, hγ, h3⟩ := trace_of_greg (ops := ops) (α0 := α0) hpu (ops.take p) 0 (fun _ => .emp) (fun _ => true) (fun _ => σ) α0 (fun _ => rfl) (fun j hj => by
    simp only [List.length_take] at hj
    rw [List.getElem?_take_of_lt (by omega), Nat.zero_add]) h
  simp only [Nat.zero_add, List.length_take, Nat.min_eq_left hB4] at h2 hγ h3
  have hss0 : ss 0 = σ := hss0 0 (Nat.le_refl _)
  refine wpIn_region_any hm ?_
  have hst : ∀ j, j < p → ∀ o, ops[j]? = some o → stepG P N ops bs pu σ (frL ops α0 vs j) (ss j) o (bl j) (vs j) (ss (j + 1)) := fun j hj o ho => by
    have := h2 j hj
    rw [List.getElem_take] at this
    obtain ⟨hj', rfl⟩ := List.getElem?_eq_some_iff.1 ho
    exact this
  have hrep : ∀ i, (Array.replicate ops.toArray.size false).getD i true = true → ¬ i < ops.length := fun i h hi => by
    simp [Array.getD_eq_getD_getElem?, hi] at h
  -- which operations change the store
  let lo : Nat → Prop := fun j => ∃ o, ops[j]? = some o ∧ loudG bs o.op = true
  have same1 : ∀ j, j < p → ¬ lo j → ss (j + 1) = ss j := fun j hj hn => by
    have ho : ops[j]? = some ops[j] := List.getElem?_eq_getElem (by omega)
    rcases (hst j hj _ ho).2 with ⟨_, hk, _⟩ | ⟨_, _, hk, _⟩
    · rcases hk with ⟨hk, _⟩ | ⟨_, hk, _⟩
      · exact absurd ⟨_, ho, hk⟩ hn
      · exact hk
    · exact hk
  have same : ∀ d k, k + d ≤ p → (∀ i, k ≤ i → i < k + d → ¬ lo i) → ss (k + d) = ss k := by
    intro d
    induction d with
    | zero => intro k _ _; rfl
    | succ d ih =>
      intro k hk hn
      rw [← Nat.add_assoc, same1 (k + d) (by omega) (hn _ (by omega) (by omega))]
      exact ih k (by omega) fun i h1 h2 => hn i h1 (by omega)
  have hG : ∀ j, j ≤ p → Grown pu σ (ss j) := by
    intro j
    induction j with
    | zero => intro _; rw [hss0]; exact .inr ⟨[], by simp⟩
    | succ j ih =>
      intro hj
      have ho : ops[j]? = some ops[j] := List.getElem?_eq_getElem (by omega)
      rcases (hst j (by omega) _ ho).2 with ⟨_, hk, _⟩ | ⟨_, _, hk, _⟩
      · rcases hk with ⟨_, _, hk⟩ | ⟨_, hk, _⟩
        · exact hk
        · rw [hk]; exact ih (by omega)
      · rw [hk]; exact ih (by omega)
  obtain ⟨top, htop⟩ : ∃ top : (Nat → Prop) → Nat, ∀ S, (∀ j, j < p → S j → lo j → j < top S) ∧ ∀ k, (∀ j, j < p → S j → lo j → j < k) → top S ≤ k := by
    have hex : ∀ S : Nat → Prop, ∃ n, (∀ j, j < p → S j → lo j → j < n) ∧ ∀ k, (∀ j, j < p → S j → lo j → j < k) → n ≤ k := fun S =>
      least (p := fun n => ∀ j, j < p → S j → lo j → j < n) p fun j hj _ _ => hj
    exact ⟨fun S => Classical.choose (hex S), fun S => Classical.choose_spec (hex S)⟩
  have topP : ∀ S, top S ≤ p := fun S => (htop S).2 p fun j hj _ _ => hj
  refine quiet_any (σ := ss p) (fun S => ss (top S)) hB2 hc hB3 hB4 (fun S h => ?_) (fun j o S imm m a w next Q' hj ho hsl hs hI hcl hnS hanc hn => ?_) hγ h3 _ _ a _ imm m ?_ (by simp) (fun i hi => absurd hi.1 (hrep i hi.2)) (fun i hi h => absurd hi (hrep i h)) ?_
    ⟨hf.defers, hf.size, fun t i h => absurd h.1.1 (hrep i h.1.2), fun t av _ h => hf.slot t av h⟩
  · have := same (p - top S) (top S) (by have := topP S; omega) fun i h1 h2 hl => by
      have := (htop S).1 i (by have := topP S; omega) (h i (by have := topP S; omega)) hl
      omega
    rw [show top S + (p - top S) = p by have := topP S; omega] at this
    exact this.symm
  · -- one operation, at whatever time it comes
    have hf := hI.names hc hcl ho hnS hanc
    have hlk : ∀ d av, d ∈ namesOf ops o → look (frL ops α0 vs j) d = some av → look (restr (namesOf ops o) (frL ops α0 vs j)) d = some av := fun d av hd h => by
      rw [look_restr, if_pos (by simpa using hd)]; exact h
    have hyield : ∀ (g d : Nat) (u : Value), (ops[g]?).bind (·.dst) = some d → look (frL ops α0 vs j) d = some (.c u) → d ∈ namesOf ops o → ((ops.toArray[g]?).bind (·.dst)).bind (a.tmps[·]?) = some u := fun g d u hgd hu hm => by
      obtain ⟨x, hx, r⟩ := hf.slot d _ (hlk d _ hm hu)
      simp only [List.getElem?_toArray, hgd, Option.bind_some, hx, r.c_inv]
    have hoa : ops.toArray[j]? = some o := by simpa using ho
    have hkeep : ¬ lo j → ss (top fun i => S i ∨ i = j) = ss (top S) := fun hn => by
      have h1 : top (fun i => S i ∨ i = j) ≤ top S := (htop _).2 _ fun i hi hS hl => by
        rcases hS with hS | rfl
        · exact (htop S).1 i hi hS hl
        · exact absurd hl hn
      have h2 : top S ≤ top (fun i => S i ∨ i = j) := (htop _).2 _ fun i hi hS hl => (htop _).1 i hi (.inl hS) hl
      rw [Nat.le_antisymm h1 h2]
    have hloud : lo j → ss (top S) = ss j ∧ ss (top fun i => S i ∨ i = j) = ss (j + 1) := fun hl => by
      obtain ⟨o', ho', hl'⟩ := hl
      rw [ho] at ho'
      cases ho'
      have hS : ∀ i, i < p → S i → lo i → i < j := fun i hi hS ⟨x, hx, hxl⟩ => by
        rcases Nat.lt_trichotomy i j with h | h | h
        · exact h
        · subst h; exact absurd hS hnS
        · exact absurd ((hcl i hS).2 j (loudOrd_spec hB5 h hi ho hx hl' hxl)) hnS
      have h1 : top S ≤ j := (htop S).2 j hS
      have h2 := same (j - top S) (top S) (by omega) fun i h1 h2 ⟨x, hx, hxl⟩ => by
        have hi : S i := hanc i (loudOrd_spec hB5 (by omega) hj hx ho hxl hl')
        have := (htop S).1 i (by omega) hi ⟨x, hx, hxl⟩
        omega
      rw [show top S + (j - top S) = j by omega] at h2
      refine ⟨h2.symm, ?_⟩
      have h3 : top (fun i => S i ∨ i = j) = j + 1 := Nat.le_antisymm ((htop _).2 _ fun i hi h9 hl => by
        rcases h9 with h9 | rfl
        · have := hS i hi h9 hl; omega
        · omega) ((htop _).1 j hj (.inr rfl) ⟨o, ho, hl'⟩)
      rw [h3]
    have hnolo : loudG bs o.op = false → ¬ lo j := fun h ⟨o', ho', hl'⟩ => by
      rw [ho] at ho'
      cases ho'
      rw [h] at hl'
      cases hl'
    have hcg : ∀ x ∈ o.op.operands, evF (frL ops α0 vs j) x = evF (restr (namesOf ops o) (frL ops α0 vs j)) x := fun x hx => by
      cases x with
      | tmp t => simp only [evF]; rw [look_restr, if_pos (by simpa using operand_names hx)]
      | _ => rfl
    unfold wpOpIn
    simp only [hoa]
    obtain ⟨hdN, ⟨hbt, hq, hg⟩ | ⟨hbf, hv, hσ, g, want, d, hg, hgd, hu⟩⟩ := hst j hj o ho
    · have hw : Region.wanted o (yielded ops.toArray a.tmps) = true := by
        cases hgo : o.guard with
        | none => simp [Region.wanted, hgo]
        | some gw =>
          obtain ⟨g, want⟩ := gw
          obtain ⟨d, hgd, hu⟩ := hg g want hgo
          have hy : yielded ops.toArray a.tmps g = some want := by simp only [yielded, hyield g d _ hgd hu (guard_names hgo hgd)]
          simp [Region.wanted, hgo, hy]
      rw [if_pos hw]
      rcases hq with ⟨hlo, hq, _⟩ | ⟨hlo, _, hq⟩
      · obtain ⟨e1, e2⟩ := hloud ⟨o, ho, hlo⟩
        rw [e1] at hs
        rw [AOp_congr o.op hsl hcg] at hq
        have hup := AOp_sound (dst := o.dst) (type := o.type) (pos := o.pos) (after := o.after) (guard := o.guard) o.op hs (evF_rep hf) hq
        refine wpIn_of_up (AOp_noDefer hq) hup fun imm' m' v av σ' w' hi hoo hs' hr hk => ?_
        obtain ⟨rfl, rfl⟩ := hk
        exact hn imm' m' v w' hi hoo (by rw [e2]; exact hs') ((hI.mono hi hoo).step hc hcl ho hnS hdN hr)
      · have e2 := hkeep (hnolo hlo)
        have hq' := hq _ (hG _ (topP S))
        rw [AOpQ_congr o.op hsl hcg] at hq'
        have hup := AOpQ_sound (dst := o.dst) (type := o.type) (pos := o.pos) (after := o.after) (guard := o.guard) o.op hs (evF_rep hf) hq'
        refine wpIn_of_up (AOpQ_noDefer hq') hup fun imm' m' v av σ' w' hi hoo hs' hr hk => ?_
        obtain ⟨rfl, rfl⟩ := hk
        exact hn imm' m' v w' hi hoo (by rw [e2]; exact hs') ((hI.mono hi hoo).step hc hcl ho hnS hdN hr)
    · have hw : Region.wanted o (yielded ops.toArray a.tmps) = false := by
        rcases hu with hu | ⟨t, hu⟩
        · have hy : yielded ops.toArray a.tmps g = some (!want) := by simp only [yielded, hyield g d _ hgd hu (guard_names hg hgd)]
          simp [Region.wanted, hg, hy]
        · have hy : yielded ops.toArray a.tmps g = none := by simp only [yielded, hyield g d _ hgd hu (guard_names hg hgd)]
          simp [Region.wanted, hg, hy]
      rw [if_neg (by rw [hw]; simp)]
      refine ⟨fun _ _ => Rnd_fn _ _, hn imm m undef w (.refl _) (.refl _) ?_ (hI.step hc hcl ho hnS hdN (by rw [hv]; exact .c _))⟩
      by_cases hl : lo j
      · obtain ⟨e1, e2⟩ := hloud hl
        rw [e2, hσ, ← e1]
        exact hs
      · rw [hkeep hl]
        exact hs
  · simp [left]
  · have h0 : top (fun i => i < ops.length ∧ (Array.replicate ops.toArray.size false).getD i true = true) = 0 := Nat.le_antisymm ((htop _).2 0 fun j _ h => absurd h.1 (hrep j h.2)) (Nat.zero_le _)
    show Sim K imm m { w with drawn := w.drawn + 1 } (ss (top _))
    rw [h0, hss0]
    exact hs.drew
end

/-- How many operations stand ahead of the first that writes what lies there. -/
def isWr : Op → Bool
  | .store .. => true
  | .insert .. => true
  | .mapUpdate .. => true
  | _ => false
def uptoW : List Oper → Nat
  | [] => 0
  | o :: r => match isWr o.op with
    | true => 0
    | false => uptoW r + 1

/-- Objects are made, what lies there is not written; from the first writing on all wait for all. -/
theorem AWP_drawW {rd : Option Nat} {P : Program} {N : Nat} {ops : List Oper} {α0 : AF} {σ : Store} {Q : Post} {id : Nat} (bs : Bool) (hm : P.follows .mixedOrders = true) (hB : (drawB ops (uptoW ops) && edgesBack ops && noSelect ops && decide (uptoW ops ≤ ops.length) && loudOrd (bs, false) ops (uptoW ops) && (!false || allPure (bs, false) ops)) = true)
    (h : greg P N ops (bs, false) false σ (fun α σ => areg P N ops (fun α σ => Q .normal α σ) (ops.drop (uptoW ops)) α σ) (ops.take (uptoW ops)) α0 σ) : AWPr rd P N (.region id ops.toArray true) Q α0 σ :=
  AWP_drawG (bs, false) false _ hm hB h

/-- One operation of such a part. -/
def gop (P : Program) (lo pu : Bool) (op : Op) (ev : Operand → Option AV) (σ0 σ : Store) (K : AV → Store → Prop) : Prop :=
  match lo with
  | true => AOpD P op ev σ fun v σ' => Grown pu σ0 σ' ∧ K v σ'
  | false => AOpK P op ev σ0 fun v => K v σ
section
variable {P : Program} {N : Nat} {ops : List Oper} {bs : Bool × Bool} {pu : Bool} {σ0 σ : Store} {K : AF → Store → Prop} {α : AF} {r : List Oper} {dst : Option Tmp} {op : Op} {ty : TypeId} {pos : String} {after : Array Edge} {g : Option (Nat × Bool)}
theorem greg_nil : greg P N ops bs pu σ0 K [] α σ = K α σ := rfl
theorem greg_cons : greg P N ops bs pu σ0 K ({ dst := dst, op := op, type := ty, pos := pos, after := after, guard := g } :: r) α σ = gateA ops g α
      (fun α => gop P (loudG bs op) pu op (evF α) σ0 σ fun av σ' => putA N dst av α fun α' => greg P N ops bs pu σ0 K r α' σ')
      (fun α => putA N dst (.c undef) α fun α' => greg P N ops bs pu σ0 K r α' σ) := rfl
theorem gop_t {ev : Operand → Option AV} {K : AV → Store → Prop} : gop P true pu op ev σ0 σ K = AOpD P op ev σ fun v σ' => Grown pu σ0 σ' ∧ K v σ' := rfl
theorem gop_f {ev : Operand → Option AV} {K : AV → Store → Prop} : gop P false pu op ev σ0 σ K = AOpK P op ev σ0 fun v => K v σ := rfl
@[congr] theorem gop_cg {lo lo' : Bool} {ev : Operand → Option AV} {K : AV → Store → Prop} (h : pass lo = lo') : gop P lo pu op ev σ0 σ K = gop P lo' pu op ev σ0 σ K := by rw [← h, pass_eq]
theorem Grown_self : Grown pu σ0 σ0 = True := by simp only [Grown, eq_iff_iff, iff_true]; exact .inr ⟨[], by simp⟩
theorem Grown_app {τ : Store} : Grown pu σ0 (σ0 ++ τ) = True := by simp only [Grown, eq_iff_iff, iff_true]; exact .inr ⟨τ, rfl⟩
theorem Grown_pu : Grown true σ0 σ = True := by simp [Grown]
theorem Grown_f : Grown false σ0 σ = Pre σ0 σ := by simp [Grown, Pre]
theorem Pre_app {l l' : Store} : Pre (σ ++ l) (σ ++ l') = Pre l l' := by simp [Pre]
theorem Pre_cons {x y : Ob} {l l' : Store} : Pre (x :: l) (y :: l') = (y = x ∧ Pre l l') := by simp [Pre]
theorem Pre_nil {l : Store} : Pre [] l = True := by simp [Pre]
theorem Pre_self : Pre σ σ = True := by simp [Pre]
theorem Pre_self2 {l : Store} : Pre σ (σ ++ l) = True := by simp [Pre]
end
/-- Every operation; a slice of constants is known by its content at once. -/
def AOpB (P : Program) (op : Op) (ev : Operand → Option AV) (σ : Store) (K : AV → Store → Prop) : Prop :=
  match op with
  | .buildSlice T n parts => on (elemSize P T) fun k => on (partsA ev parts.toList) fun ps => on (rowsA k 0 ps) fun es =>
    es.length = n ∧ n * k ≤ 16777216 ∧ (match P.underlying T with | some (.slice e) => (zeroA P e).map (·.length) = some k | _ => False) ∧ K (.sl es) σ
  | op => AOp P op ev σ K

theorem AOpB_sound {P : Program} {K0 : World} {imm : Imm} {m : Own} {w : World} {σ : Store} {ev : Operand → Option AV} {ρ : Operand → Value} (op : Op) (hs : Sim K0 imm m w σ) (hev : ∀ x av, ev x = some av → Rep imm m (ρ x) av) {Kont : AV → Store → Prop} (h : AOpB P op ev σ Kont)
    {dst : Option Tmp} {type : TypeId} {pos : String} {after : Array Edge} {guard : Option (Nat × Bool)} :
    Up P K0 imm m Kont ((execOp ρ { dst, op, type, pos, after, guard }).run P w) := by
  by_cases hb : ∃ T n parts, op = .buildSlice T n parts
  · obtain ⟨T, n, parts, rfl⟩ := hb
    obtain ⟨k, hk, h⟩ := on_elim h
    obtain ⟨ps, hps, h⟩ := on_elim h
    obtain ⟨es, hes, h1, h2, h3, h4⟩ := on_elim h
    have hq : AOpQ P (.buildSlice T n parts) ev σ (.sl es) := by
      simp only [AOpQ]
      rw [on_eq hk, on_eq hps, on_eq hes]
      exact ⟨h1, h2, h3, rfl⟩
    have hup := AOpQ_sound (dst := dst) (type := type) (pos := pos) (after := after) (guard := guard) _ hs hev hq
    generalize (execOp ρ { dst, op := .buildSlice T n parts, type, pos, after, guard }).run P w = r at hup
    cases r with
    | halt x w' => exact hup.elim
    | ok nx w' =>
      cases nx with
      | value u => obtain ⟨i, m', av, σ', a1, a2, a3, a4, rfl, rfl⟩ := hup; exact ⟨i, m', _, _, a1, a2, a3, a4, h4⟩
      | skip => obtain ⟨i, m', av, σ', a1, a2, a3, a4, rfl, rfl⟩ := hup; exact ⟨i, m', _, _, a1, a2, a3, a4, h4⟩
      | enter f args => exact Calls.mono hup fun e w'' ⟨i, m', u, av, σ', he, a1, a2, a3, a4, e1, e2⟩ => ⟨i, m', u, av, σ', he, a1, a2, a3, a4, by rw [e1, e2]; exact h4⟩
      | round l f tmps assign body => exact RoundIn.mono hup fun e w'' ⟨i, m', u, av, σ', he, a1, a2, a3, a4, e1, e2⟩ => ⟨i, m', u, av, σ', he, a1, a2, a3, a4, by rw [e1, e2]; exact h4⟩
      | _ => exact hup.elim
  · have h' : AOp P op ev σ Kont := by
      unfold AOpB at h
      split at h
      · exact absurd ⟨_, _, _, rfl⟩ hb
      · exact h
    exact AOp_sound op hs hev h'

theorem AOpB_noDefer {P : Program} {op : Op} {σ : Store} {ev : Operand → Option AV} {K : AV → Store → Prop} (h : AOpB P op ev σ K) : ∀ c, op ≠ .defer c := by
  rintro c rfl
  exact h

def breg (P : Program) (N : Nat) (ops : List Oper) (K : AF → Store → Prop) : List Oper → AF → Store → Prop
  | [], α, σ => K α σ
  | o :: r, α, σ => splitA ops o.guard α fun α => guardA ops o.guard α
      (fun α => AOpB P o.op (evF α) σ fun av σ' => putA N o.dst av α fun α' => breg P N ops K r α' σ')
      (fun α => putA N o.dst (.c undef) α fun α' => breg P N ops K r α' σ)

theorem breg_sound {rd : Option Nat} {P : Program} {N : Nat} {K0 : World} {ops : List Oper} {Q : Post} : ∀ (l : List Oper) (α : AF) (σ : Store) (imm : Imm) (m : Own) (w : World) (a : Act), Sim K0 imm m w σ → FOk K0 imm m N a α →
    breg P N ops (fun α σ => Q .normal α σ) l α σ → wpListIn (Rnd rd) 0 P ops.toArray (lift K0 N imm m Q) l a w := by
  intro l
  induction l with
  | nil => intro α σ imm m w a hs hf h; exact ⟨imm, m, α, σ, .refl _, .refl _, hs, hf, h⟩
  | cons o r ih =>
    intro α σ imm m w a hs hf h
    have mono : ∀ (imm' : Imm) (m' : Own), ILe imm imm' → OLe m m' → ∀ a' w', wpListIn (Rnd rd) 0 P ops.toArray (lift K0 N imm' m' Q) r a' w' → wpListIn (Rnd rd) 0 P ops.toArray (lift K0 N imm m Q) r a' w' := by
      intro imm' m' hi ho
      have hq : ∀ e a w, lift K0 N imm' m' Q e a w → lift K0 N imm m Q e a w := fun e a w h => lift_mono hi ho h
      exact wpListIn_mono hq r
    simp only [breg] at h
    unfold wpListIn
    rcases guardA_sound hf h with ⟨hw, β, hfb, h⟩ | ⟨hw, β, hfb, h⟩
    · rw [if_pos hw]
      have hup := AOpB_sound (dst := o.dst) (type := o.type) (pos := o.pos) (after := o.after) (guard := o.guard) o.op hs (evF_rep hfb) h
      refine wpIn_of_up (AOpB_noDefer h) hup fun imm' m' v av σ' w' hi ho hs' hr hk => ?_
      obtain ⟨α', hf', hk'⟩ := putA_sound (hfb.mono hi ho) hr hk
      exact mono imm' m' hi ho _ _ (ih α' σ' imm' m' w' _ hs' hf' hk')
    · rw [if_neg (by rw [hw]; simp)]
      obtain ⟨α', hf', hk'⟩ := putA_sound hfb (.c undef) h
      exact ⟨fun f _ => Rnd_fn _ _, ih α' σ imm m w _ hs hf' hk'⟩

/-- A region whose slices of constants are known by their content. -/
theorem AWP_regionB {rd : Option Nat} {P : Program} {N : Nat} {α : AF} {σ : Store} {id : Nat} {ops : List Oper} {Q : Post} (h : breg P N ops (fun α σ => Q .normal α σ) ops α σ) : AWPr rd P N (.region id ops.toArray false) Q α σ :=
  fun _ imm m w a hs hf => wpIn_region_lit (breg_sound ops α σ imm m w a hs hf h)

section
variable {P : Program} {N : Nat} {ops : List Oper} {σ : Store} {K : AF → Store → Prop} {α : AF} {r : List Oper} {dst : Option Tmp} {op : Op} {ty : TypeId} {pos : String} {after : Array Edge} {g : Option (Nat × Bool)}
theorem breg_nil : breg P N ops K [] α σ = K α σ := rfl
theorem breg_cons : breg P N ops K ({ dst := dst, op := op, type := ty, pos := pos, after := after, guard := g } :: r) α σ = gateA ops g α
      (fun α => AOpB P op (evF α) σ fun av σ' => putA N dst av α fun α' => breg P N ops K r α' σ') (fun α => putA N dst (.c undef) α fun α' => breg P N ops K r α' σ) := rfl
end
end Go.Proofs.Ytephecognbbaoaa
