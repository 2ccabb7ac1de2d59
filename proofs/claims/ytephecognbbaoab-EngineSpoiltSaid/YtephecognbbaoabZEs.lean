/- Regions that draw their order: what is read is read ahead of all writing; the rest may come late. -/
import Derived.Test.YtephecognbbaoabZGr
import Derived.Test.YtephecognbbaoabZEb
import Derived.Test.YtephecognbbaoabZRd
open Go
set_option linter.all false
set_option maxRecDepth 100000
set_option maxHeartbeats 4000000
namespace Go.Proofs.Ytephecognbbaoab
open Go
set_option linter.all false
set_option maxHeartbeats 4000000
/-- What reads the store comes ahead of all that changes it. -/
def hybB (bs : Bool × Bool) (ops : List Oper) (p : Nat) : Bool :=
  let b := befL ops []
  (List.range p).all fun j => (List.range p).all fun i => match ops[j]?, ops[i]? with
    | some x, some y => loudG bs x.op || pureOp x.op || !loudG bs y.op || (b.getD i 0).testBit j
    | _, _ => true
theorem hyb_spec {bs : Bool × Bool} {ops : List Oper} {p i j : Nat} {x y : Oper} (h : hybB bs ops p = true) (hj : j < p) (hi : i < p) (hx : ops[j]? = some x) (hy : ops[i]? = some y) (h1 : loudG bs x.op = false) (h2 : ¬ pureOp x.op = true) (h3 : loudG bs y.op = true) : Anc ops j i := by
  simp only [hybB, List.all_eq_true, List.mem_range] at h
  have := h j hj i hi
  rw [hx, hy] at this
  simp only [h1, h3, Bool.false_or, Bool.not_true] at this
  have h2' : pureOp x.op = false := by simpa using h2
  rw [h2', Bool.false_or, Bool.false_or] at this
  exact befL_spec ops ops [] (fun j => by simp) (fun j i h => by simp at h) i j this
section
variable {rd : Option Nat} {P : Program} {N : Nat} {K0 : World} {ops : List Oper} {bs : Bool × Bool} {pu : Bool} {σ0 : Store} {α0 : AF}
def stepH (P : Program) (N : Nat) (ops : List Oper) (bs : Bool × Bool) (pu : Bool) (σ0 : Store) (α : AF) (σ : Store) (o : Oper) (b : Bool) (v : AV) (σ' : Store) : Prop :=
  (∀ d, o.dst = some d → d < N) ∧
  ((b = true ∧ ((loudG bs o.op = true ∧ AOp P o.op (evF α) σ (fun v' σ'' => v' = v ∧ σ'' = σ') ∧ Grown pu σ0 σ') ∨ (loudG bs o.op = false ∧ σ' = σ ∧ (pureOp o.op = true → ∀ σ1, AOpQ P o.op (evF α) σ1 v) ∧ AOpQ P o.op (evF α) σ0 v)) ∧ (∀ g want, o.guard = some (g, want) → ∃ d, (ops[g]?).bind (·.dst) = some d ∧ look α d = some (.c (.bool want)))) ∨
   (b = false ∧ v = .c undef ∧ σ' = σ ∧ ∃ g want d, o.guard = some (g, want) ∧ (ops[g]?).bind (·.dst) = some d ∧ (look α d = some (.c (.bool (!want))) ∨ ∃ t, look α d = some (.c (.tuple t)))))
theorem trace_of_gregH {K : AF → Store → Prop} : ∀ (l : List Oper) (k : Nat) (vs0 : Nat → AV) (bs0 : Nat → Bool) (ss0 : Nat → Store) (β : AF), (∀ t, look β t = look (frL ops α0 vs0 k) t) → (∀ j, j < l.length → l[j]? = ops[k + j]?) → greg P N ops bs pu σ0 K l β (ss0 k) →
    ∃ (vs : Nat → AV) (bl : Nat → Bool) (ss : Nat → Store), (∀ j, j < k → vs j = vs0 j ∧ bl j = bs0 j) ∧ (∀ j, j ≤ k → ss j = ss0 j) ∧ (∀ j (h : j < l.length), stepH P N ops bs pu σ0 (frL ops α0 vs (k + j)) (ss (k + j)) l[j] (bl (k + j)) (vs (k + j)) (ss (k + j + 1))) ∧ ∃ γ, (∀ t, look γ t = look (frL ops α0 vs (k + l.length)) t) ∧ K γ (ss (k + l.length))
  | [], k, vs0, bs0, ss0, β, hβ, _, h => ⟨vs0, bs0, ss0, fun _ _ => ⟨rfl, rfl⟩, fun _ _ => rfl, fun j h => by simp at h, β, hβ, h⟩
  | o :: r, k, vs0, bs0, ss0, β, hβ, hl, h => by
    have ho : ops[k]? = some o := by have := hl 0 (by simp); simpa using this.symm
    have go : ∀ (b : Bool) (v : AV) (σ' : Store) (β : AF), (∀ t, look β t = look (frL ops α0 vs0 k) t) → stepH P N ops bs pu σ0 (frL ops α0 vs0 k) (ss0 k) o b v σ' → putA N o.dst v β (fun α' => greg P N ops bs pu σ0 K r α' σ') →
        ∃ (vs : Nat → AV) (bl : Nat → Bool) (ss : Nat → Store), (∀ j, j < k → vs j = vs0 j ∧ bl j = bs0 j) ∧ (∀ j, j ≤ k → ss j = ss0 j) ∧ (∀ j (h : j < (o :: r).length), stepH P N ops bs pu σ0 (frL ops α0 vs (k + j)) (ss (k + j)) (o :: r)[j] (bl (k + j)) (vs (k + j)) (ss (k + j + 1))) ∧ ∃ γ, (∀ t, look γ t = look (frL ops α0 vs (k + (o :: r).length)) t) ∧ K γ (ss (k + (o :: r).length)) := by
      intro b v σ' β hβ hst hput
      let vs1 : Nat → AV := fun j => if j = k then v else vs0 j
      let bs1 : Nat → Bool := fun j => if j = k then b else bs0 j
      let ss1 : Nat → Store := fun j => if j = k + 1 then σ' else ss0 j
      have hfr : frL ops α0 vs1 k = frL ops α0 vs0 k := frL_congr k _ _ fun j hj => by simp only [vs1]; rw [if_neg (by omega)]
      obtain ⟨β', hβ', hq⟩ : ∃ β', (∀ t, look β' t = look (frL ops α0 vs1 (k + 1)) t) ∧ greg P N ops bs pu σ0 K r β' σ' := by
        have hd : (ops[k]?).bind (·.dst) = o.dst := by rw [ho]; rfl
        unfold putA at hput
        cases hdst : o.dst with
        | none =>
          rw [hdst] at hput hd
          refine ⟨β, fun t => ?_, hput⟩
          simp only [frL, hd, hfr]
          exact hβ t
        | some d =>
          rw [hdst] at hput hd
          refine ⟨_, fun t => ?_, hput.2⟩
          simp only [frL, hd, hfr, look, vs1, if_true]
          split
          · rfl
          · exact hβ t
      obtain ⟨vs, bl, ss, h1, h1s, h2, γ, h3, h4⟩ := trace_of_gregH r (k + 1) vs1 bs1 ss1 β' hβ' (fun j hj => by
        have := hl (j + 1) (by simp; omega)
        rw [show k + 1 + j = k + (j + 1) by omega, ← this]
        rfl) (by simp only [ss1, if_true]; exact hq)
      refine ⟨vs, bl, ss, fun j hj => ?_, fun j hj => ?_, fun j hj => ?_, γ, by rw [show k + (o :: r).length = k + 1 + r.length by simp; omega]; exact h3, by rw [show k + (o :: r).length = k + 1 + r.length by simp; omega]; exact h4⟩
      · have := h1 j (by omega)
        simp only [vs1, bs1, if_neg (show ¬ j = k by omega)] at this
        exact this
      · have := h1s j (by omega)
        simp only [ss1, if_neg (show ¬ j = k + 1 by omega)] at this
        exact this
      · cases j with
        | zero =>
          have e1 := h1 k (by omega)
          have e2 := h1s k (by omega)
          have e3 := h1s (k + 1) (by omega)
          simp only [vs1, bs1, if_true] at e1
          simp only [ss1, if_true] at e3
          simp only [ss1, if_neg (show ¬ k = k + 1 by omega)] at e2
          simp only [Nat.add_zero, List.getElem_cons_zero, e1.1, e1.2, e2, e3]
          rw [frL_congr k vs vs0 fun j hj => by have := h1 j (by omega); simp only [vs1, if_neg (show ¬ j = k by omega)] at this; exact this.1]
          exact hst
        | succ j =>
          have := h2 j (by simpa using hj)
          rw [show k + 1 + j = k + (j + 1) by omega] at this
          exact this
    simp only [greg] at h
    obtain ⟨β1, hβ1, h⟩ := splitA_inv h
    have hb : ∀ t, look β1 t = look (frL ops α0 vs0 k) t := fun t => (hβ1 t).trans (hβ t)
    clear hβ1 hβ
    have act : (match loudG bs o.op with
        | true => AOpD P o.op (evF β1) (ss0 k) fun v σ' => Grown pu σ0 σ' ∧ putA N o.dst v β1 fun α' => greg P N ops bs pu σ0 K r α' σ'
        | false => AOpK P o.op (evF β1) σ0 fun v => putA N o.dst v β1 fun α' => greg P N ops bs pu σ0 K r α' (ss0 k)) →
        ∃ v σ', ((loudG bs o.op = true ∧ AOp P o.op (evF (frL ops α0 vs0 k)) (ss0 k) (fun v' σ'' => v' = v ∧ σ'' = σ') ∧ Grown pu σ0 σ') ∨ (loudG bs o.op = false ∧ σ' = ss0 k ∧ (pureOp o.op = true → ∀ σ1, AOpQ P o.op (evF (frL ops α0 vs0 k)) σ1 v) ∧ AOpQ P o.op (evF (frL ops α0 vs0 k)) σ0 v)) ∧ putA N o.dst v β1 fun α' => greg P N ops bs pu σ0 K r α' σ' := by
      intro h
      rw [evF_same hb] at h
      cases hlo : loudG bs o.op with
      | true =>
        rw [hlo] at h
        obtain ⟨v, σ', h1, h2, h3⟩ := AOp_det hlo h
        exact ⟨v, σ', .inl ⟨rfl, h1, h2⟩, h3⟩
      | false =>
        rw [hlo] at h
        by_cases hp : pureOp o.op = true
        · obtain ⟨v, h1, h2⟩ := AOpK_pure o.op hp h
          exact ⟨v, _, .inr ⟨rfl, rfl, fun _ => h1, h1 σ0⟩, h2⟩
        · obtain ⟨v, h1, h2⟩ := AOpK_ex o.op h
          exact ⟨v, _, .inr ⟨rfl, rfl, fun h => absurd h hp, h1⟩, h2⟩
    unfold guardA at h
    cases hg : o.guard with
    | none =>
      rw [hg] at h
      obtain ⟨v, σ', hv, hp⟩ := act h
      refine go true v σ' β1 hb ⟨fun d hd => ?_, .inl ⟨rfl, hv, fun g want h => by rw [hg] at h; cases h⟩⟩ hp
      rw [hd] at hp
      exact hp.1
    | some g =>
      obtain ⟨g, want⟩ := g
      rw [hg] at h
      replace h := on_elim h; obtain ⟨d, hd, h⟩ := h
      replace h := on_elim h; obtain ⟨u, hu, h⟩ := h
      rw [hb] at hu
      have skip : (look (frL ops α0 vs0 k) d = some (.c (.bool (!want))) ∨ ∃ t, look (frL ops α0 vs0 k) d = some (.c (.tuple t))) → putA N o.dst (.c undef) β1 (fun α' => greg P N ops bs pu σ0 K r α' (ss0 k)) → _ := fun hu hp =>
        go false (.c undef) (ss0 k) β1 hb ⟨fun d hd => by rw [hd] at hp; exact hp.1, .inr ⟨rfl, rfl, rfl, g, want, d, hg, hd, hu⟩⟩ hp
      split at h
      · cases want
        · exact skip (.inl hu) h
        · obtain ⟨v, σ', hv, hp⟩ := act h
          exact go true v σ' β1 hb ⟨fun d hd => by rw [hd] at hp; exact hp.1, .inl ⟨rfl, hv, fun g' want' h' => by
            rw [hg] at h'
            cases h'
            exact ⟨d, hd, hu⟩⟩⟩ hp
      · cases want
        · obtain ⟨v, σ', hv, hp⟩ := act h
          exact go true v σ' β1 hb ⟨fun d hd => by rw [hd] at hp; exact hp.1, .inl ⟨rfl, hv, fun g' want' h' => by
            rw [hg] at h'
            cases h'
            exact ⟨d, hd, hu⟩⟩⟩ hp
        · exact skip (.inl hu) h
      · rename_i t
        exact skip (.inr ⟨t, hu⟩) h
      · exact h.elim
/-- **A region that draws its order, and reads ahead of writing.** -/
theorem AWP_drawH {Q : Post} {id : Nat} {σ : Store} (bs : Bool × Bool) (p : Nat) (hm : P.follows .mixedOrders = true) (hB : (drawB ops p && edgesBack ops && noSelect ops && decide (p ≤ ops.length) && loudOrd bs ops p && hybB bs ops p) = true)
    (h : greg P N ops bs true σ (fun α σ => areg P N ops (fun α σ => Q .normal α σ) (ops.drop p) α σ) (ops.take p) α0 σ) : AWPr rd P N (.region id ops.toArray true) Q α0 σ := by
  intro K imm m w a hs hf
  simp only [Bool.and_eq_true, decide_eq_true_eq] at hB
  obtain ⟨⟨⟨⟨⟨hB1, hB2⟩, hB3⟩, hB4⟩, hB5⟩, hB6⟩ := hB
  have hc : Conf ops p := fun i j x y hij hx hy h => drawB_spec hB1 hij hx hy h
  obtain ⟨vs, bl, ss, _, hss0, h2, γ, hγ, h3⟩ := trace_of_gregH (ops := ops) (α0 := α0) (pu := true) (ops.take p) 0 (fun _ => .emp) (fun _ => true) (fun _ => σ) α0 (fun _ => rfl) (fun j hj => by
    simp only [List.length_take] at hj
    rw [List.getElem?_take_of_lt (by omega), Nat.zero_add]) h
  simp only [Nat.zero_add, List.length_take, Nat.min_eq_left hB4] at h2 hγ h3
  have hss0 : ss 0 = σ := hss0 0 (Nat.le_refl _)
  refine wpIn_region_any hm ?_
  have hst : ∀ j, j < p → ∀ o, ops[j]? = some o → stepH P N ops bs true σ (frL ops α0 vs j) (ss j) o (bl j) (vs j) (ss (j + 1)) := fun j hj o ho => by
    have := h2 j hj
    rw [List.getElem_take] at this
    obtain ⟨hj', rfl⟩ := List.getElem?_eq_some_iff.1 ho
    exact this
  have hrep : ∀ i, (Array.replicate ops.toArray.size false).getD i true = true → ¬ i < ops.length := fun i h hi => by
    simp [Array.getD_eq_getD_getElem?, hi] at h
  -- which operations change the store
  let lo : Nat → Prop := fun j => ∃ o, ops[j]? = some o ∧ loudG bs o.op = true
  have same1 : ∀ j, j < p → ¬ lo j → ss (j + 1) = ss j := fun j hj hn => by
    have ho : ops[j]? = some ops[j] := List.getElem?_eq_getElem (by omega)
    rcases (hst j hj _ ho).2 with ⟨_, hk, _⟩ | ⟨_, _, hk, _⟩
    · rcases hk with ⟨hk, _⟩ | ⟨_, hk, _⟩
      · exact absurd ⟨_, ho, hk⟩ hn
      · exact hk
    · exact hk
  have same : ∀ d k, k + d ≤ p → (∀ i, k ≤ i → i < k + d → ¬ lo i) → ss (k + d) = ss k := by
    intro d
    induction d with
    | zero => intro k _ _; rfl
    | succ d ih =>
      intro k hk hn
      rw [← Nat.add_assoc, same1 (k + d) (by omega) (hn _ (by omega) (by omega))]
      exact ih k (by omega) fun i h1 h2 => hn i h1 (by omega)
  obtain ⟨top, htop⟩ : ∃ top : (Nat → Prop) → Nat, ∀ S, (∀ j, j < p → S j → lo j → j < top S) ∧ ∀ k, (∀ j, j < p → S j → lo j → j < k) → top S ≤ k := by
    have hex : ∀ S : Nat → Prop, ∃ n, (∀ j, j < p → S j → lo j → j < n) ∧ ∀ k, (∀ j, j < p → S j → lo j → j < k) → n ≤ k := fun S =>
      least (p := fun n => ∀ j, j < p → S j → lo j → j < n) p fun j hj _ _ => hj
    exact ⟨fun S => Classical.choose (hex S), fun S => Classical.choose_spec (hex S)⟩
  have topP : ∀ S, top S ≤ p := fun S => (htop S).2 p fun j hj _ _ => hj
  refine quiet_any (σ := ss p) (fun S => ss (top S)) hB2 hc hB3 hB4 (fun S h => ?_) (fun j o S imm m a w next Q' hj ho hsl hs hI hcl hnS hanc hn => ?_) hγ h3 _ _ a _ imm m ?_ (by simp) (fun i hi => absurd hi.1 (hrep i hi.2)) (fun i hi h => absurd hi (hrep i h)) ?_
    ⟨hf.defers, hf.size, fun t i h => absurd h.1.1 (hrep i h.1.2), fun t av _ h => hf.slot t av h⟩
  · have := same (p - top S) (top S) (by have := topP S; omega) fun i h1 h2 hl => by
      have := (htop S).1 i (by have := topP S; omega) (h i (by have := topP S; omega)) hl
      omega
    rw [show top S + (p - top S) = p by have := topP S; omega] at this
    exact this.symm
  · -- one operation, at whatever time it comes
    have hf := hI.names hc hcl ho hnS hanc
    have hlk : ∀ d av, d ∈ namesOf ops o → look (frL ops α0 vs j) d = some av → look (restr (namesOf ops o) (frL ops α0 vs j)) d = some av := fun d av hd h => by
      rw [look_restr, if_pos (by simpa using hd)]; exact h
    have hyield : ∀ (g d : Nat) (u : Value), (ops[g]?).bind (·.dst) = some d → look (frL ops α0 vs j) d = some (.c u) → d ∈ namesOf ops o → ((ops.toArray[g]?).bind (·.dst)).bind (a.tmps[·]?) = some u := fun g d u hgd hu hm => by
      obtain ⟨x, hx, r⟩ := hf.slot d _ (hlk d _ hm hu)
      simp only [List.getElem?_toArray, hgd, Option.bind_some, hx, r.c_inv]
    have hoa : ops.toArray[j]? = some o := by simpa using ho
    have hkeep : ¬ lo j → ss (top fun i => S i ∨ i = j) = ss (top S) := fun hn => by
      have h1 : top (fun i => S i ∨ i = j) ≤ top S := (htop _).2 _ fun i hi hS hl => by
        rcases hS with hS | rfl
        · exact (htop S).1 i hi hS hl
        · exact absurd hl hn
      have h2 : top S ≤ top (fun i => S i ∨ i = j) := (htop _).2 _ fun i hi hS hl => (htop _).1 i hi (.inl hS) hl
      rw [Nat.le_antisymm h1 h2]
    have hloud : lo j → ss (top S) = ss j ∧ ss (top fun i => S i ∨ i = j) = ss (j + 1) := fun hl => by
      obtain ⟨o', ho', hl'⟩ := hl
      rw [ho] at ho'
      cases ho'
      have hS : ∀ i, i < p → S i → lo i → i < j := fun i hi hS ⟨x, hx, hxl⟩ => by
        rcases Nat.lt_trichotomy i j with h | h | h
        · exact h
        · subst h; exact absurd hS hnS
        · exact absurd ((hcl i hS).2 j (loudOrd_spec hB5 h hi ho hx hl' hxl)) hnS
      have h1 : top S ≤ j := (htop S).2 j hS
      have h2 := same (j - top S) (top S) (by omega) fun i h1 h2 ⟨x, hx, hxl⟩ => by
        have hi : S i := hanc i (loudOrd_spec hB5 (by omega) hj hx ho hxl hl')
        have := (htop S).1 i (by omega) hi ⟨x, hx, hxl⟩
        omega
      rw [show top S + (j - top S) = j by omega] at h2
      refine ⟨h2.symm, ?_⟩
      have h3 : top (fun i => S i ∨ i = j) = j + 1 := Nat.le_antisymm ((htop _).2 _ fun i hi h9 hl => by
        rcases h9 with h9 | rfl
        · have := hS i hi h9 hl; omega
        · omega) ((htop _).1 j hj (.inr rfl) ⟨o, ho, hl'⟩)
      rw [h3]
    have hnolo : loudG bs o.op = false → ¬ lo j := fun h ⟨o', ho', hl'⟩ => by
      rw [ho] at ho'
      cases ho'
      rw [h] at hl'
      cases hl'
    have hcg : ∀ x ∈ o.op.operands, evF (frL ops α0 vs j) x = evF (restr (namesOf ops o) (frL ops α0 vs j)) x := fun x hx => by
      cases x with
      | tmp t => simp only [evF]; rw [look_restr, if_pos (by simpa using operand_names hx)]
      | _ => rfl
    unfold wpOpIn
    simp only [hoa]
    obtain ⟨hdN, ⟨hbt, hq, hg⟩ | ⟨hbf, hv, hσ, g, want, d, hg, hgd, hu⟩⟩ := hst j hj o ho
    · have hw : Region.wanted o (yielded ops.toArray a.tmps) = true := by
        cases hgo : o.guard with
        | none => simp [Region.wanted, hgo]
        | some gw =>
          obtain ⟨g, want⟩ := gw
          obtain ⟨d, hgd, hu⟩ := hg g want hgo
          have hy : yielded ops.toArray a.tmps g = some want := by simp only [yielded, hyield g d _ hgd hu (guard_names hgo hgd)]
          simp [Region.wanted, hgo, hy]
      rw [if_pos hw]
      rcases hq with ⟨hlo, hq, _⟩ | ⟨hlo, _, hq⟩
      · obtain ⟨e1, e2⟩ := hloud ⟨o, ho, hlo⟩
        rw [e1] at hs
        rw [AOp_congr o.op hsl hcg] at hq
        have hup := AOp_sound (dst := o.dst) (type := o.type) (pos := o.pos) (after := o.after) (guard := o.guard) o.op hs (evF_rep hf) hq
        refine wpIn_of_up (AOp_noDefer hq) hup fun imm' m' v av σ' w' hi hoo hs' hr hk => ?_
        obtain ⟨rfl, rfl⟩ := hk
        exact hn imm' m' v w' hi hoo (by rw [e2]; exact hs') ((hI.mono hi hoo).step hc hcl ho hnS hdN hr)
      · have e2 := hkeep (hnolo hlo)
        have hq' : AOpQ P o.op (evF (frL ops α0 vs j)) (ss (top S)) (vs j) := by
          by_cases hp : pureOp o.op = true
          · exact hq.1 hp _
          · have h0 : top S = 0 := Nat.le_antisymm ((htop S).2 0 fun i hi hS ⟨x, hx, hxl⟩ => absurd ((hcl i hS).2 j (hyb_spec hB6 hj hi ho hx hlo hp hxl)) hnS) (Nat.zero_le _)
            rw [h0, hss0]
            exact hq.2
        rw [AOpQ_congr o.op hsl hcg] at hq'
        have hup := AOpQ_sound (dst := o.dst) (type := o.type) (pos := o.pos) (after := o.after) (guard := o.guard) o.op hs (evF_rep hf) hq'
        refine wpIn_of_up (AOpQ_noDefer hq') hup fun imm' m' v av σ' w' hi hoo hs' hr hk => ?_
        obtain ⟨rfl, rfl⟩ := hk
        exact hn imm' m' v w' hi hoo (by rw [e2]; exact hs') ((hI.mono hi hoo).step hc hcl ho hnS hdN hr)
    · have hw : Region.wanted o (yielded ops.toArray a.tmps) = false := by
        rcases hu with hu | ⟨t, hu⟩
        · have hy : yielded ops.toArray a.tmps g = some (!want) := by simp only [yielded, hyield g d _ hgd hu (guard_names hg hgd)]
          simp [Region.wanted, hg, hy]
        · have hy : yielded ops.toArray a.tmps g = none := by simp only [yielded, hyield g d _ hgd hu (guard_names hg hgd)]
          simp [Region.wanted, hg, hy]
      rw [if_neg (by rw [hw]; simp)]
      refine ⟨fun _ _ => Rnd_fn _ _, hn imm m undef w (.refl _) (.refl _) ?_ (hI.step hc hcl ho hnS hdN (by rw [hv]; exact .c _))⟩
      by_cases hl : lo j
      · obtain ⟨e1, e2⟩ := hloud hl
        rw [e2, hσ, ← e1]
        exact hs
      · rw [hkeep hl]
        exact hs
  · simp [left]
  · have h0 : top (fun i => i < ops.length ∧ (Array.replicate ops.toArray.size false).getD i true = true) = 0 := Nat.le_antisymm ((htop _).2 0 fun j _ h => absurd h.1 (hrep j h.2)) (Nat.zero_le _)
    show Sim K imm m { w with drawn := w.drawn + 1 } (ss (top _))
    rw [h0, hss0]
    exact hs.drew
end
theorem AWP_drawX {rd : Option Nat} {P : Program} {N : Nat} {ops : List Oper} {α0 : AF} {σ : Store} {Q : Post} {id : Nat} (hm : P.follows .mixedOrders = true) (hB : (drawB ops ops.length && edgesBack ops && noSelect ops && decide (ops.length ≤ ops.length) && loudOrd (false, false) ops ops.length && hybB (false, false) ops ops.length) = true)
    (h : greg P N ops (false, false) true σ (fun α σ => Q .normal α σ) ops α0 σ) : AWPr rd P N (.region id ops.toArray true) Q α0 σ :=
  AWP_drawH (false, false) ops.length hm hB (by rw [List.take_length, List.drop_length]; exact h)
end Go.Proofs.Ytephecognbbaoab
namespace Go.Proofs.Ytephecognbbaoab
def swp0 (st : List Int) (j : Nat) (v : Int) : List Int := (st.set (j + 1) (st.getD j 0)).set j v
def swp (st : List Int) (j : Nat) : List Int := swp0 st j (st.getD (j + 1) 0)
def insJ : Nat → List Int → List Int
  | 0, st => st
  | j + 1, st => if st.getD (j + 1) 0 < st.getD j 0 then insJ j (swp st j) else st
def insS : Nat → Nat → List Int → List Int
  | 0, _, st => st
  | f + 1, i, st => insS f (i + 1) (insJ i st)
def sortI (l : List Int) : List Int := insS (l.length - 1) 1 l
theorem swp_len (st : List Int) (j : Nat) : (swp st j).length = st.length := by simp [swp, swp0]
theorem insJ_len : ∀ (j : Nat) (st : List Int), (insJ j st).length = st.length
  | 0, _ => rfl
  | j + 1, st => by
    rw [insJ]
    split
    · rw [insJ_len j, swp_len]
    · rfl
theorem insS_len : ∀ (f i : Nat) (st : List Int), (insS f i st).length = st.length
  | 0, _, _ => rfl
  | f + 1, i, st => by rw [insS, insS_len f, insJ_len]
theorem sortI_len (l : List Int) : (sortI l).length = l.length := insS_len _ _ _
/-- A number put into numbers that fall. -/
def insD (x : Int) : List Int → List Int
  | [] => [x]
  | y :: r => if x < y then y :: insD x r else x :: y :: r
theorem insD_len (x : Int) : ∀ r, (insD x r).length = r.length + 1
  | [] => rfl
  | y :: r => by
    rw [insD]
    split
    · rw [List.length_cons, insD_len x r, List.length_cons]
    · rfl
theorem insD_mem (x v : Int) : ∀ r, v ∈ insD x r ↔ v = x ∨ v ∈ r
  | [] => by simp [insD]
  | y :: r => by
    rw [insD]
    split
    · rw [List.mem_cons, insD_mem x v r, List.mem_cons]
      constructor
      · rintro (h | h | h)
        · exact .inr (.inl h)
        · exact .inl h
        · exact .inr (.inr h)
      · rintro (h | h | h)
        · exact .inr (.inl h)
        · exact .inl h
        · exact .inr (.inr h)
    · rw [List.mem_cons]
theorem insD_sorted (x : Int) : ∀ r, x ∉ r → r.Pairwise (fun a b => b < a) → (insD x r).Pairwise (fun a b => b < a)
  | [], _, _ => List.pairwise_singleton _ _
  | y :: r, hx, h => by
    rw [List.pairwise_cons] at h
    rw [List.mem_cons, not_or] at hx
    rw [insD]
    split
    · rename_i hlt
      rw [List.pairwise_cons]
      refine ⟨fun v hv => ?_, insD_sorted x r hx.2 h.2⟩
      rcases (insD_mem x v r).1 hv with rfl | hv
      · exact hlt
      · exact h.1 v hv
    · rename_i hlt
      rw [List.pairwise_cons, List.pairwise_cons]
      refine ⟨fun v hv => ?_, h.1, h.2⟩
      have h1 := hx.1
      rcases List.mem_cons.1 hv with rfl | hv
      · omega
      · have := h.1 v hv
        omega
theorem getD_mid (l r : List Int) (x : Int) : (l ++ x :: r).getD l.length 0 = x := by
  simp [List.getD_eq_getElem?_getD]
theorem insJ_eq (x : Int) : ∀ (r l2 : List Int), insJ r.length (r.reverse ++ x :: l2) = (insD x r).reverse ++ l2
  | [], l2 => by simp [insJ, insD]
  | y :: r, l2 => by
    have e : (y :: r).reverse ++ x :: l2 = r.reverse ++ y :: x :: l2 := by simp
    have e2 : r.reverse ++ y :: x :: l2 = (r.reverse ++ [y]) ++ x :: l2 := by simp
    have hl : (r.reverse ++ [y]).length = r.length + 1 := by simp
    have g1 : ((y :: r).reverse ++ x :: l2).getD (r.length + 1) 0 = x := by
      rw [e, e2, ← hl]
      exact getD_mid _ _ _
    have g2 : ((y :: r).reverse ++ x :: l2).getD r.length 0 = y := by
      rw [e]
      have := getD_mid r.reverse (x :: l2) y
      rw [List.length_reverse] at this
      exact this
    rw [List.length_cons, insJ, g1, g2, insD]
    split
    · have hs : swp ((y :: r).reverse ++ x :: l2) r.length = r.reverse ++ x :: (y :: l2) := by
        rw [swp, swp0, g1, g2, e]
        rw [List.set_append_right _ _ (by simp), List.set_append_right _ _ (by simp)]
        simp
      rw [hs, insJ_eq x r (y :: l2)]
      simp
    · simp
def insF (r : List Int) : List Int → List Int
  | [] => r
  | x :: l => insF (insD x r) l
theorem insS_eq : ∀ (l r : List Int), insS l.length r.length (r.reverse ++ l) = (insF r l).reverse
  | [], r => by simp [insS, insF]
  | x :: l, r => by
    rw [List.length_cons, insS, insJ_eq]
    have := insS_eq l (insD x r)
    rw [insD_len] at this
    rw [this, insF]
theorem insF_mem (v : Int) : ∀ (l r : List Int), v ∈ insF r l ↔ v ∈ r ∨ v ∈ l
  | [], r => by simp [insF]
  | x :: l, r => by
    rw [insF, insF_mem v l, insD_mem, List.mem_cons]
    constructor
    · rintro ((h | h) | h)
      · exact .inr (.inl h)
      · exact .inl h
      · exact .inr (.inr h)
    · rintro (h | h | h)
      · exact .inl (.inr h)
      · exact .inl (.inl h)
      · exact .inr h
theorem insF_sorted : ∀ (l r : List Int), l.Nodup → (∀ v ∈ l, v ∉ r) → r.Pairwise (fun a b => b < a) → (insF r l).Pairwise (fun a b => b < a)
  | [], r, _, _, h => h
  | x :: l, r, hn, hd, h => by
    rw [List.nodup_cons] at hn
    rw [insF]
    refine insF_sorted l _ hn.2 (fun v hv h2 => ?_) (insD_sorted x r (hd x (List.mem_cons_self ..)) h)
    rcases (insD_mem x v r).1 h2 with rfl | h3
    · exact hn.1 hv
    · exact hd v (List.mem_cons_of_mem _ hv) h3
theorem sortI_eq (l : List Int) : sortI l = (insF [] l).reverse := by
  cases l with
  | nil => rfl
  | cons x l =>
    have := insS_eq l [x]
    rw [sortI, List.length_cons, Nat.add_sub_cancel]
    exact this
theorem sortI_mem (l : List Int) (v : Int) : v ∈ sortI l ↔ v ∈ l := by
  rw [sortI_eq, List.mem_reverse, insF_mem]
  simp
theorem sortI_sorted {l : List Int} (h : l.Nodup) : (sortI l).Pairwise (· < ·) := by
  rw [sortI_eq, List.pairwise_reverse]
  exact insF_sorted l [] h (fun v _ h => by cases h) List.Pairwise.nil
theorem sorted_ext : ∀ (l l' : List Int), l.Pairwise (· < ·) → l'.Pairwise (· < ·) → (∀ v, v ∈ l ↔ v ∈ l') → l = l'
  | [], [], _, _, _ => rfl
  | [], y :: _, _, _, h => absurd ((h y).2 (List.mem_cons_self ..)) List.not_mem_nil
  | x :: _, [], _, _, h => absurd ((h x).1 (List.mem_cons_self ..)) List.not_mem_nil
  | x :: l, y :: l', h1, h2, h => by
    rw [List.pairwise_cons] at h1 h2
    have hxy : x = y := by
      rcases List.mem_cons.1 ((h x).1 (List.mem_cons_self ..)) with e | hx
      · exact e
      · rcases List.mem_cons.1 ((h y).2 (List.mem_cons_self ..)) with e | hy
        · exact e.symm
        · have := h1.1 y hy
          have := h2.1 x hx
          omega
    subst hxy
    rw [sorted_ext l l' h1.2 h2.2 fun v => ?_]
    constructor
    · intro hv
      rcases List.mem_cons.1 ((h v).1 (List.mem_cons_of_mem _ hv)) with e | h3
      · have := h1.1 v hv; omega
      · exact h3
    · intro hv
      rcases List.mem_cons.1 ((h v).2 (List.mem_cons_of_mem _ hv)) with e | h3
      · have := h2.1 v hv; omega
      · exact h3
theorem ints_sorted (m : Int) : (ints m).Pairwise (· < ·) := by
  unfold ints
  rw [List.pairwise_map]
  exact List.pairwise_lt_range.imp fun h => by omega
/-- No two links between the same nodes. -/
theorem links_apart {n : Net} : ∀ (r pre : List Lnk), linksErr n pre r = 0 → r.Pairwise (fun a b => ¬ (a.fr = b.fr ∧ a.dst = b.dst)) ∧ ∀ a ∈ pre, ∀ b ∈ r, ¬ (a.fr = b.fr ∧ a.dst = b.dst)
  | [], _, _ => ⟨List.Pairwise.nil, fun _ _ _ h => by cases h⟩
  | x :: r, pre, h => by
    rw [linksErr] at h
    split at h
    · rename_i h1; exact absurd h h1
    · rename_i h1
      obtain ⟨h2, h3⟩ := links_apart r _ h
      have h4 := (lnkIn_of (Decidable.not_not.1 h1)).2
      refine ⟨List.pairwise_cons.2 ⟨fun b hb => h3 x (by simp) b hb, h2⟩, fun a ha b hb => ?_⟩
      rcases List.mem_cons.1 hb with rfl | hb
      · have := List.any_eq_false.1 h4 a ha
        simpa [Lnk.like] using this
      · exact h3 a (List.mem_append_left _ ha) b hb
theorem links_of {n : Net} (hc : checkN n = 0) : n.links.Pairwise (fun a b => ¬ (a.fr = b.fr ∧ a.dst = b.dst)) := by
  unfold checkN at hc
  split at hc
  · rename_i h1; exact absurd hc h1
  · split at hc
    · cases hc
    · split at hc
      · cases hc
      · exact (links_apart _ _ hc).1
theorem linked_any {n : Net} (hn : NetIn n) (x y : Int) : (n.links.any fun k => decide (k.fr = x) && decide (k.dst = y)) = decide (0 ≤ edgeOf n x y) := by
  unfold edgeOf
  cases h : n.links.find? fun l => decide (l.fr = x) && decide (l.dst = y) with
  | none =>
    rw [List.find?_eq_none] at h
    rw [Option.map_none, Option.getD_none, decide_eq_false (by decide), List.any_eq_false]
    exact h
  | some l =>
    have h1 := List.mem_of_find?_eq_some h
    have h2 := List.find?_some h
    rw [Option.map_some, Option.getD_some, decide_eq_true (hn.lnk l h1).e0, List.any_eq_true]
    exact ⟨l, h1, h2⟩
def froms (n : Net) (i : Int) : List Int := (n.links.filter fun k => decide (k.dst = i)).map (·.fr)
theorem froms_nodup {n : Net} (hc : checkN n = 0) (i : Int) : (froms n i).Nodup := by
  unfold froms List.Nodup
  rw [List.pairwise_map]
  have h := (links_of hc).filter fun k => decide (k.dst = i)
  refine List.Pairwise.imp_of_mem ?_ h
  intro a b ha hb h e
  exact h ⟨e, by have := (List.mem_filter.1 ha).2; have h3 := (List.mem_filter.1 hb).2; simp at this h3; rw [this, h3]⟩
theorem froms_mem {n : Net} (hn : NetIn n) {i v : Int} : v ∈ froms n i ↔ v ∈ hearsA n i := by
  rw [hears_mem]
  have hL := linked_any hn v i
  unfold froms
  simp only [List.mem_map, List.mem_filter, decide_eq_true_eq]
  constructor
  · rintro ⟨k, ⟨h1, h2⟩, rfl⟩
    have h3 := hn.lnk k h1
    have : (n.links.any fun l => decide (l.fr = k.fr) && decide (l.dst = i)) = true := List.any_eq_true.2 ⟨k, h1, by simp [h2]⟩
    rw [hL, decide_eq_true_eq] at this
    exact ⟨⟨h3.f0, h3.f1⟩, this⟩
  · rintro ⟨_, h2⟩
    rw [decide_eq_true h2, List.any_eq_true] at hL
    obtain ⟨k, h3, h4⟩ := hL
    simp at h4
    exact ⟨k, ⟨h3, h4.2⟩, h4.1⟩
theorem hears_sorted (n : Net) (i : Int) : (hearsA n i).Pairwise (· < ·) := (ints_sorted _).filter _
theorem sort_hears {n : Net} (hc : checkN n = 0) (i : Int) : sortI (froms n i) = hearsA n i :=
  sorted_ext _ _ (sortI_sorted (froms_nodup hc i)) (hears_sorted n i) fun v => by rw [sortI_mem, froms_mem (netIn_of hc)]
theorem from_len {n : Net} (hc : checkN n = 0) (i : Int) : (froms n i).length ≤ 6 := by
  rw [← sortI_len, sort_hears hc]
  exact hears_len (netIn_of hc) i
end Go.Proofs.Ytephecognbbaoab
namespace Go.Proofs.Ytephecognbbaoab
theorem isNaN0_calls (x : Int) (σ : Store) : ACalls Try.prog 203 [intA1 x] σ fun r' σ' => σ' = σ ∧ r' = .c (.bool false) := by
  refine ACalls_of_awp Try.func203 rfl Try.results203 ?_
  simp only [List.length_cons, List.length_nil, Try.ntmps203, Nat.reduceAdd, Nat.reduceSub, enterA]
  (repeat' (first|(refine g_s fun K hK=>?_)|(refine g_b ?_)|(refine g_r ?_)|(refine g_k ?_;simp only[thenQ,blockQ])|(refine g_e ?_;simp only[thenQ,blockQ,↓reduceIte,Nat.reduceEqDiff])|(refine g_c (fun h=>?_) (fun h=>?_)<;>(try simp only[go_sem] at h)<;>(try exact g_f))|((first|refine g_t ?_|refine g_g ?_|refine g_U ?_|refine g_A ?_|refine g_W ?_);(try simp -implicitDefEqProofs only[go_sem]))|(with_reducible refine hK _ _ ?_;clear hK K)|(clear hK K;first|(with_reducible refine hK _ _ ?_;clear hK K)|(clear hK K;with_reducible refine hK _ _ ?_;clear hK K)|(clear hK K;clear hK K;with_reducible refine hK _ _ ?_;clear hK K))|(with_reducible refine splitB_intro (fun h=>?_) (fun h=>?_)<;>(try simp only[go_sem] at h)<;>(try exact g_f)<;>(try simp -implicitDefEqProofs only[go_sem]))|(with_reducible refine And.intro (fun h=>?_) (fun h=>?_)<;>(try simp only[go_sem] at h)<;>(try exact g_f))|(with_reducible refine And.intro ?_ ?_;· exact g_x)|(with_reducible intro h;(try simp only[go_sem] at h);(try exact g_f))))
  all_goals simp
theorem ok_less : callOk Try.prog 220 = true := by kernel_rfl
theorem ok_nan0 : callOk Try.prog 203 = true := by kernel_rfl
theorem ok_ins : callOk Try.prog 214 = true := by kernel_rfl
theorem ok_pdq : callOk Try.prog 211 = true := by kernel_rfl
theorem ok_len : callOk Try.prog 212 = true := by kernel_rfl
theorem ok_len64 : callOk Try.prog 224 = true := by kernel_rfl
attribute [go_sem] ok_less ok_nan0 ok_ins ok_pdq ok_len ok_len64
theorem less_calls (a b : Int) (σ : Store) : ACalls Try.prog 220 [intA1 a, intA1 b] σ fun r' σ' => σ' = σ ∧ r' = .c (.bool (decide (a < b))) := by
  have h := isNaN0_calls
  refine ACalls_of_awp Try.func220 rfl Try.results220 ?_
  simp only [List.length_cons, List.length_nil, Try.ntmps220, Nat.reduceAdd, Nat.reduceSub, enterA]
  (repeat' (first|(refine g_s fun K hK=>?_)|(refine g_b ?_)|(refine g_r ?_)|(refine g_k ?_;simp only[thenQ,blockQ])|(refine g_e ?_;simp only[thenQ,blockQ,↓reduceIte,Nat.reduceEqDiff])|(refine g_c (fun h=>?_) (fun h=>?_)<;>(try simp only[go_sem] at h)<;>(try exact g_f))|((first|refine g_t ?_|refine g_g ?_|refine g_U ?_|refine g_A ?_|refine (h _ _).use ?_|refine g_q (fun τ=>h _ _) ?_|refine g_W ?_);(try simp -implicitDefEqProofs only[go_sem]))|(with_reducible refine hK _ _ ?_;clear hK K)|(clear hK K;first|(with_reducible refine hK _ _ ?_;clear hK K)|(clear hK K;with_reducible refine hK _ _ ?_;clear hK K)|(clear hK K;clear hK K;with_reducible refine hK _ _ ?_;clear hK K))|(with_reducible refine splitB_intro (fun h=>?_) (fun h=>?_)<;>(try simp only[go_sem] at h)<;>(try exact g_f)<;>(try simp -implicitDefEqProofs only[go_sem]))|(with_reducible refine And.intro (fun h=>?_) (fun h=>?_)<;>(try simp only[go_sem] at h)<;>(try exact g_f))|(with_reducible refine And.intro ?_ ?_;· exact g_x)|(with_reducible intro h;(try simp only[go_sem] at h);(try exact g_f))))
theorem get_mapN (l : List Int) {k : Nat} (h : k < l.length) : (l.map intC)[k]? = some [.c (.int .i64 (l.getD k 0))] := by
  simp [List.getD_eq_getElem?_getD, h, intC]
theorem insertion_calls (S : Store) (b c : Nat) (l : List Int) (hb : S[b]? = some (.cells 1 (l.map intC))) (hl : l.length ≤ 12) (hl1 : 1 ≤ l.length) :
    ACalls Try.prog 214 [.own b 1 0 l.length c, intA1 0, intA1 l.length] S fun r S' => S' = S.set b (.cells 1 ((sortI l).map intC)) ∧ r = .tup [] := by
  have hlt : b < S.length := (List.getElem?_eq_some_iff.1 hb).1
  have hgS : ∀ o, (S.set b o)[b]? = some o := fun o => List.getElem?_set_self hlt
  have hsS : ∀ o o', (S.set b o).set b o' = S.set b o' := fun o o' => List.set_set ..
  have hS0 : S = S.set b (.cells 1 (l.map intC)) := by
    obtain ⟨h1, h2⟩ := List.getElem?_eq_some_iff.1 hb
    rw [← h2, List.set_getElem_self]
  refine ACalls_of_awp Try.func214 rfl Try.results214 ?_
  simp only [List.length_cons, List.length_nil, Try.ntmps214, Nat.reduceAdd, Nat.reduceSub, enterA]
  (repeat' (first|(refine g_s fun K hK=>?_)|(refine g_b ?_)|(refine g_r ?_)|(refine g_k ?_;simp only[thenQ,blockQ])|(refine g_e ?_;simp only[thenQ,blockQ,↓reduceIte,Nat.reduceEqDiff])|(refine g_c (fun h=>?_) (fun h=>?_)<;>(try simp only[go_sem] at h)<;>(try exact g_f))|((first|refine g_t ?_|refine g_g ?_|refine g_U ?_|refine g_A ?_|refine g_W ?_);(try simp -implicitDefEqProofs only[go_sem]))|(with_reducible refine hK _ _ ?_;clear hK K)|(clear hK K;first|(with_reducible refine hK _ _ ?_;clear hK K)|(clear hK K;with_reducible refine hK _ _ ?_;clear hK K)|(clear hK K;clear hK K;with_reducible refine hK _ _ ?_;clear hK K))|(with_reducible refine splitB_intro (fun h=>?_) (fun h=>?_)<;>(try simp only[go_sem] at h)<;>(try exact g_f)<;>(try simp -implicitDefEqProofs only[go_sem]))|(with_reducible refine And.intro (fun h=>?_) (fun h=>?_)<;>(try simp only[go_sem] at h)<;>(try exact g_f))|(with_reducible refine And.intro ?_ ?_;· exact g_x)|(with_reducible intro h;(try simp only[go_sem] at h);(try exact g_f))))
  refine AWP_for ((l.length : Int) - 1) (fun k (st : List Int) => st.length = l.length ∧ sortI l = insS (l.length - 1 - k.toNat) (k.toNat + 1) st) (fun k _ _ => [(6, intA1 (k + 1))]) (fun _ st _ => S.set b (.cells 1 (st.map intC))) l [] (by omega) ⟨rfl, rfl⟩ hS0.symm (ALe_of ?_) ?_
  · simp -implicitDefEqProofs only [go_sem]
  · rintro k st τ hk0 hk1 ⟨h3, h4⟩ L hL
    by_cases hk2 : k < (l.length : Int) - 1
    · have ef : l.length - 1 - k.toNat = (l.length - 1 - (k + 1).toNat) + 1 := by omega
      have ek : (k + 1).toNat = k.toNat + 1 := by omega
      rw [ef, insS] at h4
      have i1 : I64 (k + 1) := by unfold I64; omega
      have i2 : I64 (k + 1 + 1) := by unfold I64; omega
      simp -implicitDefEqProofs only [go_sem]
      (repeat' (first|(refine g_s fun K hK=>?_)|(refine g_b ?_)|(refine g_r ?_)|(refine g_k ?_;simp only[thenQ,blockQ])|(refine g_e ?_;simp only[thenQ,blockQ,↓reduceIte,Nat.reduceEqDiff])|(refine g_c (fun h=>?_) (fun h=>?_)<;>(try simp only[go_sem] at h)<;>(try exact g_f))|((first|refine g_t ?_|refine g_g ?_|refine g_U ?_|refine g_A ?_|refine g_W ?_);(try simp -implicitDefEqProofs only[go_sem,i1, i2]))|(with_reducible refine hK _ _ ?_;clear hK K)|(clear hK K;first|(with_reducible refine hK _ _ ?_;clear hK K)|(clear hK K;with_reducible refine hK _ _ ?_;clear hK K)|(clear hK K;clear hK K;with_reducible refine hK _ _ ?_;clear hK K))|(with_reducible refine splitB_intro (fun h=>?_) (fun h=>?_)<;>(try simp only[go_sem] at h)<;>(try exact g_f)<;>(try simp -implicitDefEqProofs only[go_sem,i1, i2]))|(with_reducible refine And.intro (fun h=>?_) (fun h=>?_)<;>(try simp only[go_sem] at h)<;>(try exact g_f))|(with_reducible refine And.intro ?_ ?_;· exact g_x)|(with_reducible intro h;(try simp only[go_sem] at h);(try exact g_f))))
      have hJ2 := hK
      clear hK
      refine AWP_for (k + 1) (fun q (s2 : List Int) => s2.length = l.length ∧ insJ (k.toNat + 1) st = insJ (k.toNat + 1 - q.toNat) s2) (fun q _ _ => [(7, intA1 (k + 1 - q))]) (fun _ s2 _ => S.set b (.cells 1 (s2.map intC))) st [] (by omega) ⟨h3, rfl⟩ rfl (ALe_of ?_) ?_
      · simp -implicitDefEqProofs only [go_sem]
        simp
      · rintro q s2 τ2 hq0 hq1 ⟨h5, h6⟩ L2 hL2
        by_cases hq2 : q < k + 1
        · obtain ⟨j, hj⟩ : ∃ j : Nat, k + 1 - q = (j : Int) + 1 := ⟨(k - q).toNat, by omega⟩
          have ej : k.toNat + 1 - q.toNat = j + 1 := by omega
          have ej2 : k.toNat + 1 - (q + 1).toNat = j := by omega
          have tj : ((j : Int) + 1).toNat = j + 1 := by omega
          have hjl : j + 1 < s2.length := by omega
          have e1 : (j : Int) + 1 - 1 = j := by omega
          have g1 := get_mapN s2 (k := j + 1) hjl
          have g2 := get_mapN s2 (k := j) (by omega)
          have g3 := get_mapN (s2.set (j + 1) (s2.getD j 0)) (k := j) (by rw [List.length_set]; omega)
          have hc := less_calls (s2.getD (j + 1) 0) (s2.getD j 0)
          have j1 : I64 (j : Int) := by unfold I64; omega
          have m1 : ∀ v, (s2.map intC).set (j + 1) [.c (.int .i64 v)] = (s2.set (j + 1) v).map intC := fun v => set_map s2 (j + 1) v
          have m2 : ∀ v, ((s2.set (j + 1) (s2.getD j 0)).map intC).set j [.c (.int .i64 v)] = (swp0 s2 j v).map intC := fun v => set_map _ j v
          have hins : insJ (j + 1) s2 = if s2.getD (j + 1) 0 < s2.getD j 0 then insJ j (swp s2 j) else s2 := rfl
          have hj' : k + 1 - (q + 1) = j := by omega
          rw [ej, hins] at h6
          simp -implicitDefEqProofs only [go_sem, hj]
          by_cases hlt2 : s2.getD (j + 1) 0 < s2.getD j 0
          · rw [if_pos hlt2] at h6
            rw [decide_eq_true hlt2] at hc
            (repeat' (first|(refine g_s fun K hK=>?_)|(refine g_b ?_)|(refine g_r ?_)|(refine g_k ?_;simp only[thenQ,blockQ])|(refine g_e ?_;simp only[thenQ,blockQ,↓reduceIte,Nat.reduceEqDiff])|(refine g_c (fun h=>?_) (fun h=>?_)<;>(try simp only[go_sem] at h)<;>(try exact g_f))|((first|refine g_t ?_|refine g_G ?_|refine AWP_drawX tab_mixed (by decide +kernel) ?_|refine (hc _).use ?_|refine g_q (fun τ=>hc _) ?_);(try simp -implicitDefEqProofs only[go_sem,hgS, hsS, g1, g2, g3, tj, e1, j1, m1, m2]))|(with_reducible refine hK _ _ ?_;clear hK K)|(clear hK K;first|(with_reducible refine hK _ _ ?_;clear hK K)|(clear hK K;with_reducible refine hK _ _ ?_;clear hK K)|(clear hK K;clear hK K;with_reducible refine hK _ _ ?_;clear hK K))|(with_reducible refine splitB_intro (fun h=>?_) (fun h=>?_)<;>(try simp only[go_sem] at h)<;>(try exact g_f)<;>(try simp -implicitDefEqProofs only[go_sem,hgS, hsS, g1, g2, g3, tj, e1, j1, m1, m2]))|(with_reducible refine And.intro (fun h=>?_) (fun h=>?_)<;>(try simp only[go_sem] at h)<;>(try exact g_f))|(with_reducible refine And.intro ?_ ?_;· exact g_x)|(with_reducible intro h;(try simp only[go_sem] at h);(try exact g_f))))
            refine hL2 (by omega) (swp s2 j) τ2 _ _ ⟨by rw [swp_len]; exact h5, by rw [h6, ej2]⟩ (ALe_of ?_) rfl
            simp -implicitDefEqProofs only [go_sem, hj']
          · rw [if_neg hlt2] at h6
            rw [decide_eq_false hlt2] at hc
            (repeat' (first|(refine g_s fun K hK=>?_)|(refine g_b ?_)|(refine g_r ?_)|(refine g_k ?_;simp only[thenQ,blockQ])|(refine g_e ?_;simp only[thenQ,blockQ,↓reduceIte,Nat.reduceEqDiff])|(refine g_c (fun h=>?_) (fun h=>?_)<;>(try simp only[go_sem] at h)<;>(try exact g_f))|((first|refine g_t ?_|refine g_g ?_|refine g_U ?_|refine g_A ?_|refine (hc _).use ?_|refine g_q (fun τ=>hc _) ?_|refine g_W ?_);(try simp -implicitDefEqProofs only[go_sem,hgS, hsS, g1, g2, tj, e1, j1]))|(with_reducible refine hK _ _ ?_;clear hK K)|(clear hK K;first|(with_reducible refine hK _ _ ?_;clear hK K)|(clear hK K;with_reducible refine hK _ _ ?_;clear hK K)|(clear hK K;clear hK K;with_reducible refine hK _ _ ?_;clear hK K))|(with_reducible refine splitB_intro (fun h=>?_) (fun h=>?_)<;>(try simp only[go_sem] at h)<;>(try exact g_f)<;>(try simp -implicitDefEqProofs only[go_sem,hgS, hsS, g1, g2, tj, e1, j1]))|(with_reducible refine And.intro (fun h=>?_) (fun h=>?_)<;>(try simp only[go_sem] at h)<;>(try exact g_f))|(with_reducible refine And.intro ?_ ?_;· exact g_x)|(with_reducible intro h;(try simp only[go_sem] at h);(try exact g_f))))
            refine hJ2 _ _ ?_
            clear hJ2
            (repeat' (first|(refine g_s fun K hK=>?_)|(refine g_b ?_)|(refine g_r ?_)|(refine g_k ?_;simp only[thenQ,blockQ])|(refine g_e ?_;simp only[thenQ,blockQ,↓reduceIte,Nat.reduceEqDiff])|(refine g_c (fun h=>?_) (fun h=>?_)<;>(try simp only[go_sem] at h)<;>(try exact g_f))|((first|refine g_t ?_|refine g_g ?_|refine g_U ?_|refine g_A ?_|refine g_W ?_);(try simp -implicitDefEqProofs only[go_sem,i2]))|(with_reducible refine hK _ _ ?_;clear hK K)|(clear hK K;first|(with_reducible refine hK _ _ ?_;clear hK K)|(clear hK K;with_reducible refine hK _ _ ?_;clear hK K)|(clear hK K;clear hK K;with_reducible refine hK _ _ ?_;clear hK K))|(with_reducible refine splitB_intro (fun h=>?_) (fun h=>?_)<;>(try simp only[go_sem] at h)<;>(try exact g_f)<;>(try simp -implicitDefEqProofs only[go_sem,i2]))|(with_reducible refine And.intro (fun h=>?_) (fun h=>?_)<;>(try simp only[go_sem] at h)<;>(try exact g_f))|(with_reducible refine And.intro ?_ ?_;· exact g_x)|(with_reducible intro h;(try simp only[go_sem] at h);(try exact g_f))))
            refine hL hk2 s2 τ _ _ ⟨h5, by rw [h4, h6, ek]⟩ (ALe_of ?_) rfl
            simp -implicitDefEqProofs only [go_sem]
        · have hqk : q = k + 1 := by omega
          have e0 : k + 1 - q = 0 := by omega
          have ej : k.toNat + 1 - q.toNat = 0 := by omega
          have hins : insJ 0 s2 = s2 := rfl
          rw [ej, hins] at h6
          simp -implicitDefEqProofs only [go_sem, e0]
          (repeat' (first|(refine g_s fun K hK=>?_)|(refine g_b ?_)|(refine g_r ?_)|(refine g_k ?_;simp only[thenQ,blockQ])|(refine g_e ?_;simp only[thenQ,blockQ,↓reduceIte,Nat.reduceEqDiff])|(refine g_c (fun h=>?_) (fun h=>?_)<;>(try simp only[go_sem] at h)<;>(try exact g_f))|((first|refine g_t ?_|refine g_g ?_|refine g_U ?_|refine g_A ?_|refine g_W ?_);(try simp -implicitDefEqProofs only[go_sem,hgS]))|(with_reducible refine hK _ _ ?_;clear hK K)|(clear hK K;first|(with_reducible refine hK _ _ ?_;clear hK K)|(clear hK K;with_reducible refine hK _ _ ?_;clear hK K)|(clear hK K;clear hK K;with_reducible refine hK _ _ ?_;clear hK K))|(with_reducible refine splitB_intro (fun h=>?_) (fun h=>?_)<;>(try simp only[go_sem] at h)<;>(try exact g_f)<;>(try simp -implicitDefEqProofs only[go_sem,hgS]))|(with_reducible refine And.intro (fun h=>?_) (fun h=>?_)<;>(try simp only[go_sem] at h)<;>(try exact g_f))|(with_reducible refine And.intro ?_ ?_;· exact g_x)|(with_reducible intro h;(try simp only[go_sem] at h);(try exact g_f))))
          refine hJ2 _ _ ?_
          clear hJ2
          (repeat' (first|(refine g_s fun K hK=>?_)|(refine g_b ?_)|(refine g_r ?_)|(refine g_k ?_;simp only[thenQ,blockQ])|(refine g_e ?_;simp only[thenQ,blockQ,↓reduceIte,Nat.reduceEqDiff])|(refine g_c (fun h=>?_) (fun h=>?_)<;>(try simp only[go_sem] at h)<;>(try exact g_f))|((first|refine g_t ?_|refine g_g ?_|refine g_U ?_|refine g_A ?_|refine g_W ?_);(try simp -implicitDefEqProofs only[go_sem,i2]))|(with_reducible refine hK _ _ ?_;clear hK K)|(clear hK K;first|(with_reducible refine hK _ _ ?_;clear hK K)|(clear hK K;with_reducible refine hK _ _ ?_;clear hK K)|(clear hK K;clear hK K;with_reducible refine hK _ _ ?_;clear hK K))|(with_reducible refine splitB_intro (fun h=>?_) (fun h=>?_)<;>(try simp only[go_sem] at h)<;>(try exact g_f)<;>(try simp -implicitDefEqProofs only[go_sem,i2]))|(with_reducible refine And.intro (fun h=>?_) (fun h=>?_)<;>(try simp only[go_sem] at h)<;>(try exact g_f))|(with_reducible refine And.intro ?_ ?_;· exact g_x)|(with_reducible intro h;(try simp only[go_sem] at h);(try exact g_f))))
          refine hL hk2 s2 τ _ _ ⟨h5, by rw [h4, h6, ek]⟩ (ALe_of ?_) rfl
          simp -implicitDefEqProofs only [go_sem]
    · have hkl : l.length - 1 - k.toNat = 0 := by omega
      rw [hkl] at h4
      have h4 : sortI l = st := h4
      simp -implicitDefEqProofs only [go_sem]
      (repeat' (first|(refine g_s fun K hK=>?_)|(refine g_b ?_)|(refine g_r ?_)|(refine g_k ?_;simp only[thenQ,blockQ])|(refine g_e ?_;simp only[thenQ,blockQ,↓reduceIte,Nat.reduceEqDiff])|(refine g_c (fun h=>?_) (fun h=>?_)<;>(try simp only[go_sem] at h)<;>(try exact g_f))|((first|refine g_t ?_|refine g_g ?_|refine g_U ?_|refine g_A ?_|refine g_W ?_);(try simp -implicitDefEqProofs only[go_sem]))|(with_reducible refine hK _ _ ?_;clear hK K)|(clear hK K;first|(with_reducible refine hK _ _ ?_;clear hK K)|(clear hK K;with_reducible refine hK _ _ ?_;clear hK K)|(clear hK K;clear hK K;with_reducible refine hK _ _ ?_;clear hK K))|(with_reducible refine splitB_intro (fun h=>?_) (fun h=>?_)<;>(try simp only[go_sem] at h)<;>(try exact g_f)<;>(try simp -implicitDefEqProofs only[go_sem]))|(with_reducible refine And.intro (fun h=>?_) (fun h=>?_)<;>(try simp only[go_sem] at h)<;>(try exact g_f))|(with_reducible refine And.intro ?_ ?_;· exact g_x)|(with_reducible intro h;(try simp only[go_sem] at h);(try exact g_f))))
      rw [h4]
      exact ⟨rfl, rfl⟩
theorem pdq_calls (S : Store) (b c : Nat) (l : List Int) (v : Int) (hb : S[b]? = some (.cells 1 (l.map intC))) (hl : l.length ≤ 12) (hl1 : 1 ≤ l.length) :
    ACalls Try.prog 211 [.own b 1 0 l.length c, intA1 0, intA1 l.length, intA1 v] S fun r S' => S' = S.set b (.cells 1 ((sortI l).map intC)) ∧ r = .tup [] := by
  have hI := insertion_calls S b c l hb hl hl1
  have i0 : I64 ((l.length : Int) - 0) := by unfold I64; omega
  have e0 : (l.length : Int) - 0 = l.length := Int.sub_zero _
  refine ACalls_of_awp Try.func211 rfl Try.results211 ?_
  simp only [List.length_cons, List.length_nil, Try.ntmps211, Nat.reduceAdd, Nat.reduceSub, enterA]
  (repeat' (first|(refine g_s fun K hK=>?_)|(refine g_b ?_)|(refine g_r ?_)|(refine g_k ?_;simp only[thenQ,blockQ])|(refine g_e ?_;simp only[thenQ,blockQ,↓reduceIte,Nat.reduceEqDiff])|(refine g_c (fun h=>?_) (fun h=>?_)<;>(try simp only[go_sem] at h)<;>(try exact g_f))|((first|refine g_t ?_|refine g_g ?_|refine g_U ?_|refine g_A ?_|refine g_W ?_);(try simp -implicitDefEqProofs only[go_sem]))|(with_reducible refine hK _ _ ?_;clear hK K)|(clear hK K;first|(with_reducible refine hK _ _ ?_;clear hK K)|(clear hK K;with_reducible refine hK _ _ ?_;clear hK K)|(clear hK K;clear hK K;with_reducible refine hK _ _ ?_;clear hK K))|(with_reducible refine splitB_intro (fun h=>?_) (fun h=>?_)<;>(try simp only[go_sem] at h)<;>(try exact g_f)<;>(try simp -implicitDefEqProofs only[go_sem]))|(with_reducible refine And.intro (fun h=>?_) (fun h=>?_)<;>(try simp only[go_sem] at h)<;>(try exact g_f))|(with_reducible refine And.intro ?_ ?_;· exact g_x)|(with_reducible intro h;(try simp only[go_sem] at h);(try exact g_f))))
  refine AWP_rounds 1 ?_
  (repeat' (first|(refine g_s fun K hK=>?_)|(refine g_b ?_)|(refine g_r ?_)|(refine g_k ?_;simp only[thenQ,blockQ])|(refine g_e ?_;simp only[thenQ,blockQ,↓reduceIte,Nat.reduceEqDiff])|(refine g_c (fun h=>?_) (fun h=>?_)<;>(try simp only[go_sem] at h)<;>(try exact g_f))|((first|refine g_t ?_|refine g_g ?_|refine g_U ?_|refine g_A ?_|refine ACalls.useA (hI) ?_|refine g_W ?_);(try simp -implicitDefEqProofs only[go_sem,i0, e0]))|(with_reducible refine hK _ _ ?_;clear hK K)|(clear hK K;first|(with_reducible refine hK _ _ ?_;clear hK K)|(clear hK K;with_reducible refine hK _ _ ?_;clear hK K)|(clear hK K;clear hK K;with_reducible refine hK _ _ ?_;clear hK K))|(with_reducible refine splitB_intro (fun h=>?_) (fun h=>?_)<;>(try simp only[go_sem] at h)<;>(try exact g_f)<;>(try simp -implicitDefEqProofs only[go_sem,i0, e0]))|(with_reducible refine And.intro (fun h=>?_) (fun h=>?_)<;>(try simp only[go_sem] at h)<;>(try exact g_f))|(with_reducible refine And.intro ?_ ?_;· exact g_x)|(with_reducible intro h;(try simp only[go_sem] at h);(try exact g_f))))
theorem on_at {α : Type} {x : Option α} {Q : α → Prop} (v : α) (h : x = some v) (hq : Q v) : on x Q := by rw [h]; exact hq
theorem blen_calls (n : Int) (h : n = 0 ∨ n = 1 ∨ n = 2 ∨ n = 3 ∨ n = 4 ∨ n = 5 ∨ n = 6) (σ : Store) : ACalls Try.prog 224 [.c (.int .u64 n)] σ fun r σ' => σ' = σ ∧ r = intA1 (if n = 0 then 0 else if n < 2 then 1 else if n < 4 then 2 else 3) := by
  rcases h with rfl | rfl | rfl | rfl | rfl | rfl | rfl
  all_goals refine ACalls_of_awp Try.func224 rfl Try.results224 ?_
            simp only [List.length_cons, List.length_nil, Try.ntmps224, Nat.reduceAdd, Nat.reduceSub, enterA]
  all_goals (repeat' (first|(refine g_s fun K hK=>?_)|(refine g_b ?_)|(refine g_r ?_)|(refine g_k ?_;simp only[thenQ,blockQ])|(refine g_e ?_;simp only[thenQ,blockQ,↓reduceIte,Nat.reduceEqDiff])|(refine g_c (fun h=>?_) (fun h=>?_)<;>(try simp only[go_sem] at h)<;>(try exact g_f))|((first|refine g_t ?_|refine g_g ?_|refine g_U ?_|refine g_A ?_|refine g_W ?_);(try simp -implicitDefEqProofs only[go_sem]))|(with_reducible refine hK _ _ ?_;clear hK K)|(clear hK K;first|(with_reducible refine hK _ _ ?_;clear hK K)|(clear hK K;with_reducible refine hK _ _ ?_;clear hK K)|(clear hK K;clear hK K;with_reducible refine hK _ _ ?_;clear hK K))|(with_reducible refine splitB_intro (fun h=>?_) (fun h=>?_)<;>(try simp only[go_sem] at h)<;>(try exact g_f)<;>(try simp -implicitDefEqProofs only[go_sem]))|(with_reducible refine And.intro (fun h=>?_) (fun h=>?_)<;>(try simp only[go_sem] at h)<;>(try exact g_f))|(with_reducible refine And.intro ?_ ?_;· exact g_x)|(with_reducible intro h;(try simp only[go_sem] at h);(try exact g_f))))
  · have u : ((UInt8.toNat 0 : Nat) : Int) = 0 := rfl
    refine on_at 0 (by kernel_rfl) ?_
    simp -implicitDefEqProofs only [go_sem, u]
    (repeat' (first|(refine g_s fun K hK=>?_)|(refine g_b ?_)|(refine g_r ?_)|(refine g_k ?_;simp only[thenQ,blockQ])|(refine g_e ?_;simp only[thenQ,blockQ,↓reduceIte,Nat.reduceEqDiff])|(refine g_c (fun h=>?_) (fun h=>?_)<;>(try simp only[go_sem] at h)<;>(try exact g_f))|((first|refine g_t ?_|refine g_g ?_|refine g_U ?_|refine g_A ?_|refine g_W ?_);(try simp -implicitDefEqProofs only[go_sem]))|(with_reducible refine hK _ _ ?_;clear hK K)|(clear hK K;first|(with_reducible refine hK _ _ ?_;clear hK K)|(clear hK K;with_reducible refine hK _ _ ?_;clear hK K)|(clear hK K;clear hK K;with_reducible refine hK _ _ ?_;clear hK K))|(with_reducible refine splitB_intro (fun h=>?_) (fun h=>?_)<;>(try simp only[go_sem] at h)<;>(try exact g_f)<;>(try simp -implicitDefEqProofs only[go_sem]))|(with_reducible refine And.intro (fun h=>?_) (fun h=>?_)<;>(try simp only[go_sem] at h)<;>(try exact g_f))|(with_reducible refine And.intro ?_ ?_;· exact g_x)|(with_reducible intro h;(try simp only[go_sem] at h);(try exact g_f))))
  · have u : ((UInt8.toNat 1 : Nat) : Int) = 1 := rfl
    refine on_at 1 (by kernel_rfl) ?_
    simp -implicitDefEqProofs only [go_sem, u]
    (repeat' (first|(refine g_s fun K hK=>?_)|(refine g_b ?_)|(refine g_r ?_)|(refine g_k ?_;simp only[thenQ,blockQ])|(refine g_e ?_;simp only[thenQ,blockQ,↓reduceIte,Nat.reduceEqDiff])|(refine g_c (fun h=>?_) (fun h=>?_)<;>(try simp only[go_sem] at h)<;>(try exact g_f))|((first|refine g_t ?_|refine g_g ?_|refine g_U ?_|refine g_A ?_|refine g_W ?_);(try simp -implicitDefEqProofs only[go_sem]))|(with_reducible refine hK _ _ ?_;clear hK K)|(clear hK K;first|(with_reducible refine hK _ _ ?_;clear hK K)|(clear hK K;with_reducible refine hK _ _ ?_;clear hK K)|(clear hK K;clear hK K;with_reducible refine hK _ _ ?_;clear hK K))|(with_reducible refine splitB_intro (fun h=>?_) (fun h=>?_)<;>(try simp only[go_sem] at h)<;>(try exact g_f)<;>(try simp -implicitDefEqProofs only[go_sem]))|(with_reducible refine And.intro (fun h=>?_) (fun h=>?_)<;>(try simp only[go_sem] at h)<;>(try exact g_f))|(with_reducible refine And.intro ?_ ?_;· exact g_x)|(with_reducible intro h;(try simp only[go_sem] at h);(try exact g_f))))
  · have u : ((UInt8.toNat 2 : Nat) : Int) = 2 := rfl
    refine on_at 2 (by kernel_rfl) ?_
    simp -implicitDefEqProofs only [go_sem, u]
    (repeat' (first|(refine g_s fun K hK=>?_)|(refine g_b ?_)|(refine g_r ?_)|(refine g_k ?_;simp only[thenQ,blockQ])|(refine g_e ?_;simp only[thenQ,blockQ,↓reduceIte,Nat.reduceEqDiff])|(refine g_c (fun h=>?_) (fun h=>?_)<;>(try simp only[go_sem] at h)<;>(try exact g_f))|((first|refine g_t ?_|refine g_g ?_|refine g_U ?_|refine g_A ?_|refine g_W ?_);(try simp -implicitDefEqProofs only[go_sem]))|(with_reducible refine hK _ _ ?_;clear hK K)|(clear hK K;first|(with_reducible refine hK _ _ ?_;clear hK K)|(clear hK K;with_reducible refine hK _ _ ?_;clear hK K)|(clear hK K;clear hK K;with_reducible refine hK _ _ ?_;clear hK K))|(with_reducible refine splitB_intro (fun h=>?_) (fun h=>?_)<;>(try simp only[go_sem] at h)<;>(try exact g_f)<;>(try simp -implicitDefEqProofs only[go_sem]))|(with_reducible refine And.intro (fun h=>?_) (fun h=>?_)<;>(try simp only[go_sem] at h)<;>(try exact g_f))|(with_reducible refine And.intro ?_ ?_;· exact g_x)|(with_reducible intro h;(try simp only[go_sem] at h);(try exact g_f))))
  · have u : ((UInt8.toNat 2 : Nat) : Int) = 2 := rfl
    refine on_at 2 (by kernel_rfl) ?_
    simp -implicitDefEqProofs only [go_sem, u]
    (repeat' (first|(refine g_s fun K hK=>?_)|(refine g_b ?_)|(refine g_r ?_)|(refine g_k ?_;simp only[thenQ,blockQ])|(refine g_e ?_;simp only[thenQ,blockQ,↓reduceIte,Nat.reduceEqDiff])|(refine g_c (fun h=>?_) (fun h=>?_)<;>(try simp only[go_sem] at h)<;>(try exact g_f))|((first|refine g_t ?_|refine g_g ?_|refine g_U ?_|refine g_A ?_|refine g_W ?_);(try simp -implicitDefEqProofs only[go_sem]))|(with_reducible refine hK _ _ ?_;clear hK K)|(clear hK K;first|(with_reducible refine hK _ _ ?_;clear hK K)|(clear hK K;with_reducible refine hK _ _ ?_;clear hK K)|(clear hK K;clear hK K;with_reducible refine hK _ _ ?_;clear hK K))|(with_reducible refine splitB_intro (fun h=>?_) (fun h=>?_)<;>(try simp only[go_sem] at h)<;>(try exact g_f)<;>(try simp -implicitDefEqProofs only[go_sem]))|(with_reducible refine And.intro (fun h=>?_) (fun h=>?_)<;>(try simp only[go_sem] at h)<;>(try exact g_f))|(with_reducible refine And.intro ?_ ?_;· exact g_x)|(with_reducible intro h;(try simp only[go_sem] at h);(try exact g_f))))
  · have u : ((UInt8.toNat 3 : Nat) : Int) = 3 := rfl
    refine on_at 3 (by kernel_rfl) ?_
    simp -implicitDefEqProofs only [go_sem, u]
    (repeat' (first|(refine g_s fun K hK=>?_)|(refine g_b ?_)|(refine g_r ?_)|(refine g_k ?_;simp only[thenQ,blockQ])|(refine g_e ?_;simp only[thenQ,blockQ,↓reduceIte,Nat.reduceEqDiff])|(refine g_c (fun h=>?_) (fun h=>?_)<;>(try simp only[go_sem] at h)<;>(try exact g_f))|((first|refine g_t ?_|refine g_g ?_|refine g_U ?_|refine g_A ?_|refine g_W ?_);(try simp -implicitDefEqProofs only[go_sem]))|(with_reducible refine hK _ _ ?_;clear hK K)|(clear hK K;first|(with_reducible refine hK _ _ ?_;clear hK K)|(clear hK K;with_reducible refine hK _ _ ?_;clear hK K)|(clear hK K;clear hK K;with_reducible refine hK _ _ ?_;clear hK K))|(with_reducible refine splitB_intro (fun h=>?_) (fun h=>?_)<;>(try simp only[go_sem] at h)<;>(try exact g_f)<;>(try simp -implicitDefEqProofs only[go_sem]))|(with_reducible refine And.intro (fun h=>?_) (fun h=>?_)<;>(try simp only[go_sem] at h)<;>(try exact g_f))|(with_reducible refine And.intro ?_ ?_;· exact g_x)|(with_reducible intro h;(try simp only[go_sem] at h);(try exact g_f))))
  · have u : ((UInt8.toNat 3 : Nat) : Int) = 3 := rfl
    refine on_at 3 (by kernel_rfl) ?_
    simp -implicitDefEqProofs only [go_sem, u]
    (repeat' (first|(refine g_s fun K hK=>?_)|(refine g_b ?_)|(refine g_r ?_)|(refine g_k ?_;simp only[thenQ,blockQ])|(refine g_e ?_;simp only[thenQ,blockQ,↓reduceIte,Nat.reduceEqDiff])|(refine g_c (fun h=>?_) (fun h=>?_)<;>(try simp only[go_sem] at h)<;>(try exact g_f))|((first|refine g_t ?_|refine g_g ?_|refine g_U ?_|refine g_A ?_|refine g_W ?_);(try simp -implicitDefEqProofs only[go_sem]))|(with_reducible refine hK _ _ ?_;clear hK K)|(clear hK K;first|(with_reducible refine hK _ _ ?_;clear hK K)|(clear hK K;with_reducible refine hK _ _ ?_;clear hK K)|(clear hK K;clear hK K;with_reducible refine hK _ _ ?_;clear hK K))|(with_reducible refine splitB_intro (fun h=>?_) (fun h=>?_)<;>(try simp only[go_sem] at h)<;>(try exact g_f)<;>(try simp -implicitDefEqProofs only[go_sem]))|(with_reducible refine And.intro (fun h=>?_) (fun h=>?_)<;>(try simp only[go_sem] at h)<;>(try exact g_f))|(with_reducible refine And.intro ?_ ?_;· exact g_x)|(with_reducible intro h;(try simp only[go_sem] at h);(try exact g_f))))
  · have u : ((UInt8.toNat 3 : Nat) : Int) = 3 := rfl
    refine on_at 3 (by kernel_rfl) ?_
    simp -implicitDefEqProofs only [go_sem, u]
    (repeat' (first|(refine g_s fun K hK=>?_)|(refine g_b ?_)|(refine g_r ?_)|(refine g_k ?_;simp only[thenQ,blockQ])|(refine g_e ?_;simp only[thenQ,blockQ,↓reduceIte,Nat.reduceEqDiff])|(refine g_c (fun h=>?_) (fun h=>?_)<;>(try simp only[go_sem] at h)<;>(try exact g_f))|((first|refine g_t ?_|refine g_g ?_|refine g_U ?_|refine g_A ?_|refine g_W ?_);(try simp -implicitDefEqProofs only[go_sem]))|(with_reducible refine hK _ _ ?_;clear hK K)|(clear hK K;first|(with_reducible refine hK _ _ ?_;clear hK K)|(clear hK K;with_reducible refine hK _ _ ?_;clear hK K)|(clear hK K;clear hK K;with_reducible refine hK _ _ ?_;clear hK K))|(with_reducible refine splitB_intro (fun h=>?_) (fun h=>?_)<;>(try simp only[go_sem] at h)<;>(try exact g_f)<;>(try simp -implicitDefEqProofs only[go_sem]))|(with_reducible refine And.intro (fun h=>?_) (fun h=>?_)<;>(try simp only[go_sem] at h)<;>(try exact g_f))|(with_reducible refine And.intro ?_ ?_;· exact g_x)|(with_reducible intro h;(try simp only[go_sem] at h);(try exact g_f))))
theorem AWP_condF {rd : Option Nat} {P : Program} {N : Nat} {x y : Code} {Q : Post} {α : AF} {σ : Store} (h : AWPr rd P N y Q α σ) : AWPr rd P N (.cond (.const (.bool false)) x y) Q α σ := by
  intro K imm m w a hs hf
  exact wpIn_cond_split (t := false) rfl (fun h => by cases h) (fun _ => h K imm m w a hs hf)
theorem blen0_calls (n : Int) (h : n = 0 ∨ n = 1 ∨ n = 2 ∨ n = 3 ∨ n = 4 ∨ n = 5 ∨ n = 6) (σ : Store) : ACalls Try.prog 212 [.c (.int .u64 n)] σ fun r σ' => σ' = σ ∧ r = intA1 (if n = 0 then 0 else if n < 2 then 1 else if n < 4 then 2 else 3) := by
  have hB := blen_calls n h
  have w : IntKind.u64.wrap n = n := by rcases h with rfl | rfl | rfl | rfl | rfl | rfl | rfl <;> rfl
  refine ACalls_of_awp Try.func212 rfl Try.results212 ?_
  simp only [List.length_cons, List.length_nil, Try.ntmps212, Nat.reduceAdd, Nat.reduceSub, enterA]
  (repeat' (first|(refine g_s fun K hK=>?_)|(refine g_b ?_)|(refine g_r ?_)|(refine g_k ?_;simp only[thenQ,blockQ])|(refine g_e ?_;simp only[thenQ,blockQ,↓reduceIte,Nat.reduceEqDiff])|(refine g_c (fun h=>?_) (fun h=>?_)<;>(try simp only[go_sem] at h)<;>(try exact g_f))|((first|refine g_t ?_|refine g_g ?_|refine g_U ?_|refine g_A ?_|refine (hB _).use ?_|refine g_q (fun τ=>hB _) ?_|refine g_W ?_);(try simp -implicitDefEqProofs only[go_sem,w]))|(with_reducible refine hK _ _ ?_;clear hK K)|(clear hK K;first|(with_reducible refine hK _ _ ?_;clear hK K)|(clear hK K;with_reducible refine hK _ _ ?_;clear hK K)|(clear hK K;clear hK K;with_reducible refine hK _ _ ?_;clear hK K))|(with_reducible refine splitB_intro (fun h=>?_) (fun h=>?_)<;>(try simp only[go_sem] at h)<;>(try exact g_f)<;>(try simp -implicitDefEqProofs only[go_sem,w]))|(with_reducible refine And.intro (fun h=>?_) (fun h=>?_)<;>(try simp only[go_sem] at h)<;>(try exact g_f))|(with_reducible refine And.intro ?_ ?_;· exact g_x)|(with_reducible intro h;(try simp only[go_sem] at h);(try exact g_f))))
  refine AWP_condF ?_
  (repeat' (first|(refine g_s fun K hK=>?_)|(refine g_b ?_)|(refine g_r ?_)|(refine g_k ?_;simp only[thenQ,blockQ])|(refine g_e ?_;simp only[thenQ,blockQ,↓reduceIte,Nat.reduceEqDiff])|(refine g_c (fun h=>?_) (fun h=>?_)<;>(try simp only[go_sem] at h)<;>(try exact g_f))|((first|refine g_t ?_|refine g_g ?_|refine g_U ?_|refine g_A ?_|refine (hB _).use ?_|refine g_q (fun τ=>hB _) ?_|refine g_W ?_);(try simp -implicitDefEqProofs only[go_sem,w]))|(with_reducible refine hK _ _ ?_;clear hK K)|(clear hK K;first|(with_reducible refine hK _ _ ?_;clear hK K)|(clear hK K;with_reducible refine hK _ _ ?_;clear hK K)|(clear hK K;clear hK K;with_reducible refine hK _ _ ?_;clear hK K))|(with_reducible refine splitB_intro (fun h=>?_) (fun h=>?_)<;>(try simp only[go_sem] at h)<;>(try exact g_f)<;>(try simp -implicitDefEqProofs only[go_sem,w]))|(with_reducible refine And.intro (fun h=>?_) (fun h=>?_)<;>(try simp only[go_sem] at h)<;>(try exact g_f))|(with_reducible refine And.intro ?_ ?_;· exact g_x)|(with_reducible intro h;(try simp only[go_sem] at h);(try exact g_f))))
theorem ok_sort : callOk Try.prog 204 = true := by kernel_rfl
attribute [go_sem] ok_sort
theorem sort_calls (S : Store) (b c : Nat) (l : List Int) (hb : S[b]? = some (.cells 1 (l.map intC))) (hl : l.length ≤ 6) (hl1 : 1 ≤ l.length) :
    ACalls Try.prog 204 [.own b 1 0 l.length c] S fun r S' => S' = S.set b (.cells 1 ((sortI l).map intC)) ∧ r = .tup [] := by
  have hB := blen0_calls (l.length : Int) (by omega)
  have hP := fun v => pdq_calls S b c l v hb (by omega) hl1
  have w : IntKind.u64.wrap (l.length : Int) = l.length := by
    have : l.length = 1 ∨ l.length = 2 ∨ l.length = 3 ∨ l.length = 4 ∨ l.length = 5 ∨ l.length = 6 := by omega
    rcases this with h | h | h | h | h | h <;> rw [h] <;> rfl
  refine ACalls_of_awp Try.func204 rfl Try.results204 ?_
  simp only [List.length_cons, List.length_nil, Try.ntmps204, Nat.reduceAdd, Nat.reduceSub, enterA]
  (repeat' (first|(refine g_s fun K hK=>?_)|(refine g_b ?_)|(refine g_r ?_)|(refine g_k ?_;simp only[thenQ,blockQ])|(refine g_e ?_;simp only[thenQ,blockQ,↓reduceIte,Nat.reduceEqDiff])|(refine g_c (fun h=>?_) (fun h=>?_)<;>(try simp only[go_sem] at h)<;>(try exact g_f))|((first|refine g_t ?_|refine g_g ?_|refine g_U ?_|refine g_A ?_|refine (hB _).use ?_|refine g_q (fun τ=>hB _) ?_|refine ACalls.useA (hP _) ?_|refine g_W ?_);(try simp -implicitDefEqProofs only[go_sem,w]))|(with_reducible refine hK _ _ ?_;clear hK K)|(clear hK K;first|(with_reducible refine hK _ _ ?_;clear hK K)|(clear hK K;with_reducible refine hK _ _ ?_;clear hK K)|(clear hK K;clear hK K;with_reducible refine hK _ _ ?_;clear hK K))|(with_reducible refine splitB_intro (fun h=>?_) (fun h=>?_)<;>(try simp only[go_sem] at h)<;>(try exact g_f)<;>(try simp -implicitDefEqProofs only[go_sem,w]))|(with_reducible refine And.intro (fun h=>?_) (fun h=>?_)<;>(try simp only[go_sem] at h)<;>(try exact g_f))|(with_reducible refine And.intro ?_ ?_;· exact g_x)|(with_reducible intro h;(try simp only[go_sem] at h);(try exact g_f))))
theorem insertion0_calls (S : Store) : ACalls Try.prog 214 [.c (.slice none 0 0), intA1 0, intA1 0] S fun r S' => S' = S ∧ r = .tup [] := by
  refine ACalls_of_awp Try.func214 rfl Try.results214 ?_
  simp only [List.length_cons, List.length_nil, Try.ntmps214, Nat.reduceAdd, Nat.reduceSub, enterA]
  (repeat' (first|(refine g_s fun K hK=>?_)|(refine g_b ?_)|(refine g_r ?_)|(refine g_k ?_;simp only[thenQ,blockQ])|(refine g_e ?_;simp only[thenQ,blockQ,↓reduceIte,Nat.reduceEqDiff])|(refine g_c (fun h=>?_) (fun h=>?_)<;>(try simp only[go_sem] at h)<;>(try exact g_f))|((first|refine g_t ?_|refine g_g ?_|refine g_U ?_|refine g_A ?_|refine g_W ?_);(try simp -implicitDefEqProofs only[go_sem]))|(with_reducible refine hK _ _ ?_;clear hK K)|(clear hK K;first|(with_reducible refine hK _ _ ?_;clear hK K)|(clear hK K;with_reducible refine hK _ _ ?_;clear hK K)|(clear hK K;clear hK K;with_reducible refine hK _ _ ?_;clear hK K))|(with_reducible refine splitB_intro (fun h=>?_) (fun h=>?_)<;>(try simp only[go_sem] at h)<;>(try exact g_f)<;>(try simp -implicitDefEqProofs only[go_sem]))|(with_reducible refine And.intro (fun h=>?_) (fun h=>?_)<;>(try simp only[go_sem] at h)<;>(try exact g_f))|(with_reducible refine And.intro ?_ ?_;· exact g_x)|(with_reducible intro h;(try simp only[go_sem] at h);(try exact g_f))))
  refine AWP_rounds 1 ?_
  (repeat' (first|(refine g_s fun K hK=>?_)|(refine g_b ?_)|(refine g_r ?_)|(refine g_k ?_;simp only[thenQ,blockQ])|(refine g_e ?_;simp only[thenQ,blockQ,↓reduceIte,Nat.reduceEqDiff])|(refine g_c (fun h=>?_) (fun h=>?_)<;>(try simp only[go_sem] at h)<;>(try exact g_f))|((first|refine g_t ?_|refine g_g ?_|refine g_U ?_|refine g_A ?_|refine g_W ?_);(try simp -implicitDefEqProofs only[go_sem]))|(with_reducible refine hK _ _ ?_;clear hK K)|(clear hK K;first|(with_reducible refine hK _ _ ?_;clear hK K)|(clear hK K;with_reducible refine hK _ _ ?_;clear hK K)|(clear hK K;clear hK K;with_reducible refine hK _ _ ?_;clear hK K))|(with_reducible refine splitB_intro (fun h=>?_) (fun h=>?_)<;>(try simp only[go_sem] at h)<;>(try exact g_f)<;>(try simp -implicitDefEqProofs only[go_sem]))|(with_reducible refine And.intro (fun h=>?_) (fun h=>?_)<;>(try simp only[go_sem] at h)<;>(try exact g_f))|(with_reducible refine And.intro ?_ ?_;· exact g_x)|(with_reducible intro h;(try simp only[go_sem] at h);(try exact g_f))))
  exact ⟨rfl, rfl⟩
theorem pdq0_calls (S : Store) (v : Int) : ACalls Try.prog 211 [.c (.slice none 0 0), intA1 0, intA1 0, intA1 v] S fun r S' => S' = S ∧ r = .tup [] := by
  have hI := insertion0_calls
  refine ACalls_of_awp Try.func211 rfl Try.results211 ?_
  simp only [List.length_cons, List.length_nil, Try.ntmps211, Nat.reduceAdd, Nat.reduceSub, enterA]
  (repeat' (first|(refine g_s fun K hK=>?_)|(refine g_b ?_)|(refine g_r ?_)|(refine g_k ?_;simp only[thenQ,blockQ])|(refine g_e ?_;simp only[thenQ,blockQ,↓reduceIte,Nat.reduceEqDiff])|(refine g_c (fun h=>?_) (fun h=>?_)<;>(try simp only[go_sem] at h)<;>(try exact g_f))|((first|refine g_t ?_|refine g_g ?_|refine g_U ?_|refine g_A ?_|refine g_W ?_);(try simp -implicitDefEqProofs only[go_sem]))|(with_reducible refine hK _ _ ?_;clear hK K)|(clear hK K;first|(with_reducible refine hK _ _ ?_;clear hK K)|(clear hK K;with_reducible refine hK _ _ ?_;clear hK K)|(clear hK K;clear hK K;with_reducible refine hK _ _ ?_;clear hK K))|(with_reducible refine splitB_intro (fun h=>?_) (fun h=>?_)<;>(try simp only[go_sem] at h)<;>(try exact g_f)<;>(try simp -implicitDefEqProofs only[go_sem]))|(with_reducible refine And.intro (fun h=>?_) (fun h=>?_)<;>(try simp only[go_sem] at h)<;>(try exact g_f))|(with_reducible refine And.intro ?_ ?_;· exact g_x)|(with_reducible intro h;(try simp only[go_sem] at h);(try exact g_f))))
  refine AWP_rounds 1 ?_
  (repeat' (first|(refine g_s fun K hK=>?_)|(refine g_b ?_)|(refine g_r ?_)|(refine g_k ?_;simp only[thenQ,blockQ])|(refine g_e ?_;simp only[thenQ,blockQ,↓reduceIte,Nat.reduceEqDiff])|(refine g_c (fun h=>?_) (fun h=>?_)<;>(try simp only[go_sem] at h)<;>(try exact g_f))|((first|refine g_t ?_|refine g_g ?_|refine g_U ?_|refine g_A ?_|refine (hI _).use ?_|refine g_q (fun τ=>hI _) ?_|refine g_W ?_);(try simp -implicitDefEqProofs only[go_sem]))|(with_reducible refine hK _ _ ?_;clear hK K)|(clear hK K;first|(with_reducible refine hK _ _ ?_;clear hK K)|(clear hK K;with_reducible refine hK _ _ ?_;clear hK K)|(clear hK K;clear hK K;with_reducible refine hK _ _ ?_;clear hK K))|(with_reducible refine splitB_intro (fun h=>?_) (fun h=>?_)<;>(try simp only[go_sem] at h)<;>(try exact g_f)<;>(try simp -implicitDefEqProofs only[go_sem]))|(with_reducible refine And.intro (fun h=>?_) (fun h=>?_)<;>(try simp only[go_sem] at h)<;>(try exact g_f))|(with_reducible refine And.intro ?_ ?_;· exact g_x)|(with_reducible intro h;(try simp only[go_sem] at h);(try exact g_f))))
theorem sort0_calls (S : Store) : ACalls Try.prog 204 [.c (.slice none 0 0)] S fun r S' => S' = S ∧ r = .tup [] := by
  have hB := blen0_calls 0 (by omega)
  have hP := pdq0_calls
  have w : IntKind.u64.wrap 0 = 0 := rfl
  refine ACalls_of_awp Try.func204 rfl Try.results204 ?_
  simp only [List.length_cons, List.length_nil, Try.ntmps204, Nat.reduceAdd, Nat.reduceSub, enterA]
  (repeat' (first|(refine g_s fun K hK=>?_)|(refine g_b ?_)|(refine g_r ?_)|(refine g_k ?_;simp only[thenQ,blockQ])|(refine g_e ?_;simp only[thenQ,blockQ,↓reduceIte,Nat.reduceEqDiff])|(refine g_c (fun h=>?_) (fun h=>?_)<;>(try simp only[go_sem] at h)<;>(try exact g_f))|((first|refine g_t ?_|refine g_g ?_|refine g_U ?_|refine g_A ?_|refine (hB _).use ?_|refine g_q (fun τ=>hB _) ?_|refine (hP _ _).use ?_|refine g_q (fun τ=>hP _ _) ?_|refine g_W ?_);(try simp -implicitDefEqProofs only[go_sem,w]))|(with_reducible refine hK _ _ ?_;clear hK K)|(clear hK K;first|(with_reducible refine hK _ _ ?_;clear hK K)|(clear hK K;with_reducible refine hK _ _ ?_;clear hK K)|(clear hK K;clear hK K;with_reducible refine hK _ _ ?_;clear hK K))|(with_reducible refine splitB_intro (fun h=>?_) (fun h=>?_)<;>(try simp only[go_sem] at h)<;>(try exact g_f)<;>(try simp -implicitDefEqProofs only[go_sem,w]))|(with_reducible refine And.intro (fun h=>?_) (fun h=>?_)<;>(try simp only[go_sem] at h)<;>(try exact g_f))|(with_reducible refine And.intro ?_ ?_;· exact g_x)|(with_reducible intro h;(try simp only[go_sem] at h);(try exact g_f))))
end Go.Proofs.Ytephecognbbaoab
