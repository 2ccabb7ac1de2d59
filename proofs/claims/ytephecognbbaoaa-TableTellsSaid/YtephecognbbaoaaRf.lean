/- Ranges over functions: rounds, the statement. -/
import Derived.Test.YtephecognbbaoaaLo
namespace Go.Proofs.Ytephecognbbaoaa
open Go
set_option linter.all false

section
variable {rd : Option Nat} {P : Program} {N : Nat} {K0 : World} {imm : Imm} {m : Own} {w : World} {α : AF} {σ : Store} {a : Act} {Q : Post}

/-- A loop's record lies where its object says. -/
theorem Sim.loopAt (hs : Sim K0 imm m w σ) {b l n : Nat} {al : AF} {r : Loop} (hb : σ[b]? = some (.lp l al n r)) :
    ∃ (hlt : b < σ.length) (sz : Nat), σ[b] = .lp l al n r ∧ m b = some (l, sz) ∧ imm l = none ∧ w.heap[l]? = some (.loop r) ∧ r.tmps.size = n ∧
      (∀ t av, look al t = some av → ∃ v, r.tmps[t]? = some v ∧ Rep imm m v av) ∧ ∀ t av, look al t = some av → Bd b av := by
  obtain ⟨hlt, hob⟩ := List.getElem?_eq_some_iff.1 hb
  have h0 := hs.obs b hlt
  rw [hob] at h0
  obtain ⟨blk, sz, h1, h2, rfl, h4, h5, h6, h7⟩ := h0
  exact ⟨hlt, sz, hob, h1, h2, h4, h5, h6, h7⟩

theorem beside_put (l : Nat) (o : Obj) : Beside w (w.putObj l o) := ⟨rfl, rfl, rfl, by simp⟩

/-- The record turns. -/
theorem Sim.loopSet (hs : Sim K0 imm m w σ) {b l n : Nat} {al : AF} {r : Loop} (hb : σ[b]? = some (.lp l al n r)) (st : LoopState) (pe : Option Code) :
    Sim K0 imm m (w.putObj l (.loop { r with state := st, pending := pe })) (σ.set b (.lp l al n { r with state := st, pending := pe })) := by
  obtain ⟨hlt, sz, hob, h1, h2, h4, h5, h6, h7⟩ := hs.loopAt hb
  have hl : l < w.heap.size := (Array.getElem?_eq_some_iff.1 h4).1
  exact hs.setO (beside_put _ _) hlt h1 (by rw [hob]; rfl) (fun c hc => World.putObj_heap_other hc) _ ⟨l, sz, h1, h2, rfl, World.putObj_heap_same hl, h5, h6, h7⟩

/-- What is asked at a round's end. -/
def roundQ (l b : Nat) (al : AF) (n : Nat) (r : Loop) (R : AV → Store → Prop) : Post := fun e _ σ =>
  match e with
  | .normal => σ[b]? = some (.lp l al n { r with state := .busy }) ∧ R (.c (.bool true)) (σ.set b (.lp l al n { r with state := .ready, pending := none }))
  | .ret => σ[b]? = some (.lp l al n { r with state := .busy }) ∧ R (.c (.bool false)) (σ.set b (.lp l al n { r with state := .done, pending := some .ret }))
  | .exit id => σ[b]? = some (.lp l al n { r with state := .busy }) ∧ R (.c (.bool false)) (σ.set b (.lp l al n { r with state := .done, pending := some (.exit id) }))
  | _ => False

/-- One round. -/
theorem YCalls_of {l b p : Nat} {al : AF} {r : Loop} {x : AV} {R : AV → Store → Prop} (hb : σ[b]? = some (.lp l al N r)) (hst : r.state = .ready) (hp : r.params = #[p]) (hpN : p < N)
    (h : AWPr (some l) P N r.assign (thenQ (fun α σ => σ[b]? = some (.lp l al N r) ∧ AWPr (some l) P N r.body (roundQ l b al N r R) α (σ.set b (.lp l al N { r with state := .busy }))) (fun _ _ _ => False)) ((p, x) :: al) σ) :
    YCalls P l [x] σ R := by
  intro K imm m w vs hs hv
  obtain ⟨hlt, sz, hob, h1, h2, h4, h5, h6, h7⟩ := hs.loopAt hb
  obtain ⟨v, rfl⟩ : ∃ v, vs = [v] := by
    have := hv.1
    match vs, this with
    | [v], _ => exact ⟨v, rfl⟩
  have hx : Rep imm m v x := hv.2 0 (by simp) (by simp)
  refine ⟨r, h4, by rw [hp]; rfl, roundIn_of_wpIn (F := Fence.wide) (n := 0) trivial ?_⟩
  have hf : FOk K imm m N { tmps := (r.params.zip [v].toArray).foldl (fun tmps (t, a) => tmps.setIfInBounds t a) r.tmps, defers := [] } ((p, x) :: al) := by
    have e : (r.params.zip [v].toArray).foldl (fun tmps (t, a) => tmps.setIfInBounds t a) r.tmps = r.tmps.setIfInBounds p v := by rw [hp]; simp
    rw [e]
    refine ⟨Marks.nil _ _, by simp [h5], fun t av ht => ?_⟩
    simp only [look] at ht
    split at ht
    · rename_i e
      subst e
      cases ht
      exact ⟨v, by simp [h5, hpN], hx⟩
    · rename_i e
      obtain ⟨u, hu, q⟩ := h6 t av ht
      exact ⟨u, by simp [Array.getElem?_setIfInBounds, e, hu], q⟩
  refine Code.wpIn_mono ?_ (h K imm m w _ hs hf)
  rintro e a1 w1 ⟨i1, o1, α1, σ1, hi1, ho1, hs1, hf1, hq1⟩
  cases e with
  | normal =>
    obtain ⟨hb1, hbody⟩ := hq1
    obtain ⟨_, _, _, _, _, g4, _⟩ := hs1.loopAt hb1
    refine ⟨_, run_beginRound g4 hst, ?_⟩
    have hs2 := hs1.loopSet hb1 .busy r.pending
    refine Code.wpIn_mono ?_ (hbody K i1 o1 _ a1 hs2 hf1)
    have fin : ∀ (jump : Option Code) (w2 : World) (i2 : Imm) (o2 : Own) (σ2 : Store) (st : LoopState), ILe i1 i2 → OLe o1 o2 → Sim K i2 o2 w2 σ2 → σ2[b]? = some (.lp l al N { r with state := .busy }) → st = (if jump.isNone then .ready else .done) →
        R (.c (.bool jump.isNone)) (σ2.set b (.lp l al N { r with state := st, pending := jump })) →
        ∃ v w', (Instr.endRound l jump).run P w2 = .ok v w' ∧ ∃ imm' m' v' r' σ', Ending.returned v = .returned v' ∧ ILe imm imm' ∧ OLe m m' ∧ Sim K imm' m' w' σ' ∧ Rep imm' m' v' r' ∧ R r' σ' := by
      intro jump w2 i2 o2 σ2 st hi ho hs2 hb2 hst2 hR
      obtain ⟨_, _, _, _, _, k4, _⟩ := hs2.loopAt hb2
      subst hst2
      exact ⟨_, _, run_endRound jump k4, i2, o2, _, _, _, rfl, hi1.trans hi, ho1.trans ho, hs2.loopSet hb2 _ _, .c _, hR⟩
    rintro e a2 w2 ⟨i2, o2, α2, σ2, hi2, ho2, hs2, hf2, hq2⟩
    cases e with
    | normal => exact fin none w2 i2 o2 σ2 _ hi2 ho2 hs2 hq2.1 rfl hq2.2
    | ret => exact fin (some .ret) w2 i2 o2 σ2 _ hi2 ho2 hs2 hq2.1 rfl hq2.2
    | exit id => exact fin (some (.exit id)) w2 i2 o2 σ2 _ hi2 ho2 hs2 hq2.1 rfl hq2.2
    | _ => exact hq2.elim
  | _ => exact hq1.elim

theorem heap_alloc_lt (o : Obj) {b : Nat} (hb : b < w.heap.size) : (w.alloc o).heap[b]? = w.heap[b]? := by
  show (w.heap.push o)[b]? = _
  rw [Array.getElem?_push, if_neg (by omega)]

def addI (imm : Imm) (n : Nat) (o : Obj) : Imm := fun b => if b = n then some o else imm b
theorem addI_ne {imm : Imm} {n b : Nat} {o : Obj} (h : b ≠ n) : addI imm n o b = imm b := if_neg h
theorem addI_same {imm : Imm} {n : Nat} {o : Obj} : addI imm n o n = some o := if_pos rfl

/-- A new block that stays as it is. -/
theorem Sim.addImm (hs : Sim K0 imm m w σ) (o : Obj) : ∃ imm', ILe imm imm' ∧ imm' w.heap.size = some o ∧ Sim K0 imm' m (w.alloc o) σ := by
  have hk := hs.keep (beside_alloc o) (fun b hb => heap_alloc_lt o hb)
  have hnew : imm w.heap.size = none := by
    cases h : imm w.heap.size with
    | none => rfl
    | some o' => have := heap_lt (hs.imm_ok _ _ h); omega
  have hle : ILe imm (addI imm w.heap.size o) := fun b o' h => by
    rw [addI_ne (fun e => by rw [e, hnew] at h; cases h)]
    exact h
  refine ⟨addI imm w.heap.size o, hle, addI_same, hk.os, hk.tape, hk.output, hk.size, fun b o' h => ?_, hk.dom, fun id h => ?_, hk.inj⟩
  · by_cases e : b = w.heap.size
    · subst e
      rw [addI_same] at h
      cases h
      exact World.alloc_heap_new _ _
    · rw [addI_ne e] at h
      exact hk.imm_ok b o' h
  · refine (hs.obs id h).keep hle (.refl _) (fun h => h) (fun b h hlt => ?_) (fun hl blk sz e => ?_)
    · rw [addI_ne (by omega)]
      exact h
    · obtain ⟨blk', sz', e', hb, _⟩ := (hs.obs id h).lt hl
      rw [e] at e'
      cases e'
      exact heap_alloc_lt o hb

/-- The statement 'for x := range f'. -/
theorem AWP_range {t g : Nat} {cap : List AV} {ps : Array Tmp} {assign body : Code} (hl : look α t = some (.fn g [] cap)) (hok : callOk P g = true)
    (h : ∀ (l : Nat) (r : Loop), r.state = .ready → r.pending = none → r.params = ps → r.assign = assign → r.body = body →
      ACalls P g (.c (.func (.yield l) #[] #[]) :: cap) (σ ++ [.lp l α N r]) fun _ σ' => ∃ r', σ'[σ.length]? = some (.lp l α N r') ∧ r'.state ≠ .busy ∧
        (match r'.pending with | none => Q .normal α (σ'.set σ.length .dead) | some c => AWP P N c Q α (σ'.set σ.length .dead))) :
    AWP P N (.rangeFunc (.tmp t) ps assign body) Q α σ := by
  intro K imm m w a hs hf
  obtain ⟨v, hv, hr⟩ := hf.eval hl
  cases hr with
  | fn f' fs cs _ _ hfl hcl q1 q2 =>
    obtain rfl : fs = [] := List.eq_nil_of_length_eq_zero (by simpa using hfl)
    refine wpIn_rangeFunc fun fn _ => ?_
    obtain ⟨imm1, hi1, hd1, hs1⟩ := hs.addImm (.deferred (some []))
    obtain ⟨rc, hrc⟩ : ∃ rc : Loop, rc = { state := .ready, pending := none, fn, tmps := a.tmps, params := ps, assign, body, defers := w.heap.size } := ⟨_, rfl⟩
    have hs2 : Sim K imm1 (upd m σ.length ((w.alloc (.deferred (some []))).heap.size, 0)) ((w.alloc (.deferred (some []))).alloc (.loop rc)) (σ ++ [.lp (w.heap.size + 1) α N rc]) := by
      refine hs1.pushO (beside_alloc _) (.loop rc) rfl _ 0 ⟨(w.alloc (.deferred (some []))).heap.size, 0, by simp [upd], ?_, by simp, ?_, by rw [hrc]; exact hf.size, fun t av ht => ?_, fun t av ht => ?_⟩
      · cases hx : imm1 ((w.alloc (.deferred (some []))).heap.size) with
        | none => rfl
        | some o' => have := heap_lt (hs1.imm_ok _ _ hx); omega
      · exact World.alloc_heap_new _ _
      · obtain ⟨u, hu, q⟩ := hf.slot t av ht
        exact ⟨u, by rw [hrc]; exact hu, q.mono hi1 (.upd (hs1.dom _ (Nat.le_refl _)) _)⟩
      · obtain ⟨u, hu, q⟩ := hf.slot t av ht
        exact q.bd hs.dom
    have hlt : (w.alloc (.deferred (some []))).heap.size = w.heap.size + 1 := by simp
    have hom : OLe m (upd m σ.length ((w.alloc (.deferred (some []))).heap.size, 0)) := .upd (hs.dom _ (Nat.le_refl _)) _
    have hcall := h (w.heap.size + 1) rc (by rw [hrc]) (by rw [hrc]) (by rw [hrc]) (by rw [hrc]) (by rw [hrc]) K imm1 _ _ (.func (.yield (w.heap.size + 1)) #[] #[] :: cs) hs2
      ⟨by simp [hcl], fun i h1 h2 => by
        cases i with
        | zero => exact .c _
        | succ i => exact (q2 i (by simpa using h1) (by simpa using h2)).mono hi1 hom⟩
    refine ⟨w.heap.size + 1, [mark w.heap.size], (w.alloc (.deferred (some []))).alloc (.loop rc), { target := .fn (.func g) cs.toArray, args := #[.func (.yield (w.heap.size + 1)) #[] #[]] }, (w.alloc (.deferred (some []))).alloc (.loop rc), g,
      (Value.func (.yield (w.heap.size + 1)) #[] #[] :: cs).toArray, (w.alloc (.deferred (some []))).alloc (.loop rc), ?_, ?_, fun _ _ => trivial, ?_, fun h => (by cases h), ?_⟩
    · rw [hrc]
      exact run_enterLoop_outer _ _ _ _ _
    · simp only [resolve, hv]
      simp [go_sem]
    · have hce : ∀ args w, (callFunc g args).run P w = .ok (.enter g args) w := by
        intro args w
        unfold callOk at hok
        split at hok
        · rename_i fn hfn
          simp only [Bool.and_eq_true, Bool.not_eq_true'] at hok
          have hbody : fn.body ≠ none := by
            have := hok.1
            intro hb
            simp [hb] at this
          have hname : fn.name ≠ "runtime.NumGoroutine" := by simpa using hok.2
          simp only [callFunc, program, Sem.run_bind]
          simp [hfn, hname, hbody, Sem.run]
        · cases hok
      have e : (Value.func (.yield (w.heap.size + 1)) #[] #[] :: cs).toArray = #[Value.func (.yield (w.heap.size + 1)) #[] #[]] ++ cs.toArray := by simp
      simp only [invoke, e]
      exact hce _ _
    · refine CallsIn.mono (callsIn_wide.2 hcall) ?_
      rintro e w3 ⟨i3, o3, v3, r3, σ3, rfl, hi3, ho3, hs3, _, r', hb3, hbusy, hq⟩
      obtain ⟨_, _, _, _, _, g4, _⟩ := hs3.loopAt hb3
      refine ⟨_, _, run_endLoop g4 hbusy, ?_⟩
      have hs4 := (hs3.loopSet hb3 .exhausted r'.pending).kill σ.length
      rw [List.set_set] at hs4
      have hf4 : FOk K i3 o3 N { a with defers := [mark w.heap.size] ++ a.defers } α := by
        obtain ⟨rs, n1, n2, n3⟩ := hf.defers
        refine ⟨⟨w.heap.size :: rs, List.nodup_cons.2 ⟨fun hm => ?_, n1⟩, by simp [n2], fun r hr => ?_⟩, hf.size, fun t av ht => ?_⟩
        · have := heap_lt (hs.imm_ok _ _ (n3 _ hm).2)
          omega
        · rcases List.mem_cons.1 hr with rfl | hr
          · exact ⟨hs.size, hi3 _ _ hd1⟩
          · exact ⟨(n3 r hr).1, hi3 _ _ (hi1 _ _ (n3 r hr).2)⟩
        · obtain ⟨u, hu, q⟩ := hf.slot t av ht
          exact ⟨u, hu, q.mono (hi1.trans hi3) (hom.trans ho3)⟩
      cases hp : r'.pending with
      | none =>
        rw [hp] at hq hs4
        exact ⟨i3, o3, α, _, hi1.trans hi3, hom.trans ho3, hs4, hf4, hq⟩
      | some c =>
        rw [hp] at hq hs4
        exact Code.wpIn_mono (fun _ _ _ hh => lift_mono (hi1.trans hi3) (hom.trans ho3) hh) (hq K i3 o3 _ _ hs4 hf4)
end
end Go.Proofs.Ytephecognbbaoaa
