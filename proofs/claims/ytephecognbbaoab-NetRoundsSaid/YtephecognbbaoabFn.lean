/- Functions: entry, results; contracts that leave the store as it was; weakening, freezing. -/
import Derived.Test.YtephecognbbaoabRg
import Derived.RangeFuncRecord
namespace Go.Proofs.Ytephecognbbaoab
open Go
set_option linter.all false

def resA (P : Program) (α : AF) (σ : Store) : List ResultVar → Option (List AV)
  | [] => some []
  | .tmp t :: r => (look α t).bind fun v => (resA P α σ r).bind fun l => some (v :: l)
  | .cell s T :: r => (look α s).bind fun p => (loadA P σ T p).bind fun v => (resA P α σ r).bind fun l => some (v :: l)

def oneOf : List AV → AV
  | [v] => v
  | l => .tup l

/-- Where a function ends. -/
def retQ (P : Program) (rs : List ResultVar) (R : AV → Store → Prop) : Post := fun e α σ =>
  match e with
  | .normal => on (resA P α σ rs) fun l => R (oneOf l) σ
  | .ret => on (resA P α σ rs) fun l => R (oneOf l) σ
  | _ => False

def enterA : Nat → List AV → AF
  | _, [] => []
  | i, v :: r => (i, v) :: enterA (i + 1) r

section
variable {P : Program} {K0 : World} {imm : Imm} {m : Own} {w : World} {α : AF} {σ : Store} {a : Act}

theorem enterA_look : ∀ (vs : List AV) (i t : Nat) (av : AV), look (enterA i vs) t = some av → ∃ (h : t - i < vs.length), i ≤ t ∧ vs[t - i] = av := by
  intro vs
  induction vs with
  | nil => intro i t av h; cases h
  | cons v r ih =>
    intro i t av h
    simp only [enterA, look] at h
    split at h
    · rename_i e
      subst e
      cases h
      exact ⟨by simp, Nat.le_refl _, by simp⟩
    · rename_i hne
      obtain ⟨h1, h2, h3⟩ := ih (i + 1) t av h
      have e : t - i = t - (i + 1) + 1 := by omega
      refine ⟨by simp only [List.length_cons]; omega, by omega, ?_⟩
      simp only [e, List.getElem_cons_succ]
      exact h3

def resOne (tmps : Array Value) (x : ResultVar) : Sem Value :=
  match x with
  | .tmp t => pure (tmps.getD t undef)
  | .cell a t => do loadVar t (← asAddr (tmps.getD a undef))

theorem results_eq (fn : Func) (tmps : Array Value) : results fn tmps = (do
    let vs ← fn.results.mapM (resOne tmps)
    pure (if h : vs.size = 1 then vs[0] else .tuple vs)) := rfl

theorem results_run {fn : Func} {rs : List ResultVar} (hrs : fn.results = rs.toArray) {N : Nat} (hs : Sim K0 imm m w σ) (hf : FOk K0 imm m N a α) {l : List AV} (h : resA P α σ rs = some l) :
    ∃ v, (results fn a.tmps).run P w = .ok v w ∧ Rep imm m v (oneOf l) := by
  have key : ∀ (rs : List ResultVar) (l : List AV), resA P α σ rs = some l → ∃ vs : List Value, (rs.mapM (resOne a.tmps)).run P w = .ok vs w ∧ RepL imm m vs l := by
    intro rs
    induction rs with
    | nil => intro l h; cases h; exact ⟨[], rfl, rfl, fun i h => by simp at h⟩
    | cons x r ih =>
      intro l h
      have cons : ∀ {v : Value} {av : AV} {vs : List Value} {l' : List AV}, Rep imm m v av → RepL imm m vs l' → RepL imm m (v :: vs) (av :: l') := fun {v av vs l'} h1 h2 =>
        ⟨by simp [h2.1], fun i hi1 hi2 => by
          cases i with
          | zero => exact h1
          | succ i => exact h2.2 i (by simpa using hi1) (by simpa using hi2)⟩
      cases x with
      | tmp t =>
        simp only [resA, Option.bind_eq_some_iff] at h
        obtain ⟨av, hav, l', hl, e⟩ := h
        cases e
        obtain ⟨vs, h1, h2⟩ := ih l' hl
        obtain ⟨u, hu, r1⟩ := hf.slot t av hav
        refine ⟨u :: vs, ?_, cons r1 h2⟩
        simp only [List.mapM_cons, resOne, Sem.run_bind, Sem.run_pure, Result.andThen_ok, h1]
        simp [hu]
      | cell s T =>
        simp only [resA, Option.bind_eq_some_iff] at h
        obtain ⟨p, hp, av, hav, l', hl, e⟩ := h
        cases e
        obtain ⟨vs, h1, h2⟩ := ih l' hl
        obtain ⟨u, hu, r1⟩ := hf.slot s p hp
        obtain ⟨x, hx, r2⟩ := load_run hs r1 hav
        refine ⟨x :: vs, ?_, cons r2 h2⟩
        have hptr : ∃ ad, u = .pointer (some ad) := by
          unfold loadA at hav
          split at hav
          · cases r1; exact ⟨_, rfl⟩
          · cases r1; exact ⟨_, rfl⟩
          · cases hav
        obtain ⟨ad, rfl⟩ := hptr
        simp only [Instr.loadAt, Instr.sureAddr, Sem.run_bind, Sem.run_pure, Result.andThen_ok] at hx
        have hget : a.tmps.getD s undef = .pointer (some ad) := by simp [hu]
        simp only [List.mapM_cons, resOne, Sem.run_bind, hget, asAddr, Sem.run_pure, Result.andThen_ok, hx, h1]
  obtain ⟨vs, h1, h2⟩ := key rs l h
  have hm : (rs.toArray.mapM (resOne a.tmps)).run P w = .ok vs.toArray w := by
    rw [List.mapM_toArray]
    simp [h1]
  simp only [results_eq, hrs, Sem.run_bind, hm, Result.andThen_ok, Sem.run_pure]
  match hvs : vs, hl : l, h2 with
  | [], [], h2 => exact ⟨_, rfl, .tup [] [] rfl (fun i h => by simp at h)⟩
  | [v], [av], h2 => exact ⟨v, rfl, h2.2 0 (by simp) (by simp)⟩
  | v1 :: v2 :: vr, a1 :: a2 :: ar, h2 => exact ⟨.tuple (v1 :: v2 :: vr).toArray, by simp, .tup _ _ h2.1 h2.2⟩
  | [], _ :: _, h2 => exact absurd h2.1 (by simp)
  | _ :: _, [], h2 => exact absurd h2.1 (by simp)
  | [_], _ :: _ :: _, h2 => exact absurd h2.1 (by simp)
  | _ :: _ :: _, [_], h2 => exact absurd h2.1 (by simp)

/-- Only cells count. -/
theorem Rep.cells {imm imm' : Imm} {m : Own} (hi : ∀ b o v, icell imm b o = some v → icell imm' b o = some v) (hmp : ∀ b ents clock, imm b = some (.map ents clock) → imm' b = some (.map ents clock)) {v : Value} {a : AV} (h : Rep imm m v a) : Rep imm' m v a := by
  induction h with
  | c v => exact .c v
  | emp p => exact .emp p
  | agg cs l hl _ ih => exact .agg cs l hl ih
  | tup cs l hl _ ih => exact .tup cs l hl ih
  | sl p cap n es k vals hn hcap hk hp _ ih =>
    refine .sl p cap n es k vals hn hcap hk (fun h0 => ?_) ih
    obtain ⟨b, o, e, hc⟩ := hp h0
    exact ⟨b, o, e, fun i hi' j hj => hi _ _ _ (hc i hi' j hj)⟩
  | cp b o x e off vals hx hc _ ih => exact .cp b o x e off vals hx (fun j hj => hi _ _ _ (hc j hj)) ih
  | own b k s n c cap blk sz x h hn hcc hx hc => exact .own b k s n c cap blk sz x h hn hcc hx hc
  | ptr b k i off blk sz x h hx => exact .ptr b k i off blk sz x h hx
  | fn f fs cs first cap hf hc _ _ ih1 ih2 => exact .fn f fs cs first cap hf hc ih1 ih2
  | mp b blk sz h => exact .mp b blk sz h
  | cm blk es ents clock h hl hk _ ih => exact .cm blk es ents clock (hmp _ _ _ h) hl hk ih

/-- Block r is no more known. -/
def drop1 (imm : Imm) (r : Nat) : Imm := fun b => if b = r then none else imm b

theorem drop1_cells {imm : Imm} {r : Nat} {ds : Option (List Deferred)} (hr : imm r = some (.deferred ds)) : ∀ b i v, icell imm b i = some v → icell (drop1 imm r) b i = some v := by
  intro b i v h
  unfold icell drop1 at *
  by_cases e : b = r
  · subst e
    rw [hr] at h
    cases h
  · rw [if_neg e]
    exact h

theorem drop1_map {imm : Imm} {r : Nat} {ds : Option (List Deferred)} (hr : imm r = some (.deferred ds)) : ∀ b ents clock, imm b = some (.map ents clock) → drop1 imm r b = some (.map ents clock) := by
  intro b ents clock h
  unfold drop1
  rw [if_neg (fun e => by subst e; rw [hr] at h; cases h)]
  exact h

theorem Sim.shut {imm : Imm} (hs : Sim K0 imm m w σ) {r : Nat} {ds : Option (List Deferred)} (hr : imm r = some (.deferred ds)) (o' : Obj) : Sim K0 (drop1 imm r) m (w.putObj r o') σ := by
  have hne : ∀ blk, imm blk = none → blk ≠ r := fun blk h e => by rw [e, hr] at h; cases h
  have hR : ∀ {v : Value} {a : AV}, Rep imm m v a → Rep (drop1 imm r) m v a := fun h => h.cells (drop1_cells hr) (drop1_map hr)
  have hd : ∀ blk, imm blk = none → drop1 imm r blk = none := fun blk h => by unfold drop1; split <;> first | rfl | exact h
  refine ⟨hs.os, hs.tape, hs.output, by rw [World.putObj_size]; exact hs.size, fun b ob h => ?_, hs.dom, fun id hid => ?_, hs.inj⟩
  · unfold drop1 at h
    split at h
    · cases h
    · rename_i e
      rw [World.putObj_heap_other e]
      exact hs.imm_ok b ob h
  · have := hs.obs id hid
    revert this
    cases σ[id] with
    | res => exact fun h => h
    | dead => exact fun _ => trivial
    | cells k es =>
      rintro ⟨blk, sz, h1, h2, cs, T, fr, h3, h4, h5, h6, h7⟩
      exact ⟨blk, sz, h1, hd _ h2, cs, T, fr, by rw [World.putObj_heap_other (hne _ h2)]; exact h3, h4, h5, h6, fun i hi => ⟨(h7 i hi).1, fun j hj => let ⟨v, e, q⟩ := (h7 i hi).2 j hj; ⟨v, e, hR q⟩⟩⟩
    | map es =>
      rintro ⟨blk, sz, h1, h2, ents, clock, h3, h4, h5, h6⟩
      exact ⟨blk, sz, h1, hd _ h2, ents, clock, by rw [World.putObj_heap_other (hne _ h2)]; exact h3, h4, h5, fun i hi hj => hR (h6 i hi hj)⟩
    | lp l al N rc =>
      rintro ⟨blk, sz, h1, h2, h3, h4, h5, h6, h7⟩
      exact ⟨blk, sz, h1, hd _ h2, h3, by rw [World.putObj_heap_other (hne _ h2)]; exact h4, h5, fun t av ht => let ⟨v, e, q⟩ := h6 t av ht; ⟨v, e, hR q⟩, h7⟩

/-- On the way out the marks are taken up, one by one. -/
theorem leave_marks {F : Fence} {n : Nat} {fn : Func} {tmps : Array Value} {R : Ending → World → Prop} : ∀ (rs : List Nat) (imm : Imm) (w : World), rs.Nodup → (∀ r ∈ rs, K0.heap.size ≤ r ∧ imm r = some (.deferred (some []))) → Sim K0 imm m w σ →
    (∀ imm' w', (∀ b, b < K0.heap.size → imm' b = imm b) → (∀ b i v, icell imm b i = some v → icell imm' b i = some v) → (∀ b ents clock, imm b = some (.map ents clock) → imm' b = some (.map ents clock)) → Sim K0 imm' m w' σ → LeavesIn F n P fn tmps R [] .returning w') → LeavesInM F n P fn tmps R (rs.map mark) .returning w
  | [], imm, w, _, _, hs, h => h imm w (fun _ _ => rfl) (fun _ _ _ h => h) (fun _ _ _ h => h) hs
  | r :: rs, imm, w, hn, hr, hs, h => by
    obtain ⟨h1, h2⟩ := hr r (by simp)
    have hcells := drop1_cells h2
    refine ⟨by simp, .inl ⟨r, _, rfl, run_takeDeferred (hs.imm_ok r _ h2), ?_⟩⟩
    refine leave_marks rs (drop1 imm r) _ (List.nodup_cons.1 hn).2 (fun r' hr' => ?_) (hs.shut h2 _) (fun imm' w' e1 e2 e3 hs' => h imm' w' (fun b hb => ?_) (fun b i v hv => e2 _ _ _ (hcells _ _ _ hv)) (fun b ents clock hv => e3 _ _ _ (drop1_map h2 _ _ _ hv)) hs')
    · refine ⟨(hr r' (by simp [hr'])).1, ?_⟩
      unfold drop1
      rw [if_neg (fun e : r' = r => (List.nodup_cons.1 hn).1 (e ▸ hr'))]
      exact (hr r' (by simp [hr'])).2
    · rw [e1 b hb]
      unfold drop1
      rw [if_neg (by omega)]

/-- A function's contract out of its body. -/
theorem ACalls_of_awp {f : FuncId} {fn : Func} {c : Code} {rs : List ResultVar} {args : List AV} {R : AV → Store → Prop} (hf : P.funcs[f]? = some fn) (hb : fn.body = some c) (hrs : fn.results = rs.toArray)
    (h : AWP P (args.length + (fn.ntmps - args.length)) c (retQ P rs R) (enterA 0 args) σ) : ACalls P f args σ R := by
  intro K imm m w vs hs0 hv
  have hs : Sim w imm m w σ := ⟨rfl, rfl, rfl, Nat.le_refl _, hs0.imm_ok, hs0.dom, hs0.obs, hs0.inj⟩
  refine callsIn_wide (n := 0) |>.1 (callsIn_of_wp_marks hf hb trivial ?_ rfl)
  have hlen := hv.1
  have hfok : FOk w imm m (args.length + (fn.ntmps - args.length)) { tmps := vs.toArray ++ Array.replicate (fn.ntmps - vs.toArray.size) undef, defers := [] } (enterA 0 args) := by
    refine ⟨Marks.nil _ _, by simp [hlen], fun t av ht => ?_⟩
    obtain ⟨h1, _, h3⟩ := enterA_look args 0 t av ht
    simp only [Nat.sub_zero] at h1 h3
    subst h3
    refine ⟨vs[t], ?_, hv.2 t (by omega) h1⟩
    rw [Array.getElem?_append_left (by simp; omega)]
    simp
  refine Code.wpIn_mono ?_ (h w imm m w _ hs hfok)
  rintro e a' w' ⟨i, o, α', σ', hi, ho, hs', hf', hq⟩
  have fin : ∀ l, resA P α' σ' rs = some l → R (oneOf l) σ' → LeavesInM Fence.wide 0 P fn a'.tmps (fun e w' => ∃ imm' m' v r σ', e = .returned v ∧ ILe imm imm' ∧ OLe m m' ∧ Sim K imm' m' w' σ' ∧ Rep imm' m' v r ∧ R r σ') a'.defers .returning w' := by
    intro l hl hR
    obtain ⟨ms, hn, hms, hm⟩ := hf'.defers
    rw [hms]
    refine leave_marks ms i w' hn hm hs' ?_
    intro imm' w'' e1 e2 e3 hs''
    have hf'' : FOk w imm' o (args.length + (fn.ntmps - args.length)) { a' with defers := [] } α' := ⟨Marks.nil _ _, hf'.size, fun t av ht => let ⟨v, hv, r⟩ := hf'.slot t av ht; ⟨v, hv, r.cells e2 e3⟩⟩
    obtain ⟨v, hv, r⟩ := results_run hrs hs'' hf'' hl
    refine ⟨v, hv, imm', o, v, _, σ', rfl, fun b ob hb => ?_, ho, ⟨hs''.os.trans hs0.os, hs''.tape.trans hs0.tape, hs''.output.trans hs0.output, Nat.le_trans hs0.size hs''.size, hs''.imm_ok, hs''.dom, hs''.obs, hs''.inj⟩, r, hR⟩
    have hlt : b < w.heap.size := (Array.getElem?_eq_some_iff.1 (hs.imm_ok b ob hb)).1
    rw [e1 b hlt]
    exact hi b ob hb
  cases e with
  | normal => obtain ⟨l, hl, hR⟩ := on_elim hq; exact fin l hl hR
  | ret => obtain ⟨l, hl, hR⟩ := on_elim hq; exact fin l hl hR
  | _ => exact hq.elim
end
end Go.Proofs.Ytephecognbbaoab
