/- Every operation: what it asks, what it makes; and that this is what the machine does. -/
import Derived.Test.YtephecognbbaoaaAp
import Derived.Test.YtephecognbbaoaaMp
import Derived.RangeFuncRecord
namespace Go.Proofs.Ytephecognbbaoaa
open Go
set_option linter.all false

def callOk (P : Program) (f : FuncId) : Bool :=
  match P.funcs[f]? with
  | some fn => fn.body.isSome && !(fn.name == "runtime.NumGoroutine")
  | none => false

def numsA : List (List AV) → Option (List Int)
  | [] => some []
  | [.c (.int .u8 n)] :: r => (numsA r).map fun l => n :: l
  | _ => none

/-- What a conversion makes. -/
def convA (P : Program) (d d' : Option TypeDesc) (x : AV) (σ : Store) (K : AV → Store → Prop) : Prop :=
  match d, d', x with
  | some (.int _), some (.int .i64), .c (.int _ n) => I64 n ∧ K (.c (.int .i64 n)) σ
  | some (.int _), some (.int k), .c (.int _ n) => K (.c (.int k (k.wrap n))) σ
  | some .string, some (.slice e), .c (.string s) => P.underlying e = some (.int .u8) ∧ K (.own σ.length 1 0 s.size s.size) (σ ++ [.cells 1 (s.data.toList.map fun b => [.c (.int .u8 b.toNat)])])
  | some (.slice e), some .string, x => P.underlying e = some (.int .u8) ∧ on (elemsA σ x) fun es => on (numsA es) fun ns => K (.c (.string (strOfNums ns))) σ
  | _, _, _ => False

/-- What a made slice is. -/
def makeA (P : Program) (d : Option TypeDesc) (l c : Int) (σ : Store) (K : AV → Store → Prop) : Prop :=
  match d with
  | some (.slice e) => on (zeroA P e) fun z => z.length = P.cellsOf e ∧ 0 ≤ l ∧ l ≤ c ∧ (P.bytesOf e : Int) * c ≤ 140737488355328 ∧ c ≤ 9223372036854775807 ∧
      K (.own σ.length (P.cellsOf e) 0 l.toNat c.toNat) (σ ++ [.cells (P.cellsOf e) (List.replicate c.toNat z)])
  | _ => False

/-- What a call of the yield of loop l does: one round. -/
def YCalls (P : Program) (l : Nat) (args : List AV) (σ : Store) (R : AV → Store → Prop) : Prop :=
  ∀ K imm m w vs, Sim K imm m w σ → RepL imm m vs args → ∃ r : Loop, w.heap[l]? = some (.loop r) ∧ vs.length = r.params.size ∧
    RoundIn Fence.wide 0 P l r.fn ((r.params.zip vs.toArray).foldl (fun tmps (t, a) => tmps.setIfInBounds t a) r.tmps) r.assign r.body w fun e w' =>
      ∃ imm' m' v r σ', e = .returned v ∧ ILe imm imm' ∧ OLe m m' ∧ Sim K imm' m' w' σ' ∧ Rep imm' m' v r ∧ R r σ'

/-- Every operation. -/
def AOp (P : Program) (op : Op) (ev : Operand → Option AV) (σ : Store) (K : AV → Store → Prop) : Prop :=
  match op with
  | .alloc T => on (zeroA P T) fun z => K (.ptr σ.length z.length 0 0) (σ ++ [.cells z.length [z]])
  | .box _ x => on (ev x) fun v => K (.ptr σ.length (cellsA v).length 0 0) (σ ++ [.cells (cellsA v).length [cellsA v]])
  | .build T parts => on (zeroA P T) fun z => on (placesA P T) fun pl => on (partsA ev parts.toList) fun ps => on (fillA (fun i => pl[i]?) z ps) fun l => K (.agg l) σ
  | .buildSlice T n parts => on (elemSize P T) fun k => on (partsA ev parts.toList) fun ps => on (rowsA k 0 ps) fun es =>
    es.length = n ∧ n * k ≤ 16777216 ∧ (match P.underlying T with | some (.slice e) => (zeroA P e).map (·.length) = some k | _ => False) ∧ K (.own σ.length k 0 n n) (σ ++ [.cells k es])
  | .load T a => on (ev a) fun p => on (loadA P σ T p) fun v => K v σ
  | .store T a x => on (ev a) fun p => on (ev x) fun v => on (storeA P σ T p v) fun σ' => K (.c undef) σ'
  | .makeSlice T l c => on ((ev l).bind intA) fun l => on ((ev c).bind intA) fun c => makeA P (P.underlying T) l c σ K
  | .convert s d x => on (ev x) fun x => convA P (P.underlying s) (P.underlying d) x σ K
  | .call { callee := .value f, args := args, argTypes := _ } => on (ev f) fun f => on (evL ev args.toList) fun as => match f with
    | .fn g first cap => callOk P g = true ∧ ACalls P g (first ++ as ++ cap) σ K
    | .c (.func (.yield l) fs cs) => fs = #[] ∧ cs = #[] ∧ YCalls P l as σ K
    | _ => False
  | .call { callee := .builtin .append, args := args, argTypes := ts } => on (evL ev args.toList) fun as => match as, ts.toList with
    | [s, x], [t, t'] => t' = t ∧ appendA P t s x σ K
    | _, _ => False
  | .call { callee := .builtin .copy, args := args, argTypes := ts } => on (evL ev args.toList) fun as => match as, ts.toList with
    | [x, s], [t, _] => copyA P (P.underlying t) x s σ K
    | _, _ => False
  | .makeMap _ none => K (.mp σ.length) (σ ++ [.map []])
  | .insert T m k x => on (ev m) fun m => on (ev k) fun k => on (ev x) fun x => insertA P T m k x σ fun σ' => K (.c undef) σ'
  | .mapUpdate T m k x => on (ev m) fun m => on (ev k) fun k => on (ev x) fun x => insertA P T m k x σ fun σ' => K (.c undef) σ'
  | .lookup T m k ok => on (ev m) fun m => on (ev k) fun k => lookupA P T m k ok σ fun v => K v σ
  | .call { callee := .builtin .len, args := args, argTypes := ts } => on (evL ev args.toList) fun l => match l with
    | [.mp b] => match ts.toList with
      | [T] => on (mapT P T) fun _ => on (isMap σ[b]?) fun es => K (.c (.int .i64 es.length)) σ
      | _ => False
    | _ => AOpA P (.call { callee := .builtin .len, args := args, argTypes := ts }) ev fun v => K v σ
  | op => AOpA P op ev fun v => K v σ

section
variable {P : Program} {K0 : World} {imm : Imm} {m : Own} {w w' : World} {σ : Store} {ev : Operand → Option AV} {ρ : Operand → Value}

theorem up_value {Kont : AV → Store → Prop} {r : Result Next} {v : Value} {w' : World} {imm' : Imm} {m' : Own} {av : AV} {σ' : Store} (hr : r = .ok (.value v) w')
    (hi : ILe imm imm') (ho : OLe m m') (hs : Sim K0 imm' m' w' σ') (hv : Rep imm' m' v av) (hk : Kont av σ') : Up P K0 imm m Kont r := by
  subst hr
  exact ⟨imm', m', av, σ', hi, ho, hs, hv, hk⟩

theorem rowsA_fill (k : Nat) : ∀ (ps : List (Nat × AV)) (i0 : Nat) (es : List (List AV)) (e : List AV), rowsA k i0 ps = some es → (i0 + es.length) * k ≤ e.length →
    (∀ x, x ∈ es → x.length = k) ∧ ∃ e', fillA (fun i => some (i * k, k)) e ps = some e' ∧ e'.length = e.length ∧
      (∀ i (hi : i < es.length) j (hj : j < es[i].length), e'[(i0 + i) * k + j]? = some es[i][j]) ∧ (∀ x, x < i0 * k → e'[x]? = e[x]?)
  | [], i0, es, e, h, hle => by
    cases h
    exact ⟨fun x hx => by simp at hx, e, rfl, rfl, fun i hi => by simp at hi, fun _ _ => rfl⟩
  | (j, v) :: r, i0, es, e, h, hle => by
    simp only [rowsA] at h
    split at h
    · rename_i hc
      obtain ⟨rfl, hlen⟩ := hc
      obtain ⟨l, hl, rfl⟩ := Option.map_eq_some_iff.1 h
      have e1 : (i0 + (cellsA v :: l).length) * k = i0 * k + k + l.length * k := by simp only [List.length_cons]; rw [Nat.add_mul, Nat.add_mul, Nat.one_mul]; omega
      have hle2 : (i0 + 1 + l.length) * k ≤ (setL e (i0 * k) (cellsA v)).length := by
        rw [setL_length]
        rw [Nat.add_mul, Nat.add_mul, Nat.one_mul]
        omega
      obtain ⟨h1, e', h2, h3, h4, h5⟩ := rowsA_fill k r (i0 + 1) l (setL e (i0 * k) (cellsA v)) hl hle2
      refine ⟨fun x hx => ?_, e', ?_, by rw [h3, setL_length], fun i hi j hj => ?_, fun x hx => ?_⟩
      · rcases List.mem_cons.1 hx with rfl | hx
        · exact hlen
        · exact h1 x hx
      · simp only [fillA]
        rw [if_pos ⟨hlen, by omega⟩]
        exact h2
      · cases i with
        | zero =>
          simp only [List.getElem_cons_zero] at hj ⊢
          have hx : i0 * k + j < (i0 + 1) * k := flat_lt (by omega) (by omega)
          have hlt : i0 * k + j < (setL e (i0 * k) (cellsA v)).length := by rw [setL_length]; omega
          rw [Nat.add_zero, h5 _ hx, List.getElem?_eq_getElem hlt, (setL_get (cellsA v) e (i0 * k) _ hlt (by omega)).1 j hj rfl]
        | succ i =>
          simp only [List.getElem_cons_succ] at hj ⊢
          have := h4 i (by simpa using hi) j hj
          rw [show i0 + (i + 1) = i0 + 1 + i by omega]
          exact this
      · have hx' : x < (i0 + 1) * k := by rw [Nat.add_mul, Nat.one_mul]; omega
        rw [h5 x hx']
        have hlt : x < (setL e (i0 * k) (cellsA v)).length := by rw [setL_length]; omega
        rw [List.getElem?_eq_getElem hlt, (setL_get (cellsA v) e (i0 * k) _ hlt (by omega)).2 (.inl hx), ← List.getElem?_eq_getElem]
    · cases h

theorem numsA_spec : ∀ (es : List (List AV)) (ns : List Int), numsA es = some ns → es = ns.map fun n => [.c (.int .u8 n)] := by
  intro es
  induction es with
  | nil => intro ns h; cases h; rfl
  | cons x r ih =>
    intro ns h
    unfold numsA at h
    split at h
    · rename_i heq; cases heq
    · rename_i n r' heq
      cases heq
      obtain ⟨l, hl, rfl⟩ := Option.map_eq_some_iff.1 h
      rw [ih l hl]
      rfl
    · cases h

theorem RepL.append {v1 v2 : List Value} {a1 a2 : List AV} (h1 : RepL imm m v1 a1) (h2 : RepL imm m v2 a2) : RepL imm m (v1 ++ v2) (a1 ++ a2) := by
  have e := h1.1
  refine ⟨by simp [e, h2.1], fun i hi1 hi2 => ?_⟩
  rcases Nat.lt_or_ge i v1.length with h | h
  · rw [List.getElem_append_left h, List.getElem_append_left (by omega)]
    exact h1.2 i h _
  · rw [List.getElem_append_right h, List.getElem_append_right (by omega)]
    have h9 := h2.2 (i - v1.length) (by simp only [List.length_append] at hi1; omega) (by simp only [List.length_append] at hi2; omega)
    simp only [e] at h9 ⊢
    exact h9

theorem upA (op : Op) (hs : Sim K0 imm m w σ) (hev : ∀ x av, ev x = some av → Rep imm m (ρ x) av) {Kont : AV → Store → Prop} (h : AOpA P op ev fun v => Kont v σ)
    {dst : Option Tmp} {type : TypeId} {pos : String} {after : Array Edge} {guard : Option (Nat × Bool)} :
    Up P K0 imm m Kont ((execOp ρ { dst, op, type, pos, after, guard }).run P w) := by
  obtain ⟨v, av, hr, hrep, hk⟩ := AOpA_sound (P := P) (w := w) op hev h
  exact up_value (hr dst type pos after guard) (.refl _) (.refl _) hs hrep hk

theorem AOp_sound (op : Op) (hs : Sim K0 imm m w σ) (hev : ∀ x av, ev x = some av → Rep imm m (ρ x) av) {Kont : AV → Store → Prop} (h : AOp P op ev σ Kont)
    {dst : Option Tmp} {type : TypeId} {pos : String} {after : Array Edge} {guard : Option (Nat × Bool)} :
    Up P K0 imm m Kont ((execOp ρ { dst, op, type, pos, after, guard }).run P w) := by
  cases op with
  | alloc T =>
    replace h := on_elim h; obtain ⟨z, hz, hK⟩ := h
    obtain ⟨v, hr, hrep, rfl, _⟩ := zeroA_run (P := P) (imm := imm) (m := m) (w := w) hz
    obtain ⟨m', ho, hs', hp⟩ := hs.alloc1 v.cells T _ hrep
    refine up_value (v := .pointer (some ⟨w.heap.size, 0, none⟩)) ?_ (.refl _) ho hs' hp hK
    simp [execOp, Instr.alloc, hr, newVar, newRow]
  | box T x =>
    replace h := on_elim h; obtain ⟨a, ha, hK⟩ := h
    obtain ⟨m', ho, hs', hp⟩ := hs.alloc1 (ρ x).cells T _ (cells_rep (hev _ _ ha))
    refine up_value (v := .pointer (some ⟨w.heap.size, 0, none⟩)) ?_ (.refl _) ho hs' hp hK
    simp [execOp, Instr.box, newVar, newRow]
  | build T parts =>
    replace h := on_elim h; obtain ⟨z, hz, h⟩ := h
    replace h := on_elim h; obtain ⟨pl, hpl, h⟩ := h
    replace h := on_elim h; obtain ⟨ps, hps, h⟩ := h
    replace h := on_elim h; obtain ⟨l, hl, hK⟩ := h
    obtain ⟨v, hr, hrep, rfl, hzi⟩ := zeroA_run (P := P) (imm := imm) (m := m) (w := w) hz
    have hparts := partsA_rep hev _ _ hps
    unfold placesA at hpl
    split at hpl
    · rename_i fs hT
      split at hpl
      · rename_i hall
        cases hpl
        have hlist : ∀ (l : List Field), (∀ f ∈ l, (P.info? f.type).isSome = true) → l.mapM (fun f => (P.info? f.type).map fun i => (f.offset, i.size)) = some (l.map fun f => (f.offset, P.cellsOf f.type)) := by
          intro l
          induction l with
          | nil => intro _; rfl
          | cons f r ih =>
            intro hf
            obtain ⟨i, hi⟩ := Option.isSome_iff_exists.1 (hf f (by simp))
            have := ih (fun g hg => hf g (by simp [hg]))
            simp [List.mapM_cons, hi, this, Program.cellsOf]
        have hm := hlist fs.toList (fun f hf => by
            have := Array.all_eq_true.1 hall
            obtain ⟨i, hi, rfl⟩ := List.getElem_of_mem hf
            simpa using this i (by simpa using hi))
        obtain ⟨cs', e1, r1⟩ := fillA_rep (imm := imm) (m := m) (fun i => (fs.toList.map fun f => (f.offset, P.cellsOf f.type))[i]?) (parts.toList.map fun (i, x) => (i, ρ x)) ps v.cells _ l hrep
          ⟨by simpa using hparts.1, fun i h1 h2 => by simp only [List.getElem_map]; exact hparts.2 i (by simpa using h1) h2⟩ hl
        obtain ⟨it, hit⟩ : ∃ it, P.info? T = some it ∧ it.zero = some v := by
          cases hi : P.info? T with
          | none => simp [hi] at hzi
          | some it => exact ⟨it, rfl, by simpa [hi] using hzi⟩
        have hb : P.built T (parts.map fun (x : Nat × Operand) => (x.1, ρ x.2)).toList = some cs' := by
          have e2 : (parts.map fun (x : Nat × Operand) => (x.1, ρ x.2)).toList = parts.toList.map fun (i, x) => (i, ρ x) := by simp
          rw [e2]
          simp only [Program.built, hit.1, hT, hit.2, hm]
          rw [← e1]
          congr 1
          funext i
          simp
        refine up_value (v := .agg cs') (w' := w) ?_ (.refl _) (.refl _) hs ?_ hK
        · simp only [execOp, Sem.run_bind, run_build w T _ cs' hb, Result.andThen_ok, Sem.run_pure]
        · have : cs' = cs'.toList.toArray := by simp
          rw [this]
          exact .agg _ _ r1.1 r1.2
      · cases hpl
    · rename_i n e hT
      split at hpl
      · rename_i hei
        cases hpl
        obtain ⟨ie, hie⟩ := Option.isSome_iff_exists.1 hei
        have hce : P.cellsOf e = ie.size := by simp [Program.cellsOf, hie]
        have hl2 := fillA_more (g := fun i => some (i * P.cellsOf e, P.cellsOf e)) (fun i p hp => by
          rw [List.getElem?_map] at hp
          obtain ⟨y, hy, rfl⟩ := Option.map_eq_some_iff.1 hp
          obtain ⟨hlt, rfl⟩ := List.getElem?_eq_some_iff.1 hy
          simp) _ _ _ hl
        obtain ⟨cs', e1, r1⟩ := fillA_rep (imm := imm) (m := m) (fun i => some (i * P.cellsOf e, P.cellsOf e)) (parts.toList.map fun (i, x) => (i, ρ x)) ps v.cells _ l hrep
          ⟨by simpa using hparts.1, fun i h1 h2 => by simp only [List.getElem_map]; exact hparts.2 i (by simpa using h1) h2⟩ hl2
        obtain ⟨it, hit⟩ : ∃ it, P.info? T = some it ∧ it.zero = some v := by
          cases hi : P.info? T with
          | none => simp [hi] at hzi
          | some it => exact ⟨it, rfl, by simpa [hi] using hzi⟩
        have hb : P.built T (parts.map fun (x : Nat × Operand) => (x.1, ρ x.2)).toList = some cs' := by
          have e2 : (parts.map fun (x : Nat × Operand) => (x.1, ρ x.2)).toList = parts.toList.map fun (i, x) => (i, ρ x) := by simp
          rw [e2]
          simp only [Program.built, hit.1, hT, hit.2, hie]
          rw [← e1, hce]
        refine up_value (v := .agg cs') (w' := w) ?_ (.refl _) (.refl _) hs ?_ hK
        · simp only [execOp, Sem.run_bind, run_build w T _ cs' hb, Result.andThen_ok, Sem.run_pure]
        · have : cs' = cs'.toList.toArray := by simp
          rw [this]
          exact .agg _ _ r1.1 r1.2
      · cases hpl
    · cases hpl
  | load T a =>
    replace h := on_elim h; obtain ⟨p, hp, h⟩ := h
    replace h := on_elim h; obtain ⟨v, hv, hK⟩ := h
    obtain ⟨u, h1, h2⟩ := load_run hs (hev _ _ hp) hv
    exact up_value (v := u) (w' := w) (by simp [execOp, h1]) (.refl _) (.refl _) hs h2 hK
  | store T a x =>
    replace h := on_elim h; obtain ⟨p, hp, h⟩ := h
    replace h := on_elim h; obtain ⟨v, hv, h⟩ := h
    replace h := on_elim h; obtain ⟨σ', hσ, hK⟩ := h
    obtain ⟨w', h1, h2⟩ := store_run hs (hev _ _ hp) (hev _ _ hv) hσ
    have hr : (execOp ρ { dst, op := .store T a x, type, pos, after, guard }).run P w = .ok .skip w' := by simp [execOp, h1]
    rw [hr]
    exact ⟨imm, m, _, σ', .refl _, .refl _, h2, .c _, hK⟩
  | buildSlice T n parts =>
    replace h := on_elim h; obtain ⟨k, hk, h⟩ := h
    replace h := on_elim h; obtain ⟨ps, hps, h⟩ := h
    replace h := on_elim h; obtain ⟨es, hes, h⟩ := h
    obtain ⟨rfl, hsmall, hz, hK⟩ := h
    have hparts := partsA_rep hev _ _ hps
    unfold elemSize at hk
    split at hk
    · rename_i e hT
      split at hk
      · rename_i hi
        cases hk
        simp only [hT] at hz
        obtain ⟨z, hz, hzl⟩ := Option.map_eq_some_iff.1 hz
        obtain ⟨v, hr, hrep, rfl, _⟩ := zeroA_run (P := P) (imm := imm) (m := m) (w := w) hz
        let Z : Array Value := if es.length * P.cellsOf e = 0 then #[] else v.cells
        let C : Array Value := (Array.range (es.length * P.cellsOf e)).map (Z[· % Z.size]!)
        have hC : C.size = es.length * P.cellsOf e := by simp [C]
        have hCr : RepL imm m C.toList (C.toList.map .c) := ⟨by simp, fun i h1 h2 => by simp only [List.getElem_map]; exact .c _⟩
        obtain ⟨hall, e', hf, hl, hg, _⟩ := rowsA_fill (P.cellsOf e) ps 0 es (C.toList.map .c) hes (by simp [hC])
        obtain ⟨cs', e1, r1⟩ := fillA_rep (imm := imm) (m := m) (fun i => some (i * P.cellsOf e, P.cellsOf e)) (parts.toList.map fun (i, x) => (i, ρ x)) ps C _ e' hCr
          ⟨by simpa using hparts.1, fun i h1 h2 => by simp only [List.getElem_map]; exact hparts.2 i (by simpa using h1) h2⟩ hf
        have hsz : cs'.size = es.length * P.cellsOf e := by have := r1.1; simp [hl, hC] at this; omega
        have hnew := hs.push (w' := w.alloc (.cells cs' e)) (beside_alloc _) cs' e (0, 0) rfl (P.cellsOf e) es (by simp) (by omega) (fun i hi => ⟨hall _ (List.getElem_mem _), fun j hj => by
          have hlt : i * P.cellsOf e + j < es.length * P.cellsOf e := flat_lt (by rw [← hall _ (List.getElem_mem hi)]; exact hj) hi
          have h9 := hg i hi j hj
          rw [Nat.zero_add] at h9
          obtain ⟨hlt2, e9⟩ := List.getElem?_eq_some_iff.1 h9
          refine ⟨cs'[i * P.cellsOf e + j], by simp [hsz, hlt], ?_⟩
          rw [← e9]
          exact r1.2 _ (by simpa [hsz] using hlt) hlt2⟩)
        refine up_value (v := .slice (some ⟨w.heap.size, 0, none⟩) es.length es.length) (w' := w.alloc (.cells cs' e)) ?_ (.refl _) (.upd (hs.dom _ (Nat.le_refl _)) _) hnew
          (.own _ _ _ _ _ _ w.heap.size cs'.size _ (by simp [upd]) (Nat.le_refl _) (Nat.le_refl _) (by simp) (by rw [Nat.zero_add]; omega)) hK
        have e2 : (parts.map fun (x : Nat × Operand) => (x.1, ρ x.2)).toList = parts.toList.map fun (i, x) => (i, ρ x) := by simp
        have hns : ¬ es.length * P.cellsOf e > 2 ^ 24 := by omega
        simp only [execOp, Instr.buildSlice, Sem.run_bind, run_underlying hT, Result.andThen_ok, run_sizeOf hi, if_neg hns, e2]
        by_cases h0 : es.length * P.cellsOf e = 0
        · have hZ : Z = #[] := if_pos h0
          simp only [C, hZ] at e1
          simp only [if_pos h0, Sem.run_bind, Sem.run_pure, Result.andThen_ok, e1]
          simp [newRow]
        · have hZ : Z = v.cells := if_neg h0
          simp only [C, hZ] at e1
          simp only [if_neg h0, Sem.run_bind, hr, Sem.run_pure, Result.andThen_ok, e1]
          simp [newRow]
      · cases hk
    · cases hk
  | makeSlice T l c =>
    replace h := on_elim h; obtain ⟨nl, hl, h⟩ := h
    replace h := on_elim h; obtain ⟨nc, hc, h⟩ := h
    obtain ⟨kl, hl⟩ := bound_sound (d := 0) hev (show bound ev (some l) 0 = some nl from hl)
    obtain ⟨kc, hc⟩ := bound_sound (d := 0) hev (show bound ev (some c) 0 = some nc from hc)
    unfold makeA at h
    split at h
    · rename_i e hT
      replace h := on_elim h; obtain ⟨z, hz, h⟩ := h
      obtain ⟨hzl, h0, h1, h2, h3, hK⟩ := h
      obtain ⟨v, hr, hrep, rfl, hzi⟩ := zeroA_run (P := P) (imm := imm) (m := m) (w := w) hz
      obtain ⟨it, hit⟩ : ∃ it, P.info? e = some it ∧ it.zero = some v := by
        cases hi : P.info? e with
        | none => simp [hi] at hzi
        | some it => exact ⟨it, rfl, by simpa [hi] using hzi⟩
      have hcells : P.cellsOf e = it.size := by simp [Program.cellsOf, hit.1]
      have hbytes : P.bytesOf e = it.bytes := by simp [Program.bytesOf, hit.1]
      have hvs : v.cells.size = P.cellsOf e := by rw [← hzl]; simp
      have hrun := run_make w T e it v hT hit.1 hit.2 kl kc nl nc h0 h1 (by rw [← hbytes]; omega) h3
      have hsz : (madeCells v.cells (nc.toNat * it.size)).size = nc.toNat * P.cellsOf e := by simp [madeCells, hcells]
      have hnew := hs.push (w' := w.alloc (.cells (madeCells v.cells (nc.toNat * it.size)) e)) (beside_alloc _) _ e (0, 0) rfl (P.cellsOf e) (List.replicate nc.toNat (v.cells.toList.map .c)) (by simp) (by simp [hsz])
        (fun i hi => ⟨by simp [hvs], fun j hj => by
          simp only [List.getElem_replicate, List.length_map, Array.length_toList] at hj
          simp only [List.length_replicate] at hi
          have hlt : i * P.cellsOf e + j < nc.toNat * P.cellsOf e := flat_lt (by omega) hi
          refine ⟨v.cells[j], ?_, ?_⟩
          · have hmod : (i * P.cellsOf e + j) % v.cells.size = j := by
              rw [hvs, Nat.mul_comm, Nat.mul_add_mod]
              exact Nat.mod_eq_of_lt (by omega)
            rw [Array.getElem?_eq_getElem (by rw [hsz]; exact hlt)]
            simp [madeCells, hmod, hj]
          · simp only [List.getElem_replicate, List.getElem_map, Array.getElem_toList]
            exact .c _⟩)
      refine up_value (v := .slice (some ⟨w.heap.size, 0, none⟩) nl.toNat nc.toNat) ?_ (.refl _) (.upd (hs.dom _ (Nat.le_refl _)) _) hnew
        (.own _ _ _ _ _ _ w.heap.size (madeCells v.cells (nc.toNat * it.size)).size _ (by simp [upd]) (by omega) (Nat.le_refl _) (by simp) (by rw [hsz]; simp)) hK
      simp only [execOp, hl, hc, Sem.run_bind, hrun, Result.andThen_ok, Sem.run_pure]
    · exact h.elim
  | convert s d x =>
    replace h := on_elim h; obtain ⟨a, ha, h⟩ := h
    have hrx := hev _ _ ha
    unfold convA at h
    split at h
    · rename_i h1 h2
      have e1 := hrx.c_inv
      obtain ⟨h0, h⟩ := h
      refine up_value (w' := w) ?_ (.refl _) (.refl _) hs (.c _) h
      simp only [execOp, e1, convert, Sem.run_bind, run_underlying h1, run_underlying h2, Result.andThen_ok, Conv.intToInt, Sem.run_pure, wrap_of_I64 h0]
    · rename_i h1 h2
      have e1 := hrx.c_inv
      refine up_value (w' := w) ?_ (.refl _) (.refl _) hs (.c _) h
      simp only [execOp, e1, convert, Sem.run_bind, run_underlying h1, run_underlying h2, Result.andThen_ok, Conv.intToInt, Sem.run_pure]
    · rename_i e str h1 h2
      obtain ⟨he, hK⟩ := h
      have e1 := hrx.c_inv
      have hr := run_bytes_of_string (P := P) w s d e str h1 h2 he
      have hg := grownCap_ge w str.size 0 e
      have hszr : (bytesRow str (grownCap w str.size 0 e)).size = grownCap w str.size 0 e := by
        simp only [bytesRow, Array.size_append, Array.size_map, Array.size_replicate]
        have : str.data.size = str.size := rfl
        omega
      have hnew := hs.push (w' := w.drew.alloc (.cells (bytesRow str (grownCap w str.size 0 e)) e ((bytesRow str (grownCap w str.size 0 e)).size, (bytesRow str (grownCap w str.size 0 e)).size + 1))) (beside_drew _) _ e _ rfl 1
        (str.data.toList.map fun b => [.c (.int .u8 b.toNat)]) (fun o ho => by omega) (by rw [hszr]; simp; exact hg)
        (fun i hi => ⟨by simp, fun j hj => by
          simp only [List.getElem_map, List.length_cons, List.length_nil] at hj
          obtain rfl : j = 0 := by omega
          simp only [List.length_map, Array.length_toList] at hi
          refine ⟨.int .u8 (str.data[i].toNat : Int), ?_, ?_⟩
          · rw [show i * 1 + 0 = i by omega]
            exact bytesRow_at str _ i hi
          · simp only [List.getElem_map, List.getElem_cons_zero, Array.getElem_toList]
            exact .c _⟩)
      refine up_value ?_ (.refl _) (.upd (hs.dom _ (Nat.le_refl _)) _) hnew (.own _ _ _ _ _ (grownCap w str.size 0 e) w.heap.size (bytesRow str (grownCap w str.size 0 e)).size 0 (by simp [upd]) (Nat.le_refl _) hg (by simp) (by rw [hszr]; omega)) hK
      simp only [execOp, e1, Sem.run_bind, hr, Result.andThen_ok, Sem.run_pure]
    · rename_i e h1 h2
      obtain ⟨he, h⟩ := h
      replace h := on_elim h; obtain ⟨es, hes, h⟩ := h
      replace h := on_elim h; obtain ⟨ns, hns, hK⟩ := h
      have hsp := numsA_spec es ns hns
      refine up_value (v := .string (strOfNums ns)) (w' := w) ?_ (.refl _) (.refl _) hs (.c _) hK
      obtain ⟨p, cap, hv, hcap, hat⟩ := slice_at hs hrx hes
      have hlen : es.length = ns.length := by rw [hsp]; simp
      rcases Nat.eq_zero_or_pos es.length with h0 | h0
      · have hns0 : ns = [] := List.eq_nil_of_length_eq_zero (by omega)
        subst hns0
        simp only [execOp, hv, h0, convert, Sem.run_bind, run_underlying h1, run_underlying h2, run_underlying he, Result.andThen_ok]
        cases p <;> simp [Conv.bytesToString, loadCells, loadCellsFrom, strOfNums] <;> rfl
      · obtain ⟨b, o, k, rfl, hk, hc⟩ := hat h0
        have hk1 : k = 1 := by
          have := hk 0 h0
          rw [← this]
          simp [hsp]
        subst hk1
        have hr := run_convert_bytes_arg (P := P) (w := w) s e h1 he b o es.length cap ns hlen.symm (fun i hi => by
          have hi' : i < ns.length := by omega
          have hone : es[i] = [.c (.int .u8 ns[i])] := by simp [hsp]
          obtain ⟨u, hu, r⟩ := hc i hi 0 (by rw [hone]; simp)
          simp only [hone, List.getElem_cons_zero] at r
          rw [Nat.mul_one, Nat.add_zero] at hu
          rw [hu, r.c_inv]
          simp [List.getD_eq_getElem?_getD, hi']) d h2
        simp only [execOp, hv, Sem.run_bind, hr, Result.andThen_ok, Sem.run_pure]
    · exact h.elim
  | call c =>
    obtain ⟨callee, args, ts⟩ := c
    have hargs : args.map ρ = (args.toList.map ρ).toArray := by cases args; simp
    cases callee with
    | value f =>
      replace h := on_elim h; obtain ⟨fv, hf, h⟩ := h
      replace h := on_elim h; obtain ⟨as, has, h⟩ := h
      have hr := hev _ _ hf
      have hra := evL_rep hev _ _ has
      split at h
      · rename_i g first cap
        obtain ⟨hok, hc⟩ := h
        generalize hv : ρ f = v at hr
        cases hr with
        | fn f' fs cs _ _ hfl hcl h1 h2 =>
          have hrl : RepL imm m (fs ++ args.toList.map ρ ++ cs) (first ++ as ++ cap) := (RepL.append ⟨hfl, h1⟩ hra).append ⟨hcl, h2⟩
          have hcall := hc K0 imm m w _ hs hrl
          have hrun : (execOp ρ { dst, op := .call { callee := .value f, args := args, argTypes := ts }, type, pos, after, guard }).run P w = .ok (.enter g (fs ++ args.toList.map ρ ++ cs).toArray) w := by
            unfold callOk at hok
            split at hok
            · rename_i fn hfn
              simp only [Bool.and_eq_true, Bool.not_eq_true'] at hok
              have hbody : fn.body ≠ none := by
                have := hok.1
                intro hb
                simp [hb] at this
              have hname : fn.name ≠ "runtime.NumGoroutine" := by simpa using hok.2
              simp only [execOp, resolve, hv, Deferred.ofValue, Sem.run_bind, Sem.run_pure, Result.andThen_ok, invoke, callFunc, program, hargs]
              simp [hfn, hname, hbody, Sem.run]
            · cases hok
          rw [hrun]
          exact hcall.mono fun e w' ⟨imm', m', v, r, σ', he, hi, ho, hs', hr, hk⟩ => ⟨imm', m', v, r, σ', he, hi, ho, hs', hr, hk⟩
      · rename_i l fs cs
        obtain ⟨rfl, rfl, hc⟩ := h
        have hv := hr.c_inv
        obtain ⟨rec, hl, hsz, hround⟩ := hc K0 imm m w _ hs hra
        have hrun : (execOp ρ { dst, op := .call { callee := .value f, args := args, argTypes := ts }, type, pos, after, guard }).run P w =
            .ok (.round l rec.fn ((rec.params.zip (args.toList.map ρ).toArray).foldl (fun tmps (t, a) => tmps.setIfInBounds t a) rec.tmps) rec.assign rec.body) w := by
          simp only [execOp, resolve, hv, Deferred.ofValue, Sem.run_bind, Sem.run_pure, Result.andThen_ok, invoke, hargs]
          have := run_yield (P := P) (args := (args.toList.map ρ).toArray) hl (by simpa using hsz)
          simpa using this
        rw [hrun]
        exact hround
      · exact h.elim
    | builtin b =>
      cases b with
      | append =>
        replace h := on_elim h; obtain ⟨as, has, h⟩ := h
        have hra := evL_rep hev _ _ has
        split at h
        · rename_i s x t t' hts
          obtain ⟨rfl, h⟩ := h
          obtain ⟨o1, o2, ho⟩ : ∃ o1 o2, args.toList = [o1, o2] := by
            have := hra.1
            simp only [List.length_map] at this
            match h9 : args.toList, this with
            | [a, b], _ => exact ⟨a, b, rfl⟩
          have ha : args = #[o1, o2] := by cases args; simp_all
          subst ha
          have ht : ts = #[t', t'] := by cases ts; simp_all
          subst ht
          have hr1 : Rep imm m (ρ o1) s := by simpa using hra.2 0 (by simp) (by simp)
          have hr2 : Rep imm m (ρ o2) x := by simpa using hra.2 1 (by simp) (by simp)
          obtain ⟨v, w', imm', m', av, σ', hrun, hi, ho, hs', hr, hk⟩ := append_run (ty := type) hs hr1 hr2 h
          refine up_value ?_ hi ho hs' hr hk
          simp only [execOp, resolve, Sem.run_bind, Sem.run_pure, Result.andThen_ok, invoke, builtin, List.map_toArray, List.map_cons, List.map_nil, hrun]
        · exact h.elim
      | copy =>
        replace h := on_elim h; obtain ⟨as, has, h⟩ := h
        have hra := evL_rep hev _ _ has
        split at h
        · rename_i x s t t' hts
          obtain ⟨o1, o2, ho⟩ : ∃ o1 o2, args.toList = [o1, o2] := by
            have := hra.1
            simp only [List.length_map] at this
            match h9 : args.toList, this with
            | [a, b], _ => exact ⟨a, b, rfl⟩
          have ha : args = #[o1, o2] := by cases args; simp_all
          subst ha
          have ht : ts = #[t, t'] := by cases ts; simp_all
          subst ht
          have hr1 : Rep imm m (ρ o1) x := by simpa using hra.2 0 (by simp) (by simp)
          have hr2 : Rep imm m (ρ o2) s := by simpa using hra.2 1 (by simp) (by simp)
          obtain ⟨v, w', av, σ', hrun, hs', hr, hk⟩ := copy_run (t' := t') (ty := type) hs hr1 hr2 h
          refine up_value ?_ (.refl _) (.refl _) hs' hr hk
          simp only [execOp, resolve, Sem.run_bind, Sem.run_pure, Result.andThen_ok, invoke, builtin, List.map_toArray, List.map_cons, List.map_nil, hrun]
        · exact h.elim
      | len =>
        have h' := h
        replace h := on_elim h; obtain ⟨as, has, h⟩ := h
        have hra := evL_rep hev _ _ has
        split at h
        · rename_i b
          split at h
          · rename_i T hts
            replace h := on_elim h; obtain ⟨t, ht, h⟩ := h
            replace h := on_elim h; obtain ⟨es, hes, hK⟩ := h
            obtain ⟨o1, ho⟩ : ∃ o1, args.toList = [o1] := by
              have := hra.1
              simp only [List.length_map] at this
              exact List.length_eq_one_iff.1 this
            have ha : args = #[o1] := by cases args; simp_all
            subst ha
            have ht' : ts = #[T] := by cases ts; simp_all
            subst ht'
            have hr1 : Rep imm m (ρ o1) (.mp b) := by simpa using hra.2 0 (by simp) (by simp)
            have hrun := lenMap_run (ty := type) hs hr1 hes ht
            refine up_value (w' := w) ?_ (.refl _) (.refl _) hs (.c _) hK
            simp only [execOp, resolve, Sem.run_bind, Sem.run_pure, Result.andThen_ok, invoke, builtin, List.map_toArray, List.map_cons, List.map_nil, hrun]
          · exact h.elim
        · exact upA _ hs hev h
      | _ =>
        simp only [AOp] at h
        exact upA _ hs hev h
    | _ =>
      simp only [AOp] at h
      exact upA _ hs hev h
  | makeMap T r =>
    cases r with
    | none =>
      simp only [AOp] at h
      obtain ⟨m', ho, hrun, hs', hr⟩ := makeMap_run (P := P) hs T
      exact up_value (by simp [execOp, hrun]) (.refl _) ho hs' hr h
    | some r =>
      simp only [AOp] at h
      exact upA _ hs hev h
  | insert T mo k x =>
    replace h := on_elim h; obtain ⟨a, ha, h⟩ := h
    replace h := on_elim h; obtain ⟨b, hb, h⟩ := h
    replace h := on_elim h; obtain ⟨c, hc, h⟩ := h
    obtain ⟨w', σ', hrun, hs', hK⟩ := insert_run hs (hev _ _ ha) (hev _ _ hb) (hev _ _ hc) h
    have hr : (execOp ρ { dst, op := .insert T mo k x, type, pos, after, guard }).run P w = .ok .skip w' := by simp [execOp, hrun]
    rw [hr]
    exact ⟨imm, m, _, σ', .refl _, .refl _, hs', .c _, hK⟩
  | mapUpdate T mo k x =>
    replace h := on_elim h; obtain ⟨a, ha, h⟩ := h
    replace h := on_elim h; obtain ⟨b, hb, h⟩ := h
    replace h := on_elim h; obtain ⟨c, hc, h⟩ := h
    obtain ⟨w', σ', hrun, hs', hK⟩ := insert_run hs (hev _ _ ha) (hev _ _ hb) (hev _ _ hc) h
    have hr : (execOp ρ { dst, op := .mapUpdate T mo k x, type, pos, after, guard }).run P w = .ok .skip w' := by simp [execOp, hrun]
    rw [hr]
    exact ⟨imm, m, _, σ', .refl _, .refl _, hs', .c _, hK⟩
  | lookup T mo k ok =>
    replace h := on_elim h; obtain ⟨a, ha, h⟩ := h
    replace h := on_elim h; obtain ⟨b, hb, h⟩ := h
    obtain ⟨v, av, hrun, hr, hK⟩ := lookup_run hs (hev _ _ ha) (hev _ _ hb) h
    exact up_value (w' := w) (by simp [execOp, hrun]) (.refl _) (.refl _) hs hr hK
  | _ =>
    simp only [AOp] at h
    exact upA _ hs hev h
end
end Go.Proofs.Ytephecognbbaoaa
