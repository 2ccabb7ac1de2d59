/- What an operation asks, and makes, at abstract values. -/
import Derived.Test.YtephecognbbaoaaLg
import Derived.Laws.StructEq
import Derived.Laws.Small
namespace Go.Proofs.Ytephecognbbaoaa
open Go
set_option linter.all false

/-- 'o' is known, and 'k' holds of it. -/
def on {α : Type} (o : Option α) (k : α → Prop) : Prop := match o with | some a => k a | none => False
theorem on_some {α : Type} (a : α) (k : α → Prop) : on (some a) k = k a := rfl
theorem on_elim {α : Type} {o : Option α} {k : α → Prop} (h : on o k) : ∃ a, o = some a ∧ k a := by
  cases o with
  | none => exact h.elim
  | some a => exact ⟨a, rfl, h⟩

def I64 (n : Int) : Prop := -9223372036854775808 ≤ n ∧ n ≤ 9223372036854775807
theorem wrap_of_I64 {n : Int} (h : I64 n) : IntKind.i64.wrap n = n := IntWalk.i64_in n h

/-- The cells of an abstract value. -/
def cellsA : AV → List AV
  | .agg l => l
  | .c (.agg cs) => cs.toList.map .c
  | a => [a]

/-- A struct's or an array's type: how many cells; else none. -/
def aggSize (P : Program) (t : TypeId) : Option Nat :=
  match P.underlying t with
  | some (.struct _) => some (P.cellsOf t)
  | some (.array _ _) => some (P.cellsOf t)
  | _ => none

/-- The element's size of a slice's type. -/
def elemSize (P : Program) (t : TypeId) : Option Nat :=
  match P.underlying t with
  | some (.slice e) => if (P.info? e).isSome then some (P.cellsOf e) else none
  | _ => none

/-- The element's size of an array's type, and how many. -/
def arrSize (P : Program) (t : TypeId) : Option (Nat × Nat) :=
  match P.underlying t with
  | some (.array n e) => if (P.info? e).isSome then some (P.cellsOf e, n) else none
  | _ => none

/-- A field's place: none where the field has no cells. -/
def fieldAtP (P : Program) (t : TypeId) (f : Nat) : Option Nat :=
  match P.underlying t with
  | some (.struct fs) => match fs[f]? with
    | some x => if (P.info? x.type).isSome && P.cellsOf x.type != 0 then some x.offset else none
    | none => none
  | _ => none

/-- The place of a field that is one cell. -/
def fieldOne (P : Program) (t : TypeId) (f : Nat) : Option Nat :=
  match P.underlying t with
  | some (.struct fs) => match fs[f]? with
    | some x => if (P.underlying x.type).isSome && (aggSize P x.type).isNone then some x.offset else none
    | none => none
  | _ => none

def knownT (P : Program) (t : TypeId) : Bool := (P.underlying t).isSome && (P.info? t).isSome

/-- A value of type t at offset 'off' of these cells. -/
def takeA (P : Program) (t : TypeId) (e : List AV) (off : Nat) : Option AV :=
  match aggSize P t with
  | some n => if off + n ≤ e.length ∧ (P.info? t).isSome then some (.agg ((e.drop off).take n)) else none
  | none => if knownT P t then e[off]? else none

def cellsOb (σ : Store) (b k i : Nat) : Option (List AV) :=
  match σ[b]? with
  | some (.cells k' es) => if k' = k then es[i]? else none
  | _ => none

def loadA (P : Program) (σ : Store) (t : TypeId) : AV → Option AV
  | .ptr b k i off => (cellsOb σ b k i).bind fun e => takeA P t e off
  | .cp e off => takeA P t e off
  | _ => none

def binI (op : BinOp) (k : IntKind) (x y : Int) (K : Value → Prop) : Prop :=
  match op with
  | .add => match k with | .i64 => I64 (x + y) ∧ K (.int .i64 (x + y)) | k => K (.int k (k.wrap (x + y)))
  | .sub => match k with | .i64 => I64 (x - y) ∧ K (.int .i64 (x - y)) | k => K (.int k (k.wrap (x - y)))
  | .mul => match k with | .i64 => I64 (x * y) ∧ K (.int .i64 (x * y)) | k => K (.int k (k.wrap (x * y)))
  | .quo => match k with | .i64 => y ≠ 0 ∧ I64 (x.tdiv y) ∧ K (.int .i64 (x.tdiv y)) | k => y ≠ 0 ∧ K (.int k (k.wrap (x.tdiv y)))
  | .rem => y ≠ 0 ∧ K (.int k (x.tmod y))
  | .and => K (.int k (k.wrap (BitVec.ofInt k.bits x &&& BitVec.ofInt k.bits y).toNat))
  | .or => K (.int k (k.wrap (BitVec.ofInt k.bits x ||| BitVec.ofInt k.bits y).toNat))
  | .xor => K (.int k (k.wrap (BitVec.ofInt k.bits x ^^^ BitVec.ofInt k.bits y).toNat))
  | .eql => K (.bool (x == y))
  | .neq => K (.bool (x != y))
  | .lss => K (.bool (decide (x < y)))
  | .leq => K (.bool (decide (x ≤ y)))
  | .gtr => K (.bool (decide (x > y)))
  | .geq => K (.bool (decide (x ≥ y)))
  | _ => False

def binA (op : BinOp) (a b : AV) (K : Value → Prop) : Prop :=
  match a, b with
  | .c (.int k x), .c (.int k' y) =>
    match op with
    | .shl => 0 ≤ y ∧ K (.int k (k.wrap (x * 2 ^ (min y.toNat k.bits))))
    | .shr => 0 ≤ y ∧ K (.int k (x.fdiv (2 ^ (min y.toNat k.bits))))
    | op => k = k' ∧ binI op k x y K
  | .c (.string s), .c (.string t) =>
    match op with
    | .add => ((s.size + t.size : Nat) : Int) ≤ 9223372036854775807 ∧ K (.string (s ++ t))
    | .eql => K (.bool (s.toList == t.toList))
    | .neq => K (.bool (!(s.toList == t.toList)))
    | _ => False
  | _, _ => False

/-- How two structs of a type are compared: of each field, where it lies, and whether it is a string (else a number). -/
def eqPlan (P : Program) (T : TypeId) : Option (List (Nat × Bool)) :=
  match P.underlying T with
  | some (.struct fs) => if P.stoodInHeld T = false ∧ P.eqGuardType P.depth T = false then
      fs.toList.mapM fun f => match P.underlying f.type with
        | some (.int _) => if f.name ≠ "_" then some (f.offset, false) else none
        | some .string => if f.name ≠ "_" then some (f.offset, true) else none
        | _ => none
    else none
  | _ => none

def eqCells : List (Nat × Bool) → List AV → List AV → Option Bool
  | [], _, _ => some true
  | (o, false) :: r, xs, ys => match xs[o]?, ys[o]? with
    | some (.c (.int k a)), some (.c (.int k' b)) => if k = k' then (eqCells r xs ys).map fun t => a == b && t else none
    | _, _ => none
  | (o, true) :: r, xs, ys => match xs[o]?, ys[o]? with
    | some (.c (.string a)), some (.c (.string b)) => (eqCells r xs ys).map fun t => a.toList == b.toList && t
    | _, _ => none

def binT (P : Program) (T : TypeId) (op : BinOp) (a b : AV) (K : Value → Prop) : Prop :=
  match a, b with
  | .agg xs, .agg ys => on (eqPlan P T) fun pl => on (eqCells pl xs ys) fun r => match op with
    | .eql => K (.bool r)
    | .neq => K (.bool (!r))
    | _ => False
  | .c (.bool p), .c (.bool q) => P.underlying T = some .bool ∧ match op with
    | .eql => K (.bool (p == q))
    | .neq => K (.bool (p != q))
    | _ => False
  | a, b => binA op a b K

/-- A slice compared with nil. -/
def nilT (P : Program) (T : TypeId) (op : BinOp) (a : AV) (K : Value → Prop) : Prop :=
  match P.underlying T with
  | some (.slice _) => match op with
    | .eql => match a with
      | .sl es => (es.length = 0 → K (.bool true)) ∧ K (.bool false)
      | .own .. => K (.bool false)
      | .emp => K (.bool true) ∧ K (.bool false)
      | .c (.slice none 0 0) => K (.bool true)
      | _ => False
    | _ => False
  | _ => False

def binN (P : Program) (T : TypeId) (op : BinOp) (a b : AV) (K : Value → Prop) : Prop :=
  match b with
  | .c (.slice none 0 0) => nilT P T op a K
  | b => binT P T op a b K

theorem binT_agg {P : Program} {T : TypeId} {op : BinOp} {u v : List AV} {K : Value → Prop} : binT P T op (.agg u) (.agg v) K = on (eqPlan P T) fun pl => on (eqCells pl u v) fun r => match op with
    | .eql => K (.bool r)
    | .neq => K (.bool (!r))
    | _ => False := rfl

def lenA : AV → Option Nat
  | .sl es => some es.length
  | .own _ _ _ n _ => some n
  | .emp => some 0
  | .c (.slice none 0 0) => some 0
  | .c (.string s) => some s.size
  | _ => none


/-- What is asked once an operation has run, and what holds then. -/
def Up (P : Program) (K0 : World) (imm : Imm) (m : Own) (K : AV → Store → Prop) : Result Next → Prop
  | .ok (.value v) w' => ∃ imm' m' av σ', ILe imm imm' ∧ OLe m m' ∧ Sim K0 imm' m' w' σ' ∧ Rep imm' m' v av ∧ K av σ'
  | .ok .skip w' => ∃ imm' m' av σ', ILe imm imm' ∧ OLe m m' ∧ Sim K0 imm' m' w' σ' ∧ Rep imm' m' undef av ∧ K av σ'
  | .ok (.enter f args) w' => Calls P f args w' fun e w'' =>
    ∃ imm' m' v av σ', e = .returned v ∧ ILe imm imm' ∧ OLe m m' ∧ Sim K0 imm' m' w'' σ' ∧ Rep imm' m' v av ∧ K av σ'
  | .ok (.round l f tmps assign body) w' => RoundIn Fence.wide 0 P l f tmps assign body w' fun e w'' =>
    ∃ imm' m' v av σ', e = .returned v ∧ ILe imm imm' ∧ OLe m m' ∧ Sim K0 imm' m' w'' σ' ∧ Rep imm' m' v av ∧ K av σ'
  | _ => False

/-- The arguments, each known. -/
def evL (ev : Operand → Option AV) : List Operand → Option (List AV)
  | [] => some []
  | x :: r => (ev x).bind fun v => (evL ev r).bind fun l => some (v :: l)

def strT (P : Program) (t : TypeId) : Bool := match P.underlying t with | some .string => true | _ => false

def lenTy (P : Program) (t : TypeId) (x : AV) : Bool :=
  match x with
  | .c (.string _) => strT P t
  | .c (.slice ..) => (elemSize P t).isSome
  | .sl _ => (elemSize P t).isSome
  | .own .. => (elemSize P t).isSome
  | .emp => (elemSize P t).isSome
  | _ => false

def intA : AV → Option Int
  | .c (.int _ n) => some n
  | _ => none

/-- A slice's bound. -/
def bound (ev : Operand → Option AV) (x : Option Operand) (d : Int) : Option Int :=
  match x with
  | some o => (ev o).bind intA
  | none => some d

def sliceLike : AV → Bool
  | .sl _ => true
  | .own .. => true
  | .emp => true
  | .c (.slice none 0 0) => true
  | _ => false

/-- Both ways of a Bool. -/
def splitB (b : Bool) (p q : Prop) : Prop := (b = true → p) ∧ (b = false → q)
theorem splitB_intro {b : Bool} {p q : Prop} (h1 : b = true → p) (h2 : b = false → q) : splitB b p q := ⟨h1, h2⟩
theorem splitB_true {p q : Prop} : splitB true p q = p := by simp [splitB]
theorem splitB_false {p q : Prop} : splitB false p q = q := by simp [splitB]

/-- What slicing makes. -/
def sliceA (P : Program) (d : Option TypeDesc) (x : AV) (mx : Option Operand) (hi : Bool) (l h : Int) (len : Nat) (mz : Int) (K : AV → Prop) : Prop :=
  match d, x, mx with
  | some .string, .c (.string s), none => 0 ≤ l ∧ l ≤ h ∧ h ≤ len ∧ K (.c (.string (s.extract l.toNat h.toNat)))
  | some (.slice e), .sl es, none => (P.info? e).isSome = true ∧ (∀ x, x ∈ es → x.length = P.cellsOf e) ∧ 0 ≤ l ∧ l ≤ h ∧ h ≤ len ∧ K (.sl ((es.drop l.toNat).take (h.toNat - l.toNat)))
  | some (.slice e), .own b k s n c, none => (P.info? e).isSome = true ∧ P.cellsOf e = k ∧ 0 ≤ l ∧ l ≤ h ∧ h ≤ len ∧ (l = 0 ∨ l < len → K (.own b k (s + l.toNat) (h.toNat - l.toNat) (c - l.toNat))) ∧ (l ≠ 0 → l = len → K (.sl []))
  | some (.slice e), x, some _ => (P.info? e).isSome = true ∧ sliceLike x = true ∧ l = 0 ∧ h = 0 ∧ hi = true ∧ mz = 0 ∧ K .emp
  | _, _, _ => False

/-- What a conversion makes that touches no memory. -/
def convP (d d' : Option TypeDesc) (x : AV) (K : AV → Prop) : Prop :=
  match d, d', x with
  | some (.int _), some (.int k), .c (.int _ n) => K (.c (.int k (k.wrap n)))
  | _, _, _ => False

/-- Operations that touch no memory. -/
def AOpA (P : Program) (op : Op) (ev : Operand → Option AV) (K : AV → Prop) : Prop :=
  match op with
  | .move x => on (ev x) K
  | .assign x => on (ev x) K
  | .pick c a b => on (ev c) fun c => on (ev a) fun a => on (ev b) fun b => match c with
    | .c (.bool t) => splitB t (K a) (K b)
    | _ => False
  | .binOp op T x y _ => on (ev x) fun a => on (ev y) fun b => binN P T op a b fun v => K (.c v)
  | .unOp op _ x => on (ev x) fun a => match op, a with
    | .not, .c (.bool b) => K (.c (.bool (!b)))
    | .neg, .c (.int .i64 n) => I64 (0 - n) ∧ K (.c (.int .i64 (0 - n)))
    | _, _ => False
  | .makeFunc fn first captured => on (evL ev first.toList) fun fs => on (evL ev captured.toList) fun cs => match fn with
    | .func f => K (.fn f fs cs)
    | _ => False
  | .extract t ix => on (ev t) fun t => match t with
    | .tup l => on l[ix]? K
    | _ => False
  | .fieldAddr T x f => on (ev x) fun x => on (fieldAtP P T f) fun d => match x with
    | .ptr b k i off => K (.ptr b k i (off + d))
    | .cp e off => K (.cp e (off + d))
    | _ => False
  | .indexAddr T x i => on (ev x) fun x => on (ev i) fun i => match x with
    | .ptr b k' j off => on (arrSize P T) fun ks => match i with
      | .c (.int _ n) => 0 ≤ n ∧ n < ks.2 ∧ K (.ptr b k' j (off + n.toNat * ks.1))
      | _ => False
    | x => on (elemSize P T) fun k => match x, i with
      | .sl es, .c (.int _ n) => 0 ≤ n ∧ on es[n.toNat]? fun e => e.length = k ∧ K (.cp e 0)
      | .own b k' s len _, .c (.int _ n) => k' = k ∧ 0 ≤ n ∧ n < len ∧ K (.ptr b k (s + n.toNat) 0)
      | _, _ => False
  | .index T x i => on (ev x) fun x => on (ev i) fun i => match x, i with
    | .c (.string s), .c (.int _ n) => P.underlying T = some .string ∧ 0 ≤ n ∧ on s[n.toNat]? fun b => K (.c (.int .u8 b.toNat))
    | _, _ => False
  | .nilCheck x => on (ev x) fun v => match v with
    | .ptr .. => K v
    | .cp .. => K v
    | .fn .. => K v
    | _ => False
  | .convert s d x => on (ev x) fun x => convP (P.underlying s) (P.underlying d) x K
  | .field T x f => on (ev x) fun x => on (fieldOne P T f) fun d => match x with
    | .agg l => on l[d]? K
    | _ => False
  | .call { callee := .builtin .len, args := args, argTypes := ts } => on (evL ev args.toList) fun l => match l, ts.toList with
    | [x], t :: _ => on (lenA x) fun n => lenTy P t x = true ∧ K (.c (.int .i64 n))
    | _, _ => False
  | .call { callee := .builtin .max, args := args, argTypes := _ } => on (evL ev args.toList) fun l => match l with
    | [.c (.int k x), .c (.int _ y)] => K (.c (.int k (max x y)))
    | _ => False
  | .call { callee := .builtin .min, args := args, argTypes := _ } => on (evL ev args.toList) fun l => match l with
    | [.c (.int k x), .c (.int _ y)] => K (.c (.int k (min x y)))
    | _ => False
  | .slice T x lo hi mx => on (ev x) fun x =>
    on (bound ev lo 0) fun l =>
    on (lenA x) fun len =>
    on (bound ev hi len) fun h =>
    on (bound ev mx 0) fun mz =>
    sliceA P (P.underlying T) x mx hi.isSome l h len mz K
  | _ => False

section
variable {P : Program} {imm : Imm} {m : Own} {w : World} {ev : Operand → Option AV} {ρ : Operand → Value}

theorem evL_rep (hev : ∀ x av, ev x = some av → Rep imm m (ρ x) av) : ∀ (xs : List Operand) (l : List AV), evL ev xs = some l → RepL imm m (xs.map ρ) l := by
  intro xs
  induction xs with
  | nil => intro l h; simp [evL] at h; subst h; exact ⟨rfl, fun i h1 => by simp at h1⟩
  | cons x r ih =>
    intro l h
    simp only [evL, Option.bind_eq_some_iff] at h
    obtain ⟨v, hv, l', hl, e⟩ := h
    cases e
    obtain ⟨h1, h2⟩ := ih l' hl
    refine ⟨by simpa using h1, fun i hi1 hi2 => ?_⟩
    cases i with
    | zero => exact hev _ _ hv
    | succ i =>
      simp only [List.map_cons, List.getElem_cons_succ]
      exact h2 i (by simpa using hi1) (by simpa using hi2)

theorem Rep.c_inv {v u : Value} (h : Rep imm m v (.c u)) : v = u := by cases h; rfl

/-- The operation runs, leaves the world alone and yields v. -/
abbrev Runs (P : Program) (ρ : Operand → Value) (op : Op) (w : World) (v : Value) : Prop :=
  ∀ dst type pos after guard, (execOp ρ { dst, op, type, pos, after, guard }).run P w = .ok (.value v) w

theorem binA_sound {op : BinOp} {a b : AV} {K : Value → Prop} (T : TypeId) (x y : Operand) (U : TypeId) (ha : Rep imm m (ρ x) a) (hb : Rep imm m (ρ y) b)
    (h : binA op a b K) : ∃ v, Runs P ρ (.binOp op T x y U) w v ∧ K v := by
  unfold binA at h
  split at h
  · rename_i k i k' j
    have h1 := ha.c_inv
    have h2 := hb.c_inv
    split at h
    · obtain ⟨h0, hk⟩ := h
      refine ⟨_, ?_, hk⟩
      intro dst type pos after guard
      have : ¬ j < 0 := by omega
      simp [execOp, h1, h2, eqGuard, binOp, Op.shift, this]
    · obtain ⟨h0, hk⟩ := h
      refine ⟨_, ?_, hk⟩
      intro dst type pos after guard
      have : ¬ j < 0 := by omega
      simp [execOp, h1, h2, eqGuard, binOp, Op.shift, this]
    · obtain ⟨rfl, h⟩ := h
      unfold binI at h
      split at h <;> (try (split at h)) <;> (try exact h.elim) <;> (try obtain ⟨h0, h⟩ := h) <;> (try obtain ⟨h9, h⟩ := h) <;> refine ⟨_, ?_, h⟩ <;> intro dst type pos after guard <;>
        simp [execOp, h1, h2, eqGuard, binOp, Op.intArith, Op.intDiv, Op.intCmp, Op.intBits, wrap_of_I64, *]
  · rename_i s t
    have h1 := ha.c_inv
    have h2 := hb.c_inv
    split at h
    · obtain ⟨h0, hk⟩ := h
      refine ⟨_, ?_, hk⟩
      intro dst type pos after guard
      simp [execOp, h1, h2, eqGuard, binOp, Op.stringOp]
      omega
    · refine ⟨_, ?_, h⟩
      intro dst type pos after guard
      simp [execOp, h1, h2, eqGuard, binOp, Op.stringOp]
    · refine ⟨_, ?_, h⟩
      intro dst type pos after guard
      simp [execOp, h1, h2, eqGuard, binOp, Op.stringOp]
    · exact h.elim
  · exact h.elim

theorem bound_sound (hev : ∀ x av, ev x = some av → Rep imm m (ρ x) av) {o : Operand} {d n : Int} (h : bound ev (some o) d = some n) : ∃ k, ρ o = .int k n := by
  simp only [bound, Option.bind_eq_some_iff] at h
  obtain ⟨a, ha, hn⟩ := h
  have hr := hev _ _ ha
  unfold intA at hn
  split at hn
  · rename_i k n'
    cases hn
    exact ⟨k, hr.c_inv⟩
  · cases hn

theorem run_underlying {t : TypeId} {d : TypeDesc} (h : P.underlying t = some d) : (underlying t).run P w = .ok d w := by
  simp [underlying, program, h, Sem.run, Sem.run_bind, Result.andThen]

theorem run_typeInfo {t : TypeId} {i : TypeInfo} (h : P.info? t = some i) : (typeInfo t).run P w = .ok i w := by
  simp [typeInfo, program, h, Sem.run, Sem.run_bind, Result.andThen]

theorem run_sizeOf {t : TypeId} (h : (P.info? t).isSome = true) : (sizeOf t).run P w = .ok (P.cellsOf t) w := by
  obtain ⟨i, hi⟩ := Option.isSome_iff_exists.1 h
  simp [sizeOf, run_typeInfo hi, Program.cellsOf, hi]

theorem eqFields_run (d : Nat) : ∀ (fs : List Field) (pl : List (Nat × Bool)) (xs ys : List Value) (as bs : List AV) (r : Bool), RepL imm m xs as → RepL imm m ys bs →
    (fs.mapM fun f => match P.underlying f.type with
        | some (.int _) => if f.name ≠ "_" then some (f.offset, false) else none
        | some .string => if f.name ≠ "_" then some (f.offset, true) else none
        | _ => none) = some pl → eqCells pl as bs = some r → (Op.eqFields (d + 1) xs.toArray ys.toArray fs).run P w = .ok r w
  | [], pl, xs, ys, as, bs, r, hx, hy, hm, he => by
    simp at hm
    subst hm
    cases he
    simp [Op.eqFields]
  | f :: fs, pl, xs, ys, as, bs, r, hx, hy, hm, he => by
    simp only [List.mapM_cons, Option.bind_eq_bind, Option.bind_eq_some_iff, Option.pure_def, Option.some.injEq] at hm
    obtain ⟨q, hq, pl', hpl, rfl⟩ := hm
    have one : ∀ {zs : List Value} {cs : List AV} {o : Nat} {v : Value}, RepL imm m zs cs → cs[o]? = some (.c v) → zs[o]? = some v := by
      intro zs cs o v h1 h2
      obtain ⟨hlt, e⟩ := List.getElem?_eq_some_iff.1 h2
      have h3 := h1.2 o (by rw [h1.1]; exact hlt) hlt
      rw [e] at h3
      rw [List.getElem?_eq_getElem (by rw [h1.1]; exact hlt), h3.c_inv]
    split at hq
    · rename_i k hk
      split at hq
      · rename_i hn
        cases hq
        simp only [eqCells] at he
        split at he
        · rename_i k1 a k2 b ha hb
          split at he
          · rename_i hkk
            subst hkk
            obtain ⟨t, ht, rfl⟩ := Option.map_eq_some_iff.1 he
            have ih := eqFields_run d fs pl' xs ys as bs t hx hy hpl ht
            have e1 := one hx ha
            have e2 := one hy hb
            have hu := run_underlying (w := w) hk
            simp [Op.eqFields, hn, part, isAgg, hu, Result.andThen_ok, e1, e2, run_equalIn_int, hk, ih]
            by_cases h : a = b <;> simp [h]
          · cases he
        · cases he
      · cases hq
    · rename_i hk
      split at hq
      · rename_i hn
        cases hq
        simp only [eqCells] at he
        split at he
        · rename_i a b ha hb
          obtain ⟨t, ht, rfl⟩ := Option.map_eq_some_iff.1 he
          have ih := eqFields_run d fs pl' xs ys as bs t hx hy hpl ht
          have e1 := one hx ha
          have e2 := one hy hb
          have hu := run_underlying (w := w) hk
          simp [Op.eqFields, hn, part, isAgg, hu, Result.andThen_ok, e1, e2, run_equalIn_string, hk, ih]
          by_cases h : a.toList = b.toList <;> simp [h]
        · cases he
      · cases hq
    · cases hq

theorem equalIn_bool {T : TypeId} {p q : Bool} (d : Nat) (hT : P.underlying T = some .bool) : (Op.equalIn (d + 1) T (.bool p) (.bool q)).run P w = .ok (p == q) w := by
  simp [Op.equalIn, run_underlying hT]

theorem equalIn_nil {T e : TypeId} {q : Option Addr} {n c : Nat} (d : Nat) (hT : P.underlying T = some (.slice e)) : (Op.equalIn (d + 1) T (.slice q n c) (.slice none 0 0)).run P w = .ok q.isNone w := by
  cases q <;> simp [Op.equalIn, run_underlying hT]

theorem binT_sound {op : BinOp} {a b : AV} {K : Value → Prop} (T : TypeId) (x y : Operand) (U : TypeId) (ha : Rep imm m (ρ x) a) (hb : Rep imm m (ρ y) b)
    (h : binT P T op a b K) : ∃ v, Runs P ρ (.binOp op T x y U) w v ∧ K v := by
  unfold binT at h
  split at h
  · rename_i xs ys
    replace h := on_elim h; obtain ⟨pl, hpl, h⟩ := h
    replace h := on_elim h; obtain ⟨r, hr, h⟩ := h
    generalize hvx : ρ x = vx at ha
    generalize hvy : ρ y = vy at hb
    cases ha with
    | agg cs _ hl hh =>
      cases hb with
      | agg ds _ hl' hh' =>
        unfold eqPlan at hpl
        split at hpl
        · rename_i fs hfs
          split at hpl
          · rename_i hc
            have hf : P.fieldsOf T = fs := by simp [Program.fieldsOf, hfs]
            have hrun := eqFields_run (P := P) (w := w) (imm := imm) (m := m) 9998 fs.toList pl cs ds xs ys r ⟨hl, hh⟩ ⟨hl', hh'⟩ hpl hr
            have he : (Op.equalIn 10000 T (.agg cs.toArray) (.agg ds.toArray)).run P w = .ok r w := by
              rw [run_equalIn_struct w 9999 T _ _ (by rw [hf]; exact hfs) hc.1, hf]
              exact hrun
            split at h
            · refine ⟨_, ?_, h⟩
              intro dst type pos after guard
              simp only [execOp, hvx, hvy, Sem.run_bind, run_eqGuard_agg w _ T x y _ _ hc.2, Result.andThen_ok, run_eql_struct, he, Sem.run_pure]
            · refine ⟨_, ?_, h⟩
              intro dst type pos after guard
              simp only [execOp, hvx, hvy, Sem.run_bind, run_eqGuard_agg w _ T x y _ _ hc.2, Result.andThen_ok, run_neq_struct, he, Sem.run_pure]
            · exact h.elim
          · cases hpl
        · cases hpl
  · rename_i p q
    obtain ⟨hT, h⟩ := h
    have h1 := ha.c_inv
    have h2 := hb.c_inv
    have he : (Op.equal T (.bool p) (.bool q)).run P w = .ok (p == q) w := by
      exact equalIn_bool 9999 hT
    split at h
    · refine ⟨_, ?_, h⟩
      intro dst type pos after guard
      simp [execOp, h1, h2, eqGuard, binOp, he]
    · refine ⟨_, ?_, h⟩
      intro dst type pos after guard
      simp [execOp, h1, h2, eqGuard, binOp, he]
      cases p <;> cases q <;> rfl
    · exact h.elim
  · exact binA_sound T x y U ha hb h

theorem run_eq_nil {T e : TypeId} (hT : P.underlying T = some (.slice e)) (q : Option Addr) (n c : Nat) : (Op.equal T (.slice q n c) (.slice none 0 0)).run P w = .ok q.isNone w := by
  exact equalIn_nil 9999 hT

theorem binN_sound {op : BinOp} {a b : AV} {K : Value → Prop} (T : TypeId) (x y : Operand) (U : TypeId) (ha : Rep imm m (ρ x) a) (hb : Rep imm m (ρ y) b)
    (h : binN P T op a b K) : ∃ v, Runs P ρ (.binOp op T x y U) w v ∧ K v := by
  unfold binN at h
  split at h
  · have hy := hb.c_inv
    unfold nilT at h
    split at h
    · rename_i e hT
      split at h
      · have key : ∀ (q : Option Addr) (n c : Nat), ρ x = .slice q n c → K (.bool q.isNone) → ∃ v, Runs P ρ (.binOp .eql T x y U) w v ∧ K v := fun q n c hx hk => by
          refine ⟨_, ?_, hk⟩
          intro dst type pos after guard
          simp [execOp, hx, hy, eqGuard, binOp, run_eq_nil hT]
        split at h
        · rename_i es
          generalize hv : ρ x = v at ha
          cases ha with
          | sl q cap n es k vals hn hcap hk hp hr =>
            refine key q n cap hv ?_
            cases q with
            | some a => exact h.2
            | none =>
              refine h.1 ?_
              rcases Nat.eq_zero_or_pos es.length with h0 | h0
              · exact h0
              · obtain ⟨b, o, e, _⟩ := hp h0
                cases e
        · generalize hv : ρ x = v at ha
          cases ha with
          | own => exact key _ _ _ hv h
        · generalize hv : ρ x = v at ha
          cases ha with
          | emp q =>
            refine key _ _ _ hv ?_
            cases q with
            | some a => exact h.2
            | none => exact h.1
        · exact key _ _ _ ha.c_inv h
        · exact h.elim
      · exact h.elim
    · exact h.elim
  · exact binT_sound T x y U ha hb h

theorem AOpA_sound (op : Op) (hev : ∀ x av, ev x = some av → Rep imm m (ρ x) av) {K : AV → Prop} (h : AOpA P op ev K) :
    ∃ v av, Runs P ρ op w v ∧ Rep imm m v av ∧ K av := by
  cases op with
  | move x =>
    replace h := on_elim h; obtain ⟨av, hx, hk⟩ := h
    exact ⟨_, av, fun _ _ _ _ _ => by simp [execOp], hev _ _ hx, hk⟩
  | assign x =>
    replace h := on_elim h; obtain ⟨av, hx, hk⟩ := h
    exact ⟨_, av, fun _ _ _ _ _ => by simp [execOp], hev _ _ hx, hk⟩
  | pick c a b =>
    replace h := on_elim h; obtain ⟨cv, hc, h⟩ := h
    replace h := on_elim h; obtain ⟨av, ha, h⟩ := h
    replace h := on_elim h; obtain ⟨bv, hb, h⟩ := h
    split at h
    · rename_i t
      have hc := (hev _ _ hc).c_inv
      cases t
      · exact ⟨ρ b, bv, fun _ _ _ _ _ => by simp [execOp, hc, asBool], hev _ _ hb, h.2 rfl⟩
      · exact ⟨ρ a, av, fun _ _ _ _ _ => by simp [execOp, hc, asBool], hev _ _ ha, h.1 rfl⟩
    · exact h.elim
  | binOp op T x y U =>
    replace h := on_elim h; obtain ⟨a, ha, h⟩ := h
    replace h := on_elim h; obtain ⟨b, hb, h⟩ := h
    obtain ⟨v, hr, hk⟩ := binN_sound T x y U (hev _ _ ha) (hev _ _ hb) h
    exact ⟨v, _, hr, .c v, hk⟩
  | unOp op T x =>
    replace h := on_elim h; obtain ⟨a, ha, h⟩ := h
    have hr := hev _ _ ha
    split at h
    · have := hr.c_inv
      exact ⟨_, _, fun _ _ _ _ _ => by simp [execOp, this, Op.unary], .c _, h⟩
    · have := hr.c_inv
      obtain ⟨h0, h⟩ := h
      exact ⟨_, _, fun _ _ _ _ _ => by simp only [execOp, this, Op.unary, Op.intArith, wrap_of_I64 h0, Sem.run_bind, Sem.run_pure, Result.andThen_ok], .c _, h⟩
    · exact h.elim
  | makeFunc fn first captured =>
    replace h := on_elim h; obtain ⟨fs, hf, h⟩ := h
    replace h := on_elim h; obtain ⟨cs, hc, h⟩ := h
    split at h
    · rename_i f
      have h1 := evL_rep hev _ _ hf
      have h2 := evL_rep hev _ _ hc
      refine ⟨.func (.func f) (first.map ρ) (captured.map ρ), _, fun _ _ _ _ _ => by simp [execOp, Instr.makeFunc], ?_, h⟩
      have e1 : first.map ρ = (first.toList.map ρ).toArray := by cases first; simp
      have e2 : captured.map ρ = (captured.toList.map ρ).toArray := by cases captured; simp
      rw [e1, e2]
      exact .fn f _ _ fs cs h1.1 h2.1 h1.2 h2.2
    · exact h.elim
  | extract t ix =>
    replace h := on_elim h; obtain ⟨a, ha, h⟩ := h
    split at h
    · rename_i l
      replace h := on_elim h; obtain ⟨b, hb, hk⟩ := h
      have hr := hev _ _ ha
      generalize hv : ρ t = v at hr
      cases hr with
      | tup cs l hl hh =>
        obtain ⟨h2, rfl⟩ := List.getElem?_eq_some_iff.1 hb
        exact ⟨cs[ix], l[ix], fun _ _ _ _ _ => by simp [execOp, hv, Instr.extract, show ix < cs.length by omega], hh ix (by omega) h2, hk⟩
    · exact h.elim
  | fieldAddr T x f =>
    replace h := on_elim h; obtain ⟨a, ha, h⟩ := h
    replace h := on_elim h; obtain ⟨d, hd, h⟩ := h
    have hr := hev _ _ ha
    generalize hv : ρ x = v at hr
    unfold fieldAtP at hd
    split at hd
    · rename_i fs hfs
      split at hd
      · rename_i fd hfd
        split at hd
        · rename_i hc
          simp only [Bool.and_eq_true, bne_iff_ne] at hc
          cases hd
          have key : ∀ (b o : Nat), (Instr.fieldAt T (.pointer (some ⟨b, o, none⟩)) f).run P w = .ok (.pointer (some ⟨b, o + fd.offset, none⟩)) w := by
            intro b o
            simp only [Instr.fieldAt, Sem.run_bind, run_underlying hfs, Result.andThen_ok, hfd, Instr.sureAddr, Sem.run_pure, fieldPlace, run_sizeOf hc.1]
            rw [if_neg (by simpa using hc.2)]
            simp only [Sem.run_pure, Result.andThen_ok, Addr.add]
            split <;> simp_all
          split at h
          · cases hr with
            | ptr b k i off blk sz x hm hx => exact ⟨_, _, fun _ _ _ _ _ => by simp only [execOp, hv, key, Sem.run_bind, Result.andThen_ok, Sem.run_pure]; rfl, .ptr _ _ _ _ blk sz _ hm (by omega), h⟩
          · cases hr with
            | cp b o x e off vals hx hc hr => exact ⟨_, _, fun _ _ _ _ _ => by simp only [execOp, hv, key, Sem.run_bind, Result.andThen_ok, Sem.run_pure]; rfl, .cp b o _ _ _ vals (by omega) hc hr, h⟩
          · exact h.elim
        · cases hd
      · cases hd
    · cases hd
  | indexAddr T x i =>
    replace h := on_elim h; obtain ⟨a, ha, h⟩ := h
    replace h := on_elim h; obtain ⟨b, hb, h⟩ := h
    split at h
    · rename_i b' k' j off
      replace h := on_elim h; obtain ⟨ks, hk, h⟩ := h
      have hr := hev _ _ ha
      generalize hv : ρ x = v at hr
      unfold arrSize at hk
      split at hk
      · rename_i n el hel
        split at hk
        · rename_i hi
          cases hk
          split at h
          · rename_i kk nn
            obtain ⟨h0, h1, hK⟩ := h
            have hc := (hev _ _ hb).c_inv
            cases hr with
            | ptr _ _ _ _ blk sz x' hm hx =>
              refine ⟨_, .ptr b' k' j (off + nn.toNat * P.cellsOf el), fun _ _ _ _ _ => ?_, .ptr b' k' j (off + nn.toNat * P.cellsOf el) blk sz (x' + nn.toNat * P.cellsOf el) hm (by omega), hK⟩
              have hcond : 0 ≤ nn ∧ nn < (n : Int) := ⟨h0, h1⟩
              simp only [execOp, hv, hc, Instr.indexAt, asIntOf, Sem.run_bind, Sem.run_pure, Result.andThen_ok, run_underlying hel, Instr.sureAddr]
              rw [if_pos hcond]
              simp only [Sem.run_bind, run_sizeOf hi, Result.andThen_ok, Sem.run_pure, Addr.add]
              split <;> simp_all
          · exact h.elim
        · cases hk
      · cases hk
    rename_i hnp
    clear hnp
    replace h := on_elim h; obtain ⟨k, hk, h⟩ := h
    have hr := hev _ _ ha
    generalize hv : ρ x = v at hr
    unfold elemSize at hk
    split at hk
    · rename_i el hel
      split at hk
      · rename_i hi
        cases hk
        have key : ∀ (blk o n cap : Nat) (kk : IntKind) (j : Int), 0 ≤ j → j < n → (Instr.indexAt T (.slice (some ⟨blk, o, none⟩) n cap) (.int kk j)).run P w = .ok (.pointer (some ⟨blk, o + j.toNat * P.cellsOf el, none⟩)) w := by
          intro blk o n cap kk j h0 h1
          simp only [Instr.indexAt, asIntOf, Sem.run_bind, Sem.run_pure, Result.andThen_ok, run_underlying hel]
          rw [if_pos ⟨h0, h1⟩]
          simp only [Sem.run_bind, run_sizeOf hi, Result.andThen_ok, Sem.run_pure, Addr.add]
          split <;> simp_all
        split at h
        · rename_i es kk n
          obtain ⟨h0, h⟩ := h
          replace h := on_elim h; obtain ⟨e, he, hl, hK⟩ := h
          have hc := (hev _ _ hb).c_inv
          obtain ⟨h2, rfl⟩ := List.getElem?_eq_some_iff.1 he
          cases hr with
          | sl p cap n' es k vals hn hcap hk hp hr =>
            subst hn
            obtain ⟨blk, o, rfl, hcell⟩ := hp (by omega)
            have ek : k = P.cellsOf el := by rw [← hk _ h2]; exact hl
            refine ⟨_, _, fun _ _ _ _ _ => by simp only [execOp, hv, hc, Sem.run_bind, key blk o es.length cap kk n h0 (by omega), Result.andThen_ok, Sem.run_pure]; rfl,
              .cp blk (o + n.toNat * P.cellsOf el) _ es[n.toNat] 0 (vals n.toNat) rfl (fun j hj => ?_) (fun j hj => hr n.toNat h2 j hj), hK⟩
            have := hcell n.toNat h2 j (by rw [← hk _ h2]; exact hj)
            rw [← this, ek]
            congr 1
            omega
        · rename_i b' k' s len c' kk n
          obtain ⟨rfl, h0, h1, hK⟩ := h
          have hc := (hev _ _ hb).c_inv
          cases hr with
          | own b k s n' c cap blk sz x hm hn hcc hx hc0 =>
            refine ⟨_, _, fun _ _ _ _ _ => by simp only [execOp, hv, hc, Sem.run_bind, key blk x len cap kk n h0 (by omega), Result.andThen_ok, Sem.run_pure]; rfl,
              .ptr b' _ (s + n.toNat) 0 blk sz _ hm (by rw [hx, Nat.add_mul]; omega), hK⟩
        · exact h.elim
      · cases hk
    · cases hk
  | index T x i =>
    replace h := on_elim h; obtain ⟨a, ha, h⟩ := h
    replace h := on_elim h; obtain ⟨b, hb, h⟩ := h
    split at h
    · rename_i s kk n
      obtain ⟨hT, h0, h⟩ := h
      replace h := on_elim h; obtain ⟨c, hc, hK⟩ := h
      have e1 := (hev _ _ ha).c_inv
      have e2 := (hev _ _ hb).c_inv
      exact ⟨_, _, fun _ _ _ _ _ => by simp only [execOp, e1, e2, Instr.index, asIntOf, Sem.run_bind, Sem.run_pure, Result.andThen_ok, run_underlying hT, if_pos h0, hc], .c _, hK⟩
    · exact h.elim
  | nilCheck x =>
    replace h := on_elim h; obtain ⟨a, ha, h⟩ := h
    have hr := hev _ _ ha
    split at h <;> (try exact h.elim)
    all_goals
      refine ⟨ρ x, _, fun _ _ _ _ _ => ?_, hr, h⟩
      generalize hv : ρ x = v at hr
      cases hr
      simp [execOp, hv]
  | convert s d x =>
    replace h := on_elim h; obtain ⟨a, ha, h⟩ := h
    unfold convP at h
    split at h
    · rename_i h1 h2
      have e1 := (hev _ _ ha).c_inv
      exact ⟨_, _, fun _ _ _ _ _ => by simp only [execOp, e1, convert, Sem.run_bind, run_underlying h1, run_underlying h2, Result.andThen_ok, Conv.intToInt, Sem.run_pure], .c _, h⟩
    · exact h.elim
  | call c =>
    obtain ⟨callee, args, ts⟩ := c
    cases callee with
    | builtin b =>
      cases b with
      | len =>
        replace h := on_elim h; obtain ⟨l, hl, h⟩ := h
        split at h
        · rename_i x t tr hts
          replace h := on_elim h; obtain ⟨n, hn, h⟩ := h
          obtain ⟨hT, hK⟩ := h
          have ht : ts[0]? = some t := by cases ts; simp_all
          have hr := evL_rep hev _ _ hl
          obtain ⟨o, ho⟩ : ∃ o, args.toList = [o] := by
            have := hr.1
            simp only [List.length_map] at this
            exact List.length_eq_one_iff.1 this
          have hargs : args = #[o] := by cases args; simp_all
          subst hargs
          have hx : Rep imm m (ρ o) x := by
            have := hr.2 0 (by simp) (by simp)
            simpa using this
          generalize hv : ρ o = v at hx
          refine ⟨_, _, fun _ _ _ _ _ => ?_, .c _, hK⟩
          simp only [execOp, resolve, Sem.run_bind, Sem.run_pure, Result.andThen_ok, invoke, builtin, Builtin.len_, ht, List.map_toArray, List.map_cons, List.map_nil, hv]
          simp only [show (#[v] : Array Value)[0]? = some v from rfl]
          have hsl : (elemSize P t).isSome = true → ∃ e, P.underlying t = some (.slice e) := fun h => by
            unfold elemSize at h
            split at h
            · rename_i e he; exact ⟨e, he⟩
            · cases h
          unfold lenTy at hT
          split at hT
          · rename_i s
            have hu : P.underlying t = some .string := by
              unfold strT at hT
              split at hT
              · assumption
              · cases hT
            cases hx.c_inv
            simp only [lenA] at hn
            cases hn
            simp [run_underlying hu, goInt]
          · obtain ⟨e, hu⟩ := hsl hT
            cases hx.c_inv
            simp only [lenA] at hn
            split at hn
            all_goals first | (rename_i heq; cases heq; done) | skip
            · rename_i heq; cases heq; cases hn; simp [run_underlying hu, goInt]
            · cases hn
          · obtain ⟨e, hu⟩ := hsl hT
            simp only [lenA] at hn
            cases hn
            cases hx with
            | sl p cap n es k vals hn hcap hk hp hr => simp [run_underlying hu, goInt, hn]
          · obtain ⟨e, hu⟩ := hsl hT
            simp only [lenA] at hn
            cases hn
            cases hx with
            | own => simp [run_underlying hu, goInt]
          · obtain ⟨e, hu⟩ := hsl hT
            simp only [lenA] at hn
            cases hn
            cases hx with
            | emp => simp [run_underlying hu, goInt]
          · cases hT
        · exact h.elim
      | max =>
        replace h := on_elim h; obtain ⟨l, hl, h⟩ := h
        split at h
        · rename_i k x k' y
          have hr := evL_rep hev _ _ hl
          obtain ⟨o1, o2, ho⟩ : ∃ o1 o2, args.toList = [o1, o2] := by
            have := hr.1
            simp only [List.length_map] at this
            match h9 : args.toList, this with
            | [a, b], _ => exact ⟨a, b, rfl⟩
          have hargs : args = #[o1, o2] := by cases args; simp_all
          subst hargs
          have hx : Rep imm m (ρ o1) (.c (.int k x)) := by simpa using hr.2 0 (by simp) (by simp)
          have hy : Rep imm m (ρ o2) (.c (.int k' y)) := by simpa using hr.2 1 (by simp) (by simp)
          refine ⟨_, _, fun _ _ _ _ _ => ?_, .c _, h⟩
          simp only [execOp, resolve, Sem.run_bind, Sem.run_pure, Result.andThen_ok, invoke, builtin, List.map_toArray, List.map_cons, List.map_nil, hx.c_inv, hy.c_inv, run_max_int2]
          congr 3
          omega
        · exact h.elim
      | min =>
        replace h := on_elim h; obtain ⟨l, hl, h⟩ := h
        split at h
        · rename_i k x k' y
          have hr := evL_rep hev _ _ hl
          obtain ⟨o1, o2, ho⟩ : ∃ o1 o2, args.toList = [o1, o2] := by
            have := hr.1
            simp only [List.length_map] at this
            match h9 : args.toList, this with
            | [a, b], _ => exact ⟨a, b, rfl⟩
          have hargs : args = #[o1, o2] := by cases args; simp_all
          subst hargs
          have hx : Rep imm m (ρ o1) (.c (.int k x)) := by simpa using hr.2 0 (by simp) (by simp)
          have hy : Rep imm m (ρ o2) (.c (.int k' y)) := by simpa using hr.2 1 (by simp) (by simp)
          refine ⟨_, _, fun _ _ _ _ _ => ?_, .c _, h⟩
          simp only [execOp, resolve, Sem.run_bind, Sem.run_pure, Result.andThen_ok, invoke, builtin, List.map_toArray, List.map_cons, List.map_nil, hx.c_inv, hy.c_inv, run_min_int2]
          congr 3
          omega
        · exact h.elim
      | _ => exact h.elim
    | _ => exact h.elim
  | slice T x lo hi mx =>
    replace h := on_elim h; obtain ⟨a, ha, h⟩ := h
    replace h := on_elim h; obtain ⟨l, hl, h⟩ := h
    replace h := on_elim h; obtain ⟨len, hlen, h⟩ := h
    replace h := on_elim h; obtain ⟨hh, hhi, h⟩ := h
    replace h := on_elim h; obtain ⟨mz, hmz, h⟩ := h
    have hr := hev _ _ ha
    generalize hv : ρ x = v at hr
    -- the bounds, reckoned
    have key : ∀ (isSlice : Bool) (n cap : Nat), (len : Nat) = n → n ≤ cap → 0 ≤ l → l ≤ hh → hh ≤ len → (Instr.sliceBounds isSlice n cap (lo.map ρ) (hi.map ρ) none).run P w = .ok (l.toNat, hh.toNat, cap) w := by
      intro isSlice n cap hn hc h0 h1 h2
      have hhigh : ∀ code, hi.isSome = true → ∃ o, hi = some o ∧ (Instr.sliceBound (ρ o) cap code).run P w = .ok hh.toNat w := by
        intro code hs
        obtain ⟨o, ho⟩ := Option.isSome_iff_exists.1 hs
        subst ho
        obtain ⟨k, hk⟩ := bound_sound hev hhi
        refine ⟨o, rfl, ?_⟩
        simp only [Instr.sliceBound, hk, asIntOf, Sem.run_bind, Sem.run_pure, Result.andThen_ok]
        rw [if_pos ⟨by omega, by omega⟩]
        rfl
      have hlow : ∀ code, lo.isSome = true → ∃ o, lo = some o ∧ (Instr.sliceBound (ρ o) hh.toNat code).run P w = .ok l.toNat w := by
        intro code hs
        obtain ⟨o, ho⟩ := Option.isSome_iff_exists.1 hs
        subst ho
        obtain ⟨k, hk⟩ := bound_sound hev hl
        refine ⟨o, rfl, ?_⟩
        simp only [Instr.sliceBound, hk, asIntOf, Sem.run_bind, Sem.run_pure, Result.andThen_ok]
        rw [if_pos ⟨by omega, by omega⟩]
        rfl
      cases hi with
      | none =>
        simp only [bound] at hhi
        cases hhi
        cases lo with
        | none =>
          simp only [bound] at hl
          cases hl
          simp [Instr.sliceBounds, hn]
        | some o =>
          obtain ⟨o', e, hb⟩ := hlow .sliceB rfl
          cases e
          simp only [Int.toNat_natCast, hn] at hb
          simp [Instr.sliceBounds, hb, hn]
      | some o2 =>
        obtain ⟨o2', e2, hb2⟩ := hhigh (if isSlice then .sliceAcap else .sliceAlen) rfl
        cases e2
        cases lo with
        | none =>
          simp only [bound] at hl
          cases hl
          simp [Instr.sliceBounds, hb2]
        | some o =>
          obtain ⟨o', e, hb⟩ := hlow .sliceB rfl
          cases e
          simp [Instr.sliceBounds, hb2, hb]
    have sl0 : ∀ (h1 : ∀ n e, P.underlying T ≠ some (.array n e)), (Instr.sliceAt T v (lo.map ρ) (hi.map ρ) (mx.map ρ)).run P w = (Instr.slice T v (lo.map ρ) (hi.map ρ) (mx.map ρ)).run P w := by
      intro h1
      cases hT : P.underlying T with
      | none => simp [Instr.sliceAt, Instr.slice, underlying, program, hT, Sem.run_bind, Sem.run, Result.andThen]
      | some d =>
        simp only [Instr.sliceAt, Sem.run_bind, run_underlying hT, Result.andThen_ok]
        cases d <;> first | rfl | exact absurd hT (h1 _ _)
    unfold sliceA at h
    split at h
    · rename_i s hT
      obtain ⟨h0, h1, h2, hK⟩ := h
      cases hr.c_inv
      have sl1 := sl0 (by simp [hT])
      simp only [Option.map_none, Option.map_some] at sl1
      have hl2 : len = s.size := by simpa [lenA] using hlen.symm
      have hk := key false s.size s.size hl2 (Nat.le_refl _) h0 h1 h2
      refine ⟨_, _, fun _ _ _ _ _ => ?_, .c _, hK⟩
      simp only [execOp, hv, Sem.run_bind, sl1, Instr.slice, run_underlying hT, Result.andThen_ok, Option.map_none]
      rw [if_neg (by simp)]
      simp only [Sem.run_bind, Sem.run_pure, hk, Result.andThen_ok]
    · rename_i e es hT
      obtain ⟨hi', hes, h0, h1, h2, hK⟩ := h
      have sl1 := sl0 (by simp [hT])
      simp only [Option.map_none, Option.map_some] at sl1
      have hl2 : len = es.length := by simpa [lenA] using hlen.symm
      cases hr with
      | sl p cap n es k vals hn hcap hk hp hr =>
        have hkey := key true n cap (by omega) hcap h0 h1 h2
        have hrun : (Instr.slice T (.slice p n cap) (lo.map ρ) (hi.map ρ) none).run P w = .ok (.slice (if cap = l.toNat then p else p.map (·.add (l.toNat * P.cellsOf e))) (hh.toNat - l.toNat) (cap - l.toNat)) w := by
          simp only [Instr.slice, Sem.run_bind, run_underlying hT, Result.andThen_ok, hkey, run_sizeOf hi', Sem.run_pure]
        refine ⟨_, _, fun _ _ _ _ _ => by simp only [execOp, hv, Sem.run_bind, sl1, Option.map_none, hrun, Result.andThen_ok, Sem.run_pure]; rfl, ?_, hK⟩
        refine .sl _ _ _ _ k (fun i j => vals (l.toNat + i) j) (by simp; omega) (by omega) (fun i hi => ?_) (fun hpos => ?_) (fun i hi j hj => ?_)
        · simp only [List.getElem_take, List.getElem_drop]
          exact hk _ _
        · simp only [List.length_take, List.length_drop] at hpos
          obtain ⟨b, o, rfl, hc⟩ := hp (by omega)
          have hcl : cap ≠ l.toNat := by omega
          have ek : k = P.cellsOf e := by
            rw [← hk 0 (by omega)]
            exact hes _ (List.getElem_mem _)
          refine ⟨b, o + l.toNat * k, ?_, fun i hi j hj => ?_⟩
          · rw [if_neg hcl, ← ek]
            simp only [Option.map_some, Addr.add]
            split <;> simp_all
          · simp only [List.length_take, List.length_drop] at hi
            have := hc (l.toNat + i) (by omega) j hj
            rw [← this, Nat.add_mul]
            congr 1
            omega
        · simp only [List.getElem_take, List.getElem_drop] at hj ⊢
          exact hr _ _ j hj
    · rename_i e b k s n c hT
      obtain ⟨hi', hce, h0, h1, h2, hK1, hK2⟩ := h
      have sl1 := sl0 (by simp [hT])
      simp only [Option.map_none, Option.map_some] at sl1
      have hl2 : len = n := by simpa [lenA] using hlen.symm
      cases hr with
      | own b k s n c cap blk sz x hm hn hcc hx hc =>
        have hkey := key true n cap (by omega) (by omega) h0 h1 h2
        have hrun : (Instr.slice T (.slice (some ⟨blk, x, none⟩) n cap) (lo.map ρ) (hi.map ρ) none).run P w = .ok (.slice (if cap = l.toNat then some ⟨blk, x, none⟩ else (some (⟨blk, x, none⟩ : Addr)).map (·.add (l.toNat * P.cellsOf e))) (hh.toNat - l.toNat) (cap - l.toNat)) w := by
          simp only [Instr.slice, Sem.run_bind, run_underlying hT, Result.andThen_ok, hkey, run_sizeOf hi', Sem.run_pure]
        by_cases hl0 : l = 0 ∨ l < len
        · refine ⟨_, _, fun _ _ _ _ _ => by simp only [execOp, hv, Sem.run_bind, sl1, Option.map_none, hrun, Result.andThen_ok, Sem.run_pure]; rfl, ?_, hK1 hl0⟩
          have e1 : (if cap = l.toNat then some (⟨blk, x, none⟩ : Addr) else (some (⟨blk, x, none⟩ : Addr)).map (·.add (l.toNat * P.cellsOf e))) = some ⟨blk, x + l.toNat * k, none⟩ := by
            rw [hce]
            split
            · rcases hl0 with rfl | hlt
              · simp
              · omega
            · simp only [Option.map_some, Addr.add]
              split <;> simp_all
          rw [e1]
          refine .own b k _ _ _ _ blk sz _ hm (by omega) (by omega) (by rw [hx, Nat.add_mul]) ?_
          have : s + l.toNat + (cap - l.toNat) = s + cap := by omega
          rw [this]
          exact hc
        · refine ⟨_, _, fun _ _ _ _ _ => by simp only [execOp, hv, Sem.run_bind, sl1, Option.map_none, hrun, Result.andThen_ok, Sem.run_pure]; rfl, ?_, hK2 (by omega) (by omega)⟩
          exact .sl _ _ _ [] 0 (fun _ _ => undef) (by simp; omega) (by omega) (fun i hi => by simp at hi) (fun hpos => by simp at hpos) (fun i hi => by simp at hi)
    · rename_i e x o hT
      obtain ⟨hi', hsl, rfl, rfl, his, rfl, hK⟩ := h
      have sl1 := sl0 (by simp [hT])
      simp only [Option.map_some] at sl1
      have hv2 : ∃ p n cap, v = .slice p n cap := by
        unfold sliceLike at hsl
        split at hsl
        · cases hr; exact ⟨_, _, _, rfl⟩
        · cases hr; exact ⟨_, _, _, rfl⟩
        · cases hr; exact ⟨_, _, _, rfl⟩
        · exact ⟨_, _, _, hr.c_inv⟩
        · cases hsl
      obtain ⟨p, n, cap, rfl⟩ := hv2
      have hz : ∀ (o : Operand) (d : Int) (y : Nat) code, bound ev (some o) d = some 0 → (Instr.sliceBound (ρ o) y code).run P w = .ok 0 w := by
        intro o d y code hb
        obtain ⟨k, hk⟩ := bound_sound hev hb
        simp only [Instr.sliceBound, hk, asIntOf, Sem.run_bind, Sem.run_pure, Result.andThen_ok]
        rw [if_pos ⟨by omega, by omega⟩]
        rfl
      have hrun : (Instr.slice T (.slice p n cap) (lo.map ρ) (hi.map ρ) (some (ρ o))).run P w = .ok (.slice p 0 0) w := by
        obtain ⟨o2, ho2⟩ := Option.isSome_iff_exists.1 his
        subst ho2
        have b1 := hz o 0 cap .slice3Acap hmz
        have b2 := hz o2 _ 0 .slice3B hhi
        simp only [Instr.slice, Sem.run_bind, run_underlying hT, Result.andThen_ok, run_sizeOf hi', Sem.run_pure, Instr.sliceBounds, b1, if_true, Option.map_some, b2]
        cases lo with
        | none => simp
        | some o3 =>
          have b3 := hz o3 _ 0 .slice3C hl
          simp [b3]
      refine ⟨_, _, fun _ _ _ _ _ => by simp only [execOp, hv, Sem.run_bind, sl1, Option.map_some, hrun, Result.andThen_ok, Sem.run_pure], .emp p, hK⟩
    · exact h.elim
  | field T x f =>
    replace h := on_elim h; obtain ⟨a, ha, h⟩ := h
    replace h := on_elim h; obtain ⟨d, hd, h⟩ := h
    split at h
    · rename_i l
      replace h := on_elim h; obtain ⟨av, hav, hK⟩ := h
      have hr := hev _ _ ha
      generalize hv : ρ x = v at hr
      cases hr with
      | agg cs _ hl hh =>
        unfold fieldOne at hd
        split at hd
        · rename_i fs hfs
          split at hd
          · rename_i fd hfd
            split at hd
            · rename_i hc
              cases hd
              simp only [Bool.and_eq_true] at hc
              obtain ⟨td, htd⟩ := Option.isSome_iff_exists.1 hc.1
              obtain ⟨hlt, rfl⟩ := List.getElem?_eq_some_iff.1 hav
              have hna : (isAgg fd.type).run P w = .ok false w := by
                have h9 := hc.2
                unfold aggSize at h9
                unfold isAgg
                simp only [Sem.run_bind, run_underlying htd, Result.andThen_ok]
                rw [htd] at h9
                cases td <;> first | rfl | (cases h9; done)
              refine ⟨cs[fd.offset]'(by omega), _, fun _ _ _ _ _ => ?_, hh fd.offset (by omega) hlt, hK⟩
              have hgc : cs[fd.offset]? = some (cs[fd.offset]'(by omega)) := List.getElem?_eq_getElem (by omega)
              simp [execOp, hv, Instr.field, run_underlying hfs, hfd, asAgg, part, hna, hgc]
            · cases hd
          · cases hd
        · cases hd
    · exact h.elim
  | _ => exact h.elim
end
end Go.Proofs.Ytephecognbbaoaa
