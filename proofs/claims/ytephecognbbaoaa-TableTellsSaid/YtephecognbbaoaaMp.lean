/- Maps of the call's own. -/
import Derived.Test.YtephecognbbaoaaMk
import Derived.Maps.Keyed
namespace Go.Proofs.Ytephecognbbaoaa
open Go
set_option linter.all false
open Go.Maps (Keyed int_keyed)

/-- An abstract value as a map's key: a number, or an array of numbers. -/
def intCells : List AV → Option (List Value)
  | [] => some []
  | .c (.int k n) :: r => (intCells r).map fun l => .int k n :: l
  | _ => none

def keyV : AV → Option Value
  | .c (.int k n) => some (.int k n)
  | .agg l => (intCells l).map fun l => .agg l.toArray
  | _ => none

/-- Is it a key of the type? -/
def keyK (P : Program) (kt : TypeId) (v : Value) : Prop := ∃ l, keyOf P kt v = some l

/-- A type's zero value, whole. -/
def zeroV (P : Program) (T : TypeId) : Option Value := (P.info? T).bind (·.zero)

def mapT (P : Program) (T : TypeId) : Option (TypeId × TypeId) :=
  match P.underlying T with
  | some (.map k e) => some (k, e)
  | _ => none

def isMap : Option Ob → Option (List (Value × AV))
  | some (.map es) => some es
  | _ => none

open Classical in
/-- What a map holds at a key. -/
noncomputable def findK : List (Value × AV) → Value → Option AV
  | [], _ => none
  | e :: r, kv => if e.1 = kv then some e.2 else findK r kv

open Classical in
/-- A map with a key set. -/
noncomputable def putK : List (Value × AV) → Value → AV → List (Value × AV)
  | [], kv, x => [(kv, x)]
  | e :: r, kv, x => if e.1 = kv then (kv, x) :: r else e :: putK r kv x

/-- No such key. -/
def NK (k : Value) : List (Value × AV) → Prop
  | [] => True
  | f :: r => f.1 ≠ k ∧ NK k r

theorem NK_iff {k : Value} : ∀ {r : List (Value × AV)}, NK k r ↔ ∀ f ∈ r, f.1 ≠ k
  | [] => by simp [NK]
  | e :: r => by simp [NK, NK_iff (r := r)]

/-- No key twice. -/
def DK : List (Value × AV) → Prop
  | [] => True
  | e :: r => NK e.1 r ∧ DK r

/-- All are keys of the type. -/
def KK (P : Program) (kt : TypeId) : List (Value × AV) → Prop
  | [] => True
  | e :: r => keyK P kt e.1 ∧ KK P kt r

theorem KK_iff {P : Program} {kt : TypeId} : ∀ {r : List (Value × AV)}, KK P kt r ↔ ∀ e ∈ r, keyK P kt e.1
  | [] => by simp [KK]
  | e :: r => by simp [KK, KK_iff (r := r)]

theorem DK.uniq : ∀ {es : List (Value × AV)}, DK es → ∀ {i j : Nat} {e f : Value × AV}, es[i]? = some e → es[j]? = some f → e.1 = f.1 → i = j
  | [], _, i, j, e, f, h, _, _ => by simp at h
  | x :: r, h, i, j, e, f, hi, hj, he => by
    cases i with
    | zero =>
      cases j with
      | zero => rfl
      | succ j =>
        simp only [List.getElem?_cons_zero, Option.some.injEq, List.getElem?_cons_succ] at hi hj
        subst hi
        exact absurd he.symm (NK_iff.1 h.1 f (List.mem_of_getElem? hj))
    | succ i =>
      cases j with
      | zero =>
        simp only [List.getElem?_cons_zero, Option.some.injEq, List.getElem?_cons_succ] at hi hj
        subst hj
        exact absurd he (NK_iff.1 h.1 e (List.mem_of_getElem? hi))
      | succ j =>
        simp only [List.getElem?_cons_succ] at hi hj
        exact congrArg _ (DK.uniq h.2 hi hj he)

theorem findK_none : ∀ {es : List (Value × AV)} {kv : Value}, (∀ e ∈ es, e.1 ≠ kv) → findK es kv = none
  | [], _, _ => rfl
  | e :: r, kv, h => by
    simp only [findK]
    rw [if_neg (h e (by simp))]
    exact findK_none fun e he => h e (by simp [he])

theorem findK_some : ∀ {es : List (Value × AV)} {kv : Value}, DK es → ∀ {j : Nat} {e : Value × AV}, es[j]? = some e → e.1 = kv → findK es kv = some e.2
  | [], _, _, j, e, h, _ => by simp at h
  | x :: r, kv, hd, j, e, h, he => by
    simp only [findK]
    cases j with
    | zero =>
      simp only [List.getElem?_cons_zero, Option.some.injEq] at h
      subst h
      rw [if_pos he]
    | succ j =>
      simp only [List.getElem?_cons_succ] at h
      rw [if_neg (fun e2 => NK_iff.1 hd.1 e (List.mem_of_getElem? h) (he.trans e2.symm))]
      exact findK_some hd.2 h he

theorem putK_none : ∀ {es : List (Value × AV)} {kv : Value} {x : AV}, (∀ e ∈ es, e.1 ≠ kv) → putK es kv x = es ++ [(kv, x)]
  | [], _, _, _ => rfl
  | e :: r, kv, x, h => by
    simp only [putK]
    rw [if_neg (h e (by simp)), putK_none fun e he => h e (by simp [he])]
    rfl

theorem putK_some : ∀ {es : List (Value × AV)} {kv : Value} {x : AV}, DK es → ∀ {j : Nat} {e : Value × AV}, es[j]? = some e → e.1 = kv → putK es kv x = es.set j (kv, x)
  | [], _, _, _, j, e, h, _ => by simp at h
  | y :: r, kv, x, hd, j, e, h, he => by
    simp only [putK]
    cases j with
    | zero =>
      simp only [List.getElem?_cons_zero, Option.some.injEq] at h
      subst h
      rw [if_pos he]
      rfl
    | succ j =>
      simp only [List.getElem?_cons_succ] at h
      rw [if_neg (fun e2 => NK_iff.1 hd.1 e (List.mem_of_getElem? h) (he.trans e2.symm)), putK_some hd.2 h he]
      rfl

def insertA (P : Program) (T : TypeId) (m k x : AV) (σ : Store) (K : Store → Prop) : Prop :=
  on (mapT P T) fun t => on (keyV k) fun kv => match m with
    | .mp b => on (isMap σ[b]?) fun (es : List (Value × AV)) => Keyed P t.1 ∧ keyK P t.1 kv ∧ KK P t.1 es ∧ DK es ∧ K (σ.set b (.map (putK es kv x)))
    | _ => False

/-- What a lookup answers. -/
def ansA (ok : Bool) (z : Value) (o : Option AV) : AV :=
  match ok with
  | true => match o with
    | some v => .tup [v, .c (.bool true)]
    | none => .tup [.c z, .c (.bool false)]
  | false => o.getD (.c z)

/-- A map's entries. -/
def mapA (σ : Store) (m : AV) : Option (List (Value × AV)) :=
  match m with
  | .mp b => isMap σ[b]?
  | .cm es => some es
  | _ => none

def lookupA (P : Program) (T : TypeId) (m k : AV) (ok : Bool) (σ : Store) (K : AV → Prop) : Prop :=
  on (mapT P T) fun t => on (keyV k) fun kv => on (zeroV P t.2) fun z => on (mapA σ m) fun es => Keyed P t.1 ∧ keyK P t.1 kv ∧ KK P t.1 es ∧ DK es ∧ K (ansA ok z (findK es kv))

section
variable {P : Program} {K0 : World} {imm : Imm} {m : Own} {w w' : World} {σ : Store}

theorem intCells_rep : ∀ (l : List AV) (cs vs : List Value), RepL imm m cs l → intCells l = some vs → cs = vs
  | [], cs, vs, h, e => by
    cases e
    exact List.eq_nil_of_length_eq_zero h.1
  | a :: r, cs, vs, h, e => by
    cases cs with
    | nil => exact absurd h.1 (by simp)
    | cons c cs =>
      have h0 := h.2 0 (by simp) (by simp)
      have hr : RepL imm m cs r := ⟨by simpa using h.1, fun i h1 h2 => by
        have := h.2 (i + 1) (by simpa using h1) (by simpa using h2)
        simpa using this⟩
      unfold intCells at e
      split at e
      · rename_i heq; cases heq
      · rename_i k n r' heq
        cases heq
        obtain ⟨l, hl, rfl⟩ := Option.map_eq_some_iff.1 e
        rw [intCells_rep r cs l hr hl]
        simp only [List.getElem_cons_zero] at h0
        rw [h0.c_inv]
      · cases e

theorem keyV_rep {a : AV} {v u : Value} (h : Rep imm m v a) (e : keyV a = some u) : v = u := by
  unfold keyV at e
  split at e
  · cases e; exact h.c_inv
  · rename_i l
    obtain ⟨vs, hvs, rfl⟩ := Option.map_eq_some_iff.1 e
    cases h with
    | agg cs _ hl hh => rw [intCells_rep l cs vs ⟨hl, hh⟩ hvs]
  · cases e

theorem isMap_inv {b : Nat} {es : List (Value × AV)} (h : isMap σ[b]? = some es) : ∃ hb : b < σ.length, σ[b] = .map es := by
  unfold isMap at h
  split at h
  · rename_i es' heq
    cases h
    exact List.getElem?_eq_some_iff.1 heq
  · cases h

/-- Any new block of the call's own. -/
theorem Sim.pushO (hs : Sim K0 imm m w σ) (hb : Beside w w') (o : Obj) (hw : w'.heap = w.heap.push o) (ob : Ob) (sz : Nat) (hok : ObOk imm (upd m σ.length (w.heap.size, sz)) w' σ.length ob) :
    Sim K0 imm (upd m σ.length (w.heap.size, sz)) w' (σ ++ [ob]) := by
  have hd : m σ.length = none := hs.dom _ (Nat.le_refl _)
  have hold : ∀ b, b < w.heap.size → w'.heap[b]? = w.heap[b]? := fun b h => by rw [hw, Array.getElem?_push, if_neg (by omega)]
  have hk := hs.keep hb hold
  refine ⟨hk.os, hk.tape, hk.output, hk.size, hk.imm_ok, fun id h => ?_, fun id h => ?_, fun i j hi hj li lj e => ?_⟩
  · simp only [List.length_append, List.length_cons, List.length_nil] at h
    unfold upd
    rw [if_neg (by omega)]
    exact hs.dom id (by omega)
  · simp only [List.length_append, List.length_cons, List.length_nil] at h
    rcases Nat.lt_or_ge id σ.length with hlt | hge
    · rw [List.getElem_append_left hlt]
      refine (hk.obs id hlt).keep (.refl _) (.upd hd _) (fun hn => ?_) (fun _ h _ => h) (fun _ _ _ _ => rfl)
      unfold upd
      rw [if_neg (by omega)]
      exact hn
    · obtain rfl : id = σ.length := by omega
      rw [List.getElem_append_right (Nat.le_refl _)]
      simp only [Nat.sub_self, List.getElem_cons_zero]
      exact hok
  · simp only [List.length_append, List.length_cons, List.length_nil] at hi hj
    have key : ∀ (i : Nat) (hi : i < (σ ++ [ob]).length), (σ ++ [ob])[i].live = true → i < σ.length → ∃ b, upd m σ.length (w.heap.size, sz) i = some b ∧ b.1 < w.heap.size := by
      intro i hi hl hlt
      rw [List.getElem_append_left hlt] at hl
      obtain ⟨blk, sz, e, hb, _⟩ := (hs.obs i hlt).lt hl
      exact ⟨(blk, sz), by unfold upd; rw [if_neg (by omega)]; exact e, hb⟩
    rcases Nat.lt_or_ge i σ.length with hi' | hi' <;> rcases Nat.lt_or_ge j σ.length with hj' | hj'
    · rw [List.getElem_append_left hi'] at li
      rw [List.getElem_append_left hj'] at lj
      refine hs.inj i j hi' hj' li lj ?_
      simpa [upd, Nat.ne_of_lt hi', Nat.ne_of_lt hj'] using e
    · obtain ⟨b, eb, hb⟩ := key i (by simp; omega) li hi'
      obtain rfl : j = σ.length := by omega
      rw [eb] at e
      simp [upd] at e
      omega
    · obtain ⟨b, eb, hb⟩ := key j (by simp; omega) lj hj'
      obtain rfl : i = σ.length := by omega
      rw [eb] at e
      simp [upd] at e
      omega
    · omega

/-- Any own object that is written. -/
theorem Sim.setO (hs : Sim K0 imm m w σ) (hb : Beside w w') {b blk sz : Nat} (hlt : b < σ.length) (hm : m b = some (blk, sz)) (hl0 : σ[b].live = true)
    (hother : ∀ c, c ≠ blk → w'.heap[c]? = w.heap[c]?) (ob : Ob) (hok : ObOk imm m w' b ob) : Sim K0 imm m w' (σ.set b ob) := by
  obtain ⟨blk', sz', e', hblt, himm⟩ := (hs.obs b hlt).lt hl0
  rw [hm] at e'
  cases e'
  have hlive : ∀ i (h : i < (σ.set b ob).length) (h' : i < σ.length), (σ.set b ob)[i].live = true → σ[i].live = true := by
    intro i h h' hl
    rw [List.getElem_set] at hl
    split at hl
    · rename_i e; subst e; exact hl0
    · exact hl
  refine ⟨hb.os.trans hs.os, hb.tape.trans hs.tape, hb.output.trans hs.output, Nat.le_trans hs.size hb.size, fun c o h => ?_, fun id h => ?_, fun id h => ?_, fun i j hi hj li lj e => ?_⟩
  · rw [hother c (fun e => by subst e; rw [himm] at h; cases h)]
    exact hs.imm_ok c o h
  · simp only [List.length_set] at h
    exact hs.dom id h
  · have h' : id < σ.length := by simpa using h
    rw [List.getElem_set]
    split
    · rename_i e
      subst e
      exact hok
    · rename_i hne
      refine (hs.obs id h').keep (.refl _) (.refl _) (fun h => h) (fun _ h _ => h) fun hl c s e => hother c fun ec => ?_
      exact hs.other hlt h' hl0 hl hne hm e ec.symm
  · have hi' : i < σ.length := by simpa using hi
    have hj' : j < σ.length := by simpa using hj
    exact hs.inj i j hi' hj' (hlive i hi hi' li) (hlive j hj hj' lj) e

theorem makeMap_run (hs : Sim K0 imm m w σ) (T : TypeId) :
    ∃ m', OLe m m' ∧ (Instr.makeMap T none).run P w = .ok (.map (some w.heap.size)) (w.alloc (.map #[] 0)) ∧ Sim K0 imm m' (w.alloc (.map #[] 0)) (σ ++ [.map []]) ∧ Rep imm m' (.map (some w.heap.size)) (.mp σ.length) := by
  refine ⟨upd m σ.length (w.heap.size, 0), .upd (hs.dom _ (Nat.le_refl _)) _, by simp [Instr.makeMap], ?_, .mp _ w.heap.size 0 (by simp [upd])⟩
  refine hs.pushO (beside_alloc _) _ rfl _ _ ⟨w.heap.size, 0, by simp [upd], ?_, #[], 0, by show (w.heap.push _)[w.heap.size]? = _; simp, rfl, rfl, fun i hi => by simp at hi⟩
  cases himm : imm w.heap.size with
  | none => rfl
  | some o => exact absurd (heap_lt (hs.imm_ok _ _ himm)) (Nat.lt_irrefl _)

/-- What is known of an own map's block. -/
theorem map_block (hs : Sim K0 imm m w σ) {b : Nat} {es : List (Value × AV)} {v : Value} (hr : Rep imm m v (.mp b)) (he : isMap σ[b]? = some es) :
    ∃ blk sz ents clock, v = .map (some blk) ∧ m b = some (blk, sz) ∧ imm blk = none ∧ w.heap[blk]? = some (.map ents clock) ∧ ents.size = es.length ∧ ents.toList.map (·.key) = es.map (·.1) ∧
      (∀ i (hi : i < es.length) (hj : i < ents.size), Rep imm m ents[i].val es[i].2) ∧ ∃ hb : b < σ.length, σ[b] = .map es := by
  obtain ⟨hb, hob⟩ := isMap_inv he
  have h0 := hs.obs b hb
  rw [hob] at h0
  obtain ⟨blk, sz, h1, h2, ents, clock, h3, h4, h5, h6⟩ := h0
  cases hr with
  | mp _ blk' sz' hm =>
    rw [h1] at hm
    cases hm
    exact ⟨blk, sz, ents, clock, rfl, h1, h2, h3, h4, h5, h6, hb, hob⟩

theorem keys_at {ents : Array MapEntry} {es : List (Value × AV)} (h5 : ents.toList.map (·.key) = es.map (·.1)) {j : Nat} {e : MapEntry} (h : ents.toList[j]? = some e) : ∃ p, es[j]? = some p ∧ p.1 = e.key := by
  have h9 : (ents.toList.map (·.key))[j]? = some e.key := by simp only [List.getElem?_map, h, Option.map_some]
  rw [h5, List.getElem?_map] at h9
  exact Option.map_eq_some_iff.1 h9

theorem keys_in {ents : Array MapEntry} {es : List (Value × AV)} (h5 : ents.toList.map (·.key) = es.map (·.1)) {p : Value × AV} (h : p ∈ es) : ∃ e ∈ ents.toList, e.key = p.1 := by
  have h9 : p.1 ∈ ents.toList.map (·.key) := by rw [h5]; exact List.mem_map_of_mem h
  obtain ⟨e, he, h10⟩ := List.mem_map.1 h9
  exact ⟨e, he, h10⟩

theorem lookup_run (hs : Sim K0 imm m w σ) {T : TypeId} {mv kv : Value} {ma ka : AV} {ok : Bool} (hm : Rep imm m mv ma) (hk : Rep imm m kv ka) {K : AV → Prop} (h : lookupA P T ma ka ok σ K) :
    ∃ v av, (Instr.lookup T mv kv ok).run P w = .ok v w ∧ Rep imm m v av ∧ K av := by
  unfold lookupA at h
  replace h := on_elim h; obtain ⟨⟨kt, et⟩, ht, h⟩ := h
  replace h := on_elim h; obtain ⟨ku, hku, h⟩ := h
  replace h := on_elim h; obtain ⟨z, hz, h⟩ := h
  obtain rfl := keyV_rep hk hku
  have core : ∀ (blk : Nat) (ents : Array MapEntry) (clock : Nat) (es : List (Value × AV)), mv = .map (some blk) → w.heap[blk]? = some (.map ents clock) → ents.size = es.length → ents.toList.map (·.key) = es.map (·.1) → (∀ i (hi : i < es.length) (hj : i < ents.size), Rep imm m ents[i].val es[i].2) →
      (Keyed P kt ∧ keyK P kt kv ∧ KK P kt es ∧ DK es ∧ K (ansA ok z (findK es kv))) →
      ∃ v av, (Instr.lookup T mv kv ok).run P w = .ok v w ∧ Rep imm m v av ∧ K av := by
    rintro blk ents clock es rfl h3 h4 h5 h6 ⟨hK, ⟨kl, hkl⟩, hkeys, hdk, hres⟩
    have hT : P.underlying T = some (.map kt et) := by
      unfold mapT at ht
      split at ht
      · rename_i k e heq; cases ht; exact heq
      · cases ht
    have hzr : (zeroValue et).run P w = .ok z w := by
      unfold zeroV at hz
      obtain ⟨i, hi, hz⟩ := Option.bind_eq_some_iff.1 hz
      simp [zeroValue, run_typeInfo hi, hz]
    have hall : ∀ e ∈ ents.toList, ∃ l, keyOf P kt e.key = some l := fun e he => by
      obtain ⟨j, hj, rfl⟩ := List.getElem_of_mem he
      obtain ⟨p, hp, e2⟩ := keys_at h5 (List.getElem?_eq_getElem hj)
      rw [← e2]
      exact KK_iff.1 hkeys p (List.mem_of_getElem? hp)
    rcases hK.find w hkl ents.toList hall with ⟨hf, hn⟩ | ⟨j, e, hf, hj, hek⟩
    · rw [findK_none fun p hp => by
        obtain ⟨e, he, h9⟩ := keys_in h5 hp
        rw [← h9]
        exact hn e he] at hres
      refine ⟨if ok = true then .tuple #[z, .bool false] else z, _, ?_, ?_, hres⟩
      · simp [Instr.lookup, run_underlying hT, Result.andThen, getObj, Sem.run, h3, hK.check w _ hkl, hf, hzr]
      · cases ok
        · exact .c _
        · exact .tup [_, _] [_, _] rfl fun i h1 h2 => by
            match i, h1 with
            | 0, _ => exact .c _
            | 1, _ => exact .c _
    · obtain ⟨p, hp, e2⟩ := keys_at h5 hj
      rw [findK_some hdk hp (by rw [e2, hek])] at hres
      obtain ⟨hj1, e3⟩ := List.getElem?_eq_some_iff.1 hj
      obtain ⟨hp1, e4⟩ := List.getElem?_eq_some_iff.1 hp
      have hrep := h6 j hp1 (by simpa using hj1)
      rw [e4] at hrep
      simp only [Array.getElem_toList] at e3
      rw [e3] at hrep
      refine ⟨if ok = true then .tuple #[e.val, .bool true] else e.val, _, ?_, ?_, hres⟩
      · simp [Instr.lookup, run_underlying hT, Result.andThen, getObj, Sem.run, h3, hK.check w _ hkl, hf]
      · cases ok
        · exact hrep
        · exact .tup [_, _] [_, _] rfl fun i h1 h2 => by
            match i, h1 with
            | 0, _ => exact hrep
            | 1, _ => exact .c _
  replace h := on_elim h; obtain ⟨es, hes, h⟩ := h
  unfold mapA at hes
  split at hes
  · rename_i b
    obtain ⟨blk, sz, ents, clock, e0, _, _, h3, h4, h5, h6, _⟩ := map_block hs hm hes
    exact core blk ents clock es e0 h3 h4 h5 h6 h
  · cases hes
    cases hm with
    | cm blk _ ents clock h3 h4 h5 h6 => exact core blk ents clock _ rfl (hs.imm_ok _ _ h3) h4 h5 h6 h
  · cases hes

theorem setMap_ok (hs : Sim K0 imm m w σ) {b blk sz : Nat} (hlt : b < σ.length) (hm : m b = some (blk, sz)) {es0 : List (Value × AV)} (hob : σ[b] = .map es0) (himm : imm blk = none) {o : Obj} (hbk : w.heap[blk]? = some o)
    (ents : Array MapEntry) (clock : Nat) (es : List (Value × AV)) (h4 : ents.size = es.length) (h5 : ents.toList.map (·.key) = es.map (·.1)) (h6 : ∀ i (hi : i < es.length) (hj : i < ents.size), Rep imm m ents[i].val es[i].2) :
    Sim K0 imm m { w with heap := w.heap.setIfInBounds blk (.map ents clock) } (σ.set b (.map es)) := by
  have hb := heap_lt hbk
  refine hs.setO (w' := { w with heap := w.heap.setIfInBounds blk (.map ents clock) }) ⟨rfl, rfl, rfl, by simp⟩ hlt hm (by rw [hob]; rfl) (fun c hc => ?_) (.map es) ⟨blk, sz, hm, himm, ents, clock, ?_, h4, h5, h6⟩
  · simp [Array.getElem?_setIfInBounds, Ne.symm hc]
  · simp [Array.getElem?_setIfInBounds, hb]

theorem insert_run (hs : Sim K0 imm m w σ) {T : TypeId} {mv kv xv : Value} {ma ka xa : AV} (hm : Rep imm m mv ma) (hk : Rep imm m kv ka) (hx : Rep imm m xv xa) {K : Store → Prop} (h : insertA P T ma ka xa σ K) :
    ∃ w' σ', (Instr.mapUpdate T mv kv xv).run P w = .ok () w' ∧ Sim K0 imm m w' σ' ∧ K σ' := by
  unfold insertA at h
  replace h := on_elim h; obtain ⟨⟨kt, et⟩, ht, h⟩ := h
  replace h := on_elim h; obtain ⟨ku, hku, h⟩ := h
  obtain rfl := keyV_rep hk hku
  split at h
  · rename_i b
    replace h := on_elim h; obtain ⟨es, hes, h⟩ := h
    obtain ⟨hK, ⟨kl, hkl⟩, hkeys, hdk, hres⟩ := h
    obtain ⟨blk, sz, ents, clock, rfl, hmb, himm, h3, h4, h5, h6, hb, hob⟩ := map_block hs hm hes
    have hT : P.underlying T = some (.map kt et) := by
      unfold mapT at ht
      split at ht
      · rename_i k e heq; cases ht; exact heq
      · cases ht
    have hall : ∀ e ∈ ents.toList, ∃ l, keyOf P kt e.key = some l := fun e he => by
      obtain ⟨j, hj, rfl⟩ := List.getElem_of_mem he
      obtain ⟨p, hp, e2⟩ := keys_at h5 (List.getElem?_eq_getElem hj)
      rw [← e2]
      exact KK_iff.1 hkeys p (List.mem_of_getElem? hp)
    rcases hK.find w hkl ents.toList hall with ⟨hf, hn⟩ | ⟨j, e, hf, hj, hek⟩
    · rw [putK_none fun p hp => by
        obtain ⟨e, he, h9⟩ := keys_in h5 hp
        rw [← h9]
        exact hn e he] at hres
      refine ⟨_, _, ?_, setMap_ok hs hb hmb hob himm h3 (ents.push { key := kv, val := xv, born := clock }) (clock + 1) _ (by simp [h4]) (by simp [h5]) (fun i hi hj => ?_), hres⟩
      · simp [Instr.mapUpdate, run_underlying hT, Result.andThen, MapKept.run_getObj_map h3, hK.check w _ hkl, hf, MapKept.run_setObj_map _ h3]
      · simp only [Array.size_push] at hj
        rcases Nat.lt_or_ge i ents.size with hl | hl
        · rw [Array.getElem_push_lt hl, List.getElem_append_left (by omega)]
          exact h6 i (by omega) hl
        · obtain rfl : i = ents.size := by omega
          simp only [Array.getElem_push_eq]
          rw [List.getElem_append_right (by omega)]
          simp only [h4, Nat.sub_self, List.getElem_cons_zero]
          exact hx
    · obtain ⟨p, hp, e2⟩ := keys_at h5 hj
      rw [putK_some hdk hp (by rw [e2, hek])] at hres
      obtain ⟨hj1, e3⟩ := List.getElem?_eq_some_iff.1 hj
      obtain ⟨hp1, e4⟩ := List.getElem?_eq_some_iff.1 hp
      have hj2 : j < ents.size := by simpa using hj1
      have hkey : ((ents[j]?).map (·.key)).getD kv = kv := by
        rw [Array.getElem?_eq_getElem hj2]
        simp only [Array.getElem_toList] at e3
        simp [e3, hek]
      refine ⟨_, _, ?_, setMap_ok hs hb hmb hob himm h3 (ents.modify j fun e => { e with key := kv, val := xv }) clock _ (by simp [h4]) ?_ (fun i hi hj => ?_), hres⟩
      · simp [Instr.mapUpdate, run_underlying hT, Result.andThen, MapKept.run_getObj_map h3, hK.check w _ hkl, hf, hkey, hK.stays w hkl, MapKept.run_setObj_map _ h3]
      · apply List.ext_getElem?
        intro i
        have h9 : (ents.toList.map (·.key))[i]? = (es.map (·.1))[i]? := by rw [h5]
        simp only [List.getElem?_map, Array.getElem?_toList, Array.getElem?_modify, List.getElem?_set] at h9 ⊢
        by_cases hij : j = i
        · subst hij
          simp [hj2, hp1]
        · simp only [hij, if_false] at h9 ⊢
          exact h9
      · simp only [Array.size_modify] at hj
        simp only [Array.getElem_modify, List.getElem_set]
        split
        · exact hx
        · exact h6 i (by simpa using hi) hj
  · exact h.elim

theorem lenMap_run (hs : Sim K0 imm m w σ) {T ty : TypeId} {v : Value} {b : Nat} {es : List (Value × AV)} (hr : Rep imm m v (.mp b)) (he : isMap σ[b]? = some es) {t : TypeId × TypeId} (ht : mapT P T = some t) :
    (Builtin.len_ #[T] ty #[v]).run P w = .ok (.int .i64 es.length) w := by
  obtain ⟨blk, sz, ents, clock, rfl, hmb, himm, h3, h4, _⟩ := map_block hs hr he
  have hT : P.underlying T = some (.map t.1 t.2) := by
    unfold mapT at ht
    split at ht
    · rename_i k e heq; cases ht; exact heq
    · cases ht
  simp [Builtin.len_, run_underlying hT, MapKept.run_getObj_map h3, goInt, h4]
end
end Go.Proofs.Ytephecognbbaoaa
