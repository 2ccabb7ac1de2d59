/- Arguments that came in, as abstract values. -/
import Derived.Test.YtephecognbbaoaaFz
import Derived.SizedLaws
namespace Go.Proofs.Ytephecognbbaoaa
open Go
set_option linter.all false

/-- Whatever reads at type t is the content f x of some x with Q x. -/
def Reads (P : Program) (W : World) (t : TypeId) {X : Type} (f : X → List AV) (Q : X → Prop) : Prop :=
  ∀ (H : Type) (enc : TypeId × Value → H) (fuel : Nat) (cs : List Value) (d : DataW H) (ps : List MemPlace), DataW.trod enc P W 0 (fun _ => true) true fuel t cs = some (d, ps) →
    (∀ n ∈ d.weights P t, n ≤ reachBytes) → ∃ x, RepL (fun b => W.heap[b]?) (fun _ => none) cs (f x) ∧ Q x

/-- The same, as deep as B: what holds of a type that speaks of itself is shown by how deep one reads. -/
def ReadsB (P : Program) (W : World) (B : Nat) (t : TypeId) {X : Type} (f : X → List AV) (Q : X → Prop) : Prop :=
  ∀ (H : Type) (enc : TypeId × Value → H) (fuel : Nat) (cs : List Value) (d : DataW H) (ps : List MemPlace), fuel < B → DataW.trod enc P W 0 (fun _ => true) true fuel t cs = some (d, ps) →
    (∀ n ∈ d.weights P t, n ≤ reachBytes) → ∃ x, RepL (fun b => W.heap[b]?) (fun _ => none) cs (f x) ∧ Q x

section
variable {P : Program} {W : World} {t e : TypeId}

theorem Reads.toB {X : Type} {f : X → List AV} {Q : X → Prop} (h : Reads P W t f Q) (B : Nat) : ReadsB P W B t f Q := fun H enc fuel cs d ps _ => h H enc fuel cs d ps
theorem Reads.ofB {X : Type} {f : X → List AV} {Q : X → Prop} (h : ∀ B, ReadsB P W B t f Q) : Reads P W t f Q := fun H enc fuel cs d ps => h (fuel + 1) H enc fuel cs d ps (Nat.lt_succ_self _)
theorem ReadsB.less {X : Type} {f : X → List AV} {Q : X → Prop} {B B' : Nat} (hB : B' ≤ B) (h : ReadsB P W B t f Q) : ReadsB P W B' t f Q := fun H enc fuel cs d ps hf => h H enc fuel cs d ps (by omega)
theorem ReadsB.zero {X : Type} {f : X → List AV} {Q : X → Prop} : ReadsB P W 0 t f Q := fun H enc fuel cs d ps hf => absurd hf (by omega)

theorem RepL.one {imm : Imm} {m : Own} {v : Value} {a : AV} (h : Rep imm m v a) : RepL imm m [v] [a] := ⟨rfl, fun i h1 h2 => by
  obtain rfl : i = 0 := by simp at h1; omega
  exact h⟩

theorem Reads.int (hu : P.underlying t = some (.int .i64)) : Reads P W t (fun n : Int => [.c (.int .i64 n)]) I64 := by
  intro H enc fuel cs d ps h _
  cases fuel with
  | zero => cases h
  | succ fuel =>
    unfold DataW.trod at h
    rw [hu] at h
    split at h <;> (try cases h; done) <;> rename_i heq <;> (try cases heq; done)
    all_goals first | (exfalso; simp at heq; done) | skip
    · cases heq
      split at h
      · rename_i hc
        obtain ⟨rfl, hw⟩ := hc
        refine ⟨_, .one (.c _), ?_⟩
        have := hw
        simp [Lit.wf, IntKind.min, IntKind.max, IntKind.bits, IntKind.signed] at this
        unfold I64
        omega
      · cases h

theorem Reads.bool (hu : P.underlying t = some .bool) : Reads P W t (fun b : Bool => [.c (.bool b)]) (fun _ => True) := by
  intro H enc fuel cs d ps h _
  cases fuel with
  | zero => cases h
  | succ fuel =>
    unfold DataW.trod at h
    rw [hu] at h
    split at h <;> (try cases h; done) <;> rename_i heq <;> (try cases heq; done)
    all_goals first | (exfalso; simp at heq; done) | skip
    · cases heq
      exact ⟨_, .one (.c _), trivial⟩

theorem Reads.string (hu : P.underlying t = some .string) : Reads P W t (fun s : ByteArray => [.c (.string s)]) (fun s => s.size ≤ reachBytes) := by
  intro H enc fuel cs d ps h hw
  cases fuel with
  | zero => cases h
  | succ fuel =>
    unfold DataW.trod at h
    rw [hu] at h
    split at h <;> (try cases h; done) <;> rename_i heq <;> (try cases heq; done)
    all_goals first | (exfalso; simp at heq; done) | skip
    · cases heq
      split at h
      · cases h
        rename_i s _
        refine ⟨s, .one (.c _), ?_⟩
        have := hw s.data.toList.length (by simp [DataW.weights])
        simpa using this
      · cases h

theorem mapM_some {α β : Type} {g : α → Option β} : ∀ {l : List α} {r : List β}, l.mapM g = some r → r.length = l.length ∧ ∀ i (h : i < l.length) (h' : i < r.length), g l[i] = some r[i]
  | [], r, h => by simp at h; subst h; exact ⟨rfl, fun i h => by simp at h⟩
  | a :: l, r, h => by
    simp only [List.mapM_cons, Option.bind_eq_bind, Option.bind_eq_some_iff, Option.pure_def, Option.some.injEq] at h
    obtain ⟨b, hb, r', hr', rfl⟩ := h
    obtain ⟨h1, h2⟩ := mapM_some hr'
    refine ⟨by simp [h1], fun i hi hi' => ?_⟩
    cases i with
    | zero => exact hb
    | succ i =>
      simp only [List.getElem_cons_succ]
      exact h2 i (by simpa using hi) (by simpa using hi')

theorem weightsAll_mem {H : Type} {e : TypeId} : ∀ (l : List (DataW H)) (i : Nat) (h : i < l.length) (n : Nat), n ∈ l[i].weights P e → n ∈ DataW.weightsAll P e l
  | d :: r, 0, h, n, hn => by simp only [DataW.weightsAll, List.mem_append]; exact .inl hn
  | d :: r, i + 1, h, n, hn => by
    simp only [DataW.weightsAll, List.mem_append]
    exact .inr (weightsAll_mem r i (by simpa using h) n hn)

theorem cells?_spec {base n : Nat} {a : Addr} {cs : List Value} (h : W.cells? base a n = some cs) : cs.length = n ∧ ∀ j (hj : j < cs.length), W.cell? (a.add j) = some cs[j] := by
  unfold World.cells? at h
  split at h
  · obtain ⟨h1, h2⟩ := mapM_some h
    refine ⟨by simpa using h1, fun j hj => ?_⟩
    have := h2 j (by simp at h1 ⊢; omega) hj
    simpa using this
  · cases h

theorem ReadsB.slice {B : Nat} {X : Type} {f : X → List AV} {Q : X → Prop} {k : Nat} (hu : P.underlying t = some (.slice e)) (hk : P.cellsOf e = k) (hk0 : 0 < k) (hf : ∀ x, (f x).length = k) (he : ReadsB P W B e f Q) :
    ReadsB P W (B + 1) t (fun l : List X => [.sl (l.map f)]) (fun l => (∀ x ∈ l, Q x) ∧ l.length * P.bytesOf e ≤ reachBytes) := by
  intro H enc fuel cs d ps hB h hw
  cases fuel with
  | zero => cases h
  | succ fuel =>
    unfold DataW.trod at h
    rw [hu] at h
    split at h <;> (try cases h; done) <;> rename_i heq <;> (try cases heq; done)
    all_goals first | (exfalso; simp at heq; done) | skip
    · exact ⟨[], .one (.sl none 0 0 [] 0 (fun _ _ => undef) rfl (Nat.le_refl _) (fun i hi => by simp at hi) (fun h => by simp at h) (fun i hi => by simp at hi)), fun x hx => by simp at hx, by simp⟩
    · cases heq
      rename_i a len cap
      split at h
      · rename_i hc
        obtain ⟨_, hlc, hcm⟩ := hc
        simp only [Option.bind_eq_some_iff, Option.map_eq_some_iff] at h
        obtain ⟨elems, hel, rest, hrest, hd⟩ := h
        cases hd
        obtain ⟨hlen, hget⟩ := mapM_some hel
        simp only [List.length_range] at hlen
        have hweights : ∀ i (h' : i < elems.length), ∀ n ∈ (elems[i].1).weights P e, n ≤ reachBytes := fun i h' n hn => by
          refine hw n ?_
          simp only [DataW.weights, hu, List.mem_cons, List.mem_append]
          refine .inr (.inl ?_)
          exact weightsAll_mem (elems.map (·.1)) i (by simpa using h') n (by simpa using hn)
        have hread : ∀ i (h' : i < elems.length), ∃ (cs : List Value) (x : X), cs.length = k ∧ (∀ j (hj : j < cs.length), W.cell? ((a.add (i * k)).add j) = some cs[j]) ∧ RepL (fun b => W.heap[b]?) (fun _ => none) cs (f x) ∧ Q x := fun i h' => by
          have := hget i (by simp; omega) h'
          simp only [List.getElem_range, Option.bind_eq_some_iff] at this
          obtain ⟨cs, hcs, htr⟩ := this
          obtain ⟨h1, h2⟩ := cells?_spec hcs
          obtain ⟨x, hx, hq⟩ := he H enc fuel cs _ _ (by omega) htr (hweights i h')
          refine ⟨cs, x, by rw [h1, hk], fun j hj => ?_, hx, hq⟩
          rw [← hk]
          exact h2 j hj
        let csOf : Nat → List Value := fun i => if h : i < elems.length then (hread i h).choose else []
        have hcs : ∀ i (h : i < elems.length), ∃ x, (csOf i).length = k ∧ (∀ j (hj : j < (csOf i).length), W.cell? ((a.add (i * k)).add j) = some (csOf i)[j]) ∧ RepL (fun b => W.heap[b]?) (fun _ => none) (csOf i) (f x) ∧ Q x := fun i h => by
          have := (hread i h).choose_spec
          simp only [csOf, h, dif_pos]
          exact this
        let xs : List X := (List.finRange elems.length).map fun i => (hcs i.1 i.2).choose
        have hxs : ∀ i (h : i < elems.length), xs[i]'(by simp [xs]; exact h) = (hcs i h).choose := fun i h => by simp [xs]
        have hxl : xs.length = elems.length := by simp [xs]
        have hspot : 0 < elems.length → a.spot = none := fun h0 => by
          obtain ⟨x, h1, h2, _⟩ := hcs 0 h0
          have := h2 0 (by omega)
          simp only [Nat.zero_mul, Addr.add, if_true] at this
          unfold World.cell? at this
          split at this
          · split at this
            · cases this
            · rename_i hsp; simpa using hsp
          · cases this
        refine ⟨xs, .one (.sl (some a) cap len _ k (fun i j => (csOf i).getD j undef) (by simp; omega) hlc (fun i hi => by simp [hf]) (fun h0 => ?_) (fun i hi j hj => ?_)), fun x hx => ?_, ?_⟩
        · simp only [List.length_map] at h0
          have hsp := hspot (by omega)
          obtain ⟨b, o, spt⟩ := a
          simp only at hsp
          subst hsp
          refine ⟨b, o, rfl, fun i hi j hj => ?_⟩
          simp only [List.length_map] at hi
          obtain ⟨x, h1, h2, _⟩ := hcs i (by omega)
          have := h2 j (by omega)
          rw [addr_add, addr_add] at this
          unfold World.cell? at this
          unfold icell
          split at this
          · rename_i c T fr hb
            simp only at hb
            simp only [hb]
            have e1 : o + i * k + j = o + (i * k + j) := by omega
            rw [e1] at this
            rw [List.getD_eq_getElem?_getD, List.getElem?_eq_getElem (by omega)]
            simpa using this
          · cases this
        · simp only [List.length_map] at hi
          have hi' : i < elems.length := by omega
          have hsp := (hcs i hi').choose_spec
          have hx := hxs i hi'
          simp only [List.getElem_map] at hj ⊢
          have hj' : j < k := by rw [hf] at hj; exact hj
          rw [List.getD_eq_getElem?_getD, List.getElem?_eq_getElem (by omega)]
          simp only [hx] at hj ⊢
          exact hsp.2.2.1.2 j (by omega) hj
        · obtain ⟨i, hi, rfl⟩ := List.getElem_of_mem hx
          rw [hxs i (by omega)]
          exact (hcs i (by omega)).choose_spec.2.2.2
        · have := hw ((elems.map (·.1)).length * P.bytesOf e + (rest.map (·.1)).length * P.bytesOf e) (by
            simp only [DataW.weights, hu, List.mem_cons]
            exact .inl (by rw [Nat.add_mul]))
          simp only [List.length_map] at this
          rw [hxl]
          omega
      · cases h

theorem Reads.slice {X : Type} {f : X → List AV} {Q : X → Prop} {k : Nat} (hu : P.underlying t = some (.slice e)) (hk : P.cellsOf e = k) (hk0 : 0 < k) (hf : ∀ x, (f x).length = k) (he : Reads P W e f Q) :
    Reads P W t (fun l : List X => [.sl (l.map f)]) (fun l => (∀ x ∈ l, Q x) ∧ l.length * P.bytesOf e ≤ reachBytes) :=
  .ofB fun B => (ReadsB.slice hu hk hk0 hf (he.toB B)).less (by omega)

theorem ReadsB.map {B : Nat} {X Y : Type} {f : X → List AV} {Q : X → Prop} {g : Y → List AV} {R : Y → Prop} (to : X → Y) (hg : ∀ x, g (to x) = f x) (hR : ∀ x, Q x → R (to x)) (h : ReadsB P W B t f Q) : ReadsB P W B t g R :=
  fun H enc fuel cs d ps hB h1 h2 => let ⟨x, r, q⟩ := h H enc fuel cs d ps hB h1 h2; ⟨to x, by rw [hg]; exact r, hR x q⟩

theorem Reads.map {X Y : Type} {f : X → List AV} {Q : X → Prop} {g : Y → List AV} {R : Y → Prop} (to : X → Y) (hg : ∀ x, g (to x) = f x) (hR : ∀ x, Q x → R (to x)) (h : Reads P W t f Q) : Reads P W t g R :=
  fun H enc fuel cs d ps h1 h2 => let ⟨x, r, q⟩ := h H enc fuel cs d ps h1 h2; ⟨to x, by rw [hg]; exact r, hR x q⟩

/-- A struct's fields from cell o on. -/
def ReadsFB (P : Program) (W : World) (B : Nat) (fs : List Field) (o : Nat) {X : Type} (f : X → List AV) (Q : X → Prop) (n : Nat) : Prop :=
  ∀ (H : Type) (enc : TypeId × Value → H) (fuel : Nat) (cs : List Value) (xs : List (DataW H × List MemPlace)), fuel < B → (fs.mapM fun f => DataW.trod enc P W 0 (fun _ => true) true fuel f.type ((cs.drop f.offset).take (P.cellsOf f.type))) = some xs →
    (∀ n ∈ DataW.weightsEach P (fs.map (·.type)) (xs.map (·.1)), n ≤ reachBytes) → cs.length = o + n → ∃ x, RepL (fun b => W.heap[b]?) (fun _ => none) (cs.drop o) (f x) ∧ Q x

def ReadsF (P : Program) (W : World) (fs : List Field) (o : Nat) {X : Type} (f : X → List AV) (Q : X → Prop) (n : Nat) : Prop := ∀ B, ReadsFB P W B fs o f Q n

theorem ReadsFB.nil {B o : Nat} : ReadsFB P W B [] o (fun _ : Unit => []) (fun _ => True) 0 := by
  intro H enc fuel cs xs _ _ _ hl
  exact ⟨(), ⟨by simp; omega, fun i h1 h2 => by simp at h2⟩, trivial⟩

theorem ReadsF.nil {o : Nat} : ReadsF P W [] o (fun _ : Unit => []) (fun _ => True) 0 := fun _ => ReadsFB.nil

theorem ReadsFB.cons {B : Nat} {fd : Field} {fs : List Field} {o k n : Nat} {X Y : Type} {f : X → List AV} {Q : X → Prop} {g : Y → List AV} {R : Y → Prop} (ho : fd.offset = o) (hk : P.cellsOf fd.type = k)
    (h1 : ReadsB P W B fd.type f Q) (h2 : ReadsFB P W B fs (o + k) g R n) : ReadsFB P W B (fd :: fs) o (fun p : X × Y => f p.1 ++ g p.2) (fun p => Q p.1 ∧ R p.2) (k + n) := by
  intro H enc fuel cs xs hB hm hw hl
  simp only [List.mapM_cons, Option.bind_eq_bind, Option.bind_eq_some_iff, Option.pure_def, Option.some.injEq] at hm
  obtain ⟨⟨d, ps⟩, hd, xs', hxs, rfl⟩ := hm
  have hw1 : ∀ n ∈ d.weights P fd.type, n ≤ reachBytes := fun n hn => hw n (by simp only [List.map_cons, DataW.weightsEach, List.mem_append]; exact .inl hn)
  have hw2 : ∀ n ∈ DataW.weightsEach P (fs.map (·.type)) (xs'.map (·.1)), n ≤ reachBytes := fun n hn => hw n (by simp only [List.map_cons, DataW.weightsEach, List.mem_append]; exact .inr hn)
  obtain ⟨x, hx, qx⟩ := h1 H enc fuel _ d ps hB hd hw1
  obtain ⟨y, hy, qy⟩ := h2 H enc fuel cs xs' hB hxs hw2 (by omega)
  refine ⟨(x, y), ?_, qx, qy⟩
  have e : cs.drop o = (cs.drop fd.offset).take (P.cellsOf fd.type) ++ cs.drop (o + k) := by
    rw [ho, hk, ← List.drop_drop, List.take_append_drop]
  rw [e]
  exact hx.append hy

theorem ReadsF.cons {fd : Field} {fs : List Field} {o k n : Nat} {X Y : Type} {f : X → List AV} {Q : X → Prop} {g : Y → List AV} {R : Y → Prop} (ho : fd.offset = o) (hk : P.cellsOf fd.type = k)
    (h1 : Reads P W fd.type f Q) (h2 : ReadsF P W fs (o + k) g R n) : ReadsF P W (fd :: fs) o (fun p : X × Y => f p.1 ++ g p.2) (fun p => Q p.1 ∧ R p.2) (k + n) := fun B => .cons ho hk (h1.toB B) (h2 B)

theorem ReadsB.struct {B : Nat} {fs : Array Field} {X : Type} {f : X → List AV} {Q : X → Prop} {n : Nat} (hu : P.underlying t = some (.struct fs)) (hn : P.cellsOf t = n) (h : ReadsFB P W B fs.toList 0 f Q n) : ReadsB P W (B + 1) t f Q := by
  intro H enc fuel cs d ps hB ht hw
  cases fuel with
  | zero => cases ht
  | succ fuel =>
    simp only [DataW.trod, hu] at ht
    split at ht
    · rename_i hl
      obtain ⟨xs, hxs, hd⟩ := Option.map_eq_some_iff.1 ht
      cases hd
      obtain ⟨x, hx, q⟩ := h H enc fuel _ xs (by omega) hxs (fun n hn => hw n (by simp only [DataW.weights, hu]; exact hn)) (by omega)
      exact ⟨x, by simpa using hx, q⟩
    · cases ht

theorem Reads.struct {fs : Array Field} {X : Type} {f : X → List AV} {Q : X → Prop} {n : Nat} (hu : P.underlying t = some (.struct fs)) (hn : P.cellsOf t = n) (h : ReadsF P W fs.toList 0 f Q n) : Reads P W t f Q :=
  .ofB fun B => (ReadsB.struct hu hn (h B)).less (by omega)

/-- What a law's proof needs: from the contract with content to the call. -/
theorem law_calls {f : FuncId} {avs : List AV} {vs : List Value} (h : ACalls P f avs [] fun r _ => r = .c (.bool true)) (hv : RepL (fun b => W.heap[b]?) (fun _ => none) vs avs) :
    Calls P f vs.toArray W fun e W' => e = .returned (.bool true) ∧ RowKit.Below W.heap.size W W' := by
  have hs : Sim W (fun b => W.heap[b]?) (fun _ => none) W [] := ⟨rfl, rfl, rfl, Nat.le_refl _, fun _ _ h => h, fun _ _ => rfl, fun id h => by simp at h, fun i j hi => by simp at hi⟩
  refine (h W _ _ W vs hs hv).mono ?_
  rintro e W' ⟨imm', m', v, r, σ', rfl, hi, _, hs', hr, rfl⟩
  rw [hr.c_inv]
  refine ⟨rfl, hs'.os, hs'.tape, hs'.output, hs'.size, fun k hk => ?_⟩
  have := hs'.imm_ok k _ (hi k _ (Array.getElem?_eq_getElem hk))
  rw [this, Array.getElem?_eq_getElem hk]

/-- One argument of a law. -/
theorem Reads.arg {X : Type} {f : X → AV} {Q : X → Prop} {H : Type} {enc : TypeId × Value → H} {v : Value} {d : DataW H} {ps : List MemPlace} (h : Reads P W t (fun x => [f x]) Q) (hr : DataW.Trod enc P W 0 (fun _ => true) true t v d ps)
    (hv : v.cells.toList = [v]) (hw : ∀ n ∈ d.weights P t, n ≤ reachBytes) : ∃ x, Rep (fun b => W.heap[b]?) (fun _ => none) v (f x) ∧ Q x := by
  obtain ⟨fuel, hf⟩ := hr
  rw [hv] at hf
  obtain ⟨x, hx, q⟩ := h H enc fuel _ d ps hf hw
  exact ⟨x, by simpa using hx.2 0 (by simp) (by simp), q⟩

/-- A struct that is handed by value. -/
theorem Reads.argS {X : Type} {f : X → List AV} {Q : X → Prop} {H : Type} {enc : TypeId × Value → H} {cs : Array Value} {d : DataW H} {ps : List MemPlace} (h : Reads P W t f Q) (hr : DataW.Trod enc P W 0 (fun _ => true) true t (.agg cs) d ps)
    (hw : ∀ n ∈ d.weights P t, n ≤ reachBytes) : ∃ x, Rep (fun b => W.heap[b]?) (fun _ => none) (.agg cs) (.agg (f x)) ∧ Q x := by
  obtain ⟨fuel, hf⟩ := hr
  obtain ⟨x, hx, q⟩ := h H enc fuel _ d ps hf hw
  refine ⟨x, ?_, q⟩
  have : cs = cs.toList.toArray := by simp
  rw [this]
  exact .agg _ _ hx.1 hx.2
end
end Go.Proofs.Ytephecognbbaoaa
