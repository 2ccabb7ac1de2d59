/- Slices of rows: is there one of which something holds? -/
import Derived.Test.YtephecognbbaoabGreatZHp
import Derived.Test.YtephecognbbaoabGreatZFz
import Derived.SizedLaws
import Derived.Test.YtephecognbbaoabGreatZLo
import Derived.Test.YtephecognbbaoabGreatZSy
import Derived.Laws.Strings2
open Go
set_option linter.all false
set_option maxRecDepth 100000
set_option maxHeartbeats 4000000
namespace Go.Proofs.YtephecognbbaoabGreat
open Go
set_option linter.all false
set_option maxRecDepth 100000
set_option maxHeartbeats 4000000
theorem indexFunc_rows (l : List (List Int)) (p : List Int → Bool) (f : FuncId) (first cap : List AV) (σ : Store) (hl : l.length ≤ 1000000000000000000) (hok : callOk Tryz.prog f = true)
    (hf : ∀ x ∈ l, ACalls Tryz.prog f (first ++ intsA x :: cap) σ fun r σ' => σ' = σ ∧ r = .c (.bool (p x))) :
    ACalls Tryz.prog 78 [rowsC l, .fn f first cap] σ fun r σ' => σ' = σ ∧ r = intA1 (firstI p 0 l) := by
  refine ACalls_of_awp Tryz.func78 rfl Tryz.results78 ?_
  simp only [List.length_cons, List.length_nil, Tryz.ntmps78, Nat.reduceAdd, Nat.reduceSub, enterA]
  (repeat' (first|(refine g_s fun K hK=>?_)|(refine g_b ?_)|(refine g_g ?_;(try simp -implicitDefEqProofs only[go_sem]))|(with_reducible refine hK _ _ ?_;clear hK K)|fail))
  refine AWP_each l (fun k r _ => firstI p 0 l = firstI p k r) (fun k _ _ => [(8, intA1 k)]) (fun _ _ _ => σ) () [] rfl rfl (ALe_of ?_) ?_ ?_
  · simp -implicitDefEqProofs only [go_sem]
  · rintro k r s τ hk0 hk1 h1 L hL
    have hc := hf _ (at0_mem l hk0 hk1)
    simp -implicitDefEqProofs only [go_sem]
    (repeat' (first|(refine g_s fun K hK=>?_)|(refine g_b ?_)|(refine g_k ?_;simp only[thenQ,blockQ])|(refine g_c (fun h=>?_) (fun h=>?_)<;>(try simp only[go_sem] at h)<;>(try exact g_f))|((first|refine g_t ?_|refine g_g ?_|refine (hc).use ?_);(try simp -implicitDefEqProofs only[go_sem]))|(with_reducible refine hK _ _ ?_;clear hK K)|(with_reducible refine And.intro ?_ ?_;· exact g_x)|fail))
    · rw [h1, firstI, if_pos (by assumption)]
    · refine hL () [] _ _ ?_ (ALe_of ?_) rfl
      · rw [h1, firstI, if_neg (by simp [*])]
      · simp -implicitDefEqProofs only [go_sem]
  · intro k s τ hk h1 L
    simp -implicitDefEqProofs only [go_sem]
    (repeat' (first|(refine g_s fun K hK=>?_)|(refine g_e ?_;simp only[thenQ,blockQ,↓reduceIte,Nat.reduceEqDiff])|(refine g_c (fun h=>?_) (fun h=>?_)<;>(try simp only[go_sem] at h)<;>(try exact g_f))|((first|refine g_t ?_|refine g_g ?_);(try simp -implicitDefEqProofs only[go_sem]))|(with_reducible refine hK _ _ ?_;clear hK K)|(clear hK K;first|(with_reducible refine hK _ _ ?_;clear hK K)|(clear hK K;with_reducible refine hK _ _ ?_;clear hK K)|(clear hK K;clear hK K;with_reducible refine hK _ _ ?_;clear hK K))|fail))
    rw [h1, firstI]
theorem containsFunc_rows (l : List (List Int)) (p : List Int → Bool) (f : FuncId) (first cap : List AV) (σ : Store) (hl : l.length ≤ 1000000000000000000) (hok : callOk Tryz.prog f = true)
    (hf : ∀ x ∈ l, ACalls Tryz.prog f (first ++ intsA x :: cap) σ fun r σ' => σ' = σ ∧ r = .c (.bool (p x))) :
    ACalls Tryz.prog 57 [rowsC l, .fn f first cap] σ fun r σ' => σ' = σ ∧ r = .c (.bool (l.any p)) := by
  have hc := indexFunc_rows l p f first cap σ hl hok hf
  refine ACalls_of_awp Tryz.func57 rfl Tryz.results57 ?_
  simp only [List.length_cons, List.length_nil, Tryz.ntmps57, Nat.reduceAdd, Nat.reduceSub, enterA]
  (repeat' (first|(refine g_s fun K hK=>?_)|((first|refine g_t ?_|refine g_g ?_|refine (hc).use ?_);(try simp -implicitDefEqProofs only[go_sem]))|(with_reducible refine hK _ _ ?_;clear hK K)|fail))
  rw [← firstI_ge p l 0 (Int.le_refl _)]
end Go.Proofs.YtephecognbbaoabGreat
namespace Go.Proofs.YtephecognbbaoabGreat
/-- Whatever reads at type t is the content f x of some x with Q x. -/
def Reads (P : Program) (W : World) (t : TypeId) {X : Type} (f : X → List AV) (Q : X → Prop) : Prop :=
  ∀ (H : Type) (enc : TypeId × Value → H) (fuel : Nat) (cs : List Value) (d : DataW H) (ps : List MemPlace), DataW.trod enc P W 0 (fun _ => true) true fuel t cs = some (d, ps) →
    (∀ n ∈ d.weights P t, n ≤ reachBytes) → ∃ x, RepL (fun b => W.heap[b]?) (fun _ => none) cs (f x) ∧ Q x
/-- The same, as deep as B: what holds of a type that speaks of itself is shown by how deep one reads. -/
def ReadsB (P : Program) (W : World) (B : Nat) (t : TypeId) {X : Type} (f : X → List AV) (Q : X → Prop) : Prop :=
  ∀ (H : Type) (enc : TypeId × Value → H) (fuel : Nat) (cs : List Value) (d : DataW H) (ps : List MemPlace), fuel < B → DataW.trod enc P W 0 (fun _ => true) true fuel t cs = some (d, ps) →
    (∀ n ∈ d.weights P t, n ≤ reachBytes) → ∃ x, RepL (fun b => W.heap[b]?) (fun _ => none) cs (f x) ∧ Q x
section
variable {P : Program} {W : World} {t e : TypeId}
theorem Reads.toB {X : Type} {f : X → List AV} {Q : X → Prop} (h : Reads P W t f Q) (B : Nat) : ReadsB P W B t f Q := fun H enc fuel cs d ps _ => h H enc fuel cs d ps
theorem Reads.ofB {X : Type} {f : X → List AV} {Q : X → Prop} (h : ∀ B, ReadsB P W B t f Q) : Reads P W t f Q := fun H enc fuel cs d ps => h (fuel + 1) H enc fuel cs d ps (Nat.lt_succ_self _)
theorem ReadsB.less {X : Type} {f : X → List AV} {Q : X → Prop} {B B' : Nat} (hB : B' ≤ B) (h : ReadsB P W B t f Q) : ReadsB P W B' t f Q := fun H enc fuel cs d ps hf => h H enc fuel cs d ps (by omega)
theorem ReadsB.zero {X : Type} {f : X → List AV} {Q : X → Prop} : ReadsB P W 0 t f Q := fun H enc fuel cs d ps hf => absurd hf (by omega)
theorem RepL.one {imm : Imm} {m : Own} {v : Value} {a : AV} (h : Rep imm m v a) : RepL imm m [v] [a] := ⟨rfl, fun i h1 h2 => by
  obtain rfl : i = 0 := by simp at h1; omega
  exact h⟩
theorem Reads.int (hu : P.underlying t = some (.int .i64)) : Reads P W t (fun n : Int => [.c (.int .i64 n)]) I64 := by
  intro H enc fuel cs d ps h _
  cases fuel with
  | zero => cases h
  | succ fuel =>
    unfold DataW.trod at h
    rw [hu] at h
    split at h <;> (try cases h; done) <;> rename_i heq <;> (try cases heq; done)
    all_goals first | (exfalso; simp at heq; done) | skip
    · cases heq
      split at h
      · rename_i hc
        obtain ⟨rfl, hw⟩ := hc
        refine ⟨_, .one (.c _), ?_⟩
        have := hw
        simp [Lit.wf, IntKind.min, IntKind.max, IntKind.bits, IntKind.signed] at this
        unfold I64
        omega
      · cases h
theorem Reads.bool (hu : P.underlying t = some .bool) : Reads P W t (fun b : Bool => [.c (.bool b)]) (fun _ => True) := by
  intro H enc fuel cs d ps h _
  cases fuel with
  | zero => cases h
  | succ fuel =>
    unfold DataW.trod at h
    rw [hu] at h
    split at h <;> (try cases h; done) <;> rename_i heq <;> (try cases heq; done)
    all_goals first | (exfalso; simp at heq; done) | skip
    · cases heq
      exact ⟨_, .one (.c _), trivial⟩
theorem Reads.string (hu : P.underlying t = some .string) : Reads P W t (fun s : ByteArray => [.c (.string s)]) (fun s => s.size ≤ reachBytes) := by
  intro H enc fuel cs d ps h hw
  cases fuel with
  | zero => cases h
  | succ fuel =>
    unfold DataW.trod at h
    rw [hu] at h
    split at h <;> (try cases h; done) <;> rename_i heq <;> (try cases heq; done)
    all_goals first | (exfalso; simp at heq; done) | skip
    · cases heq
      split at h
      · cases h
        rename_i s _
        refine ⟨s, .one (.c _), ?_⟩
        have := hw s.data.toList.length (by simp [DataW.weights])
        simpa using this
      · cases h
theorem mapM_some {α β : Type} {g : α → Option β} : ∀ {l : List α} {r : List β}, l.mapM g = some r → r.length = l.length ∧ ∀ i (h : i < l.length) (h' : i < r.length), g l[i] = some r[i]
  | [], r, h => by simp at h; subst h; exact ⟨rfl, fun i h => by simp at h⟩
  | a :: l, r, h => by
    simp only [List.mapM_cons, Option.bind_eq_bind, Option.bind_eq_some_iff, Option.pure_def, Option.some.injEq] at h
    obtain ⟨b, hb, r', hr', rfl⟩ := h
    obtain ⟨h1, h2⟩ := mapM_some hr'
    refine ⟨by simp [h1], fun i hi hi' => ?_⟩
    cases i with
    | zero => exact hb
    | succ i =>
      simp only [List.getElem_cons_succ]
      exact h2 i (by simpa using hi) (by simpa using hi')
theorem weightsAll_mem {H : Type} {e : TypeId} : ∀ (l : List (DataW H)) (i : Nat) (h : i < l.length) (n : Nat), n ∈ l[i].weights P e → n ∈ DataW.weightsAll P e l
  | d :: r, 0, h, n, hn => by simp only [DataW.weightsAll, List.mem_append]; exact .inl hn
  | d :: r, i + 1, h, n, hn => by
    simp only [DataW.weightsAll, List.mem_append]
    exact .inr (weightsAll_mem r i (by simpa using h) n hn)
theorem cells?_spec {base n : Nat} {a : Addr} {cs : List Value} (h : W.cells? base a n = some cs) : cs.length = n ∧ ∀ j (hj : j < cs.length), W.cell? (a.add j) = some cs[j] := by
  unfold World.cells? at h
  split at h
  · obtain ⟨h1, h2⟩ := mapM_some h
    refine ⟨by simpa using h1, fun j hj => ?_⟩
    have := h2 j (by simp at h1 ⊢; omega) hj
    simpa using this
  · cases h
theorem ReadsB.slice {B : Nat} {X : Type} {f : X → List AV} {Q : X → Prop} {k : Nat} (hu : P.underlying t = some (.slice e)) (hk : P.cellsOf e = k) (hk0 : 0 < k) (hf : ∀ x, (f x).length = k) (he : ReadsB P W B e f Q) :
    ReadsB P W (B + 1) t (fun l : List X => [.sl (l.map f)]) (fun l => (∀ x ∈ l, Q x) ∧ l.length * P.bytesOf e ≤ reachBytes) := by
  intro H enc fuel cs d ps hB h hw
  cases fuel with
  | zero => cases h
  | succ fuel =>
    unfold DataW.trod at h
    rw [hu] at h
    split at h <;> (try cases h; done) <;> rename_i heq <;> (try cases heq; done)
    all_goals first | (exfalso; simp at heq; done) | skip
    · exact ⟨[], .one (.sl none 0 0 [] 0 (fun _ _ => undef) rfl (Nat.le_refl _) (fun i hi => by simp at hi) (fun h => by simp at h) (fun i hi => by simp at hi)), fun x hx => by simp at hx, by simp⟩
    · cases heq
      rename_i a len cap
      split at h
      · rename_i hc
        obtain ⟨_, hlc, hcm⟩ := hc
        simp only [Option.bind_eq_some_iff, Option.map_eq_some_iff] at h
        obtain ⟨elems, hel, rest, hrest, hd⟩ := h
        cases hd
        obtain ⟨hlen, hget⟩ := mapM_some hel
        simp only [List.length_range] at hlen
        have hweights : ∀ i (h' : i < elems.length), ∀ n ∈ (elems[i].1).weights P e, n ≤ reachBytes := fun i h' n hn => by
          refine hw n ?_
          simp only [DataW.weights, hu, List.mem_cons, List.mem_append]
          refine .inr (.inl ?_)
          exact weightsAll_mem (elems.map (·.1)) i (by simpa using h') n (by simpa using hn)
        have hread : ∀ i (h' : i < elems.length), ∃ (cs : List Value) (x : X), cs.length = k ∧ (∀ j (hj : j < cs.length), W.cell? ((a.add (i * k)).add j) = some cs[j]) ∧ RepL (fun b => W.heap[b]?) (fun _ => none) cs (f x) ∧ Q x := fun i h' => by
          have := hget i (by simp; omega) h'
          simp only [List.getElem_range, Option.bind_eq_some_iff] at this
          obtain ⟨cs, hcs, htr⟩ := this
          obtain ⟨h1, h2⟩ := cells?_spec hcs
          obtain ⟨x, hx, hq⟩ := he H enc fuel cs _ _ (by omega) htr (hweights i h')
          refine ⟨cs, x, by rw [h1, hk], fun j hj => ?_, hx, hq⟩
          rw [← hk]
          exact h2 j hj
        let csOf : Nat → List Value := fun i => if h : i < elems.length then (hread i h).choose else []
        have hcs : ∀ i (h : i < elems.length), ∃ x, (csOf i).length = k ∧ (∀ j (hj : j < (csOf i).length), W.cell? ((a.add (i * k)).add j) = some (csOf i)[j]) ∧ RepL (fun b => W.heap[b]?) (fun _ => none) (csOf i) (f x) ∧ Q x := fun i h => by
          have := (hread i h).choose_spec
          simp only [csOf, h, dif_pos]
          exact this
        let xs : List X := (List.finRange elems.length).map fun i => (hcs i.1 i.2).choose
        have hxs : ∀ i (h : i < elems.length), xs[i]'(by simp [xs]; exact h) = (hcs i h).choose := fun i h => by simp [xs]
        have hxl : xs.length = elems.length := by simp [xs]
        have hspot : 0 < elems.length → a.spot = none := fun h0 => by
          obtain ⟨x, h1, h2, _⟩ := hcs 0 h0
          have := h2 0 (by omega)
          simp only [Nat.zero_mul, Addr.add, if_true] at this
          unfold World.cell? at this
          split at this
          · split at this
            · cases this
            · rename_i hsp; simpa using hsp
          · cases this
        refine ⟨xs, .one (.sl (some a) cap len _ k (fun i j => (csOf i).getD j undef) (by simp; omega) hlc (fun i hi => by simp [hf]) (fun h0 => ?_) (fun i hi j hj => ?_)), fun x hx => ?_, ?_⟩
        · simp only [List.length_map] at h0
          have hsp := hspot (by omega)
          obtain ⟨b, o, spt⟩ := a
          simp only at hsp
          subst hsp
          refine ⟨b, o, rfl, fun i hi j hj => ?_⟩
          simp only [List.length_map] at hi
          obtain ⟨x, h1, h2, _⟩ := hcs i (by omega)
          have := h2 j (by omega)
          rw [addr_add, addr_add] at this
          unfold World.cell? at this
          unfold icell
          split at this
          · rename_i c T fr hb
            simp only at hb
            simp only [hb]
            have e1 : o + i * k + j = o + (i * k + j) := by omega
            rw [e1] at this
            rw [List.getD_eq_getElem?_getD, List.getElem?_eq_getElem (by omega)]
            simpa using this
          · cases this
        · simp only [List.length_map] at hi
          have hi' : i < elems.length := by omega
          have hsp := (hcs i hi').choose_spec
          have hx := hxs i hi'
          simp only [List.getElem_map] at hj ⊢
          have hj' : j < k := by rw [hf] at hj; exact hj
          rw [List.getD_eq_getElem?_getD, List.getElem?_eq_getElem (by omega)]
          simp only [hx] at hj ⊢
          exact hsp.2.2.1.2 j (by omega) hj
        · obtain ⟨i, hi, rfl⟩ := List.getElem_of_mem hx
          rw [hxs i (by omega)]
          exact (hcs i (by omega)).choose_spec.2.2.2
        · have := hw ((elems.map (·.1)).length * P.bytesOf e + (rest.map (·.1)).length * P.bytesOf e) (by
            simp only [DataW.weights, hu, List.mem_cons]
            exact .inl (by rw [Nat.add_mul]))
          simp only [List.length_map] at this
          rw [hxl]
          omega
      · cases h
theorem Reads.slice {X : Type} {f : X → List AV} {Q : X → Prop} {k : Nat} (hu : P.underlying t = some (.slice e)) (hk : P.cellsOf e = k) (hk0 : 0 < k) (hf : ∀ x, (f x).length = k) (he : Reads P W e f Q) :
    Reads P W t (fun l : List X => [.sl (l.map f)]) (fun l => (∀ x ∈ l, Q x) ∧ l.length * P.bytesOf e ≤ reachBytes) :=
  .ofB fun B => (ReadsB.slice hu hk hk0 hf (he.toB B)).less (by omega)
theorem ReadsB.map {B : Nat} {X Y : Type} {f : X → List AV} {Q : X → Prop} {g : Y → List AV} {R : Y → Prop} (to : X → Y) (hg : ∀ x, g (to x) = f x) (hR : ∀ x, Q x → R (to x)) (h : ReadsB P W B t f Q) : ReadsB P W B t g R :=
  fun H enc fuel cs d ps hB h1 h2 => let ⟨x, r, q⟩ := h H enc fuel cs d ps hB h1 h2; ⟨to x, by rw [hg]; exact r, hR x q⟩
theorem Reads.map {X Y : Type} {f : X → List AV} {Q : X → Prop} {g : Y → List AV} {R : Y → Prop} (to : X → Y) (hg : ∀ x, g (to x) = f x) (hR : ∀ x, Q x → R (to x)) (h : Reads P W t f Q) : Reads P W t g R :=
  fun H enc fuel cs d ps h1 h2 => let ⟨x, r, q⟩ := h H enc fuel cs d ps h1 h2; ⟨to x, by rw [hg]; exact r, hR x q⟩
/-- A struct's fields from cell o on. -/
def ReadsFB (P : Program) (W : World) (B : Nat) (fs : List Field) (o : Nat) {X : Type} (f : X → List AV) (Q : X → Prop) (n : Nat) : Prop :=
  ∀ (H : Type) (enc : TypeId × Value → H) (fuel : Nat) (cs : List Value) (xs : List (DataW H × List MemPlace)), fuel < B → (fs.mapM fun f => DataW.trod enc P W 0 (fun _ => true) true fuel f.type ((cs.drop f.offset).take (P.cellsOf f.type))) = some xs →
    (∀ n ∈ DataW.weightsEach P (fs.map (·.type)) (xs.map (·.1)), n ≤ reachBytes) → cs.length = o + n → ∃ x, RepL (fun b => W.heap[b]?) (fun _ => none) (cs.drop o) (f x) ∧ Q x
def ReadsF (P : Program) (W : World) (fs : List Field) (o : Nat) {X : Type} (f : X → List AV) (Q : X → Prop) (n : Nat) : Prop := ∀ B, ReadsFB P W B fs o f Q n
theorem ReadsFB.nil {B o : Nat} : ReadsFB P W B [] o (fun _ : Unit => []) (fun _ => True) 0 := by
  intro H enc fuel cs xs _ _ _ hl
  exact ⟨(), ⟨by simp; omega, fun i h1 h2 => by simp at h2⟩, trivial⟩
theorem ReadsF.nil {o : Nat} : ReadsF P W [] o (fun _ : Unit => []) (fun _ => True) 0 := fun _ => ReadsFB.nil
theorem ReadsFB.cons {B : Nat} {fd : Field} {fs : List Field} {o k n : Nat} {X Y : Type} {f : X → List AV} {Q : X → Prop} {g : Y → List AV} {R : Y → Prop} (ho : fd.offset = o) (hk : P.cellsOf fd.type = k)
    (h1 : ReadsB P W B fd.type f Q) (h2 : ReadsFB P W B fs (o + k) g R n) : ReadsFB P W B (fd :: fs) o (fun p : X × Y => f p.1 ++ g p.2) (fun p => Q p.1 ∧ R p.2) (k + n) := by
  intro H enc fuel cs xs hB hm hw hl
  simp only [List.mapM_cons, Option.bind_eq_bind, Option.bind_eq_some_iff, Option.pure_def, Option.some.injEq] at hm
  obtain ⟨⟨d, ps⟩, hd, xs', hxs, rfl⟩ := hm
  have hw1 : ∀ n ∈ d.weights P fd.type, n ≤ reachBytes := fun n hn => hw n (by simp only [List.map_cons, DataW.weightsEach, List.mem_append]; exact .inl hn)
  have hw2 : ∀ n ∈ DataW.weightsEach P (fs.map (·.type)) (xs'.map (·.1)), n ≤ reachBytes := fun n hn => hw n (by simp only [List.map_cons, DataW.weightsEach, List.mem_append]; exact .inr hn)
  obtain ⟨x, hx, qx⟩ := h1 H enc fuel _ d ps hB hd hw1
  obtain ⟨y, hy, qy⟩ := h2 H enc fuel cs xs' hB hxs hw2 (by omega)
  refine ⟨(x, y), ?_, qx, qy⟩
  have e : cs.drop o = (cs.drop fd.offset).take (P.cellsOf fd.type) ++ cs.drop (o + k) := by
    rw [ho, hk, ← List.drop_drop, List.take_append_drop]
  rw [e]
  exact hx.append hy
theorem ReadsF.cons {fd : Field} {fs : List Field} {o k n : Nat} {X Y : Type} {f : X → List AV} {Q : X → Prop} {g : Y → List AV} {R : Y → Prop} (ho : fd.offset = o) (hk : P.cellsOf fd.type = k)
    (h1 : Reads P W fd.type f Q) (h2 : ReadsF P W fs (o + k) g R n) : ReadsF P W (fd :: fs) o (fun p : X × Y => f p.1 ++ g p.2) (fun p => Q p.1 ∧ R p.2) (k + n) := fun B => .cons ho hk (h1.toB B) (h2 B)
theorem ReadsB.struct {B : Nat} {fs : Array Field} {X : Type} {f : X → List AV} {Q : X → Prop} {n : Nat} (hu : P.underlying t = some (.struct fs)) (hn : P.cellsOf t = n) (h : ReadsFB P W B fs.toList 0 f Q n) : ReadsB P W (B + 1) t f Q := by
  intro H enc fuel cs d ps hB ht hw
  cases fuel with
  | zero => cases ht
  | succ fuel =>
    simp only [DataW.trod, hu] at ht
    split at ht
    · rename_i hl
      obtain ⟨xs, hxs, hd⟩ := Option.map_eq_some_iff.1 ht
      cases hd
      obtain ⟨x, hx, q⟩ := h H enc fuel _ xs (by omega) hxs (fun n hn => hw n (by simp only [DataW.weights, hu]; exact hn)) (by omega)
      exact ⟨x, by simpa using hx, q⟩
    · cases ht
theorem Reads.struct {fs : Array Field} {X : Type} {f : X → List AV} {Q : X → Prop} {n : Nat} (hu : P.underlying t = some (.struct fs)) (hn : P.cellsOf t = n) (h : ReadsF P W fs.toList 0 f Q n) : Reads P W t f Q :=
  .ofB fun B => (ReadsB.struct hu hn (h B)).less (by omega)
/-- What a law's proof needs: from the contract with content to the call. -/
theorem law_calls {f : FuncId} {avs : List AV} {vs : List Value} (h : ACalls P f avs [] fun r _ => r = .c (.bool true)) (hv : RepL (fun b => W.heap[b]?) (fun _ => none) vs avs) :
    Calls P f vs.toArray W fun e W' => e = .returned (.bool true) ∧ RowKit.Below W.heap.size W W' := by
  have hs : Sim W (fun b => W.heap[b]?) (fun _ => none) W [] := ⟨rfl, rfl, rfl, Nat.le_refl _, fun _ _ h => h, fun _ _ => rfl, fun id h => by simp at h, fun i j hi => by simp at hi⟩
  refine (h W _ _ W vs hs hv).mono ?_
  rintro e W' ⟨imm', m', v, r, σ', rfl, hi, _, hs', hr, rfl⟩
  rw [hr.c_inv]
  refine ⟨rfl, hs'.os, hs'.tape, hs'.output, hs'.size, fun k hk => ?_⟩
  have := hs'.imm_ok k _ (hi k _ (Array.getElem?_eq_getElem hk))
  rw [this, Array.getElem?_eq_getElem hk]
/-- A struct that is handed by value. -/
theorem Reads.argS {X : Type} {f : X → List AV} {Q : X → Prop} {H : Type} {enc : TypeId × Value → H} {cs : Array Value} {d : DataW H} {ps : List MemPlace} (h : Reads P W t f Q) (hr : DataW.Trod enc P W 0 (fun _ => true) true t (.agg cs) d ps)
    (hw : ∀ n ∈ d.weights P t, n ≤ reachBytes) : ∃ x, Rep (fun b => W.heap[b]?) (fun _ => none) (.agg cs) (.agg (f x)) ∧ Q x := by
  obtain ⟨fuel, hf⟩ := hr
  obtain ⟨x, hx, q⟩ := h H enc fuel _ d ps hf hw
  refine ⟨x, ?_, q⟩
  have : cs = cs.toList.toArray := by simp
  rw [this]
  exact .agg _ _ hx.1 hx.2
end
end Go.Proofs.YtephecognbbaoabGreat
namespace Go.Proofs.YtephecognbbaoabGreat
def sumL (n : Int) : List Int → Int
  | [] => n
  | c :: l => sumL ((n * 31 + c) % 65521) l
theorem sumL_bd : ∀ (l : List Int) (n : Int), 0 ≤ n → n < 65521 → 0 ≤ sumL n l ∧ sumL n l < 65521
  | [], n, h, h' => ⟨h, h'⟩
  | c :: l, n, h, h' => sumL_bd l _ (by omega) (by omega)
def fitsB (n : Int) : Bool := decide (0 ≤ n) && decide (n ≤ 250)
theorem fitsB_iff (n : Int) : fitsB n = true ↔ 0 ≤ n ∧ n ≤ 250 := by simp [fitsB]
structure Packet where
  fr : Int
  dst : Int
  routes : List Int
deriving DecidableEq
def writeL (p : Packet) : List Int × Int :=
  if (p.fr :: p.dst :: p.routes).any fun n => !fitsB n then ([], 3)
  else if 54 < p.routes.length then ([], 2)
  else
    let b := [83, p.fr, p.dst, (p.routes.length : Int)] ++ p.routes
    (b ++ [sumL 1 b / 256, sumL 1 b % 256], 0)
/-- The packet that is to stand in some bytes. -/
def packetAt (s : List Int) : Packet := ⟨at0 s 1, at0 s 2, (s.take (s.length - 2)).drop 4⟩
/-- What the program reads. -/
def readL (s : List Int) : Packet × Int :=
  if 60 < s.length then (⟨0, 0, []⟩, 2)
  else if s.length < 6 ∨ at0 s 3 ≠ s.length - 6 then (⟨0, 0, []⟩, 1)
  else if (writeL (packetAt s)).2 ≠ 0 ∨ (writeL (packetAt s)).1 ≠ s then (⟨0, 0, []⟩, 1)
  else (packetAt s, 0)
/-- What the document says. -/
def readOfL (s : List Int) : Packet × Int :=
  if 60 < s.length then (⟨0, 0, []⟩, 2)
  else if s.length < 6 ∨ at0 s 0 ≠ 83 ∨ at0 s 3 ≠ s.length - 6 ∨ 250 < at0 s 1 ∨ 250 < at0 s 2 then (⟨0, 0, []⟩, 1)
  else if ((s.take (s.length - 2)).drop 4).any (fun c => decide (250 < c)) then (⟨0, 0, []⟩, 1)
  else if sumL 1 (s.take (s.length - 2)) ≠ 256 * at0 s (s.length - 2) + at0 s (s.length - 1) then (⟨0, 0, []⟩, 1)
  else (packetAt s, 0)
/-- Bytes of a packet's length: head, middle, end. -/
theorem split_packet (s : List Int) (h : 6 ≤ s.length) : s = at0 s 0 :: at0 s 1 :: at0 s 2 :: at0 s 3 :: ((s.take (s.length - 2)).drop 4 ++ [at0 s (s.length - 2), at0 s (s.length - 1)]) := by
  have e1 : s = s.take (s.length - 2) ++ s.drop (s.length - 2) := (List.take_append_drop _ _).symm
  have e2 : s.drop (s.length - 2) = [at0 s (s.length - 2), at0 s (s.length - 1)] := by
    have d1 : ((s.length : Int) - 2).toNat = s.length - 2 := by omega
    have := drop_at s (k := (s.length : Int) - 2) (by omega) (by omega)
    rw [d1] at this
    rw [this]
    congr 1
    have e : ((s.length : Int) - 2 + 1) = s.length - 1 := by omega
    rw [e, drop_at s (k := (s.length : Int) - 1) (by omega) (by omega)]
    congr 1
    exact List.drop_of_length_le (by omega)
  obtain ⟨a, b, c, d, r, rfl⟩ : ∃ a b c d r, s = a :: b :: c :: d :: r := by
    match s, h with
    | a :: b :: c :: d :: r, _ => exact ⟨a, b, c, d, r, rfl⟩
  have e3 : (a :: b :: c :: d :: r).take ((a :: b :: c :: d :: r).length - 2) = a :: b :: c :: d :: r.take (r.length - 2) := by
    simp only [List.length_cons] at h ⊢
    have : r.length + 1 + 1 + 1 + 1 - 2 = r.length - 2 + 1 + 1 + 1 + 1 := by omega
    rw [this]
    simp
  rw [e2, e3] at e1
  rw [e3]
  exact e1
theorem read_eq (s : List Int) (hb : ∀ c ∈ s, 0 ≤ c ∧ c ≤ 255) : readL s = readOfL s := by
  unfold readL readOfL
  by_cases h1 : 60 < s.length
  · simp [h1]
  rw [if_neg h1, if_neg h1]
  by_cases h2 : s.length < 6
  · rw [if_pos (.inl h2), if_pos (.inl h2)]
  by_cases h3 : at0 s 3 ≠ s.length - 6
  · rw [if_pos (.inr h3), if_pos (.inr (.inr (.inl h3)))]
  rw [if_neg (by intro h; rcases h with h | h; exact h2 h; exact h3 h)]
  have h3' : at0 s 3 = s.length - 6 := by omega
  have hs := split_packet s (by omega)
  have hw : ∀ k : Int, 0 ≤ k → k < s.length → 0 ≤ at0 s k ∧ at0 s k ≤ 255 := fun k h h' => hb _ (at0_mem s h h')
  have r1 := hw 1 (by omega) (by omega)
  have r2 := hw 2 (by omega) (by omega)
  have re := hw (s.length - 1) (by omega) (by omega)
  have rd := hw (s.length - 2) (by omega) (by omega)
  have hm : ∀ c ∈ (s.take (s.length - 2)).drop 4, 0 ≤ c ∧ c ≤ 255 := fun c hc => hb c (List.mem_of_mem_take (List.mem_of_mem_drop hc))
  have hml : ((s.take (s.length - 2)).drop 4).length = s.length - 6 := by simp; omega
  have hany : ((packetAt s).fr :: (packetAt s).dst :: (packetAt s).routes).any (fun n => !fitsB n) = (decide (250 < at0 s 1) || (decide (250 < at0 s 2) || ((s.take (s.length - 2)).drop 4).any fun c => decide (250 < c))) := by
    have e : ∀ c : Int, 0 ≤ c → (!fitsB c) = decide (250 < c) := fun c hc => by
      by_cases h : 250 < c
      · simp [fitsB, h, show ¬ c ≤ 250 by omega]
      · simp [fitsB, hc, h, show c ≤ 250 by omega]
    simp only [packetAt, List.any_cons, e _ r1.1, e _ r2.1]
    congr 2
    apply List.any_eq.trans
    rw [List.any_eq]
    refine decide_eq_decide.2 ?_
    constructor
    · rintro ⟨x, hx, h⟩; exact ⟨x, hx, by rw [← e x (hm x hx).1]; exact h⟩
    · rintro ⟨x, hx, h⟩; exact ⟨x, hx, by rw [e x (hm x hx).1]; exact h⟩
  by_cases h4 : 250 < at0 s 1 ∨ 250 < at0 s 2
  · rw [if_pos, if_pos]
    · rcases h4 with h | h
      · exact .inr (.inr (.inr (.inl h)))
      · exact .inr (.inr (.inr (.inr h)))
    · refine .inl ?_
      rw [writeL, hany]
      rcases h4 with h | h <;> simp [h]
  rw [not_or] at h4
  by_cases h5 : (((s.take (s.length - 2)).drop 4).any fun c => decide (250 < c)) = true
  · rw [if_pos]
    · by_cases h6 : s.length < 6 ∨ at0 s 0 ≠ 83 ∨ at0 s 3 ≠ s.length - 6 ∨ 250 < at0 s 1 ∨ 250 < at0 s 2
      · rw [if_pos h6]
      · rw [if_neg h6, if_pos h5]
    · refine .inl ?_
      rw [writeL, hany]
      simp [h5]
  have hwr : writeL (packetAt s) = ([83, at0 s 1, at0 s 2, at0 s 3] ++ (s.take (s.length - 2)).drop 4 ++ [sumL 1 ([83, at0 s 1, at0 s 2, at0 s 3] ++ (s.take (s.length - 2)).drop 4) / 256, sumL 1 ([83, at0 s 1, at0 s 2, at0 s 3] ++ (s.take (s.length - 2)).drop 4) % 256], 0) := by
    have hl : ((packetAt s).routes.length : Int) = at0 s 3 := by
      show ((((s.take (s.length - 2)).drop 4).length : Nat) : Int) = _
      rw [hml]; omega
    rw [writeL, hany, if_neg (by simp [h4, h5]), if_neg (by show ¬ 54 < ((s.take (s.length - 2)).drop 4).length; omega)]
    simp only [hl]
    rfl
  rw [hwr]
  have htake : s.take (s.length - 2) = at0 s 0 :: at0 s 1 :: at0 s 2 :: at0 s 3 :: (s.take (s.length - 2)).drop 4 := by
    have e3 : ∀ (l : List Int) (a b c d x y : Int), (a :: b :: c :: d :: (l ++ [x, y])).take ((a :: b :: c :: d :: (l ++ [x, y])).length - 2) = a :: b :: c :: d :: l := by
      intro l a b c d x y
      have : (a :: b :: c :: d :: (l ++ [x, y])).length - 2 = l.length + 1 + 1 + 1 + 1 := by simp
      rw [this]
      simp
    have := e3 ((s.take (s.length - 2)).drop 4) (at0 s 0) (at0 s 1) (at0 s 2) (at0 s 3) (at0 s (s.length - 2)) (at0 s (s.length - 1))
    rw [← hs] at this
    exact this
  by_cases h0 : at0 s 0 = 83
  · rw [if_neg (show ¬ (s.length < 6 ∨ at0 s 0 ≠ 83 ∨ at0 s 3 ≠ s.length - 6 ∨ 250 < at0 s 1 ∨ 250 < at0 s 2) by omega), if_neg h5]
    have hb1 := sumL_bd (s.take (s.length - 2)) 1 (by omega) (by omega)
    have e4 : [83, at0 s 1, at0 s 2, at0 s 3] ++ (s.take (s.length - 2)).drop 4 = s.take (s.length - 2) := by
      rw [← h0]
      exact htake.symm
    rw [e4]
    have e5 : s = s.take (s.length - 2) ++ [at0 s (s.length - 2), at0 s (s.length - 1)] := by
      conv => rhs; rw [htake]
      exact hs
    by_cases h6 : sumL 1 (s.take (s.length - 2)) = 256 * at0 s (s.length - 2) + at0 s (s.length - 1)
    · rw [if_neg, if_neg (by simpa using h6)]
      simp only [ne_eq, not_true_eq_false, false_or, Decidable.not_not]
      conv => rhs; rw [e5]
      congr 2
      · omega
      · congr 1
        omega
    · rw [if_pos, if_pos h6]
      refine .inr fun h => h6 ?_
      have h' : s.take (s.length - 2) ++ [sumL 1 (s.take (s.length - 2)) / 256, sumL 1 (s.take (s.length - 2)) % 256] = s.take (s.length - 2) ++ [at0 s (s.length - 2), at0 s (s.length - 1)] := by rw [← e5]; exact h
      have := List.append_cancel_left h'
      simp only [List.cons.injEq, and_true] at this
      omega
  · rw [if_pos, if_pos (.inr (.inl h0))]
    refine .inr fun h => h0 ?_
    rw [← h]
    rfl
theorem writeL_ok {p : Packet} (h : (writeL p).2 = 0) : (∀ c ∈ p.fr :: p.dst :: p.routes, 0 ≤ c ∧ c ≤ 250) ∧ p.routes.length ≤ 54 ∧
    (writeL p).1 = 83 :: p.fr :: p.dst :: (p.routes.length : Int) :: (p.routes ++ [sumL 1 (83 :: p.fr :: p.dst :: (p.routes.length : Int) :: p.routes) / 256, sumL 1 (83 :: p.fr :: p.dst :: (p.routes.length : Int) :: p.routes) % 256]) := by
  unfold writeL at h ⊢
  split at h
  · cases h
  rename_i h1
  split at h
  · cases h
  rename_i h2
  rw [if_neg h1, if_neg h2]
  refine ⟨fun c hc => ?_, by omega, rfl⟩
  rw [← fitsB_iff]
  simp only [Bool.not_eq_true, List.any_eq_false, Bool.not_eq_true, Bool.not_eq_false', Bool.not_eq_eq_eq_not, Bool.not_true, Bool.not_false] at h1
  simpa using h1 c hc
theorem writeL_bytes {p : Packet} (h : (writeL p).2 = 0) : ∀ c ∈ (writeL p).1, 0 ≤ c ∧ c ≤ 255 := by
  obtain ⟨h1, h2, h3⟩ := writeL_ok h
  rw [h3]
  have := sumL_bd (83 :: p.fr :: p.dst :: (p.routes.length : Int) :: p.routes) 1 (by omega) (by omega)
  intro c hc
  simp only [List.mem_cons, List.mem_append, List.not_mem_nil, or_false] at hc
  rcases hc with rfl | rfl | rfl | rfl | hc | rfl | rfl
  · omega
  · have := h1 p.fr (by simp); omega
  · have := h1 p.dst (by simp); omega
  · omega
  · have := h1 c (by simp [hc]); omega
  · omega
  · omega
theorem writeL_length {p : Packet} (h : (writeL p).2 = 0) : (writeL p).1.length = p.routes.length + 6 := by
  rw [(writeL_ok h).2.2]
  simp
end Go.Proofs.YtephecognbbaoabGreat
namespace Go.Proofs.YtephecognbbaoabGreat
theorem sum_calls (l : List Int) (hl : l.length ≤ 1000) (hb : ∀ c ∈ l, 0 ≤ c ∧ c ≤ 255) (σ : Store) : ACalls Tryz.prog 86 [bytesA l] σ fun r σ' => σ' = σ ∧ r = intA1 (sumL 1 l) := by
  refine ACalls_of_awp Tryz.func86 rfl Tryz.results86 ?_
  simp only [List.length_cons, List.length_nil, Tryz.ntmps86, Nat.reduceAdd, Nat.reduceSub, enterA]
  (repeat' (first|(refine g_s fun K hK=>?_)|(refine g_b ?_)|(refine g_g ?_;(try simp -implicitDefEqProofs only[go_sem]))|(with_reducible refine hK _ _ ?_;clear hK K)|fail))
  refine AWP_each l (fun _ r s => sumL 1 l = sumL s r ∧ 0 ≤ s ∧ s < 65521) (fun k s _ => [(3, intA1 s), (8, intA1 k)]) (fun _ _ _ => σ) 1 [] ?_ ?_ (ALe_of ?_) ?_ ?_
  · simp
  · rfl
  · simp -implicitDefEqProofs only [go_sem]
  · rintro k r s τ hk0 hk1 ⟨h1, h2, h3⟩ L hL
    have hc := hb _ (at0_mem l hk0 hk1)
    simp -implicitDefEqProofs only [go_sem]
    (repeat' (first|(refine g_s fun K hK=>?_)|(refine g_b ?_)|(refine g_k ?_;simp only[thenQ,blockQ])|(refine g_c (fun h=>?_) (fun h=>?_)<;>(try simp only[go_sem] at h)<;>(try exact g_f))|(refine g_g ?_;(try simp -implicitDefEqProofs only[go_sem]))|(with_reducible refine hK _ _ ?_;clear hK K)|(with_reducible refine And.intro ?_ ?_;· exact g_x)|fail))
    refine hL ((s * 31 + at0 l k) % 65521) [] _ _ ⟨by rw [h1, sumL], by omega, by omega⟩ (ALe_of ?_) rfl
    simp -implicitDefEqProofs only [go_sem]
    rw [Int.tmod_eq_emod_of_nonneg (by omega)]
  · rintro k s τ hk ⟨h1, h2, h3⟩ L
    simp -implicitDefEqProofs only [go_sem]
    (repeat' (first|(refine g_s fun K hK=>?_)|(refine g_e ?_;simp only[thenQ,blockQ,↓reduceIte,Nat.reduceEqDiff])|(refine g_c (fun h=>?_) (fun h=>?_)<;>(try simp only[go_sem] at h)<;>(try exact g_f))|((first|refine g_t ?_|refine g_g ?_);(try simp -implicitDefEqProofs only[go_sem]))|(with_reducible refine hK _ _ ?_;clear hK K)|(clear hK K;first|(with_reducible refine hK _ _ ?_;clear hK K)|(clear hK K;with_reducible refine hK _ _ ?_;clear hK K)|(clear hK K;clear hK K;with_reducible refine hK _ _ ?_;clear hK K))|fail))
    rw [h1, sumL]
theorem numsA_cons (n : Int) (r : List (List AV)) : numsA ([.c (.int .u8 n)] :: r) = (numsA r).map fun l => n :: l := rfl
theorem numsA_nil : numsA [] = some [] := rfl
theorem numsA_bad {e : List AV} (h : ∀ n, e ≠ [.c (.int .u8 n)]) (r : List (List AV)) : numsA (e :: r) = none := by
  unfold numsA
  split
  · rename_i h'; cases h'
  · rename_i n r' h'
    cases h'
    exact (h _ rfl).elim
  · rfl
theorem numsA_app : ∀ (a b : List (List AV)), numsA (a ++ b) = (numsA a).bind fun x => (numsA b).map fun y => x ++ y
  | [], b => by simp [numsA]
  | e :: r, b => by
    rw [List.cons_append]
    have ih := numsA_app r b
    by_cases h : ∃ n, e = [.c (.int .u8 n)]
    · obtain ⟨n, rfl⟩ := h
      rw [numsA_cons, numsA_cons, ih]
      cases numsA r <;> cases numsA b <;> rfl
    · have h' : ∀ n, e ≠ [.c (.int .u8 n)] := fun n e => h ⟨n, e⟩
      rw [numsA_bad h', numsA_bad h']
      rfl
theorem numsA_map : ∀ (l : List Int), numsA (l.map fun c => [.c (.int .u8 c)]) = some l
  | [] => rfl
  | c :: l => by simp [numsA, numsA_map l]
theorem u8_id {x : Int} (h : 0 ≤ x) (h' : x ≤ 255) : IntKind.u8.wrap x = x := by
  have e : (2 : Int) ^ IntKind.u8.bits = 256 := rfl
  have e2 : IntKind.u8.signed = false := rfl
  simp only [IntKind.wrap, e, e2, Bool.false_and, if_false, Bool.false_eq_true]
  omega
theorem u8_mod (x : Int) : IntKind.u8.wrap x = x % 256 := by
  have e : (2 : Int) ^ IntKind.u8.bits = 256 := rfl
  have e2 : IntKind.u8.signed = false := rfl
  simp only [IntKind.wrap, e, e2, Bool.false_and, if_false, Bool.false_eq_true]
theorem u8_shr8 {x : Int} (h : 0 ≤ x) (h' : x < 65536) : IntKind.u8.wrap (x.fdiv (2 ^ min 8 64)) = x / 256 := by
  have e : (2 : Int) ^ min 8 64 = 256 := rfl
  rw [e, Int.fdiv_eq_ediv_of_nonneg _ (by omega), u8_id (by omega) (by omega)]
theorem numsA_byteC (l : List Int) : numsA (l.map byteC) = some l := numsA_map l
theorem sum_own (l : List Int) (hl : l.length ≤ 1000) (hb : ∀ c ∈ l, 0 ≤ c ∧ c ≤ 255) (σ : Store) {b n c : Nat} (he : elemsA σ (.own b 1 0 n c) = some (l.map byteC)) :
    ACalls Tryz.prog 86 [.own b 1 0 n c] σ fun r σ' => σ' = σ ∧ r = intA1 (sumL 1 l) := by
  refine (ACalls.borrow (args := [.own b 1 0 n c]) (args' := [bytesA l]) (R := fun v => v = .int .i64 (sumL 1 l)) (And.intro (.inr ⟨_, he, rfl⟩) trivial) fun τ => ?_).mono ?_
  · exact (sum_calls l hl hb τ).mono fun _ _ ⟨h1, h2⟩ => ⟨h1, _, h2, rfl⟩
  · rintro r σ' ⟨h1, v, rfl, rfl⟩
    exact ⟨h1, rfl⟩
theorem fits_calls (n : Int) (σ : Store) : ACalls Tryz.prog 85 [intA1 n] σ fun r σ' => σ' = σ ∧ r = .c (.bool (fitsB n)) := by
  refine ACalls_of_awp Tryz.func85 rfl Tryz.results85 ?_
  simp only [List.length_cons, List.length_nil, Tryz.ntmps85, Nat.reduceAdd, Nat.reduceSub, enterA]
  (repeat' (first|(refine g_s fun K hK=>?_)|((first|refine g_t ?_|refine g_g ?_);(try simp -implicitDefEqProofs only[go_sem]))|(with_reducible refine hK _ _ ?_;clear hK K)|(with_reducible refine splitB_intro (fun h=>?_) (fun h=>?_)<;>(try simp only[go_sem] at h)<;>(try exact g_f)<;>(try simp -implicitDefEqProofs only[go_sem]))|fail))
  all_goals (simp [fitsB]; omega)
theorem write1_calls (n : Int) (σ : Store) : ACalls Tryz.prog 84 [intA1 n] σ fun r σ' => σ' = σ ∧ r = .c (.bool (!fitsB n)) := by
  refine ACalls_of_awp Tryz.func84 rfl Tryz.results84 ?_
  simp only [List.length_cons, List.length_nil, Tryz.ntmps84, Nat.reduceAdd, Nat.reduceSub, enterA]
  (repeat' (first|(refine g_s fun K hK=>?_)|((first|refine g_t ?_|refine g_g ?_|refine (fits_calls _ _).use ?_);(try simp -implicitDefEqProofs only[go_sem]))|(with_reducible refine hK _ _ ?_;clear hK K)|fail))
def packetC (p : Packet) : List AV := [.c (.int .i64 p.fr), .c (.int .i64 p.dst), intsA p.routes]
attribute [go_sem] packetC
theorem write_calls (p : Packet) (hl : p.routes.length ≤ 17592186044000) (σ : Store) : ACalls Tryz.prog 68 [.agg (packetC p)] σ fun r σ' => σ' = σ ∧ r = .tup [.c (.string (strOfNums (writeL p).1)), .c (.int .i64 (writeL p).2)] := by
  refine ACalls.cut ?_
  refine ACalls_of_awp Tryz.func68 rfl Tryz.results68 ?_
  simp only [List.length_cons, List.length_nil, Tryz.ntmps68, Nat.reduceAdd, Nat.reduceSub, enterA]
  refine AWP_seq_k fun K hK => ?_
  (refine AWP_region ?_; simp -implicitDefEqProofs only [go_sem])
  refine hK _ _ ?_; clear hK K
  refine AWP_freezeP 1 rfl (by simp only [st0]; rfl) ?_
  simp only [ss0, List.set_cons_zero]
  refine AWP_seq_v (ι := Store) (fun _ => [(1, .cp (packetC p) 0), (2, .c (.string (strOfNums []))), (3, intA1 0), (4, intsA (p.fr :: p.dst :: p.routes))]) (fun τ => σ ++ τ) (fun τ => ?_) (fun J hJ hV => ?_)
  · (repeat' (first|(refine g_s fun K hK=>?_)|(refine g_b ?_)|(refine g_k ?_;simp only[thenQ,blockQ])|(refine g_c (fun h=>?_) (fun h=>?_)<;>(try simp only[go_sem] at h)<;>(try exact g_f))|((first|refine g_t ?_|refine g_g ?_|refine (containsFunc_int (p.fr :: p.dst :: p.routes) (fun n => !fitsB n) 84 [] [] (σ ++ τ) (by simp; omega) (by simp only [go_sem]) (fun x _ => write1_calls x _)).use ?_);(try simp -implicitDefEqProofs only[go_sem]))|(with_reducible refine hK _ _ ?_;clear hK K)|(with_reducible refine And.intro ?_ ?_;· exact g_x)|fail))
    · exact ⟨bd2 _ _, by simp only [writeL, h, if_true]; rfl⟩
    · rename_i h1
      have h : 54 < p.routes.length := by omega
      exact ⟨bd2 _ _, by simp only [writeL, h1, h, if_true, if_false, Bool.false_eq_true]; rfl⟩
    · rename_i h1
      have hfr : 0 ≤ p.fr ∧ p.fr ≤ 250 := by simp [fitsB] at h1; omega
      have hdst : 0 ≤ p.dst ∧ p.dst ≤ 250 := by simp [fitsB] at h1; omega
      have hrt : ∀ x ∈ p.routes, 0 ≤ x ∧ x ≤ 250 := by simp [fitsB] at h1; exact h1.2.2
      simp only [u8_id hfr.1 (by omega : p.fr ≤ 255), u8_id hdst.1 (by omega : p.dst ≤ 255), u8_id (by omega : 0 ≤ (p.routes.length : Int)) (by omega)]
      have hJ' := hK
      clear hK
      refine AWP_each p.routes (fun k r bs => bs ++ r = [83, p.fr, p.dst, (p.routes.length : Int)] ++ p.routes ∧ bs.length = k + 4) (fun k bs τ => [(5, .own (σ.length + τ.length) 1 0 bs.length bs.length), (39, intA1 k)])
        (fun _ bs τ => σ ++ (τ ++ [.cells 1 (bs.map byteC)])) [83, p.fr, p.dst, (p.routes.length : Int)] τ ⟨rfl, rfl⟩ rfl (ALe_of ?_) ?_ ?_
      · simp -implicitDefEqProofs only [go_sem]
      · rintro k r bs τ' hk0 hk1 ⟨h2, h3⟩ L hL
        have hr := hrt _ (at0_mem p.routes hk0 hk1)
        have hw := u8_id hr.1 (Int.le_trans hr.2 (by omega))
        simp -implicitDefEqProofs only [go_sem]
        (repeat' (first|(refine g_s fun K hK=>?_)|(refine g_b ?_)|(refine g_k ?_;simp only[thenQ,blockQ])|(refine g_c (fun h=>?_) (fun h=>?_)<;>(try simp only[go_sem] at h)<;>(try exact g_f))|(refine g_g ?_;(try simp -implicitDefEqProofs only[go_sem,hw]))|(with_reducible refine hK _ _ ?_;clear hK K)|(with_reducible refine And.intro ?_ ?_;· exact g_x)|fail))
        refine hL (bs ++ [at0 p.routes k]) (τ' ++ [Ob.dead, Ob.cells 1 [[AV.c (Value.int IntKind.u8 (at0 p.routes k))]]]) _ _ ⟨by rw [← h2]; simp, by simp; omega⟩ (ALe_of ?_) (by simp [byteC])
        simp -implicitDefEqProofs only [go_sem]
      · rintro k bs τ' rfl ⟨h2, h3⟩ L
        have hbs : ∀ c ∈ [83, p.fr, p.dst, (p.routes.length : Int)] ++ p.routes, 0 ≤ c ∧ c ≤ 255 := fun c hc => by
          simp only [List.cons_append, List.nil_append, List.mem_cons] at hc
          rcases hc with rfl | rfl | rfl | rfl | hc
          · omega
          · omega
          · omega
          · omega
          · have := hrt c hc; omega
        rw [List.append_nil] at h2
        subst h2
        simp -implicitDefEqProofs only [go_sem]
        (repeat' (first|(refine g_s fun K hK=>?_)|(refine g_e ?_;simp only[thenQ,blockQ,↓reduceIte,Nat.reduceEqDiff])|(refine g_c (fun h=>?_) (fun h=>?_)<;>(try simp only[go_sem] at h)<;>(try exact g_f))|(refine g_g ?_;(try simp -implicitDefEqProofs only[go_sem]))|(with_reducible refine hK _ _ ?_;clear hK K)|fail))
        refine hJ' _ _ ?_
        clear hJ'
        have hS := sumL_bd (83 :: p.fr :: p.dst :: (p.routes.length : Int) :: p.routes) 1 (by omega) (by omega)
        have v1 := u8_shr8 hS.1 (by omega)
        have v2 := u8_mod (sumL 1 (83 :: p.fr :: p.dst :: (p.routes.length : Int) :: p.routes))
        (repeat' (first|(refine g_s fun K hK=>?_)|((first|refine g_t ?_|refine g_g ?_|refine (sum_own _ (by simp; omega) hbs _ (elemsA_st _ _ _ _ (by simp))).use ?_);(try simp -implicitDefEqProofs only[go_sem,numsA_app, numsA_byteC, numsA_cons, numsA_nil, v1, v2]))|(with_reducible refine hK _ _ ?_;clear hK K)|(with_reducible refine And.intro ?_ ?_;· exact g_x)|fail))
        refine ⟨bd2 _ _, ?_⟩
        rw [writeL, h1, if_neg (by simp), if_neg (by omega)]
        simp
  · (refine AWP_region ?_; simp -implicitDefEqProofs only [go_sem])
    (repeat' (first|(with_reducible refine And.intro ?_ ?_;· exact g_x)|fail))
    refine hJ _ _ (AWP_freezeAll 4 rfl (by simp -implicitDefEqProofs only [go_sem]; rfl) (by simp <;> omega) ?_)
    simp -implicitDefEqProofs only [go_sem]
    refine AWPr.weak (ALe_of ?_) (hV _)
    simp -implicitDefEqProofs only [go_sem]
    exact ⟨rfl, rfl⟩
end Go.Proofs.YtephecognbbaoabGreat
namespace Go.Proofs.YtephecognbbaoabGreat
/-- A string's bytes. -/
def numsS (s : ByteArray) : List Int := s.data.toList.map fun b => (b.toNat : Int)
theorem numsS_size (s : ByteArray) : s.size = (numsS s).length := by rw [numsS, List.length_map]; rfl
theorem numsS_range (s : ByteArray) : ∀ c ∈ numsS s, 0 ≤ c ∧ c ≤ 255 := fun c hc => by
  simp only [numsS, List.mem_map] at hc
  obtain ⟨b, _, rfl⟩ := hc
  have := b.toNat_lt
  omega
theorem str_numsS (s : ByteArray) : strOfNums (numsS s) = s := by
  have : (numsS s).map (fun n => UInt8.ofNat n.toNat) = s.data.toList := by
    simp [numsS, List.map_map, Function.comp_def]
  unfold strOfNums
  rw [this]
theorem numsS_str (l : List Int) (h : ∀ c ∈ l, 0 ≤ c ∧ c ≤ 255) : numsS (strOfNums l) = l := by
  simp only [numsS, strOfNums_data, List.map_map]
  conv => rhs; rw [← List.map_id l]
  refine List.map_congr_left fun c hc => ?_
  have := h c hc
  simp only [Function.comp, id, UInt8.toNat_ofNat']
  omega
theorem str_append (a b : List Int) : strOfNums a ++ strOfNums b = strOfNums (a ++ b) := by
  apply ByteArray.ext
  simp [strOfNums]
theorem numsS_inj {s t : ByteArray} (h : numsS s = numsS t) : s = t := by rw [← str_numsS s, h, str_numsS]
theorem at0_range {l : List Int} (h : ∀ c ∈ l, 0 ≤ c ∧ c ≤ 255) (k : Int) : 0 ≤ at0 l k ∧ at0 l k ≤ 255 := by
  unfold at0
  rw [List.getD_eq_getElem?_getD]
  rcases Nat.lt_or_ge k.toNat l.length with h1 | h1
  · rw [List.getElem?_eq_getElem h1]
    exact h _ (List.getElem_mem h1)
  · rw [List.getElem?_eq_none h1]
    simp [default]
/-- A byte that is read, as a number. -/
theorem u8_at {l : List Int} (h : ∀ c ∈ l, 0 ≤ c ∧ c ≤ 255) (k : Int) : ((UInt8.ofNat (at0 l k).toNat).toNat : Int) = at0 l k := by
  have := at0_range h k
  simp only [UInt8.toNat_ofNat']
  omega
theorem on_str (l : List Int) (k : Int) (K : UInt8 → Prop) : on (strOfNums l)[k.toNat]? K = (k.toNat < l.length ∧ K (UInt8.ofNat (at0 l k).toNat)) := by
  rcases Nat.lt_or_ge k.toNat l.length with h | h
  · have hk' : k.toNat < (strOfNums l).size := by rw [strOfNums_size]; exact h
    rw [getElem?_pos (strOfNums l) k.toNat hk']
    have e : (strOfNums l)[k.toNat] = UInt8.ofNat (at0 l k).toNat := by
      have : (strOfNums l)[k.toNat] = (strOfNums l).data.toList[k.toNat]'(by rw [strOfNums_data]; simpa using h) := rfl
      rw [this]
      simp [strOfNums_data, at0, List.getD_eq_getElem?_getD, h]
    rw [e]
    simp [on, h]
  · have hn : (strOfNums l)[k.toNat]? = none := by
      rw [getElem?_neg]
      rw [strOfNums_size]
      omega
    rw [hn]
    exact propext ⟨fun h' => h'.elim, fun h' => absurd h'.1 (Nat.not_lt.2 h)⟩
theorem on_str0 (l : List Int) (K : UInt8 → Prop) : on (strOfNums l)[0]? K = (0 < l.length ∧ K (UInt8.ofNat (at0 l 0).toNat)) := on_str l 0 K
theorem on_str1 (l : List Int) (K : UInt8 → Prop) : on (strOfNums l)[1]? K = (1 < l.length ∧ K (UInt8.ofNat (at0 l 1).toNat)) := on_str l 1 K
theorem on_str2 (l : List Int) (K : UInt8 → Prop) : on (strOfNums l)[2]? K = (2 < l.length ∧ K (UInt8.ofNat (at0 l 2).toNat)) := on_str l 2 K
theorem on_str3 (l : List Int) (K : UInt8 → Prop) : on (strOfNums l)[3]? K = (3 < l.length ∧ K (UInt8.ofNat (at0 l 3).toNat)) := on_str l 3 K
theorem str_extract (l : List Int) (a b : Nat) : (strOfNums l).extract a b = strOfNums ((l.take b).drop a) := by
  apply ByteArray.ext
  apply Array.ext'
  show ((strOfNums l).extract a b).data.toList = (strOfNums ((l.take b).drop a)).data.toList
  rw [ByteArray.data_extract, Array.toList_extract, strOfNums_data, strOfNums_data]
  simp [List.extract_eq_take_drop, List.map_take, List.map_drop, List.drop_take]
theorem str_bytes {l : List Int} (h : ∀ c ∈ l, 0 ≤ c ∧ c ≤ 255) : ((strOfNums l).data.toList.map fun b => [AV.c (.int .u8 b.toNat)]) = l.map byteC := by
  rw [strOfNums_data, List.map_map]
  refine List.map_congr_left fun c hc => ?_
  have := h c hc
  simp only [Function.comp, byteC, UInt8.toNat_ofNat']
  congr 3
  omega
theorem str_eq (s t : ByteArray) : (s.toList == t.toList) = decide (numsS s = numsS t) := by
  rw [ByteArray.toList_eq, ByteArray.toList_eq]
  by_cases h : numsS s = numsS t
  · have := numsS_inj h
    subst this
    simp
  · have h' : s.data.toList ≠ t.data.toList := fun e => h (by rw [numsS, numsS, e])
    simp only [h, decide_false, beq_eq_false_iff_ne, ne_eq]
    exact h'
theorem str_same {a b : List Int} (ha : ∀ c ∈ a, 0 ≤ c ∧ c ≤ 255) (hb : ∀ c ∈ b, 0 ≤ c ∧ c ≤ 255) : ((strOfNums a).toList == (strOfNums b).toList) = decide (a = b) := by
  rw [str_eq, numsS_str a ha, numsS_str b hb]
theorem str_empty : ByteArray.empty = strOfNums [] := rfl
theorem str_empty' : ByteArray.mk #[] = strOfNums [] := rfl
attribute [go_sem] numsA_cons numsA_nil numsA_byteC numsA_app strOfNums_size str_append on_str on_str0 on_str1 on_str2 on_str3 str_extract str_empty str_empty'
end Go.Proofs.YtephecognbbaoabGreat
namespace Go.Proofs.YtephecognbbaoabGreat
theorem str_iff {a b : List Int} (ha : ∀ c ∈ a, 0 ≤ c ∧ c ≤ 255) (hb : ∀ c ∈ b, 0 ≤ c ∧ c ≤ 255) : (strOfNums a).toList = (strOfNums b).toList ↔ a = b := by
  have := str_same ha hb
  by_cases h : a = b
  · simp [h]
  · simp only [h, decide_false, beq_eq_false_iff_ne, ne_eq, iff_false] at this ⊢
    exact this
theorem read_calls (l : List Int) (hl : l.length ≤ 140737488351232) (hb : ∀ c ∈ l, 0 ≤ c ∧ c ≤ 255) (σ : Store) : ACalls Tryz.prog 69 [.c (.string (strOfNums l))] σ fun r σ' => σ' = σ ∧ r = .tup [.agg (packetC (readL l).1), .c (.int .i64 (readL l).2)] := by
  refine ACalls.cutX ?_
  have r1 := at0_range hb 1
  have r2 := at0_range hb 2
  have r3 := at0_range hb 3
  refine ACalls_of_awp Tryz.func69 rfl Tryz.results69 ?_
  simp only [List.length_cons, List.length_nil, Tryz.ntmps69, Nat.reduceAdd, Nat.reduceSub, enterA]
  (repeat' (first|(refine g_s fun K hK=>?_)|(refine g_b ?_)|(refine g_k ?_;simp only[thenQ,blockQ])|(refine g_c (fun h=>?_) (fun h=>?_)<;>(try simp only[go_sem] at h)<;>(try exact g_f))|((first|refine g_t ?_|refine g_g ?_|refine g_A ?_);(try simp -implicitDefEqProofs only[go_sem,u8_at hb]))|(with_reducible refine hK _ _ ?_;clear hK K)|(with_reducible refine splitB_intro (fun h=>?_) (fun h=>?_)<;>(try simp only[go_sem] at h)<;>(try exact g_f)<;>(try simp -implicitDefEqProofs only[go_sem,u8_at hb]))|(with_reducible refine And.intro ?_ ?_;· exact g_x)|fail))
  · have e : readL l = (⟨0, 0, []⟩, 2) := by rw [readL, if_pos (by omega)]
    rw [e]
    refine CutQ_w rfl ?_ ?_
    · (repeat' (first | exact Bd.c _ | exact Bd.emp | exact BdL.nil | exact Bd.ints _ | refine Bd.aggL ?_ | refine Bd.tupL ?_ | refine BdL.cons ?_ ?_))
    · (repeat' (first | exact Wk.nil | exact Wk.emp | exact WkL.nil | (with_reducible exact Wk.refl _) | refine Wk.agg ?_ | refine Wk.tup ?_ | refine WkL.cons ?_ ?_ | (refine Wk.eq ?_; rfl)))
  · rename_i h1 h2
    have e : readL l = (⟨0, 0, []⟩, 1) := by rw [readL, if_neg (by omega), if_pos (.inl (by omega))]
    rw [e]
    refine CutQ_w rfl ?_ ?_
    · (repeat' (first | exact Bd.c _ | exact Bd.emp | exact BdL.nil | exact Bd.ints _ | refine Bd.aggL ?_ | refine Bd.tupL ?_ | refine BdL.cons ?_ ?_))
    · (repeat' (first | exact Wk.nil | exact Wk.emp | exact WkL.nil | (with_reducible exact Wk.refl _) | refine Wk.agg ?_ | refine Wk.tup ?_ | refine WkL.cons ?_ ?_ | (refine Wk.eq ?_; rfl)))
  · rename_i h1 h2
    have e : readL l = (⟨0, 0, []⟩, 1) := by rw [readL, if_neg (by omega), if_pos (.inr (by omega))]
    rw [e]
    refine CutQ_w rfl ?_ ?_
    · (repeat' (first | exact Bd.c _ | exact Bd.emp | exact BdL.nil | exact Bd.ints _ | refine Bd.aggL ?_ | refine Bd.tupL ?_ | refine BdL.cons ?_ ?_))
    · (repeat' (first | exact Wk.nil | exact Wk.emp | exact WkL.nil | (with_reducible exact Wk.refl _) | refine Wk.agg ?_ | refine Wk.tup ?_ | refine WkL.cons ?_ ?_ | (refine Wk.eq ?_; rfl)))
  rename_i h1 h2
  generalize hm : List.drop 4 (List.take ((l.length : Int) - 2).toNat l) = mid
  have hmb : ∀ c ∈ mid, 0 ≤ c ∧ c ≤ 255 := fun c hc => by
    subst hm
    exact hb c (List.mem_of_mem_take (List.mem_of_mem_drop hc))
  have hml : (mid.length : Int) = l.length - 6 := by
    subst hm
    simp
    omega
  rw [str_bytes hmb]
  refine AWP_pad ?_
  have hJ := hK
  clear hK
  simp -implicitDefEqProofs only [go_sem]
  refine AWP_each mid (fun k r acc => acc ++ r = mid) (fun k acc τ => [(42, intA1 k)]) (fun _ acc τ => σ ++ (.cells 3 [[.c (.int .i64 0), .c (.int .i64 0), .c (.slice none 0 0)]] :: .cells 3 [[intA1 (at0 l 1), intA1 (at0 l 2), accV 1 (σ.length + (τ.length + 3)) acc]] :: .cells 1 (mid.map byteC) :: (τ ++ [accO intC 1 acc]))) [] [] rfl ?_ ?_ ?_ ?_
  · simp -implicitDefEqProofs only [go_sem, accV, accO]
  · refine ALe_of ?_
    simp -implicitDefEqProofs only [go_sem]
  · rintro k r acc τ' hk0 hk1 h3 L hL
    have hr := hmb _ (at0_mem mid hk0 hk1)
    have hal : acc.length ≤ 60 := by have := congrArg List.length h3; simp at this; omega
    rcases acc with _ | ⟨x, acc⟩ <;> simp only [List.length_cons, List.length_nil] at hal <;> simp -implicitDefEqProofs only [go_sem, accV, accO]
    all_goals (repeat' (first|(refine g_s fun K hK=>?_)|(refine g_b ?_)|(refine g_k ?_;simp only[thenQ,blockQ])|(refine g_c (fun h=>?_) (fun h=>?_)<;>(try simp only[go_sem] at h)<;>(try exact g_f))|(refine g_g ?_;(try simp -implicitDefEqProofs only[go_sem]))|(with_reducible refine hK _ _ ?_;clear hK K)|(with_reducible refine And.intro ?_ ?_;· exact g_x)|fail))
    · refine hL [at0 mid k] (τ' ++ [.dead, .cells 1 [intC (at0 mid k)]]) _ _ (by simpa using h3) (ALe_of ?_) ?_
      · simp -implicitDefEqProofs only [go_sem]
      · simp [accV, accO, intC, intA1]
    · refine hL (x :: acc ++ [at0 mid k]) (τ' ++ [.dead, .cells 1 [intC (at0 mid k)]]) _ _ (by simpa using h3) (ALe_of ?_) ?_
      · simp -implicitDefEqProofs only [go_sem]
      · simp [accV, accO, intC, intA1]
  · rintro k acc τ' hk h3 L
    rw [List.append_nil] at h3
    subst h3
    simp -implicitDefEqProofs only [go_sem]
    (repeat' (first|(refine g_s fun K hK=>?_)|(refine g_e ?_;simp only[thenQ,blockQ,↓reduceIte,Nat.reduceEqDiff])|(refine g_c (fun h=>?_) (fun h=>?_)<;>(try simp only[go_sem] at h)<;>(try exact g_f))|(refine g_g ?_;(try simp -implicitDefEqProofs only[go_sem]))|(with_reducible refine hK _ _ ?_;clear hK K)|fail))
    refine hJ _ _ ?_
    clear hJ
    refine AWP_freezeS σ [.cells 3 [[.c (.int .i64 0), .c (.int .i64 0), .c (.slice none 0 0)]]] (.cells 1 (acc.map byteC) :: τ') [] 0 2 intC acc rfl rfl rfl (by simp; omega) ?_
    simp -implicitDefEqProofs only [go_sem]
    have hp : packetAt l = ⟨at0 l 1, at0 l 2, acc⟩ := by
      unfold packetAt
      congr 1
      rw [← hm]
      congr 2
      omega
    have hrd : readL l = if (writeL ⟨at0 l 1, at0 l 2, acc⟩).2 ≠ 0 ∨ (writeL ⟨at0 l 1, at0 l 2, acc⟩).1 ≠ l then (⟨0, 0, []⟩, 1) else (⟨at0 l 1, at0 l 2, acc⟩, 0) := by
      rw [readL, if_neg (by omega), if_neg (by omega), hp]
    (repeat' (first|(refine g_s fun K hK=>?_)|(refine g_k ?_;simp only[thenQ,blockQ])|(refine g_c (fun h=>?_) (fun h=>?_)<;>(try simp only[go_sem] at h)<;>(try exact g_f))|((first|refine g_t ?_|refine g_g ?_|refine (write_calls ⟨at0 l 1, at0 l 2, acc⟩ (by show acc.length ≤ _; omega) _).use ?_);(try simp -implicitDefEqProofs only[go_sem]))|(with_reducible refine hK _ _ ?_;clear hK K)|(with_reducible refine splitB_intro (fun h=>?_) (fun h=>?_)<;>(try simp only[go_sem] at h)<;>(try exact g_f)<;>(try simp -implicitDefEqProofs only[go_sem]))|fail))
    · rename_i h9
      rw [hrd, if_pos (.inl h9)]
      refine CutQ_w rfl ?_ ?_
      · (repeat' (first | exact Bd.c _ | exact Bd.emp | exact BdL.nil | exact Bd.ints _ | refine Bd.aggL ?_ | refine Bd.tupL ?_ | refine BdL.cons ?_ ?_))
      · (repeat' (first | exact Wk.nil | exact Wk.emp | exact WkL.nil | (with_reducible exact Wk.refl _) | refine Wk.agg ?_ | refine Wk.tup ?_ | refine WkL.cons ?_ ?_ | (refine Wk.eq ?_; rfl)))
    · rename_i h9
      rw [hrd, if_pos (.inr fun e => h (by rw [e]))]
      refine CutQ_w rfl ?_ ?_
      · (repeat' (first | exact Bd.c _ | exact Bd.emp | exact BdL.nil | exact Bd.ints _ | refine Bd.aggL ?_ | refine Bd.tupL ?_ | refine BdL.cons ?_ ?_))
      · (repeat' (first | exact Wk.nil | exact Wk.emp | exact WkL.nil | (with_reducible exact Wk.refl _) | refine Wk.agg ?_ | refine Wk.tup ?_ | refine WkL.cons ?_ ?_ | (refine Wk.eq ?_; rfl)))
    · rename_i h9
      rw [str_iff (writeL_bytes h9) hb] at h
      rw [hrd, if_neg (by rintro (h' | h'); exact h' h9; exact h' h)]
      refine CutQ_w rfl ?_ ?_
      · (repeat' (first | exact Bd.c _ | exact Bd.emp | exact BdL.nil | exact Bd.ints _ | refine Bd.aggL ?_ | refine Bd.tupL ?_ | refine BdL.cons ?_ ?_))
      · (repeat' (first | exact Wk.nil | exact Wk.emp | exact WkL.nil | (with_reducible exact Wk.refl _) | refine Wk.agg ?_ | refine Wk.tup ?_ | refine WkL.cons ?_ ?_ | (refine Wk.eq ?_; rfl)))
theorem at0_dropB (l : List Int) (n : Nat) (j m : Nat) (hm : n + j < m) : at0 ((l.take m).drop n) (j : Int) = at0 l ((n : Int) + j) := by
  simp only [at0, List.getD_eq_getElem?_getD, List.getElem?_drop, Int.toNat_natCast]
  rw [List.getElem?_take_of_lt hm]
  congr 3
end Go.Proofs.YtephecognbbaoabGreat
/- Turns of nodes, one at a time: in plain Lean. -/
namespace Go.Proofs.YtephecognbbaoabGreat
structure Trn where
  act : List Bool
  ages : List (List Int)
deriving Inhabited
def turnErr (n : Net) (t : Trn) : Int :=
  if (t.act.length : Int) ≠ n.nodes ∨ (t.ages.length : Int) ≠ n.nodes ∨ t.ages.any (fun r => decide ((r.length : Int) ≠ n.nodes)) = true then 1
  else if t.ages.any (fun r => r.any fun v => !inR v 1 20) then 3
  else 0
def turnsErr (n : Net) : List Trn → Int
  | [] => 0
  | t :: r => if turnErr n t ≠ 0 then turnErr n t else turnsErr n r
def checkT (n : Net) (t : List Trn) : Int := if checkN n ≠ 0 then checkN n else if t.length > 200 then 2 else turnsErr n t
structure TrnIn (n : Net) (t : Trn) : Prop where
  act : (t.act.length : Int) = n.nodes
  len : (t.ages.length : Int) = n.nodes
  row : ∀ r ∈ t.ages, (r.length : Int) = n.nodes
  val : ∀ r ∈ t.ages, ∀ v ∈ r, 1 ≤ v ∧ v ≤ 20
/-- How old a state a turn uses. -/
def usedA (u : Trn) (k i to : Int) : Int := max 0 (k + 1 - at2 u.ages i to)
def nextT (n : Net) (out : List (List (List Int))) (k : Int) (u : Trn) : List (List Int) :=
  (ints n.nodes).map fun i => if at0 u.act i then (ints n.nodes).map (fun j => routeL n i j (fun to => at2 (at0 out (usedA u k i to)) to j) n.links) else at0 (at0 out k) i
/-- All states that come. -/
def runF (n : Net) : Int → List Trn → List (List (List Int)) → List (List (List Int))
  | _, [], out => out
  | k, u :: r, out => runF n (k + 1) r (out ++ [nextT n out k u])
def runA (n : Net) (x : List (List Int)) (t : List Trn) : List (List (List Int)) := runF n 0 t [x]
theorem at0_ext {X : Type} [Inhabited X] {a b : List X} (hl : a.length = b.length) (h : ∀ k : Int, 0 ≤ k → k < a.length → at0 a k = at0 b k) : a = b := by
  apply List.ext_getElem hl
  intro i h1 h2
  have := h i (by omega) (by omega)
  simpa [at0, List.getD_eq_getElem?_getD, h1, h2] using this
theorem routeL_in {n : Net} (hc : checkN n = 0) (i j : Int) (has : Int → Int) (hh : ∀ k, 0 ≤ k → k < n.nodes → 0 ≤ has k ∧ has k < n.alg.size) : 0 ≤ routeL n i j has n.links ∧ routeL n i j has n.links < n.alg.size := by
  rw [route_eq hc i j has hh]
  exact routeR_in (netIn_of hc) i j has hh
/-- As the document has it. -/
def cellT (n : Net) (out : List (List (List Int))) (k : Int) (u : Trn) (i j : Int) : Int :=
  if at0 u.act i then routeR n i j (fun to => at2 (at0 out (usedA u k i to)) to j) else at2 (at0 out k) i j
end Go.Proofs.YtephecognbbaoabGreat
/- Nets whose algebra is strict settle, always to the same state: in plain Lean. -/
namespace Go.Proofs.YtephecognbbaoabGreat
section
variable {n : Net}
/-- In range. -/
def InV (n : Net) (a : Int) : Prop := 0 ≤ a ∧ a < n.alg.size
/-- At least as good. -/
def Le (n : Net) (a b : Int) : Prop := bestA n a b = a
theorem best_select (h : NetIn n) {a b : Int} (ha : InV n a) (hb : InV n b) : bestA n a b = a ∨ bestA n a b = b := by
  have hm : (⟨3, a, b, 0, 0⟩ : Brk) ∈ casesA n.alg 3 := mem_cases.2 ⟨rfl, ha, hb, ⟨Int.le_refl _, show (0 : Int) < 1 by decide⟩, ⟨Int.le_refl _, show (0 : Int) < 1 by decide⟩⟩
  have := holds_seven h hm (show (3 : Int) ∈ seven by decide)
  have e : holdsA n.alg ⟨3, a, b, 0, 0⟩ = (decide (at2 n.alg.best a b = a) || decide (at2 n.alg.best a b = b)) := rfl
  rw [e] at this
  simp only [Bool.or_eq_true, decide_eq_true_eq] at this
  exact this
theorem inv_in (h : NetIn n) : InV n (n.alg.size - 1) := ⟨by have := h.alg.s2; omega, by omega⟩
def StrictA (n : Net) : Prop := (brokenA n.alg [8]).law = 0
theorem le_refl (h : NetIn n) {a : Int} (ha : InV n a) : Le n a a := by
  rcases best_select h ha ha with e | e <;> exact e
theorem le_antisymm (h : NetIn n) {a b : Int} (ha : InV n a) (hb : InV n b) (h1 : Le n a b) (h2 : Le n b a) : a = b := by
  unfold Le at h1 h2
  rw [← h1, best_comm h ha hb, h2]
theorem le_trans (h : NetIn n) {a b c : Int} (ha : InV n a) (hb : InV n b) (hc : InV n c) (h1 : Le n a b) (h2 : Le n b c) : Le n a c := by
  unfold Le at *
  have := best_assoc h ha hb hc
  rw [h2, h1] at this
  exact this.symm
theorem le_total (h : NetIn n) {a b : Int} (ha : InV n a) (hb : InV n b) : Le n a b ∨ Le n b a := by
  rcases best_select h ha hb with e | e
  · exact .inl e
  · right
    unfold Le
    rw [best_comm h hb ha]
    exact e
/-- How many are better. -/
def rank (n : Net) (v : Int) : Nat := ((ints n.alg.size).filter fun w => decide (bestA n w v = w) && !decide (w = v)).length
/-- Where two states differ, both are of rank t or more. -/
def Agree (n : Net) (t : Nat) (x y : List (List Int)) : Prop := ∀ i j, 0 ≤ i ∧ i < n.nodes → 0 ≤ j ∧ j < n.nodes → at2 x i j ≠ at2 y i j → t ≤ rank n (at2 x i j) ∧ t ≤ rank n (at2 y i j)
def iter (n : Net) : Nat → List (List Int) → List (List Int)
  | 0, x => x
  | t + 1, x => iter n t (roundA n x)
end
end Go.Proofs.YtephecognbbaoabGreat
/- Where to: the program's way and the document's find the same: in plain Lean. -/
namespace Go.Proofs.YtephecognbbaoabGreat
section
variable {n : Net}
/-- As the program finds it. -/
def toL (n : Net) (i j : Int) (has : Int → Int) : Int :=
  if i = j then -1
  else if routeL n i j has n.links = n.alg.size - 1 then -1
  else match (ints n.nodes).find? fun k => decide (0 ≤ edgeOf n i k) && decide (overA n (edgeOf n i k) (has k) = routeL n i j has n.links) with
  | some k => k
  | none => -1
/-- As the document does. -/
def toStep (n : Net) (i : Int) (has : Int → Int) (b : Int × Int) (k : Int) : Int × Int :=
  if 0 ≤ edgeOf n i k then (if bestA n b.1 (overA n (edgeOf n i k) (has k)) ≠ b.1 then (overA n (edgeOf n i k) (has k), k) else b) else b
def toR (n : Net) (i j : Int) (has : Int → Int) : Int := if i = j then -1 else ((ints n.nodes).foldl (toStep n i has) (n.alg.size - 1, -1)).2
theorem edge_in (h : NetIn n) {i k : Int} (he : 0 ≤ edgeOf n i k) : edgeOf n i k < n.alg.edges.length := by
  unfold edgeOf at he ⊢
  cases hfd : n.links.find? fun l => decide (l.fr = i) && decide (l.dst = k) with
  | none => rw [hfd] at he; simp at he
  | some l => exact (h.lnk l (List.mem_of_find?_eq_some hfd)).e1
/-- The table of a state. -/
def tableA (n : Net) (x : List (List Int)) : List (List Int) := (ints n.nodes).map fun i => (ints n.nodes).map fun j => toR n i j fun k => at2 x k j
end
end Go.Proofs.YtephecognbbaoabGreat
namespace Go.Proofs.YtephecognbbaoabGreat
/-- What is wrong with a table. -/
def tabErr (n : Net) (t : List (List Int)) : Int :=
  if checkN n ≠ 0 then checkN n
  else if (t.length : Int) ≠ n.nodes ∨ t.any (fun r => decide ((r.length : Int) ≠ n.nodes)) = true then 1
  else if t.any (fun r => r.any fun v => !(decide (v = -1) || inR v 0 (n.nodes - 1))) then 5
  else 0
structure TabIn (n : Net) (t : List (List Int)) : Prop where
  chk : checkN n = 0
  len : (t.length : Int) = n.nodes
  row : ∀ r ∈ t, (r.length : Int) = n.nodes
  val : ∀ r ∈ t, ∀ v ∈ r, v = -1 ∨ (0 ≤ v ∧ v < n.nodes)
/-- A walk by a table. -/
def walkF (t : List (List Int)) (to : Int) : Nat → Int → List Int → List Int × Bool
  | 0, _, out => (out, true)
  | f + 1, at', out => if at' = to then (out, true) else if at2 t at' to < 0 ∨ at2 t at' to ∈ out then (out, false) else walkF t to f (at2 t at' to) (out ++ [at2 t at' to])
/-- Weigh: and is it a path. -/
def weighA (n : Net) : List Int → Int × Bool
  | [] => (0, false)
  | [_] => (0, true)
  | a :: b :: r => if (weighA n (b :: r)).2 = false ∨ edgeOf n a b < 0 then (0, false) else (overA n (edgeOf n a b) (weighA n (b :: r)).1, true)
def weighErr (n : Net) (p : List Int) : Int := if checkN n ≠ 0 then checkN n else if p = [] then 1 else if p.any (fun i => !inR i 0 (n.nodes - 1)) then 5 else if (weighA n p).2 then 0 else 5
def weighV (n : Net) (p : List Int) : Int := if weighErr n p = 0 then (weighA n p).1 else 0
/-- A path without a node twice. -/
structure Path (n : Net) (p : List Int) : Prop where
  rng : ∀ k ∈ p, 0 ≤ k ∧ k < n.nodes
  one : p.Nodup
  ok : (weighA n p).2 = true
/-- From the end on, along links: s is what is behind. -/
def visitF (n : Net) (fr : Int) : Nat → List Int → Int → Int → Int → Int
  | 0, _, _, _, b => b
  | f + 1, s, at', w, b => if at' = fr then bestA n b w else
    n.links.foldl (fun b l => if (decide (l.dst = at') && !decide (l.fr ∈ at' :: s)) = true then visitF n fr f (at' :: s) l.fr (overA n l.edge w) b else b) b
/-- From the beginning on, by nodes. -/
def pathsF (n : Net) (to : Int) : Nat → List Int → Int
  | 0, _ => n.alg.size - 1
  | f + 1, p => if p.getLastD 0 = to then (weighA n p).1 else
    (ints n.nodes).foldl (fun b k => if (decide (0 ≤ edgeOf n (p.getLastD 0) k) && !decide (k ∈ p)) = true then bestA n b (pathsF n to f (p ++ [k])) else b) (n.alg.size - 1)
end Go.Proofs.YtephecognbbaoabGreat
namespace Go.Proofs.YtephecognbbaoabGreat
/-- Which nodes have been met. -/
def addK : List Int → Int → List Bool → List Int
  | K, _, [] => K
  | K, i, a :: r => addK (if a = true ∧ i ∉ K then K ++ [i] else K) (i + 1) r
/-- Where all have been met. -/
def endF (n : Net) : List Trn → Int → List Int → Option Int
  | [], e, K => if n.nodes ≤ K.length then some e else none
  | u :: r, e, K => if n.nodes ≤ K.length then some e else endF n r (e + 1) (addK K 0 u.act)
def olderA (n : Net) (u : Trn) (k e : Int) : Bool := n.links.any fun l => at0 u.act l.fr && decide (usedA u k l.fr l.dst < e)
/-- Behind which turn nothing older is used. -/
def doneF (n : Net) (e : Int) : List Trn → Int → Int → Int
  | [], _, d => d
  | u :: r, k, d => doneF n e r (k + 1) (if olderA n u k e then k + 1 else d)
def cycleA (n : Net) (t : List Trn) (fr : Int) : Option Int := (endF n (t.drop fr.toNat) fr []).map fun e => doneF n e (t.drop e.toNat) e e
def cyclesF (n : Net) (t : List Trn) : Nat → Int → Int → Int
  | 0, _, many => many
  | f + 1, fr, many => match cycleA n t fr with
    | none => many
    | some to => cyclesF n t f to (many + 1)
def cyclesA (n : Net) (t : List Trn) : Int := cyclesF n t (t.length + 1) 0 0
/-- A list of met nodes. -/
structure Met (n : Net) (K : List Int) : Prop where
  nd : K.Nodup
  mem : ∀ i ∈ K, 0 ≤ i ∧ i < n.nodes
theorem Met.nil (n : Net) : Met n [] := ⟨List.nodup_nil, fun _ h => by cases h⟩
theorem Met.add {n : Net} {K : List Int} (h : Met n K) {i : Int} (h0 : 0 ≤ i ∧ i < n.nodes) (hi : i ∉ K) : Met n (K ++ [i]) :=
  ⟨List.nodup_append.2 ⟨h.nd, by simp, fun a ha b hb e => by rw [List.mem_singleton.1 hb] at e; exact hi (e ▸ ha)⟩, fun j hj => by
    rcases List.mem_append.1 hj with hj | hj
    · exact h.mem j hj
    · rw [List.mem_singleton.1 hj]; exact h0⟩
end Go.Proofs.YtephecognbbaoabGreat
namespace Go.Proofs.YtephecognbbaoabGreat
section
variable {n : Net}
/-- All states of a schedule: where it began, and each made of those before it. -/
structure Sched (n : Net) (t : List Trn) (o : List (List (List Int))) : Prop where
  len : o.length = t.length + 1
  inn : ∀ s ∈ o, RowsIn n s
  step : ∀ k : Int, 0 ≤ k → k < t.length → at0 o (k + 1) = nextT n o k (at0 t k)
theorem at0_app {X : Type} [Inhabited X] (a b : List X) {k : Int} (h0 : 0 ≤ k) (h : k < a.length) : at0 (a ++ b) k = at0 a k := by
  have : k.toNat < a.length := by omega
  simp [at0, List.getD_eq_getElem?_getD, List.getElem?_append_left this]
/-- Where a row differs from the state that stays, it is of rank m or more. -/
def RowOk (n : Net) (m : Nat) (s y : List (List Int)) (i : Int) : Prop := ∀ j, 0 ≤ j ∧ j < n.nodes → at2 y i j ≠ at2 s i j → m ≤ rank n (at2 y i j) ∧ m ≤ rank n (at2 s i j)
theorem at0_ints_map {X : Type} [Inhabited X] {m : Int} (f : Int → X) {q : Int} (hq : 0 ≤ q ∧ q < m) : at0 ((ints m).map f) q = f q := by
  have h1 : q.toNat < (ints m).length := by rw [ints_length]; omega
  simp only [at0, List.getD_eq_getElem?_getD, List.getElem?_map, List.getElem?_eq_getElem h1, Option.map_some, Option.getD_some]
  congr 1
  simp [ints]
  omega
end
end Go.Proofs.YtephecognbbaoabGreat
namespace Go.Proofs.YtephecognbbaoabGreat
structure Rtr where
  routes : List Int
  told : List (List Int)
structure Mail where
  fr : Int
  dst : Int
  bytes : List Int
structure Eng where
  routers : List Rtr
  bag : List Mail
structure Evt where
  kind : Int
  at' : Int
  b : Int
  c : Int
  routes : List Int
instance : Inhabited Rtr := ⟨⟨[], []⟩⟩
instance : Inhabited Mail := ⟨⟨0, 0, []⟩⟩
instance : Inhabited Eng := ⟨⟨[], []⟩⟩
instance : Inhabited Evt := ⟨⟨0, 0, 0, 0, []⟩⟩
/-- What is wrong with a row of routes. -/
def rowErr (n : Net) (l : List Int) : Int := if (l.length : Int) ≠ n.nodes then 1 else if (l.any fun r => !inR r 0 (n.alg.size - 1)) = true then 5 else 0
def formBad (n : Net) (r : Rtr) : Bool := decide ((r.told.length : Int) ≠ n.nodes) || (decide ((r.routes.length : Int) ≠ n.nodes) || r.told.any fun l => decide (l ≠ []) && decide ((l.length : Int) ≠ n.nodes))
def noneBad (n : Net) (r : Rtr) : Bool := decide (rowErr n r.routes = 5) || r.told.any fun l => decide (l ≠ []) && decide (rowErr n l = 5)
def checkE (n : Net) (e : Eng) : Int :=
  if checkN n ≠ 0 then checkN n
  else if (e.routers.length : Int) ≠ n.nodes ∨ e.routers.any (formBad n) = true then 1
  else if e.routers.any (noneBad n) = true then 5
  else if 120 < e.bag.length then 2
  else if (e.bag.any fun m => !inR m.fr 0 (n.nodes - 1) || !inR m.dst 0 (n.nodes - 1)) = true then 5
  else if (e.bag.any fun m => decide (60 < m.bytes.length)) = true then 2
  else 0
structure RtrIn (n : Net) (r : Rtr) : Prop where
  rl : (r.routes.length : Int) = n.nodes
  rv : ∀ v ∈ r.routes, InV n v
  tl : (r.told.length : Int) = n.nodes
  tr : ∀ l ∈ r.told, l = [] ∨ ((l.length : Int) = n.nodes ∧ ∀ v ∈ l, InV n v)
structure MailIn (n : Net) (m : Mail) : Prop where
  fr : 0 ≤ m.fr ∧ m.fr < n.nodes
  dst : 0 ≤ m.dst ∧ m.dst < n.nodes
  len : m.bytes.length ≤ 60
structure EngIn (n : Net) (e : Eng) : Prop where
  len : (e.routers.length : Int) = n.nodes
  rtr : ∀ r ∈ e.routers, RtrIn n r
  bag : e.bag.length ≤ 120
  mail : ∀ m ∈ e.bag, MailIn n m
section
variable {n : Net}
theorem rowErr_zero {l : List Int} : rowErr n l = 0 ↔ (l.length : Int) = n.nodes ∧ ∀ v ∈ l, InV n v := by
  unfold rowErr
  by_cases h : (l.length : Int) = n.nodes
  · rw [if_neg (not_not_intro h)]
    by_cases h2 : (l.any fun r => !inR r 0 (n.alg.size - 1)) = true
    · rw [if_pos h2]
      refine ⟨fun h => (by cases h), fun ⟨_, h3⟩ => ?_⟩
      obtain ⟨v, hv, h4⟩ := List.any_eq_true.1 h2
      have := not_inR.1 h4
      have := h3 v hv
      unfold InV at this
      omega
    · rw [if_neg h2]
      refine ⟨fun _ => ⟨h, fun v hv => ?_⟩, fun _ => rfl⟩
      have h3 : inR v 0 (n.alg.size - 1) = true := by
        apply Classical.byContradiction
        intro hc
        exact h2 (List.any_eq_true.2 ⟨v, hv, by simpa using hc⟩)
      have := inR_iff.1 h3
      unfold InV
      omega
  · rw [if_pos h]
    exact ⟨fun h => (by cases h), fun h2 => absurd h2.1 h⟩
theorem rowErr_len {l : List Int} : (l.length : Int) ≠ n.nodes ↔ rowErr n l = 1 := by
  unfold rowErr
  constructor
  · intro h; rw [if_pos h]
  · intro h hc
    rw [if_neg (not_not_intro hc)] at h
    split at h <;> cases h
theorem rowErr_cases (n : Net) (l : List Int) : rowErr n l = 0 ∨ rowErr n l = 1 ∨ rowErr n l = 5 := by
  unfold rowErr
  split
  · exact .inr (.inl rfl)
  · split
    · exact .inr (.inr rfl)
    · exact .inl rfl
theorem rtrIn_iff {r : Rtr} : formBad n r = false ∧ noneBad n r = false ↔ RtrIn n r := by
  unfold formBad noneBad
  simp only [Bool.or_eq_false_iff, decide_eq_false_iff_not, List.any_eq_false, Bool.and_eq_true, decide_eq_true_eq, not_and, Decidable.not_not, ne_eq]
  constructor
  · rintro ⟨⟨h1, h2, h3⟩, h4, h5⟩
    have h6 : rowErr n r.routes = 0 := by
      rcases rowErr_cases n r.routes with h | h | h
      · exact h
      · exact absurd h2 (rowErr_len.2 h)
      · exact absurd h h4
    refine ⟨h2, (rowErr_zero.1 h6).2, h1, fun l hl => ?_⟩
    by_cases e : l = []
    · exact .inl e
    · refine .inr ?_
      rcases rowErr_cases n l with h | h | h
      · exact rowErr_zero.1 h
      · exact absurd (h3 l hl e) (rowErr_len.2 h)
      · exact absurd h (h5 l hl e)
  · intro h
    have h0 := rowErr_zero.2 ⟨h.rl, h.rv⟩
    refine ⟨⟨h.tl, h.rl, fun l hl e => ((h.tr l hl).resolve_left e).1⟩, by rw [h0]; decide, fun l hl e => ?_⟩
    rw [rowErr_zero.2 ((h.tr l hl).resolve_left e)]
    decide
theorem engIn_of {e : Eng} (h : checkE n e = 0) : checkN n = 0 ∧ EngIn n e := by
  unfold checkE at h
  by_cases h0 : checkN n = 0
  · refine ⟨h0, ?_⟩
    rw [if_neg (not_not_intro h0)] at h
    split at h
    · cases h
    rename_i h1
    split at h
    · cases h
    rename_i h2
    split at h
    · cases h
    rename_i h3
    split at h
    · cases h
    rename_i h4
    split at h
    · cases h
    rename_i h5
    rw [not_or, Decidable.not_not, Bool.not_eq_true, List.any_eq_false] at h1
    rw [Bool.not_eq_true, List.any_eq_false] at h2 h4 h5
    refine ⟨h1.1, fun r hr => rtrIn_iff.1 ⟨by simpa using h1.2 r hr, by simpa using h2 r hr⟩, by omega, fun m hm => ?_⟩
    have h6 := h4 m hm
    have h7 := h5 m hm
    rw [Bool.not_eq_true, Bool.or_eq_false_iff, Bool.not_eq_false', Bool.not_eq_false'] at h6
    have a := inR_iff.1 h6.1
    have b := inR_iff.1 h6.2
    refine ⟨by omega, by omega, ?_⟩
    simpa using h7
  · rw [if_pos h0] at h
    exact absurd h h0
/-- What a router was told, as it counts. -/
def toldAt (n : Net) (r : Rtr) (to j : Int) : Int := if at0 r.told to = [] then n.alg.size - 1 else at2 r.told to j
/-- What it looks at makes these routes. -/
def lookE (n : Net) (r : Rtr) (i : Int) : List Int := (ints n.nodes).map fun j => routeL n i j (fun to => toldAt n r to j) n.links
def setR (e : Eng) (i : Int) (r : Rtr) : Eng := ⟨e.routers.set i.toNat r, e.bag⟩
def lookedR (n : Net) (r : Rtr) (i : Int) : Rtr := ⟨lookE n r i, r.told⟩
def lookedE (n : Net) (e : Eng) (i : Int) : Eng := setR e i (lookedR n (at0 e.routers i) i)
def hearsA (n : Net) (i : Int) : List Int := (ints n.nodes).filter fun k => decide (0 ≤ edgeOf n k i)
def mailA (l : List Int) (i k : Int) : Mail := ⟨i, k, (writeL ⟨i, k, l⟩).1⟩
def tickE (n : Net) (e : Eng) (i : Int) : Eng × Int :=
  if 120 < e.bag.length + (hearsA n i).length then (e, 2) else (⟨(lookedE n e i).routers, e.bag ++ (hearsA n i).map (mailA (lookE n (at0 e.routers i) i) i)⟩, 0)
def dropE (e : Eng) (k : Int) : Eng := ⟨e.routers, e.bag.eraseIdx k.toNat⟩
def takesB (n : Net) (m : Mail) : Bool :=
  decide ((readL m.bytes).2 = 0) && (decide ((readL m.bytes).1.fr = m.fr) && (decide ((readL m.bytes).1.dst = m.dst) && (decide (rowErr n (readL m.bytes).1.routes = 0) && decide (0 ≤ edgeOf n m.dst m.fr))))
def toldR (r : Rtr) (k : Int) (l : List Int) : Rtr := ⟨r.routes, r.told.set k.toNat l⟩
def takeE (n : Net) (e : Eng) (m : Mail) : Eng := if takesB n m = true then lookedE n (setR e m.dst (toldR (at0 e.routers m.dst) m.fr (readL m.bytes).1.routes)) m.dst else e
def deliverE (n : Net) (e : Eng) (k : Int) : Eng := takeE n (dropE e k) (at0 e.bag k)
/-- A byte with some bits turned. -/
def xorB (a c : Int) : Int := IntKind.u8.wrap (BitVec.ofInt 8 a ^^^ BitVec.ofInt 8 c).toNat
def spoilM (m : Mail) (b c : Int) : Mail := ⟨m.fr, m.dst, m.bytes.set b.toNat (xorB (at0 m.bytes b) c)⟩
def spoilE (e : Eng) (v : Evt) : Eng × Int :=
  if !inR v.b 0 ((at0 e.bag v.at').bytes.length - 1) || !inR v.c 1 255 then (e, 3) else (⟨e.routers, e.bag.set v.at'.toNat (spoilM (at0 e.bag v.at') v.b v.c)⟩, 0)
def freshR (n : Net) (l : List Int) : Rtr := ⟨l, List.replicate n.nodes.toNat []⟩
def stepE (n : Net) (e : Eng) (v : Evt) : Eng × Int :=
  if !inR v.kind 1 7 then (e, 7)
  else if inR v.kind 2 5 = true then
    (if !inR v.at' 0 (e.bag.length - 1) then (e, 5)
     else if v.kind = 2 then (deliverE n e v.at', 0)
     else if v.kind = 3 then (if e.bag.length = 120 then (e, 2) else (⟨e.routers, e.bag ++ [at0 e.bag v.at']⟩, 0))
     else if v.kind = 4 then (dropE e v.at', 0)
     else spoilE e v)
  else if !inR v.at' 0 (n.nodes - 1) then (e, 5)
  else if v.kind = 1 then tickE n e v.at'
  else if v.kind = 6 then (if !inR v.b 0 (n.nodes - 1) then (e, 5) else (lookedE n (setR e v.at' (toldR (at0 e.routers v.at') v.b [])) v.at', 0))
  else if rowErr n v.routes ≠ 0 then (e, rowErr n v.routes) else (setR e v.at' (freshR n v.routes), 0)
def newE (n : Net) : Eng := ⟨(beginA n).map (freshR n), []⟩
def playF (n : Net) : List Evt → Int → Eng → Eng × Int
  | [], k, e => (e, k)
  | v :: r, k, e => if (stepE n e v).2 ≠ 0 then (e, k) else playF n r (k + 1) (stepE n e v).1
/-- All mail that is on its way comes. -/
def comeF (n : Net) : List Mail → Eng → Eng
  | [], e => e
  | m :: r, e => comeF n r (takeE n ⟨e.routers, r⟩ m)
def comeE (n : Net) (e : Eng) : Eng := comeF n e.bag e
def ticksE (n : Net) (e : Eng) : Eng := (ints n.nodes).foldl (fun e i => (tickE n e i).1) e
def calmF (n : Net) : Nat → Eng → Eng
  | 0, e => e
  | f + 1, e => calmF n f (comeE n (ticksE n e))
def calmE (n : Net) (e : Eng) (rounds : Int) : Eng := calmF n rounds.toNat (comeE n e)
theorem at0_setG {X : Type} [Inhabited X] (l : List X) {k q : Int} (v : X) (h0 : 0 ≤ k) (hq : 0 ≤ q) (h : k < l.length) : at0 (l.set k.toNat v) q = if q = k then v else at0 l q := by
  simp only [at0, List.getD_eq_getElem?_getD, List.getElem?_set]
  by_cases e : q = k
  · subst e
    have : q.toNat < l.length := by omega
    simp [this]
  · have : ¬ k.toNat = q.toNat := by omega
    simp [this, e]
theorem mem_setG {X : Type} {l : List X} {k : Nat} {v x : X} (h : x ∈ l.set k v) : x ∈ l ∨ x = v := List.mem_or_eq_of_mem_set h
theorem toldAt_in (hn : NetIn n) {r : Rtr} (hr : RtrIn n r) {to j : Int} (ht : 0 ≤ to ∧ to < n.nodes) (hj : 0 ≤ j ∧ j < n.nodes) : InV n (toldAt n r to j) := by
  unfold toldAt
  split
  · exact inv_in hn
  · rename_i h
    have hm := at0_mem r.told ht.1 (by have := hr.tl; omega)
    obtain ⟨h1, h2⟩ := (hr.tr _ hm).resolve_left h
    exact h2 _ (at0_mem _ hj.1 (by omega))
theorem lookE_len (n : Net) (r : Rtr) (i : Int) : (lookE n r i).length = n.nodes.toNat := by rw [lookE, List.length_map, ints_length]
theorem lookE_in (hc : checkN n = 0) {r : Rtr} (hr : RtrIn n r) (i : Int) : ∀ v ∈ lookE n r i, InV n v := by
  intro v hv
  obtain ⟨j, hj, rfl⟩ := List.mem_map.1 hv
  have hj := mem_ints.1 hj
  exact routeL_in hc i j _ fun k h0 h1 => toldAt_in (netIn_of hc) hr ⟨h0, h1⟩ hj
theorem lookedR_in (hc : checkN n = 0) {r : Rtr} (hr : RtrIn n r) (i : Int) : RtrIn n (lookedR n r i) := by
  have h1 := (netIn_of hc).n1
  exact ⟨by rw [lookedR, lookE_len]; omega, lookE_in hc hr i, hr.tl, hr.tr⟩
theorem setR_in {e : Eng} (h : EngIn n e) {r : Rtr} (hr : RtrIn n r) (i : Int) : EngIn n (setR e i r) :=
  ⟨by rw [setR, List.length_set]; exact h.len, fun x hx => by
    rcases mem_setG hx with hx | rfl
    · exact h.rtr x hx
    · exact hr, h.bag, h.mail⟩
theorem rtr_at {e : Eng} (h : EngIn n e) {i : Int} (hi : 0 ≤ i ∧ i < n.nodes) : RtrIn n (at0 e.routers i) := h.rtr _ (at0_mem _ hi.1 (by have := h.len; omega))
theorem lookedE_in (hc : checkN n = 0) {e : Eng} (h : EngIn n e) {i : Int} (hi : 0 ≤ i ∧ i < n.nodes) : EngIn n (lookedE n e i) := setR_in h (lookedR_in hc (rtr_at h hi) i) i
theorem toldR_in {r : Rtr} (hr : RtrIn n r) {l : List Int} (hl : l = [] ∨ ((l.length : Int) = n.nodes ∧ ∀ v ∈ l, InV n v)) (k : Int) : RtrIn n (toldR r k l) :=
  ⟨hr.rl, hr.rv, by rw [toldR, List.length_set]; exact hr.tl, fun x hx => by
    rcases mem_setG hx with hx | rfl
    · exact hr.tr x hx
    · exact hl⟩
theorem freshR_in {l : List Int} (h1 : 1 ≤ n.nodes) (hl : (l.length : Int) = n.nodes) (hv : ∀ v ∈ l, InV n v) : RtrIn n (freshR n l) :=
  ⟨hl, hv, by rw [freshR, List.length_replicate]; omega, fun x hx => .inl (List.eq_of_mem_replicate hx)⟩
theorem dropE_in {e : Eng} (h : EngIn n e) (k : Int) : EngIn n (dropE e k) :=
  ⟨h.len, h.rtr, Nat.le_trans (by unfold dropE; rw [List.length_eraseIdx]; split <;> omega) h.bag, fun m hm => h.mail m (List.mem_of_mem_eraseIdx hm)⟩
theorem takes_iff {m : Mail} : takesB n m = true ↔ (readL m.bytes).2 = 0 ∧ (readL m.bytes).1.fr = m.fr ∧ (readL m.bytes).1.dst = m.dst ∧ rowErr n (readL m.bytes).1.routes = 0 ∧ 0 ≤ edgeOf n m.dst m.fr := by
  unfold takesB
  simp only [Bool.and_eq_true, decide_eq_true_eq]
theorem takeE_in (hc : checkN n = 0) {e : Eng} (h : EngIn n e) {m : Mail} (hm : MailIn n m) : EngIn n (takeE n e m) := by
  unfold takeE
  split
  · rename_i ht
    obtain ⟨_, _, _, h4, _⟩ := takes_iff.1 ht
    exact lookedE_in hc (setR_in h (toldR_in (rtr_at h hm.dst) (.inr (rowErr_zero.1 h4)) _) _) hm.dst
  · exact h
theorem hears_len (hn : NetIn n) (i : Int) : (hearsA n i).length ≤ 6 := by
  have h1 : (hearsA n i).length ≤ (ints n.nodes).length := List.length_filter_le _ _
  rw [ints_length] at h1
  have := hn.n6
  omega
theorem hears_mem {i k : Int} : k ∈ hearsA n i ↔ (0 ≤ k ∧ k < n.nodes) ∧ 0 ≤ edgeOf n k i := by
  rw [hearsA, List.mem_filter, mem_ints, decide_eq_true_eq]
/-- What a node tells can be written. -/
theorem mail_ok (hn : NetIn n) {l : List Int} (hl : (l.length : Int) = n.nodes) (hv : ∀ v ∈ l, InV n v) {i k : Int} (hi : 0 ≤ i ∧ i < n.nodes) (hk : 0 ≤ k ∧ k < n.nodes) : (writeL ⟨i, k, l⟩).2 = 0 := by
  have n6 := hn.n6
  have s24 := hn.alg.s24
  unfold writeL
  rw [if_neg, if_neg]
  · show ¬ 54 < l.length
    omega
  · rw [Bool.not_eq_true, List.any_eq_false]
    intro c hcm
    have : 0 ≤ c ∧ c ≤ 250 := by
      rcases List.mem_cons.1 hcm with e | hcm
      · have e : c = i := e
        omega
      · rcases List.mem_cons.1 hcm with e | hcm
        · have e : c = k := e
          omega
        · have := hv c hcm
          unfold InV at this
          omega
    rw [(fitsB_iff c).2 this]
    decide
theorem mail_in (hn : NetIn n) {l : List Int} (hl : (l.length : Int) = n.nodes) (hv : ∀ v ∈ l, InV n v) {i k : Int} (hi : 0 ≤ i ∧ i < n.nodes) (hk : 0 ≤ k ∧ k < n.nodes) : MailIn n (mailA l i k) := by
  refine ⟨hi, hk, ?_⟩
  have h1 : (mailA l i k).bytes.length = l.length + 6 := writeL_length (mail_ok hn hl hv hi hk)
  have := hn.n6
  omega
theorem tickE_in (hc : checkN n = 0) {e : Eng} (h : EngIn n e) {i : Int} (hi : 0 ≤ i ∧ i < n.nodes) : EngIn n (tickE n e i).1 := by
  unfold tickE
  split
  · exact h
  · rename_i hlt
    have hl := lookedE_in hc h hi
    have hn := netIn_of hc
    have n1 := hn.n1
    refine ⟨hl.len, hl.rtr, by rw [List.length_append, List.length_map]; omega, fun m hm => ?_⟩
    rcases List.mem_append.1 hm with hm | hm
    · exact h.mail m hm
    · obtain ⟨k, hk, rfl⟩ := List.mem_map.1 hm
      exact mail_in hn (by rw [lookE_len]; omega) (lookE_in hc (rtr_at h hi) i) hi (hears_mem.1 hk).1
theorem step_in (hc : checkN n = 0) {e : Eng} (h : EngIn n e) (v : Evt) : EngIn n (stepE n e v).1 := by
  have hn := netIn_of hc
  have n1 := hn.n1
  unfold stepE
  split
  · exact h
  split
  · split
    · exact h
    rename_i ha
    have ha : inR v.at' 0 (e.bag.length - 1) = true := by simpa using ha
    have ha := inR_iff.1 ha
    have hm := at0_mem e.bag ha.1 (by omega)
    split
    · exact takeE_in hc (dropE_in h _) (h.mail _ hm)
    split
    · split
      · exact h
      · refine ⟨h.len, h.rtr, ?_, fun m hm2 => ?_⟩
        · have := h.bag
          rw [List.length_append, List.length_singleton]
          omega
        · rcases List.mem_append.1 hm2 with hm2 | hm2
          · exact h.mail m hm2
          · rw [List.mem_singleton.1 hm2]
            exact h.mail _ hm
    split
    · exact dropE_in h _
    · unfold spoilE
      split
      · exact h
      · refine ⟨h.len, h.rtr, by rw [List.length_set]; exact h.bag, fun m hm2 => ?_⟩
        rcases mem_setG hm2 with hm2 | rfl
        · exact h.mail m hm2
        · have q := h.mail _ hm
          exact ⟨q.fr, q.dst, by unfold spoilM; rw [List.length_set]; exact q.len⟩
  split
  · exact h
  rename_i ha
  have ha : inR v.at' 0 (n.nodes - 1) = true := by simpa using ha
  have ha := inR_iff.1 ha
  have hat : 0 ≤ v.at' ∧ v.at' < n.nodes := by omega
  split
  · exact tickE_in hc h hat
  split
  · split
    · exact h
    · exact lookedE_in hc (setR_in h (toldR_in (rtr_at h hat) (.inl rfl) _) _) hat
  · split
    · exact h
    · rename_i h9
      rw [Decidable.not_not] at h9
      exact setR_in h (freshR_in n1 (rowErr_zero.1 h9).1 (rowErr_zero.1 h9).2) _
theorem new_in (hc : checkN n = 0) : EngIn n (newE n) := by
  have hn := netIn_of hc
  have hb := begin_in hn
  refine ⟨by rw [newE, List.length_map]; exact hb.len, fun r hr => ?_, Nat.zero_le _, fun m hm => by cases hm⟩
  obtain ⟨l, hl, rfl⟩ := List.mem_map.1 hr
  refine freshR_in hn.n1 (hb.row l hl) fun v hv => ?_
  have h1 := hb.val l hl v hv
  unfold InV
  omega
end
end Go.Proofs.YtephecognbbaoabGreat
namespace Go.Proofs.YtephecognbbaoabGreat
theorem u8_in {x : Int} (h : 0 ≤ x) (h' : x ≤ 255) : IntKind.u8.wrap x = x := by
  have e : (2 : Int) ^ IntKind.u8.bits = 256 := rfl
  simp [IntKind.wrap, IntKind.signed, e]
  omega
theorem xorB_eq {a c : Int} : xorB a c = ((BitVec.ofInt 8 a ^^^ BitVec.ofInt 8 c).toNat : Int) := by
  have h : (BitVec.ofInt 8 a ^^^ BitVec.ofInt 8 c).toNat < 256 := BitVec.isLt _
  unfold xorB
  exact u8_in (by omega) (by omega)
theorem xorB_rng (a c : Int) : 0 ≤ xorB a c ∧ xorB a c ≤ 255 := by
  rw [xorB_eq]
  have h : (BitVec.ofInt 8 a ^^^ BitVec.ofInt 8 c).toNat < 256 := BitVec.isLt _
  omega
/-- As the document counts it: each bit that one of both has, but not both. -/
def xsN (a b : Nat) : Nat → Nat
  | 0 => 0
  | k + 1 => xsN a b k + if a / 2 ^ k % 2 = b / 2 ^ k % 2 then 0 else 2 ^ k
theorem xsN_eq (a b : Nat) : ∀ k, xsN a b k = (a ^^^ b) % 2 ^ k
  | 0 => by simp [xsN, Nat.mod_one]
  | k + 1 => by
    rw [xsN, xsN_eq a b k, Nat.mod_pow_succ]
    congr 1
    have h := Nat.testBit_xor a b k
    simp only [Nat.testBit_eq_decide_div_mod_eq] at h
    have h1 : a / 2 ^ k % 2 < 2 := Nat.mod_lt _ (by decide)
    have h2 : b / 2 ^ k % 2 < 2 := Nat.mod_lt _ (by decide)
    have h3 : (a ^^^ b) / 2 ^ k % 2 < 2 := Nat.mod_lt _ (by decide)
    generalize a / 2 ^ k % 2 = x at *
    generalize b / 2 ^ k % 2 = y at *
    generalize (a ^^^ b) / 2 ^ k % 2 = z at *
    have hx : x = 0 ∨ x = 1 := by omega
    have hy : y = 0 ∨ y = 1 := by omega
    have hz : z = 0 ∨ z = 1 := by omega
    rcases hx with rfl | rfl <;> rcases hy with rfl | rfl <;> rcases hz with rfl | rfl <;> simp at h ⊢
theorem xorB_bits {a c : Int} (ha : 0 ≤ a ∧ a ≤ 255) (hc : 0 ≤ c ∧ c ≤ 255) : xorB a c = (xsN a.toNat c.toNat 8 : Nat) := by
  rw [xorB_eq, xsN_eq, BitVec.toNat_xor]
  have h1 : (BitVec.ofInt 8 a).toNat = a.toNat := by rw [BitVec.toNat_ofInt]; omega
  have h2 : (BitVec.ofInt 8 c).toNat = c.toNat := by rw [BitVec.toNat_ofInt]; omega
  rw [h1, h2]
  have h3 : a.toNat ^^^ c.toNat < 2 ^ 8 := Nat.xor_lt_two_pow (by omega) (by omega)
  rw [Nat.mod_eq_of_lt h3]
section
variable {n : Net}
/-- A row of routes of i that differs from the state that stays at rank m or more alone. -/
def Good (n : Net) (m : Nat) (s : List (List Int)) (i : Int) (f : Int → Int) : Prop := ∀ j, 0 ≤ j ∧ j < n.nodes → f j ≠ at2 s i j → m ≤ rank n (f j) ∧ m ≤ rank n (at2 s i j)
theorem Good.zero {s : List (List Int)} {i : Int} {f : Int → Int} : Good n 0 s i f := fun _ _ _ => ⟨Nat.zero_le _, Nat.zero_le _⟩
theorem Good.less {m m' : Nat} (hm : m' ≤ m) {s : List (List Int)} {i : Int} {f : Int → Int} (h : Good n m s i f) : Good n m' s i f := fun j hj hne => ⟨Nat.le_trans hm (h j hj hne).1, Nat.le_trans hm (h j hj hne).2⟩
/-- What all were told along links is good. -/
def ToldG (n : Net) (m : Nat) (s : List (List Int)) (e : Eng) : Prop := ∀ l ∈ n.links, Good n m s l.dst (toldAt n (at0 e.routers l.fr) l.dst)
def RoutesG (n : Net) (m : Nat) (s : List (List Int)) (e : Eng) : Prop := ∀ i, 0 ≤ i ∧ i < n.nodes → Good n m s i (at0 (at0 e.routers i).routes)
/-- Mail that will be taken tells what is good. -/
def MailG (n : Net) (m : Nat) (s : List (List Int)) (x : Mail) : Prop := takesB n x = true → Good n m s x.fr (at0 (readL x.bytes).1.routes)
variable {s : List (List Int)}
/-- What a link tells is as good as the mail, or there is mail on its way. -/
def Sent (n : Net) (m : Nat) (s : List (List Int)) (bag : List Mail) (e : Eng) : Prop := ∀ l ∈ n.links, Good n m s l.dst (toldAt n (at0 e.routers l.fr) l.dst) ∨ ∃ x ∈ bag, x.fr = l.dst ∧ x.dst = l.fr ∧ takesB n x = true
def routesOf (e : Eng) : List (List Int) := e.routers.map (·.routes)
end
end Go.Proofs.YtephecognbbaoabGreat
