/- Operations that make memory; append; strings and bytes. -/
import Derived.Test.YtephecognbbaoaaSm
import Derived.Laws.IdiomCopy
namespace Go.Proofs.Ytephecognbbaoaa
open Go
set_option linter.all false

def zeroA (P : Program) (T : TypeId) : Option (List AV) :=
  match P.info? T with
  | some i => i.zero.map fun z => z.cells.toList.map .c
  | none => none

def oneA : AV → Bool
  | .c v => v.oneCell'
  | .agg _ => false
  | .tup _ => false
  | _ => true

def setL : List AV → Nat → List AV → List AV
  | e, _, [] => e
  | e, off, a :: r => setL (e.set off a) (off + 1) r

/-- The elements of a slice: how the proofs read it. -/
def elemsB (σ : Store) : AV → Option (List (List AV))
  | .sl es => some es
  | .emp => some []
  | .c (.slice none 0 0) => some []
  | .own b k s n _ => match σ[b]? with
    | some (.cells k' es) => if k' = k ∧ s + n ≤ es.length then some ((es.drop s).take n) else none
    | _ => none
  | _ => none

/-- The elements of a slice: how a walk reads it (the whole row first). -/
def elemsA (σ : Store) : AV → Option (List (List AV))
  | .sl es => some es
  | .emp => some []
  | .c (.slice none 0 0) => some []
  | .own b k s n _ => match σ[b]? with
    | some (.cells k' es) => if k' = k then (if s = 0 ∧ n = es.length then some es else if s + n ≤ es.length then some ((es.drop s).take n) else none) else none
    | _ => none
  | _ => none

theorem elemsA_eq (σ : Store) (a : AV) : elemsA σ a = elemsB σ a := by
  unfold elemsA elemsB
  split
  · rfl
  · rfl
  · rfl
  · rename_i b k s n c
    split
    · rename_i k' es _
      by_cases h1 : k' = k
      · by_cases h2 : s = 0 ∧ n = es.length
        · obtain ⟨rfl, rfl⟩ := h2
          simp [h1]
        · rw [if_pos h1, if_neg h2]
          by_cases h3 : s + n ≤ es.length
          · rw [if_pos h3, if_pos ⟨h1, h3⟩]
          · rw [if_neg h3, if_neg (fun h => h3 h.2)]
      · rw [if_neg h1, if_neg (fun h => h1 h.1)]
    · rfl
  · rfl

def storeA (P : Program) (σ : Store) (T : TypeId) (p v : AV) : Option Store :=
  match p with
  | .ptr b k i off => match σ[b]? with
    | some (.cells k' es) => match es[i]? with
      | some e => if k' = k ∧ (P.info? T).isSome ∧ (cellsA v).length = P.cellsOf T ∧ off + (cellsA v).length ≤ k ∧ (cellsA v).all oneA then
          some (σ.set b (.cells k (es.set i (setL e off (cellsA v))))) else none
      | none => none
    | _ => none
  | _ => none

section
variable {P : Program} {K : World} {imm : Imm} {m : Own} {w w' : World} {σ : Store}

theorem cells_rep {v : Value} {a : AV} (h : Rep imm m v a) : RepL imm m v.cells.toList (cellsA a) := by
  have one : ∀ {v : Value} {a : AV}, Rep imm m v a → RepL imm m [v] [a] := fun {v a} h => ⟨rfl, fun i h1 h2 => by
    obtain rfl : i = 0 := by simp at h1; omega
    exact h⟩
  cases a with
  | agg l => cases h with | agg cs l hl hh => exact ⟨by simpa [Value.cells, cellsA] using hl, fun i h1 h2 => hh i _ _⟩
  | c u =>
    obtain rfl := h.c_inv
    cases v with
    | agg cs =>
      refine ⟨by simp [Value.cells, cellsA], fun i h1 h2 => ?_⟩
      simp only [cellsA, List.getElem_map]
      exact .c _
    | _ => exact one (.c _)
  | emp => cases h; exact one (.emp _)
  | tup l => cases h with | tup cs l hl hh => exact one (.tup cs l hl hh)
  | sl es => cases h with | sl p cap n es k vals hn hcap hk hp hr => exact one (.sl p cap n es k vals hn hcap hk hp hr)
  | cp e off => cases h with | cp b o x e off vals hx hc hr => exact one (.cp b o x e off vals hx hc hr)
  | own b k s n c => cases h with | own b k s n c cap blk sz x hm hn hcc hx hc => exact one (.own b k s n c cap blk sz x hm hn hcc hx hc)
  | ptr b k i off => cases h with | ptr b k i off blk sz x hm hx => exact one (.ptr b k i off blk sz x hm hx)
  | fn f l1 l2 => cases h with | fn f fs cs first cap hf hc h1 h2 => exact one (.fn f fs cs l1 l2 hf hc h1 h2)
  | mp b => cases h with | mp b blk sz hm => exact one (.mp b blk sz hm)
  | cm es => cases h with | cm blk es ents clock h1 h2 h3 h4 => exact one (.cm blk es ents clock h1 h2 h3 h4)

theorem oneA_rep {v : Value} {a : AV} (h : Rep imm m v a) (h1 : oneA a = true) : v.oneCell' = true := by
  cases h with
  | c => exact h1
  | agg => cases h1
  | tup => cases h1
  | _ => rfl

theorem heap_setCell_same {b o : Nat} {v : Value} {cs : Array Value} {T : TypeId} {fr : Nat × Nat} (h : w.heap[b]? = some (.cells cs T fr)) :
    (w.setCell ⟨b, o, none⟩ v).heap[b]? = some (.cells (cs.setIfInBounds o v) T fr) := by
  simp [World.setCell, Array.getElem?_modify, h]

theorem setCells_heap (b : Nat) (T : TypeId) (fr : Nat × Nat) : ∀ (vs : List Value) (o : Nat) (cs : Array Value) (w : World), w.heap[b]? = some (.cells cs T fr) →
    ∃ cs', (w.setCells b o vs).heap[b]? = some (.cells cs' T fr) ∧ cs'.size = cs.size ∧ (∀ j, j < o ∨ o + vs.length ≤ j → cs'[j]? = cs[j]?) ∧
      (∀ j (hj : j < vs.length), o + j < cs.size → cs'[o + j]? = some vs[j]) ∧ (∀ c, c ≠ b → (w.setCells b o vs).heap[c]? = w.heap[c]?) ∧ Beside w (w.setCells b o vs)
  | [], o, cs, w, h => ⟨cs, h, rfl, fun _ _ => rfl, fun j hj => by simp at hj, fun _ _ => rfl, ⟨rfl, rfl, rfl, Nat.le_refl _⟩⟩
  | v :: r, o, cs, w, h => by
    obtain ⟨cs', h1, h2, h3, h4, h5, h6⟩ := setCells_heap b T fr r (o + 1) (cs.setIfInBounds o v) (w.setCell ⟨b, o, none⟩ v) (heap_setCell_same h)
    refine ⟨cs', h1, by simpa using h2, fun j hj => ?_, fun j hj hlt => ?_, fun c hc => ?_, ⟨h6.os, h6.tape, h6.output, ?_⟩⟩
    · rw [h3 j (by simp only [List.length_cons] at hj; omega)]
      rw [Array.getElem?_setIfInBounds, if_neg (by simp only [List.length_cons] at hj; omega)]
    · cases j with
      | zero =>
        rw [h3 (o + 0) (by omega)]
        simp at hlt
        simp [hlt]
      | succ j =>
        have := h4 j (by simpa using hj) (by simp; omega)
        rw [show o + (j + 1) = o + 1 + j by omega]
        simpa using this
    · rw [World.setCells, h5 c hc]
      exact RowKit.Below.heap_setCell _ _ _ _ hc
    · have := h6.size
      simp only [World.setCell, Array.size_modify] at this
      exact this

theorem setL_length : ∀ (vs : List AV) (e : List AV) (o : Nat), (setL e o vs).length = e.length
  | [], _, _ => rfl
  | a :: r, e, o => by rw [setL, setL_length r]; simp

theorem setL_get : ∀ (vs : List AV) (e : List AV) (o : Nat) (j : Nat) (hj : j < (setL e o vs).length) (hj' : j < e.length),
    (∀ x (hx : x < vs.length), j = o + x → (setL e o vs)[j] = vs[x]) ∧ ((j < o ∨ o + vs.length ≤ j) → (setL e o vs)[j] = e[j])
  | [], e, o, j, hj, hj' => ⟨fun x hx => by simp at hx, fun _ => rfl⟩
  | a :: r, e, o, j, hj, hj' => by
    have ih := setL_get r (e.set o a) (o + 1) j hj (by simpa using hj')
    refine ⟨fun x hx hjx => ?_, fun h => ?_⟩
    · cases x with
      | zero =>
        have := ih.2 (by omega)
        show (setL (e.set o a) (o + 1) r)[j] = _
        rw [this, List.getElem_set, if_pos (by omega)]
        rfl
      | succ x =>
        have := ih.1 x (by simpa using hx) (by omega)
        show (setL (e.set o a) (o + 1) r)[j] = _
        rw [this]
        rfl
    · simp only [List.length_cons] at h
      have := ih.2 (by omega)
      show (setL (e.set o a) (o + 1) r)[j] = _
      rw [this, List.getElem_set, if_neg (by omega)]

theorem flat_ne {k i i' x y : Nat} (hx : x < k) (hy : y < k) (h : i ≠ i') : i * k + x ≠ i' * k + y := by
  intro e
  rcases Nat.lt_or_ge i i' with hlt | hge
  · have := Nat.mul_le_mul_right k (show i + 1 ≤ i' by omega)
    rw [Nat.add_mul] at this
    omega
  · have := Nat.mul_le_mul_right k (show i' + 1 ≤ i by omega)
    rw [Nat.add_mul] at this
    omega

theorem flat_lt {k i n x : Nat} (hx : x < k) (hi : i < n) : i * k + x < n * k := by
  have := Nat.mul_le_mul_right k (show i + 1 ≤ n by omega)
  rw [Nat.add_mul] at this
  omega

theorem cellsOb_inv {b k i : Nat} {e : List AV} (h : cellsOb σ b k i = some e) : ∃ (hb : b < σ.length) (es : List (List AV)) (hi : i < es.length), σ[b] = .cells k es ∧ es[i] = e := by
  unfold cellsOb at h
  split at h
  · rename_i k' es hs
    split at h
    · rename_i hk
      subst hk
      obtain ⟨hb, e1⟩ := List.getElem?_eq_some_iff.1 hs
      obtain ⟨hi, e2⟩ := List.getElem?_eq_some_iff.1 h
      exact ⟨hb, es, hi, e1, e2⟩
    · cases h
  · cases h

/-- The cells behind a pointer. -/
theorem cells_behind (hs : Sim K imm m w σ) {b k i off : Nat} {e : List AV} {v : Value} (hr : Rep imm m v (.ptr b k i off)) (hc : cellsOb σ b k i = some e) :
    ∃ blk o, v = .pointer (some ⟨blk, o + off, none⟩) ∧ ∀ j (hj : j < e.length), ∃ u, w.cell? ⟨blk, o + j, none⟩ = some u ∧ Rep imm m u e[j] := by
  obtain ⟨hb, es, hi, hob, rfl⟩ := cellsOb_inv hc
  have h := hs.obs b hb
  rw [hob] at h
  obtain ⟨blk, sz, h1, h2, cs, T, fr, h3, h4, h5, h6, h7⟩ := h
  cases hr with
  | ptr b k i off blk' sz' x hm hx =>
    rw [h1] at hm
    cases hm
    refine ⟨blk, i * k, by rw [hx], fun j hj => ?_⟩
    obtain ⟨u, e, r⟩ := (h7 i hi).2 j hj
    exact ⟨u, by simp [World.cell?, h3, e], r⟩

theorem loadCellsFrom_run (a : Addr) : ∀ (n i : Nat) (acc : Array Value) (f : Nat → Value), (∀ j, j < n → w.cell? (a.add (i + j)) = some (f j)) →
    (loadCellsFrom a i n acc).run P w = .ok (acc ++ ((List.range n).map f).toArray) w
  | 0, i, acc, f, _ => by simp [loadCellsFrom]
  | n + 1, i, acc, f, h => by
    have h0 := h 0 (by omega)
    have ih := loadCellsFrom_run a n (i + 1) (acc.push (f 0)) (fun j => f (j + 1)) (fun j hj => by
      have := h (j + 1) (by omega)
      rw [show i + 1 + j = i + (j + 1) by omega]
      exact this)
    simp only [Nat.add_zero] at h0
    simp only [loadCellsFrom, Sem.run_bind, run_load, h0]
    simp only [Result.andThen_ok, ih]
    congr 1
    apply Array.ext'
    simp [List.range_succ_eq_map, Function.comp_def]

theorem addr_add (b o n : Nat) : (⟨b, o, none⟩ : Addr).add n = ⟨b, o + n, none⟩ := by
  unfold Addr.add
  split <;> simp_all

theorem isAgg_run {T : TypeId} (hk : (P.underlying T).isSome = true) : (isAgg T).run P w = .ok (aggSize P T).isSome w := by
  obtain ⟨d, hd⟩ := Option.isSome_iff_exists.1 hk
  simp only [isAgg, Sem.run_bind, run_underlying hd, Result.andThen_ok, aggSize, hd]
  cases d <;> simp

theorem aggSize_some {T n : Nat} (h : aggSize P T = some n) : n = P.cellsOf T ∧ (P.underlying T).isSome = true := by
  unfold aggSize at h
  split at h <;> first | (cases h; done) | skip
  all_goals
    rename_i hT
    cases h
    exact ⟨rfl, by simp [hT]⟩

theorem take_run {T : TypeId} {e : List AV} {off : Nat} {av : AV} {blk o : Nat} (ht : takeA P T e off = some av)
    (hc : ∀ j (hj : j < e.length), ∃ u, w.cell? ⟨blk, o + j, none⟩ = some u ∧ Rep imm m u e[j]) :
    ∃ v, (loadVar T ⟨blk, o + off, none⟩).run P w = .ok v w ∧ Rep imm m v av := by
  unfold takeA at ht
  split at ht
  · rename_i n hn
    split at ht
    · rename_i hle
      cases ht
      obtain ⟨rfl, hu⟩ := aggSize_some hn
      have hi := hle.2
      have hcs : ∀ j, j < P.cellsOf T → ∃ u, w.cell? ⟨blk, o + off + j, none⟩ = some u ∧ ∀ hj : off + j < e.length, Rep imm m u e[off + j] := fun j hj => by
        obtain ⟨u, e1, r⟩ := hc (off + j) (by omega)
        exact ⟨u, by rw [show o + off + j = o + (off + j) by omega]; exact e1, fun _ => r⟩
      let f : Nat → Value := fun j => if h : j < P.cellsOf T then (hcs j h).choose else undef
      have hf : ∀ j (h : j < P.cellsOf T), w.cell? ⟨blk, o + off + j, none⟩ = some (f j) ∧ ∀ hj : off + j < e.length, Rep imm m (f j) e[off + j] := fun j h => by
        have := (hcs j h).choose_spec
        simp only [f, h, dif_pos]
        exact this
      have hrun := loadCellsFrom_run (P := P) (w := w) ⟨blk, o + off, none⟩ (P.cellsOf T) 0 #[] f (fun j hj => by rw [addr_add]; simpa using (hf j hj).1)
      refine ⟨.agg ((List.range (P.cellsOf T)).map f).toArray, ?_, ?_⟩
      · simp only [loadVar, Sem.run_bind, isAgg_run hu, hn, Option.isSome_some, Result.andThen_ok, if_true, run_sizeOf hi, loadCells, hrun, Sem.run_pure]
        simp
      · refine .agg _ _ (by simp; omega) (fun i h1 h2 => ?_)
        simp only [List.getElem_map, List.getElem_range, List.getElem_take, List.getElem_drop]
        simp at h1
        exact (hf i h1).2 _
    · cases ht
  · rename_i hn
    split at ht
    · rename_i hk
      simp only [knownT, Bool.and_eq_true] at hk
      obtain ⟨hj, rfl⟩ := List.getElem?_eq_some_iff.1 ht
      obtain ⟨u, e1, r⟩ := hc off hj
      refine ⟨u, ?_, r⟩
      simp only [loadVar, Sem.run_bind, isAgg_run hk.1, hn, Option.isSome_none, Result.andThen_ok]
      simp [run_load, e1]
    · cases ht

theorem load_run (hs : Sim K imm m w σ) {T : TypeId} {p av : AV} {v : Value} (hr : Rep imm m v p) (h : loadA P σ T p = some av) :
    ∃ u, (Instr.loadAt T v).run P w = .ok u w ∧ Rep imm m u av := by
  unfold loadA at h
  split at h
  · rename_i b k i off
    obtain ⟨e, he, ht⟩ := Option.bind_eq_some_iff.1 h
    obtain ⟨blk, o, rfl, hc⟩ := cells_behind hs hr he
    obtain ⟨u, h1, h2⟩ := take_run ht hc
    exact ⟨u, by simp [Instr.loadAt, Instr.sureAddr, h1], h2⟩
  · rename_i e off
    cases hr with
    | cp b o x e off vals hx hc hr =>
      subst hx
      have hcell : ∀ j (hj : j < e.length), ∃ u, w.cell? ⟨b, o + j, none⟩ = some u ∧ Rep imm m u e[j] := fun j hj => by
        refine ⟨vals j, ?_, hr j hj⟩
        have := hc j hj
        unfold icell at this
        split at this
        · rename_i c T fr hb
          simp [World.cell?, hs.imm_ok _ _ hb, this]
        · cases this
      obtain ⟨u, h1, h2⟩ := take_run (P := P) h hcell
      exact ⟨u, by simp [Instr.loadAt, Instr.sureAddr, h1], h2⟩
  · cases h

theorem store_run (hs : Sim K imm m w σ) {T : TypeId} {p av : AV} {v u : Value} {σ' : Store} (hp : Rep imm m v p) (hv : Rep imm m u av) (h : storeA P σ T p av = some σ') :
    ∃ w', (Instr.storeAt T v u).run P w = .ok () w' ∧ Sim K imm m w' σ' := by
  unfold storeA at h
  split at h
  · rename_i b k i off
    split at h
    · rename_i k' es hb
      split at h
      · rename_i e he
        split at h
        · rename_i hcond
          obtain ⟨rfl, hT, hlen, hoff, hone⟩ := hcond
          cases h
          obtain ⟨hlt, hob⟩ := List.getElem?_eq_some_iff.1 hb
          obtain ⟨hi, rfl⟩ := List.getElem?_eq_some_iff.1 he
          have h0 := hs.obs b hlt
          rw [hob] at h0
          obtain ⟨blk, sz, h1, h2, cs, T', fr, h3, h4, h5, h6, h7⟩ := h0
          cases hp with
          | ptr b k i off blk' sz' x hm hx =>
            rw [h1] at hm
            cases hm
            subst hx
            have hcr := cells_rep hv
            have hk := (h7 i hi).1
            have hbnd : ∀ j, j < k' → i * k' + j < sz := fun j hj => Nat.lt_of_lt_of_le (flat_lt hj hi) h6
            have hcell : ∀ j, j < u.cells.toList.length → (w.cell? ⟨blk, i * k' + off + 0 + j, none⟩).isSome = true := fun j hj => by
              have : i * k' + (off + j) < cs.size := by rw [h4]; exact hbnd _ (by have := hcr.1; omega)
              simp [World.cell?, h3, show i * k' + off + j < cs.size by omega]
            have hfro : ∀ j, j < u.cells.toList.length → w.frozen? ⟨blk, i * k' + off + 0 + j, none⟩ = false := fun j hj => by
              have := h5 (i * k' + off + 0 + j) (by have := hbnd (off + j) (by have := hcr.1; omega); omega)
              simp only [World.frozen?, h3]
              simp only [Nat.add_zero] at this ⊢
              simpa using this
            have hon : ∀ x ∈ u.cells.toList, x.oneCell' = true := fun x hx => by
              obtain ⟨j, hj, rfl⟩ := List.getElem_of_mem hx
              refine oneA_rep (hcr.2 j hj (by have := hcr.1; omega)) ?_
              exact List.all_eq_true.1 hone _ (List.getElem_mem _)
            have hst := run_storeCells_cells (P := P) blk (i * k' + off) u.cells.toList 0 w hcell hfro hon
            obtain ⟨cs', g1, g2, g3, g4, g5, g6⟩ := setCells_heap blk T' fr u.cells.toList (i * k' + off) cs w h3
            refine ⟨w.setCells blk (i * k' + off) u.cells.toList, ?_, ?_⟩
            · have hsz : u.cells.size = P.cellsOf T := by rw [← hlen, ← hcr.1]; simp
              simp only [Instr.storeAt, Instr.sureAddr, Sem.run_bind, Sem.run_pure, Result.andThen_ok, storeVar, run_sizeOf hT, hsz]
              simp only [Nat.add_zero] at hst
              simp [hst]
            · refine hs.set g6 hlt h1 hob g5 cs' T' fr g1 (by omega) h5 _ (by simpa using h6) (fun i' hi' => ?_)
              simp only [List.length_set] at hi'
              rw [List.getElem_set]
              split
              · rename_i hii
                subst hii
                refine ⟨by rw [setL_length, hk], fun j hj => ?_⟩
                have hj' : j < es[i].length := by rwa [setL_length] at hj
                have hg := setL_get (cellsA av) es[i] off j hj hj'
                rcases Nat.lt_or_ge j off with hjo | hjo
                · rw [hg.2 (.inl hjo), g3 _ (.inl (by omega))]
                  exact (h7 i hi).2 j hj'
                · rcases Nat.lt_or_ge j (off + (cellsA av).length) with hjl | hjl
                  · rw [hg.1 (j - off) (by omega) (by omega)]
                    have := g4 (j - off) (by have := hcr.1; omega) (by rw [h4]; have := hbnd j (by omega); omega)
                    rw [show i * k' + off + (j - off) = i * k' + j by omega] at this
                    exact ⟨_, this, hcr.2 _ _ _⟩
                  · rw [hg.2 (.inr hjl), g3 _ (.inr (by have := hcr.1; omega))]
                    exact (h7 i hi).2 j hj'
              · rename_i hii
                refine ⟨(h7 i' hi').1, fun j hj => ?_⟩
                obtain ⟨x, e1, r⟩ := (h7 i' hi').2 j hj
                refine ⟨x, ?_, r⟩
                rw [g3 _ ?_, e1]
                have hj' : j < k' := by rw [← (h7 i' hi').1]; exact hj
                rcases Nat.lt_or_ge i' i with hlt' | hge'
                · have := flat_lt hj' hlt'
                  exact .inl (by omega)
                · have := Nat.mul_le_mul_right k' (show i + 1 ≤ i' by omega)
                  rw [Nat.add_mul] at this
                  exact .inr (by have := hcr.1; omega)
        · cases h
      · cases h
    · cases h
  · cases h
end
end Go.Proofs.Ytephecognbbaoaa
namespace Go.Proofs.Ytephecognbbaoaa
open Go
set_option linter.all false

/-- The parts of a literal, laid in order. -/
def fillA (place : Nat → Option (Nat × Nat)) (cells : List AV) : List (Nat × AV) → Option (List AV)
  | [] => some cells
  | (i, v) :: r => match place i with
    | some (off, size) => if (cellsA v).length = size ∧ off + size ≤ cells.length then fillA place (setL cells off (cellsA v)) r else none
    | none => none

def placeA (P : Program) (fs : Array Field) (i : Nat) : Option (Nat × Nat) :=
  match fs[i]? with
  | some f => some (f.offset, P.cellsOf f.type)
  | none => none

/-- A struct's fields' places: all of known types. -/
def placesA (P : Program) (T : TypeId) : Option (List (Nat × Nat)) :=
  match P.underlying T with
  | some (.struct fs) => if fs.all (fun f => (P.info? f.type).isSome) then some (fs.toList.map fun f => (f.offset, P.cellsOf f.type)) else none
  | some (.array n e) => if (P.info? e).isSome then some ((List.range n).map fun i => (i * P.cellsOf e, P.cellsOf e)) else none
  | _ => none

theorem fillA_more {f g : Nat → Option (Nat × Nat)} (h : ∀ i p, f i = some p → g i = some p) : ∀ (ps : List (Nat × AV)) (e l : List AV), fillA f e ps = some l → fillA g e ps = some l
  | [], e, l, hl => hl
  | (i, v) :: r, e, l, hl => by
    simp only [fillA] at hl ⊢
    cases hf : f i with
    | none => rw [hf] at hl; cases hl
    | some p =>
      rw [hf] at hl
      rw [h i p hf]
      obtain ⟨o, n⟩ := p
      simp only at hl ⊢
      split at hl
      · rename_i hc
        rw [if_pos hc]
        exact fillA_more h r _ l hl
      · cases hl

def partsA (ev : Operand → Option AV) : List (Nat × Operand) → Option (List (Nat × AV))
  | [] => some []
  | (i, x) :: r => (ev x).bind fun v => (partsA ev r).bind fun l => some ((i, v) :: l)

/-- A slice's literal whose parts are all there, in order. -/
def rowsA (k : Nat) : Nat → List (Nat × AV) → Option (List (List AV))
  | _, [] => some []
  | i, (j, v) :: r => if i = j ∧ (cellsA v).length = k then (rowsA k (i + 1) r).map fun l => cellsA v :: l else none

section
variable {P : Program} {K : World} {imm : Imm} {m : Own} {w w' : World} {σ : Store} {ev : Operand → Option AV} {ρ : Operand → Value}

theorem zeroA_run {T : TypeId} {z : List AV} (h : zeroA P T = some z) : ∃ v, (zeroValue T).run P w = .ok v w ∧ RepL imm m v.cells.toList z ∧ z = v.cells.toList.map .c ∧ ((P.info? T).map (·.zero) = some (some v)) := by
  unfold zeroA at h
  split at h
  · rename_i i hi
    cases hz : i.zero with
    | none => rw [hz] at h; cases h
    | some v =>
      rw [hz] at h
      cases h
      refine ⟨v, by simp [zeroValue, run_typeInfo hi, hz], ⟨by simp, fun j h1 h2 => ?_⟩, rfl, by simp [hi, hz]⟩
      simp only [List.getElem_map]
      exact .c _
  · cases h

theorem beside_alloc (o : Obj) : Beside w (w.alloc o) := ⟨rfl, rfl, rfl, by simp⟩

theorem Sim.alloc1 (hs : Sim K imm m w σ) (cells : Array Value) (T : TypeId) (z : List AV) (hz : RepL imm m cells.toList z) :
    ∃ m', OLe m m' ∧ Sim K imm m' (w.alloc (.cells cells T)) (σ ++ [.cells z.length [z]]) ∧ Rep imm m' (.pointer (some ⟨w.heap.size, 0, none⟩)) (.ptr σ.length z.length 0 0) := by
  have hl : cells.size = z.length := by simpa using hz.1
  refine ⟨_, .upd (hs.dom _ (Nat.le_refl _)) _, hs.push (beside_alloc _) cells T (0, 0) rfl z.length [z] (by simp) (by simp [hl]) (fun i hi => ?_), .ptr _ _ _ _ _ cells.size _ (by simp [upd]) (by simp)⟩
  obtain rfl : i = 0 := by simp at hi; omega
  refine ⟨rfl, fun j hj => ⟨cells[j]'(by rw [hl]; exact hj), by simp [hl], ?_⟩⟩
  have h9 := hz.2 j (by simp only [Array.length_toList]; rw [hl]; exact hj) hj
  exact h9

theorem partsA_rep (hev : ∀ x av, ev x = some av → Rep imm m (ρ x) av) : ∀ (ps : List (Nat × Operand)) (l : List (Nat × AV)), partsA ev ps = some l →
    ps.length = l.length ∧ ∀ i (h1 : i < ps.length) (h2 : i < l.length), ps[i].1 = l[i].1 ∧ Rep imm m (ρ ps[i].2) l[i].2 := by
  intro ps
  induction ps with
  | nil => intro l h; cases h; exact ⟨rfl, fun i h1 => by simp at h1⟩
  | cons p r ih =>
    obtain ⟨n, x⟩ := p
    intro l h
    simp only [partsA, Option.bind_eq_some_iff] at h
    obtain ⟨v, hv, l', hl, e⟩ := h
    cases e
    obtain ⟨h1, h2⟩ := ih l' hl
    refine ⟨by simpa using h1, fun i hi1 hi2 => ?_⟩
    cases i with
    | zero => exact ⟨rfl, hev _ _ hv⟩
    | succ i =>
      simp only [List.getElem_cons_succ]
      exact h2 i (by simpa using hi1) (by simpa using hi2)

/-- Cells set one by one. -/
theorem foldl_set (off : Nat) : ∀ (vs : List Value) (cs : Array Value) (n : Nat), (vs.zipIdx n).foldl (fun cs (c, j) => cs.setIfInBounds (off + j) c) cs = (vs.zipIdx n).foldl (fun cs (c, j) => cs.setIfInBounds (off + j) c) cs := fun _ _ _ => rfl

theorem setL_rep : ∀ (vs : List Value) (as : List AV) (cs : Array Value) (e : List AV) (off n : Nat), RepL imm m cs.toList e → RepL imm m vs as → off + n + vs.length ≤ cs.size →
    RepL imm m ((vs.zipIdx n).foldl (fun cs (c, j) => cs.setIfInBounds (off + j) c) cs).toList (setL e (off + n) as)
  | [], as, cs, e, off, n, hc, hv, hle => by
    obtain rfl : as = [] := List.eq_nil_of_length_eq_zero (by have := hv.1; simpa using this.symm)
    exact hc
  | v :: r, as, cs, e, off, n, hc, hv, hle => by
    cases as with
    | nil => have := hv.1; simp at this
    | cons a s =>
      simp only [List.zipIdx_cons, List.foldl_cons, setL]
      have h0 : Rep imm m v a := hv.2 0 (by simp) (by simp)
      have hr : RepL imm m r s := ⟨by have := hv.1; simpa using this, fun i h1 h2 => by
        have := hv.2 (i + 1) (by simp; omega) (by simp; omega)
        simpa using this⟩
      have hc' : RepL imm m (cs.setIfInBounds (off + n) v).toList (e.set (off + n) a) := by
        refine ⟨by have := hc.1; simp at this ⊢; exact this, fun i h1 h2 => ?_⟩
        simp only [Array.toList_setIfInBounds, List.getElem_set]
        split
        · exact h0
        · exact hc.2 i _ _
      have := setL_rep r s (cs.setIfInBounds (off + n) v) (e.set (off + n) a) off (n + 1) hc' hr (by simp only [List.length_cons] at hle; simp; omega)
      rw [show off + n + 1 = off + (n + 1) by omega]
      exact this

theorem fillA_rep (place : Nat → Option (Nat × Nat)) : ∀ (ps : List (Nat × Value)) (l : List (Nat × AV)) (cs : Array Value) (e e' : List AV), RepL imm m cs.toList e →
    (ps.length = l.length ∧ ∀ i (h1 : i < ps.length) (h2 : i < l.length), ps[i].1 = l[i].1 ∧ Rep imm m ps[i].2 l[i].2) → fillA place e l = some e' →
    ∃ cs', Instr.fill place cs ps = some cs' ∧ RepL imm m cs'.toList e'
  | [], l, cs, e, e', hc, hp, h => by
    obtain rfl : l = [] := List.eq_nil_of_length_eq_zero (by have := hp.1; simpa using this.symm)
    cases h
    exact ⟨cs, rfl, hc⟩
  | (i, v) :: r, l, cs, e, e', hc, hp, h => by
    cases l with
    | nil => have := hp.1; simp at this
    | cons x s =>
      obtain ⟨j, a⟩ := x
      have h0 := hp.2 0 (by simp) (by simp)
      simp only [List.getElem_cons_zero] at h0
      obtain ⟨rfl, hr0⟩ := h0
      have hcv := cells_rep hr0
      simp only [fillA] at h
      split at h
      · rename_i off size hpl
        split at h
        · rename_i hcond
          have hl1 : v.cells.size = size := by rw [← hcond.1, ← hcv.1]; simp
          have hl2 : cs.size = e.length := by have := hc.1; simpa using this
          have hset := setL_rep v.cells.toList (cellsA a) cs e off 0 hc hcv (by simp [hl1, hl2]; exact hcond.2)
          have hrest : (r.length = s.length ∧ ∀ i (h1 : i < r.length) (h2 : i < s.length), r[i].1 = s[i].1 ∧ Rep imm m r[i].2 s[i].2) :=
            ⟨by have := hp.1; simpa using this, fun n h1 h2 => by
              have := hp.2 (n + 1) (by simp; omega) (by simp; omega)
              simpa using this⟩
          obtain ⟨cs', e1, r1⟩ := fillA_rep place r s _ _ e' hset hrest h
          refine ⟨cs', ?_, r1⟩
          simp only [Instr.fill, hpl]
          rw [if_neg (by rw [hl1, hl2]; simp; exact hcond.2)]
          rw [← e1]
          congr 1
          rw [← Array.foldl_toList, Array.toList_zipIdx]
        · cases h
      · cases h
end
end Go.Proofs.Ytephecognbbaoaa
