/- Operations that make memory; append; strings and bytes. -/
import Derived.Test.YtephecognbbaoabMo
namespace Go.Proofs.Ytephecognbbaoab
open Go
set_option linter.all false

/-- The parts of a literal, laid in order. -/
def fillA (place : Nat → Option (Nat × Nat)) (cells : List AV) : List (Nat × AV) → Option (List AV)
  | [] => some cells
  | (i, v) :: r => match place i with
    | some (off, size) => if (cellsA v).length = size ∧ off + size ≤ cells.length then fillA place (setL cells off (cellsA v)) r else none
    | none => none

def placeA (P : Program) (fs : Array Field) (i : Nat) : Option (Nat × Nat) :=
  match fs[i]? with
  | some f => some (f.offset, P.cellsOf f.type)
  | none => none

/-- A struct's fields' places: all of known types. -/
def placesA (P : Program) (T : TypeId) : Option (List (Nat × Nat)) :=
  match P.underlying T with
  | some (.struct fs) => if fs.all (fun f => (P.info? f.type).isSome) then some (fs.toList.map fun f => (f.offset, P.cellsOf f.type)) else none
  | some (.array n e) => if (P.info? e).isSome then some ((List.range n).map fun i => (i * P.cellsOf e, P.cellsOf e)) else none
  | _ => none

theorem fillA_more {f g : Nat → Option (Nat × Nat)} (h : ∀ i p, f i = some p → g i = some p) : ∀ (ps : List (Nat × AV)) (e l : List AV), fillA f e ps = some l → fillA g e ps = some l
  | [], e, l, hl => hl
  | (i, v) :: r, e, l, hl => by
    simp only [fillA] at hl ⊢
    cases hf : f i with
    | none => rw [hf] at hl; cases hl
    | some p =>
      rw [hf] at hl
      rw [h i p hf]
      obtain ⟨o, n⟩ := p
      simp only at hl ⊢
      split at hl
      · rename_i hc
        rw [if_pos hc]
        exact fillA_more h r _ l hl
      · cases hl

def partsA (ev : Operand → Option AV) : List (Nat × Operand) → Option (List (Nat × AV))
  | [] => some []
  | (i, x) :: r => (ev x).bind fun v => (partsA ev r).bind fun l => some ((i, v) :: l)

/-- A slice's literal whose parts are all there, in order. -/
def rowsA (k : Nat) : Nat → List (Nat × AV) → Option (List (List AV))
  | _, [] => some []
  | i, (j, v) :: r => if i = j ∧ (cellsA v).length = k then (rowsA k (i + 1) r).map fun l => cellsA v :: l else none

section
variable {P : Program} {K : World} {imm : Imm} {m : Own} {w w' : World} {σ : Store} {ev : Operand → Option AV} {ρ : Operand → Value}

theorem zeroA_run {T : TypeId} {z : List AV} (h : zeroA P T = some z) : ∃ v, (zeroValue T).run P w = .ok v w ∧ RepL imm m v.cells.toList z ∧ z = v.cells.toList.map .c ∧ ((P.info? T).map (·.zero) = some (some v)) := by
  unfold zeroA at h
  split at h
  · rename_i i hi
    cases hz : i.zero with
    | none => rw [hz] at h; cases h
    | some v =>
      rw [hz] at h
      cases h
      refine ⟨v, by simp [zeroValue, run_typeInfo hi, hz], ⟨by simp, fun j h1 h2 => ?_⟩, rfl, by simp [hi, hz]⟩
      simp only [List.getElem_map]
      exact .c _
  · cases h

theorem beside_alloc (o : Obj) : Beside w (w.alloc o) := ⟨rfl, rfl, rfl, by simp⟩

theorem Sim.alloc1 (hs : Sim K imm m w σ) (cells : Array Value) (T : TypeId) (z : List AV) (hz : RepL imm m cells.toList z) :
    ∃ m', OLe m m' ∧ Sim K imm m' (w.alloc (.cells cells T)) (σ ++ [.cells z.length [z]]) ∧ Rep imm m' (.pointer (some ⟨w.heap.size, 0, none⟩)) (.ptr σ.length z.length 0 0) := by
  have hl : cells.size = z.length := by simpa using hz.1
  refine ⟨_, .upd (hs.dom _ (Nat.le_refl _)) _, hs.push (beside_alloc _) cells T (0, 0) rfl z.length [z] (by simp) (by simp [hl]) (fun i hi => ?_), .ptr _ _ _ _ _ cells.size _ (by simp [upd]) (by simp)⟩
  obtain rfl : i = 0 := by simp at hi; omega
  refine ⟨rfl, fun j hj => ⟨cells[j]'(by rw [hl]; exact hj), by simp [hl], ?_⟩⟩
  have h9 := hz.2 j (by simp only [Array.length_toList]; rw [hl]; exact hj) hj
  exact h9

theorem partsA_rep (hev : ∀ x av, ev x = some av → Rep imm m (ρ x) av) : ∀ (ps : List (Nat × Operand)) (l : List (Nat × AV)), partsA ev ps = some l →
    ps.length = l.length ∧ ∀ i (h1 : i < ps.length) (h2 : i < l.length), ps[i].1 = l[i].1 ∧ Rep imm m (ρ ps[i].2) l[i].2 := by
  intro ps
  induction ps with
  | nil => intro l h; cases h; exact ⟨rfl, fun i h1 => by simp at h1⟩
  | cons p r ih =>
    obtain ⟨n, x⟩ := p
    intro l h
    simp only [partsA, Option.bind_eq_some_iff] at h
    obtain ⟨v, hv, l', hl, e⟩ := h
    cases e
    obtain ⟨h1, h2⟩ := ih l' hl
    refine ⟨by simpa using h1, fun i hi1 hi2 => ?_⟩
    cases i with
    | zero => exact ⟨rfl, hev _ _ hv⟩
    | succ i =>
      simp only [List.getElem_cons_succ]
      exact h2 i (by simpa using hi1) (by simpa using hi2)

/-- Cells set one by one. -/
theorem foldl_set (off : Nat) : ∀ (vs : List Value) (cs : Array Value) (n : Nat), (vs.zipIdx n).foldl (fun cs (c, j) => cs.setIfInBounds (off + j) c) cs = (vs.zipIdx n).foldl (fun cs (c, j) => cs.setIfInBounds (off + j) c) cs := fun _ _ _ => rfl

theorem setL_rep : ∀ (vs : List Value) (as : List AV) (cs : Array Value) (e : List AV) (off n : Nat), RepL imm m cs.toList e → RepL imm m vs as → off + n + vs.length ≤ cs.size →
    RepL imm m ((vs.zipIdx n).foldl (fun cs (c, j) => cs.setIfInBounds (off + j) c) cs).toList (setL e (off + n) as)
  | [], as, cs, e, off, n, hc, hv, hle => by
    obtain rfl : as = [] := List.eq_nil_of_length_eq_zero (by have := hv.1; simpa using this.symm)
    exact hc
  | v :: r, as, cs, e, off, n, hc, hv, hle => by
    cases as with
    | nil => have := hv.1; simp at this
    | cons a s =>
      simp only [List.zipIdx_cons, List.foldl_cons, setL]
      have h0 : Rep imm m v a := hv.2 0 (by simp) (by simp)
      have hr : RepL imm m r s := ⟨by have := hv.1; simpa using this, fun i h1 h2 => by
        have := hv.2 (i + 1) (by simp; omega) (by simp; omega)
        simpa using this⟩
      have hc' : RepL imm m (cs.setIfInBounds (off + n) v).toList (e.set (off + n) a) := by
        refine ⟨by have := hc.1; simp at this ⊢; exact this, fun i h1 h2 => ?_⟩
        simp only [Array.toList_setIfInBounds, List.getElem_set]
        split
        · exact h0
        · exact hc.2 i _ _
      have := setL_rep r s (cs.setIfInBounds (off + n) v) (e.set (off + n) a) off (n + 1) hc' hr (by simp only [List.length_cons] at hle; simp; omega)
      rw [show off + n + 1 = off + (n + 1) by omega]
      exact this

theorem fillA_rep (place : Nat → Option (Nat × Nat)) : ∀ (ps : List (Nat × Value)) (l : List (Nat × AV)) (cs : Array Value) (e e' : List AV), RepL imm m cs.toList e →
    (ps.length = l.length ∧ ∀ i (h1 : i < ps.length) (h2 : i < l.length), ps[i].1 = l[i].1 ∧ Rep imm m ps[i].2 l[i].2) → fillA place e l = some e' →
    ∃ cs', Instr.fill place cs ps = some cs' ∧ RepL imm m cs'.toList e'
  | [], l, cs, e, e', hc, hp, h => by
    obtain rfl : l = [] := List.eq_nil_of_length_eq_zero (by have := hp.1; simpa using this.symm)
    cases h
    exact ⟨cs, rfl, hc⟩
  | (i, v) :: r, l, cs, e, e', hc, hp, h => by
    cases l with
    | nil => have := hp.1; simp at this
    | cons x s =>
      obtain ⟨j, a⟩ := x
      have h0 := hp.2 0 (by simp) (by simp)
      simp only [List.getElem_cons_zero] at h0
      obtain ⟨rfl, hr0⟩ := h0
      have hcv := cells_rep hr0
      simp only [fillA] at h
      split at h
      · rename_i off size hpl
        split at h
        · rename_i hcond
          have hl1 : v.cells.size = size := by rw [← hcond.1, ← hcv.1]; simp
          have hl2 : cs.size = e.length := by have := hc.1; simpa using this
          have hset := setL_rep v.cells.toList (cellsA a) cs e off 0 hc hcv (by simp [hl1, hl2]; exact hcond.2)
          have hrest : (r.length = s.length ∧ ∀ i (h1 : i < r.length) (h2 : i < s.length), r[i].1 = s[i].1 ∧ Rep imm m r[i].2 s[i].2) :=
            ⟨by have := hp.1; simpa using this, fun n h1 h2 => by
              have := hp.2 (n + 1) (by simp; omega) (by simp; omega)
              simpa using this⟩
          obtain ⟨cs', e1, r1⟩ := fillA_rep place r s _ _ e' hset hrest h
          refine ⟨cs', ?_, r1⟩
          simp only [Instr.fill, hpl]
          rw [if_neg (by rw [hl1, hl2]; simp; exact hcond.2)]
          rw [← e1]
          congr 1
          rw [← Array.foldl_toList, Array.toList_zipIdx]
        · cases h
      · cases h
end
end Go.Proofs.Ytephecognbbaoab
