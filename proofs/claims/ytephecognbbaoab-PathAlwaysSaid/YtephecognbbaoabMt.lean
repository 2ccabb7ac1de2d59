/- Lists of marks: which nodes have been met. -/
import Derived.Test.YtephecognbbaoabNd
namespace Go.Proofs.Ytephecognbbaoab
open Go
set_option linter.all false
set_option maxRecDepth 100000
set_option maxHeartbeats 4000000

def boolC (b : Bool) : List AV := [.c (.bool b)]
def boolsA (l : List Bool) : AV := .sl (l.map boolC)
attribute [go_sem] boolC boolsA
theorem Bd.bools {n : Nat} (l : List Bool) : Bd n (.sl (l.map boolC)) := .slL (fun _ => .cons (.c _) .nil) l
theorem boolC_len (l : List Bool) : (∀ e', e' ∈ l.map boolC → e'.length = 1) = True := len_map (f := boolC) (fun _ => rfl) l
theorem boolC_one (l : List Bool) : (∀ e', e' ∈ l.map boolC → e'.all oneA = true) = True := one_map (f := boolC) (fun _ => rfl) l
attribute [go_sem] boolC_len boolC_one
def metL (n : Net) (s : List Int) : List Bool := (ints n.nodes).map fun k => decide (k ∈ s)
def metO (n : Net) (s : List Int) : Ob := .cells 1 ((metL n s).map boolC)
theorem metL_len (n : Net) (s : List Int) : (metL n s).length = n.nodes.toNat := by simp [metL, ints_length]
theorem ints_get {m : Int} {k : Int} (h0 : 0 ≤ k) (h1 : k < m) : (ints m)[k.toNat]? = some k := by
  have : k.toNat < m.toNat := by omega
  simp [ints, this]
  omega
theorem met_get (n : Net) (s : List Int) {k : Int} (h0 : 0 ≤ k) (h1 : k < n.nodes) : ((metL n s).map boolC)[k.toNat]? = some [.c (.bool (decide (k ∈ s)))] := by
  rw [metL, List.map_map, List.getElem?_map, ints_get h0 h1]
  rfl
theorem met_upd (n : Net) (s s' : List Int) {k : Int} {v : Bool} (h0 : 0 ≤ k) (h1 : k < n.nodes) (hv : decide (k ∈ s') = v) (ho : ∀ q, q ≠ k → (q ∈ s' ↔ q ∈ s)) : ((metL n s).map boolC).set k.toNat [.c (.bool v)] = (metL n s').map boolC := by
  apply List.ext_getElem?
  intro i
  rw [List.getElem?_set]
  by_cases e : k.toNat = i
  · subst e
    rw [if_pos rfl, met_get n s' h0 h1, hv, if_pos (by rw [List.length_map, metL_len]; omega)]
  · rw [if_neg e]
    by_cases hi : (i : Int) < n.nodes
    · have h2 := met_get n s (k := (i : Int)) (by omega) hi
      have h3 := met_get n s' (k := (i : Int)) (by omega) hi
      simp only [Int.toNat_natCast] at h2 h3
      rw [h2, h3]
      have := ho (i : Int) (by omega)
      by_cases hm : (i : Int) ∈ s
      · rw [decide_eq_true hm, decide_eq_true (this.2 hm)]
      · rw [decide_eq_false hm, decide_eq_false fun h => hm (this.1 h)]
    · rw [List.getElem?_eq_none (by rw [List.length_map, metL_len]; omega), List.getElem?_eq_none (by rw [List.length_map, metL_len]; omega)]
theorem met_set (n : Net) (s : List Int) {k : Int} (h0 : 0 ≤ k) (h1 : k < n.nodes) : ((metL n s).map boolC).set k.toNat [.c (.bool true)] = (metL n (k :: s)).map boolC :=
  met_upd n s (k :: s) h0 h1 (by simp) fun q hq => by simp [hq]
theorem met_clr (n : Net) (s : List Int) {k : Int} (h0 : 0 ≤ k) (h1 : k < n.nodes) (hs : k ∉ s) : ((metL n (k :: s)).map boolC).set k.toNat [.c (.bool false)] = (metL n s).map boolC :=
  met_upd n (k :: s) s h0 h1 (by simp [hs]) fun q hq => by simp [hq]
theorem met_none (n : Net) : List.replicate n.nodes.toNat [AV.c (.bool false)] = (metL n []).map boolC := by
  apply List.ext_getElem?
  intro i
  by_cases hi : (i : Int) < n.nodes
  · have h2 := met_get n [] (k := (i : Int)) (by omega) hi
    simp only [Int.toNat_natCast] at h2
    have : i < n.nodes.toNat := by omega
    rw [h2, List.getElem?_replicate, if_pos this]
    simp
  · rw [List.getElem?_eq_none (by rw [List.length_replicate]; omega), List.getElem?_eq_none (by rw [List.length_map, metL_len]; omega)]
end Go.Proofs.Ytephecognbbaoab
