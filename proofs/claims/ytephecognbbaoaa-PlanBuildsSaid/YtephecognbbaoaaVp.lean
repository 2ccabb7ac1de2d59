/- Plans: what is wrong with one, and the algebra it stands for; in plain Lean. -/
import Derived.Test.YtephecognbbaoaaPv
namespace Go.Proofs.Ytephecognbbaoaa
open Go
set_option linter.all false

inductive Pl where
  | mk (kind n : Int) (edges : List Int) (parts : List Pl)
instance : Inhabited Pl := ⟨.mk 0 0 [] []⟩
instance : Inhabited Alg := ⟨⟨0, [], []⟩⟩

def Pl.kind : Pl → Int | .mk k _ _ _ => k
def Pl.n : Pl → Int | .mk _ n _ _ => n
def Pl.edges : Pl → List Int | .mk _ _ e _ => e
def Pl.parts : Pl → List Pl | .mk _ _ _ ps => ps

mutual
def deepP : Pl → Nat → Int
  | .mk _ _ _ ps, left => 1 + deepL ps left
def deepL : List Pl → Nat → Int
  | [], _ => 0
  | x :: r, left => match left with
    | 0 => 0
    | l + 1 => max (deepP x l) (deepL r (l + 1))
end

theorem deepL_cons (x : Pl) (r : List Pl) (l : Nat) : deepL (x :: r) (l + 1) = max (deepP x l) (deepL r (l + 1)) := by rw [deepL]
theorem deepL_zero (ps : List Pl) : deepL ps 0 = 0 := by cases ps <;> rw [deepL]
theorem deepP_mk (k n : Int) (e : List Int) (ps : List Pl) (l : Nat) : deepP (.mk k n e ps) l = 1 + deepL ps l := by rw [deepP]

theorem deep_rng : ∀ (l : Nat), (∀ p, 1 ≤ deepP p l ∧ deepP p l ≤ l + 1) ∧ ∀ ps, 0 ≤ deepL ps l ∧ deepL ps l ≤ l
  | 0 => by
    have h : ∀ ps, 0 ≤ deepL ps 0 ∧ deepL ps 0 ≤ (0 : Nat) := fun ps => by rw [deepL_zero]; omega
    refine ⟨fun p => ?_, h⟩
    obtain ⟨k, n, e, ps⟩ := p
    rw [deepP_mk, deepL_zero]
    omega
  | l + 1 => by
    obtain ⟨h1, _⟩ := deep_rng l
    have h : ∀ ps, 0 ≤ deepL ps (l + 1) ∧ deepL ps (l + 1) ≤ (l + 1 : Nat) := fun ps => by
      induction ps with
      | nil => rw [deepL]; omega
      | cons x r ih =>
        rw [deepL_cons]
        have := h1 x
        omega
    refine ⟨fun p => ?_, h⟩
    obtain ⟨k, n, e, ps⟩ := p
    rw [deepP_mk]
    have := h ps
    omega

mutual
def wideP : Pl → Bool
  | .mk _ _ e ps => decide (8 < e.length) || wideL ps
def wideL : List Pl → Bool
  | [] => false
  | x :: r => wideP x || wideL r
end

mutual
def edgesP : Pl → Int
  | .mk k _ e ps => if k = 3 then at0 (edgesL ps) 0 else e.length
def edgesL : List Pl → List Int
  | [] => []
  | x :: r => edgesP x :: edgesL r
end

mutual
def sizeP : Pl → Int
  | .mk k n _ ps => if k = 3 then (at0 (sizeL ps) 0 - 1) * (at0 (sizeL ps) 1 - 1) + 1 else if k = 4 then at0 (sizeL ps) 0 else n + 2
def sizeL : List Pl → List Int
  | [] => []
  | x :: r => sizeP x :: sizeL r
end

theorem edgesL_map : ∀ ps : List Pl, edgesL ps = ps.map edgesP
  | [] => by rw [edgesL]; rfl
  | x :: r => by rw [edgesL, edgesL_map r]; rfl
theorem sizeL_map : ∀ ps : List Pl, sizeL ps = ps.map sizeP
  | [] => by rw [sizeL]; rfl
  | x :: r => by rw [sizeL, sizeL_map r]; rfl

def partsN (k : Int) : Int := if k = 3 then 2 else if k = 4 then 1 else 0

/-- What is wrong with a plan whose parts are right. -/
def ownErr (k n : Int) (e : List Int) (ps : List Pl) : Int :=
  if !inR k 1 4 then 7
  else if (ps.length : Int) ≠ partsN k then 1
  else if k = 3 then
    (if n ≠ 0 then 3 else if 0 < e.length then 1 else if at0 (edgesL ps) 0 ≠ at0 (edgesL ps) 1 then 4 else if 24 < (at0 (sizeL ps) 0 - 1) * (at0 (sizeL ps) 1 - 1) + 1 then 2 else 0)
  else if k = 4 then
    (if n ≠ 0 then 3 else if (e.length : Int) ≠ at0 (edgesL ps) 0 then 4 else if (e.any fun x => !inR x 0 (2 ^ (at0 (sizeL ps) 0).toNat - 1)) = true then 3 else 0)
  else if !inR n 1 22 then 3 else if (e.any fun x => !inR x 1 n) = true then 3 else 0

mutual
def checkP : Pl → Int
  | .mk k n e ps => if checkL ps ≠ 0 then checkL ps else ownErr k n e ps
def checkL : List Pl → Int
  | [] => 0
  | x :: r => if checkP x ≠ 0 then checkP x else checkL r
end

def bitA (m k : Int) : Bool := decide ((m / 2 ^ k.toNat) % 2 = 1)

def simpleA (n : Int) (e : List Int) (f : Int → Int → Int) : Alg :=
  ⟨n + 2, (ints (n + 2)).map fun i => (ints (n + 2)).map fun k => min i k, e.map fun x => (ints (n + 2)).map fun k => if k = n + 1 then k else min (f x k) (n + 1)⟩

/-- A pair's number. -/
def pairN (x y : Alg) (p q : Int) : Int := if p = x.size - 1 ∨ q = y.size - 1 then (x.size - 1) * (y.size - 1) else p * (y.size - 1) + q

def pairBest (x y : Alg) (i k : Int) : Int :=
  if i = (x.size - 1) * (y.size - 1) then k
  else if k = (x.size - 1) * (y.size - 1) then i
  else if i / (y.size - 1) = k / (y.size - 1) then pairN x y (i / (y.size - 1)) (at2 y.best (i % (y.size - 1)) (k % (y.size - 1)))
  else if at2 x.best (i / (y.size - 1)) (k / (y.size - 1)) = i / (y.size - 1) then i
  else k
def pairEdge (x y : Alg) (e k : Int) : Int :=
  if k = (x.size - 1) * (y.size - 1) then k else pairN x y (at2 x.edges e (k / (y.size - 1))) (at2 y.edges e (k % (y.size - 1)))
def pairA (x y : Alg) : Alg :=
  ⟨(x.size - 1) * (y.size - 1) + 1, (ints ((x.size - 1) * (y.size - 1) + 1)).map fun i => (ints ((x.size - 1) * (y.size - 1) + 1)).map fun k => pairBest x y i k,
    (ints x.edges.length).map fun e => (ints ((x.size - 1) * (y.size - 1) + 1)).map fun k => pairEdge x y e k⟩

def filterRow (s m : Int) (row : List Int) : List Int := (ints s).map fun k => if bitA m k = true then s - 1 else at0 row k
def filterA (e : List Int) (a : Alg) : Alg := ⟨a.size, a.best, (ints e.length).map fun i => filterRow a.size (at0 e i) (at0 a.edges i)⟩

mutual
def buildP : Pl → Alg
  | .mk k n e ps => if k = 1 then simpleA n e (fun x a => a + x) else if k = 2 then simpleA n e (fun x a => max a x) else if k = 3 then pairA (at0 (buildL ps) 0) (at0 (buildL ps) 1) else filterA e (at0 (buildL ps) 0)
def buildL : List Pl → List Alg
  | [] => []
  | x :: r => buildP x :: buildL r
end
theorem buildL_map : ∀ ps : List Pl, buildL ps = ps.map buildP
  | [] => by rw [buildL]; rfl
  | x :: r => by rw [buildL, buildL_map r]; rfl

theorem checkL_mem : ∀ {ps : List Pl}, checkL ps = 0 → ∀ x ∈ ps, checkP x = 0
  | [], _, x, hx => by cases hx
  | y :: r, h, x, hx => by
    rw [checkL] at h
    by_cases hy : checkP y = 0
    · rw [if_neg (not_not_intro hy)] at h
      rcases List.mem_cons.1 hx with rfl | hx
      · exact hy
      · exact checkL_mem h x hx
    · rw [if_pos hy] at h
      exact absurd h hy

/-- What is known of the algebra that a checked plan stands for. -/
structure BuildOk (p : Pl) : Prop where
  size : (buildP p).size = sizeP p
  edges : ((buildP p).edges.length : Int) = edgesP p
  s2 : 2 ≤ (buildP p).size
  s24 : (buildP p).size ≤ 24
  bl : ((buildP p).best.length : Int) = (buildP p).size
  row : ∀ r ∈ (buildP p).best ++ (buildP p).edges, (r.length : Int) = (buildP p).size
  val : ∀ r ∈ (buildP p).best ++ (buildP p).edges, ∀ v ∈ r, 0 ≤ v ∧ v ≤ (buildP p).size - 1

theorem ints_map_len {m : Int} {f : Int → Int} (h : 0 ≤ m) : (((ints m).map f).length : Int) = m := by
  rw [List.length_map, ints_length]
  omega

/-- The cases of a checked plan. -/
theorem check_cases {k n : Int} {e : List Int} {ps : List Pl} (h : checkP (.mk k n e ps) = 0) : (∀ x ∈ ps, checkP x = 0) ∧
    ((k = 1 ∧ ps = [] ∧ (1 ≤ n ∧ n ≤ 22) ∧ (∀ x ∈ e, 1 ≤ x ∧ x ≤ n)) ∨ (k = 2 ∧ ps = [] ∧ (1 ≤ n ∧ n ≤ 22) ∧ (∀ x ∈ e, 1 ≤ x ∧ x ≤ n)) ∨
     (k = 3 ∧ n = 0 ∧ e = [] ∧ ∃ x y, ps = [x, y] ∧ edgesP x = edgesP y ∧ (sizeP x - 1) * (sizeP y - 1) + 1 ≤ 24) ∨
     (k = 4 ∧ n = 0 ∧ ∃ x, ps = [x] ∧ (e.length : Int) = edgesP x ∧ ∀ v ∈ e, 0 ≤ v ∧ v ≤ 2 ^ (sizeP x).toNat - 1)) := by
  rw [checkP] at h
  by_cases h0 : checkL ps = 0
  · rw [if_neg (not_not_intro h0)] at h
    refine ⟨checkL_mem h0, ?_⟩
    unfold ownErr at h
    by_cases hk : inR k 1 4 = true
    · rw [hk, if_neg (by decide)] at h
      have hk2 := inR_iff.1 hk
      by_cases hp : (ps.length : Int) = partsN k
      · rw [if_neg (not_not_intro hp)] at h
        by_cases h3 : k = 3
        · subst h3
          rw [if_pos rfl] at h
          by_cases hn : n = 0
          · rw [if_neg (not_not_intro hn)] at h
            by_cases he : 0 < e.length
            · rw [if_pos he] at h; cases h
            · rw [if_neg he] at h
              have hp2 : (ps.length : Int) = 2 := hp
              obtain ⟨x, y, rfl⟩ : ∃ x y, ps = [x, y] := by
                match ps, hp2 with
                | [x, y], _ => exact ⟨x, y, rfl⟩
                | [], h => simp at h
                | [x], h => simp at h
                | x :: y :: z :: r, h => simp at h; omega
              rw [edgesL_map, sizeL_map] at h
              have e0 : at0 ([x, y].map edgesP) 0 = edgesP x := rfl
              have e1 : at0 ([x, y].map edgesP) 1 = edgesP y := rfl
              have s0 : at0 ([x, y].map sizeP) 0 = sizeP x := rfl
              have s1 : at0 ([x, y].map sizeP) 1 = sizeP y := rfl
              rw [e0, e1, s0, s1] at h
              by_cases hee : edgesP x = edgesP y
              · rw [if_neg (not_not_intro hee)] at h
                by_cases hs : 24 < (sizeP x - 1) * (sizeP y - 1) + 1
                · rw [if_pos hs] at h; cases h
                · exact .inr (.inr (.inl ⟨rfl, hn, List.eq_nil_of_length_eq_zero (by omega), x, y, rfl, hee, by omega⟩))
              · rw [if_pos hee] at h; cases h
          · rw [if_pos hn] at h; cases h
        · rw [if_neg h3] at h
          by_cases h4 : k = 4
          · subst h4
            rw [if_pos rfl] at h
            by_cases hn : n = 0
            · rw [if_neg (not_not_intro hn)] at h
              have hp2 : (ps.length : Int) = 1 := hp
              obtain ⟨x, rfl⟩ : ∃ x, ps = [x] := by
                match ps, hp2 with
                | [x], _ => exact ⟨x, rfl⟩
                | [], h => simp at h
                | x :: y :: r, h => simp at h; omega
              rw [edgesL_map, sizeL_map] at h
              have e0 : at0 ([x].map edgesP) 0 = edgesP x := rfl
              have s0 : at0 ([x].map sizeP) 0 = sizeP x := rfl
              rw [e0, s0] at h
              by_cases hee : (e.length : Int) = edgesP x
              · rw [if_neg (not_not_intro hee)] at h
                by_cases ha : (e.any fun v => !inR v 0 (2 ^ (sizeP x).toNat - 1)) = true
                · rw [if_pos ha] at h; cases h
                · refine .inr (.inr (.inr ⟨rfl, hn, x, rfl, hee, fun v hv => ?_⟩))
                  apply Classical.byContradiction
                  intro hc
                  refine ha (List.any_eq_true.2 ⟨v, hv, not_inR.2 ?_⟩)
                  omega
              · rw [if_pos hee] at h; cases h
            · rw [if_pos hn] at h; cases h
          · rw [if_neg h4] at h
            have hp2 : (ps.length : Int) = 0 := by rw [hp, partsN, if_neg h3, if_neg h4]
            have hp3 : ps = [] := List.eq_nil_of_length_eq_zero (by omega)
            by_cases hn : inR n 1 22 = true
            · rw [hn, if_neg (by decide)] at h
              have hn2 := inR_iff.1 hn
              by_cases ha : (e.any fun v => !inR v 1 n) = true
              · rw [if_pos ha] at h; cases h
              · have hv : ∀ x ∈ e, 1 ≤ x ∧ x ≤ n := fun v hv => by
                  apply Classical.byContradiction
                  intro hc
                  refine ha (List.any_eq_true.2 ⟨v, hv, not_inR.2 ?_⟩)
                  omega
                have : k = 1 ∨ k = 2 := by omega
                rcases this with rfl | rfl
                · exact .inl ⟨rfl, hp3, hn2, hv⟩
                · exact .inr (.inl ⟨rfl, hp3, hn2, hv⟩)
            · have hn2 : inR n 1 22 = false := by simpa using hn
              rw [hn2, if_pos (by decide)] at h; cases h
      · rw [if_pos hp] at h
        cases h
    · have hk2 : inR k 1 4 = false := by simpa using hk
      rw [hk2, if_pos (by decide)] at h
      cases h
  · rw [if_pos h0] at h
    exact absurd h h0
end Go.Proofs.Ytephecognbbaoaa
