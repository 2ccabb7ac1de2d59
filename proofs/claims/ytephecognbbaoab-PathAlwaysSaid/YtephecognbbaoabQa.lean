/- Routes with paths: their order, and what is best of all: in plain Lean. -/
import Derived.Test.YtephecognbbaoabPv
namespace Go.Proofs.Ytephecognbbaoab
open Go
set_option linter.all false

/-- The order of lists of numbers. -/
def lexLe : List Int → List Int → Bool
  | [], _ => true
  | _ :: _, [] => false
  | a :: p, b :: q => if a = b then lexLe p q else decide (a < b)

theorem lex_refl : ∀ p : List Int, lexLe p p = true
  | [] => rfl
  | a :: p => by rw [lexLe, if_pos rfl]; exact lex_refl p
theorem lex_total : ∀ p q : List Int, lexLe p q = true ∨ lexLe q p = true
  | [], _ => Or.inl rfl
  | _ :: _, [] => Or.inr rfl
  | a :: p, b :: q => by
    rw [lexLe, lexLe]
    by_cases e : a = b
    · rw [if_pos e, if_pos e.symm]; exact lex_total p q
    · rw [if_neg e, if_neg (Ne.symm e), decide_eq_true_eq, decide_eq_true_eq]; omega
theorem lex_antisymm : ∀ p q : List Int, lexLe p q = true → lexLe q p = true → p = q
  | [], [], _, _ => rfl
  | [], _ :: _, _, h => by cases h
  | _ :: _, [], h, _ => by cases h
  | a :: p, b :: q, h1, h2 => by
    rw [lexLe] at h1 h2
    by_cases e : a = b
    · rw [if_pos e] at h1; rw [if_pos e.symm] at h2
      rw [e, lex_antisymm p q h1 h2]
    · rw [if_neg e, decide_eq_true_eq] at h1; rw [if_neg (Ne.symm e), decide_eq_true_eq] at h2; omega
theorem lex_trans : ∀ p q r : List Int, lexLe p q = true → lexLe q r = true → lexLe p r = true
  | [], _, _, _, _ => rfl
  | _ :: _, [], _, h, _ => by cases h
  | _ :: _, _ :: _, [], _, h => by cases h
  | a :: p, b :: q, c :: r, h1, h2 => by
    rw [lexLe] at h1 h2 ⊢
    by_cases e : a = b
    · rw [if_pos e] at h1
      subst e
      by_cases e2 : a = c
      · rw [if_pos e2] at h2 ⊢; exact lex_trans p q r h1 h2
      · rw [if_neg e2] at h2 ⊢; exact h2
    · rw [if_neg e, decide_eq_true_eq] at h1
      by_cases e2 : b = c
      · subst e2
        rw [if_neg e, decide_eq_true_eq]; exact h1
      · rw [if_neg e2, decide_eq_true_eq] at h2
        rw [if_neg (by omega), decide_eq_true_eq]; omega

structure Rt where
  w : Int
  p : List Int
deriving DecidableEq
instance : Inhabited Rt := ⟨⟨0, []⟩⟩

section
variable {n : Net}

def invR (n : Net) : Rt := ⟨n.alg.size - 1, []⟩

def firstA (n : Net) (a b : Rt) : Bool :=
  if a.w = n.alg.size - 1 ∨ b.w = n.alg.size - 1 then decide (a.w ≠ n.alg.size - 1)
  else if a.w ≠ b.w then decide (bestA n a.w b.w = a.w)
  else if a.p.length ≠ b.p.length then decide (a.p.length < b.p.length)
  else lexLe a.p b.p

def bestR (n : Net) (a b : Rt) : Rt := if firstA n a b = true then a else b

def extR (n : Net) (i e : Int) (r : Rt) : Rt :=
  if r.w = n.alg.size - 1 ∨ i ∈ r.p ∨ overA n e r.w = n.alg.size - 1 then invR n else ⟨overA n e r.w, i :: r.p⟩

structure RightR (n : Net) (r : Rt) : Prop where
  w : InV n r.w
  inv : r.w = n.alg.size - 1 → r.p = []
  ne : r.w ≠ n.alg.size - 1 → r.p ≠ []
  one : r.p.Nodup
  rng : ∀ k ∈ r.p, 0 ≤ k ∧ k < n.nodes

theorem right_inv (h : NetIn n) : RightR n (invR n) := ⟨inv_in h, fun _ => rfl, fun e => absurd rfl e, List.nodup_nil, fun k hk => by cases hk⟩

theorem le_law7 (h : NetIn n) {e a : Int} (he : 0 ≤ e ∧ e < n.alg.edges.length) (ha : InV n a) : Le n a (overA n e a) := by
  have hm : (⟨7, a, 0, 0, e⟩ : Brk) ∈ casesA n.alg 7 := mem_cases.2 ⟨rfl, ha, ⟨Int.le_refl _, show (0 : Int) < 1 by decide⟩, ⟨Int.le_refl _, show (0 : Int) < 1 by decide⟩, he⟩
  have := holds_seven h hm (show (7 : Int) ∈ seven by decide)
  have e : holdsA n.alg ⟨7, a, 0, 0, e⟩ = decide (at2 n.alg.best a (at2 n.alg.edges e a) = a) := rfl
  rw [e] at this
  have := of_decide_eq_true this
  exact this

theorem rank_le (h : NetIn n) {a b : Int} (ha : InV n a) (hb : InV n b) (h1 : Le n a b) : rank n a ≤ rank n b := by
  by_cases e : a = b
  · rw [e]; exact Nat.le_refl _
  · exact Nat.le_of_lt (rank_lt h ha hb h1 e)

theorem rank_inj (h : NetIn n) {a b : Int} (ha : InV n a) (hb : InV n b) (h1 : rank n a = rank n b) : a = b := by
  apply Classical.byContradiction
  intro e
  rcases le_total h ha hb with h2 | h2
  · have := rank_lt h ha hb h2 e; omega
  · have := rank_lt h hb ha h2 (Ne.symm e); omega

def keyR (n : Net) (r : Rt) : List Int := if r.w = n.alg.size - 1 then [1] else 0 :: (rank n r.w : Int) :: (r.p.length : Int) :: r.p

theorem key_inj (h : NetIn n) {a b : Rt} (ha : RightR n a) (hb : RightR n b) (hk : keyR n a = keyR n b) : a = b := by
  obtain ⟨w, p⟩ := a
  obtain ⟨v, q⟩ := b
  have a2 := ha.inv
  have b2 := hb.inv
  have a1 := ha.w
  have b1 := hb.w
  simp only [keyR] at hk a1 b1 a2 b2
  by_cases e : w = n.alg.size - 1
  · by_cases e2 : v = n.alg.size - 1
    · rw [a2 e, b2 e2, e, e2]
    · rw [if_pos e, if_neg e2] at hk; cases hk
  · by_cases e2 : v = n.alg.size - 1
    · rw [if_neg e, if_pos e2] at hk; cases hk
    · rw [if_neg e, if_neg e2] at hk
      simp only [List.cons.injEq, true_and] at hk
      rw [rank_inj h a1 b1 (by omega), hk.2.2]

theorem best_key (h : NetIn n) {a b : Rt} (ha : RightR n a) (hb : RightR n b) : bestR n a b = if lexLe (keyR n a) (keyR n b) = true then a else b := by
  have a1 := ha.w
  have b1 := hb.w
  by_cases e : a.w = n.alg.size - 1
  · have hf : firstA n a b = false := by rw [firstA, if_pos (Or.inl e), decide_eq_false (not_not_intro e)]
    rw [bestR, hf]
    by_cases e2 : b.w = n.alg.size - 1
    · have hk : keyR n a = keyR n b := by rw [keyR, keyR, if_pos e, if_pos e2]
      rw [key_inj h ha hb hk]
      simp
    · have hk : lexLe (keyR n a) (keyR n b) = false := by
        rw [keyR, keyR, if_pos e, if_neg e2, lexLe, if_neg (by decide)]; rfl
      rw [hk]
  · by_cases e2 : b.w = n.alg.size - 1
    · have hf : firstA n a b = true := by rw [firstA, if_pos (Or.inr e2), decide_eq_true e]
      have hk : lexLe (keyR n a) (keyR n b) = true := by
        rw [keyR, keyR, if_neg e, if_pos e2, lexLe, if_neg (by decide)]; rfl
      rw [bestR, hf, hk]
    · have hk : lexLe (keyR n a) (keyR n b) = lexLe ((rank n a.w : Int) :: (a.p.length : Int) :: a.p) ((rank n b.w : Int) :: (b.p.length : Int) :: b.p) := by
        rw [keyR, keyR, if_neg e, if_neg e2, lexLe, if_pos rfl]
      have hn : ¬ (a.w = n.alg.size - 1 ∨ b.w = n.alg.size - 1) := by rw [not_or]; exact ⟨e, e2⟩
      have hf : firstA n a b = lexLe ((rank n a.w : Int) :: (a.p.length : Int) :: a.p) ((rank n b.w : Int) :: (b.p.length : Int) :: b.p) := by
        rw [firstA, if_neg hn]
        by_cases ew : a.w = b.w
        · rw [if_neg (not_not_intro ew), ew, lexLe, if_pos rfl]
          by_cases el : a.p.length = b.p.length
          · rw [if_neg (not_not_intro el), el, lexLe, if_pos rfl]
          · rw [if_pos el, lexLe, if_neg (by omega)]
            simp only [Int.ofNat_lt]
        · rw [if_pos ew]
          have hr : rank n a.w ≠ rank n b.w := fun hr => ew (rank_inj h a1 b1 hr)
          rw [lexLe, if_neg (by omega)]
          have : (bestA n a.w b.w = a.w) ↔ ((rank n a.w : Int) < (rank n b.w : Int)) := by
            constructor
            · intro h1
              have := rank_lt h a1 b1 h1 ew
              omega
            · intro h1
              rcases le_total h a1 b1 with h2 | h2
              · exact h2
              · have := rank_lt h b1 a1 h2 (Ne.symm ew)
                omega
          simp only [this]
      rw [hk, bestR, hf]

/-- No worse. -/
def LeR (n : Net) (a b : Rt) : Prop := lexLe (keyR n a) (keyR n b) = true

theorem leR_refl (a : Rt) : LeR n a a := lex_refl _
theorem leR_trans {a b c : Rt} (h1 : LeR n a b) (h2 : LeR n b c) : LeR n a c := lex_trans _ _ _ h1 h2
theorem leR_antisymm (h : NetIn n) {a b : Rt} (ha : RightR n a) (hb : RightR n b) (h1 : LeR n a b) (h2 : LeR n b a) : a = b := key_inj h ha hb (lex_antisymm _ _ h1 h2)
theorem leR_total (a b : Rt) : LeR n a b ∨ LeR n b a := lex_total _ _
theorem leR_inv (a : Rt) : LeR n a (invR n) := by
  have e : keyR n (invR n) = [1] := if_pos rfl
  rw [LeR, e, keyR]
  split
  · rfl
  · rw [lexLe, if_neg (by decide)]; rfl

theorem bestR_facts (h : NetIn n) {a b : Rt} (ha : RightR n a) (hb : RightR n b) : RightR n (bestR n a b) ∧ LeR n (bestR n a b) a ∧ LeR n (bestR n a b) b ∧ (bestR n a b = a ∨ bestR n a b = b) := by
  rw [best_key h ha hb]
  by_cases e : lexLe (keyR n a) (keyR n b) = true
  · rw [if_pos e]
    exact ⟨ha, leR_refl a, e, Or.inl rfl⟩
  · rw [if_neg e]
    refine ⟨hb, ?_, leR_refl b, Or.inr rfl⟩
    rcases leR_total (n := n) a b with h1 | h1
    · exact absurd h1 e
    · exact h1

theorem bestF_facts (h : NetIn n) {X : Type} (c : X → Prop) [DecidablePred c] (val : X → Rt) : ∀ (L : List X) (init : Rt), (∀ x ∈ L, c x → RightR n (val x)) → RightR n init →
    RightR n (L.foldl (fun r x => if c x then bestR n r (val x) else r) init) ∧ LeR n (L.foldl (fun r x => if c x then bestR n r (val x) else r) init) init ∧
    (∀ x ∈ L, c x → LeR n (L.foldl (fun r x => if c x then bestR n r (val x) else r) init) (val x)) ∧
    (L.foldl (fun r x => if c x then bestR n r (val x) else r) init = init ∨ ∃ x ∈ L, c x ∧ L.foldl (fun r x => if c x then bestR n r (val x) else r) init = val x)
  | [], init, _, hi => ⟨hi, leR_refl _, (fun x hx => absurd hx (by simp)), Or.inl rfl⟩
  | x :: L, init, hv, hi => by
    have hvr : ∀ y ∈ L, c y → RightR n (val y) := fun y hy => hv y (by simp [hy])
    rw [List.foldl_cons]
    by_cases e : c x
    · rw [if_pos e]
      obtain ⟨b1, b2, b3, b4⟩ := bestR_facts h hi (hv x (by simp) e)
      obtain ⟨h1, h2, h3, h4⟩ := bestF_facts h c val L (bestR n init (val x)) hvr b1
      refine ⟨h1, leR_trans h2 b2, fun y hy hc => ?_, ?_⟩
      · rcases List.mem_cons.1 hy with rfl | hy
        · exact leR_trans h2 b3
        · exact h3 y hy hc
      · rcases h4 with h4 | ⟨y, hy, hc, h4⟩
        · rcases b4 with b4 | b4
          · exact Or.inl (h4.trans b4)
          · exact Or.inr ⟨x, by simp, e, h4.trans b4⟩
        · exact Or.inr ⟨y, by simp [hy], hc, h4⟩
    · rw [if_neg e]
      obtain ⟨h1, h2, h3, h4⟩ := bestF_facts h c val L init hvr hi
      refine ⟨h1, h2, fun y hy hc => ?_, ?_⟩
      · rcases List.mem_cons.1 hy with rfl | hy
        · exact absurd hc e
        · exact h3 y hy hc
      · rcases h4 with h4 | ⟨y, hy, hc, h4⟩
        · exact Or.inl h4
        · exact Or.inr ⟨y, by simp [hy], hc, h4⟩

def initR (n : Net) (i j : Int) : Rt := if i = j then ⟨0, [i]⟩ else invR n

/-- By the nodes' order, and by the links'. -/
def routeP (n : Net) (i j : Int) (has : Int → Rt) : Rt := (ints n.nodes).foldl (fun r k => if 0 ≤ edgeOf n i k then bestR n r (extR n i (edgeOf n i k) (has k)) else r) (initR n i j)
def routeQ (n : Net) (i j : Int) (has : Int → Rt) : Rt := n.links.foldl (fun r l => if l.fr = i then bestR n r (extR n i l.edge (has l.dst)) else r) (initR n i j)

theorem right_init (h : NetIn n) {i j : Int} (hi : 0 ≤ i ∧ i < n.nodes) : RightR n (initR n i j) := by
  unfold initR
  split
  · have := h.alg.s2
    exact ⟨⟨Int.le_refl _, by show (0 : Int) < _; omega⟩, fun e => by simp only at e; omega, fun _ => by simp, by simp, fun k hk => by rw [List.mem_singleton.1 hk]; exact hi⟩
  · exact right_inv h

theorem right_ext (h : NetIn n) {i e : Int} {r : Rt} (hi : 0 ≤ i ∧ i < n.nodes) (he : 0 ≤ e ∧ e < n.alg.edges.length) (hr : RightR n r) : RightR n (extR n i e r) := by
  unfold extR
  split
  · exact right_inv h
  · rename_i hc
    rw [not_or, not_or] at hc
    exact ⟨over_in h he hr.w, fun e => absurd e hc.2.2, fun _ => by simp, List.nodup_cons.2 ⟨hc.2.1, hr.one⟩, fun k hk => by
      rcases List.mem_cons.1 hk with rfl | hk
      · exact hi
      · exact hr.rng k hk⟩

theorem routeP_facts (h : NetIn n) {i j : Int} (hi : 0 ≤ i ∧ i < n.nodes) {has : Int → Rt} (hh : ∀ k, 0 ≤ k → k < n.nodes → RightR n (has k)) :
    RightR n (routeP n i j has) ∧ LeR n (routeP n i j has) (initR n i j) ∧ (∀ k, 0 ≤ k → k < n.nodes → 0 ≤ edgeOf n i k → LeR n (routeP n i j has) (extR n i (edgeOf n i k) (has k))) ∧
    (routeP n i j has = initR n i j ∨ ∃ k, (0 ≤ k ∧ k < n.nodes) ∧ 0 ≤ edgeOf n i k ∧ routeP n i j has = extR n i (edgeOf n i k) (has k)) := by
  obtain ⟨h1, h2, h3, h4⟩ := bestF_facts h (fun k => 0 ≤ edgeOf n i k) (fun k => extR n i (edgeOf n i k) (has k)) (ints n.nodes) (initR n i j) (fun k hk he => right_ext h hi ⟨he, edge_in h he⟩ (hh k (mem_ints.1 hk).1 (mem_ints.1 hk).2)) (right_init h hi)
  refine ⟨h1, h2, fun k h0 h5 he => h3 k (mem_ints.2 ⟨h0, h5⟩) he, ?_⟩
  rcases h4 with h4 | ⟨k, hk, he, h4⟩
  · exact Or.inl h4
  · exact Or.inr ⟨k, mem_ints.1 hk, he, h4⟩

theorem routeQ_eq (hc : checkN n = 0) {i j : Int} (hi : 0 ≤ i ∧ i < n.nodes) {has : Int → Rt} (hh : ∀ k, 0 ≤ k → k < n.nodes → RightR n (has k)) : routeQ n i j has = routeP n i j has := by
  have h := netIn_of hc
  obtain ⟨a1, a2, a3, a4⟩ := routeP_facts h (j := j) hi hh
  obtain ⟨b1, b2, b3, b4⟩ := bestF_facts h (fun l : Lnk => l.fr = i) (fun l => extR n i l.edge (has l.dst)) n.links (initR n i j) (fun l hl he => by
    have hk := h.lnk l hl
    exact right_ext h hi ⟨hk.e0, hk.e1⟩ (hh _ hk.d0 hk.d1)) (right_init h hi)
  change routeQ n i j has = _ ∨ ∃ x ∈ n.links, x.fr = i ∧ routeQ n i j has = _ at b4
  refine leR_antisymm h b1 a1 ?_ ?_
  · rcases a4 with a4 | ⟨k, hk, he, a4⟩
    · rw [a4]; exact b2
    · rw [a4]
      obtain ⟨l, hl, h1, h2, h3⟩ := edge_has he
      have := b3 l hl h1
      rw [h2, h3] at this
      exact this
  · rcases b4 with b4 | ⟨l, hl, he, b4⟩
    · rw [b4]; exact a2
    · rw [b4]
      have hk := h.lnk l hl
      have hed := edge_link (apart_of hc) hl
      rw [he] at hed
      have := a3 l.dst hk.d0 hk.d1 (by rw [hed]; exact hk.e0)
      rw [hed] at this
      exact this
end
end Go.Proofs.Ytephecognbbaoab
