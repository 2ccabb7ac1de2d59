/- Walks, paths and what they weigh: in plain Lean; the best of all paths is the same, whether they are gone from the end, along links, or from the beginning, by nodes. -/
import Derived.Test.YtephecognbbaoaaPu
namespace Go.Proofs.Ytephecognbbaoaa
open Go
set_option linter.all false

/-- What is wrong with a table. -/
def tabErr (n : Net) (t : List (List Int)) : Int :=
  if checkN n ≠ 0 then checkN n
  else if (t.length : Int) ≠ n.nodes ∨ t.any (fun r => decide ((r.length : Int) ≠ n.nodes)) = true then 1
  else if t.any (fun r => r.any fun v => !(decide (v = -1) || inR v 0 (n.nodes - 1))) then 5
  else 0

structure TabIn (n : Net) (t : List (List Int)) : Prop where
  chk : checkN n = 0
  len : (t.length : Int) = n.nodes
  row : ∀ r ∈ t, (r.length : Int) = n.nodes
  val : ∀ r ∈ t, ∀ v ∈ r, v = -1 ∨ (0 ≤ v ∧ v < n.nodes)

theorem tabIn_of {n : Net} {t : List (List Int)} (h : tabErr n t = 0) : TabIn n t := by
  unfold tabErr at h
  split at h
  · rename_i h0; exact absurd h h0
  · rename_i h0
    split at h
    · cases h
    · rename_i h1
      split at h
      · cases h
      · rename_i h2
        rw [not_or] at h1
        refine ⟨Decidable.not_not.1 h0, Decidable.not_not.1 h1.1, fun r hr => ?_, fun r hr v hv => ?_⟩
        · apply Classical.byContradiction
          intro hc
          exact h1.2 (List.any_eq_true.2 ⟨r, hr, decide_eq_true hc⟩)
        · apply Classical.byContradiction
          intro hc
          refine h2 (List.any_eq_true.2 ⟨r, hr, List.any_eq_true.2 ⟨v, hv, ?_⟩⟩)
          rw [not_or] at hc
          simp only [hc.1, decide_false, Bool.false_or]
          exact not_inR.2 (by omega)

/-- A walk by a table. -/
def walkF (t : List (List Int)) (to : Int) : Nat → Int → List Int → List Int × Bool
  | 0, _, out => (out, true)
  | f + 1, at', out => if at' = to then (out, true) else if at2 t at' to < 0 ∨ at2 t at' to ∈ out then (out, false) else walkF t to f (at2 t at' to) (out ++ [at2 t at' to])

theorem tab_at2 {n : Net} {t : List (List Int)} (h : TabIn n t) {i j : Int} (hi : 0 ≤ i ∧ i < n.nodes) (hj : 0 ≤ j ∧ j < n.nodes) : at2 t i j = -1 ∨ (0 ≤ at2 t i j ∧ at2 t i j < n.nodes) := by
  have h1 := at0_mem t hi.1 (by have := h.len; omega)
  have h2 := h.row _ h1
  exact h.val _ h1 _ (at0_mem _ hj.1 (by omega))

theorem nodup_len {m : Int} {l : List Int} (hm : 0 ≤ m) (hd : l.Nodup) (hin : ∀ k ∈ l, 0 ≤ k ∧ k < m) : (l.length : Int) ≤ m := by
  have h1 : l.length ≤ (ints m).length := by
    have hs : l ⊆ ints m := fun k hk => mem_ints.2 (hin k hk)
    exact hd.length_le_of_subset hs
  rw [ints_length] at h1
  omega

/-- Weigh: and is it a path. -/
def weighA (n : Net) : List Int → Int × Bool
  | [] => (0, false)
  | [_] => (0, true)
  | a :: b :: r => if (weighA n (b :: r)).2 = false ∨ edgeOf n a b < 0 then (0, false) else (overA n (edgeOf n a b) (weighA n (b :: r)).1, true)

def weighErr (n : Net) (p : List Int) : Int := if checkN n ≠ 0 then checkN n else if p = [] then 1 else if p.any (fun i => !inR i 0 (n.nodes - 1)) then 5 else if (weighA n p).2 then 0 else 5
def weighV (n : Net) (p : List Int) : Int := if weighErr n p = 0 then (weighA n p).1 else 0

theorem weigh_cons {n : Net} {a b : Int} {r : List Int} (h : (weighA n (a :: b :: r)).2 = true) : (weighA n (b :: r)).2 = true ∧ 0 ≤ edgeOf n a b ∧ (weighA n (a :: b :: r)).1 = overA n (edgeOf n a b) (weighA n (b :: r)).1 := by
  rw [weighA] at h ⊢
  split at h
  · cases h
  · rename_i h1
    rw [if_neg h1]
    rw [not_or] at h1
    exact ⟨by simpa using h1.1, by omega, rfl⟩

theorem weigh_more {n : Net} {a b : Int} {r : List Int} (h : (weighA n (b :: r)).2 = true) (he : 0 ≤ edgeOf n a b) : weighA n (a :: b :: r) = (overA n (edgeOf n a b) (weighA n (b :: r)).1, true) := by
  rw [weighA, if_neg]
  rw [h]
  intro hc
  rcases hc with hc | hc
  · cases hc
  · omega

theorem weigh_bad {n : Net} {a b : Int} {r : List Int} (h : (weighA n (b :: r)).2 = false) : weighA n (a :: b :: r) = (0, false) := by
  rw [weighA, if_pos (Or.inl h)]

theorem weigh_gap {n : Net} {a b : Int} {r : List Int} (he : edgeOf n a b < 0) : weighA n (a :: b :: r) = (0, false) := by
  rw [weighA, if_pos (Or.inr he)]

theorem ok_tail {n : Net} : ∀ (q : List Int) {p : List Int}, p ≠ [] → (weighA n (q ++ p)).2 = true → (weighA n p).2 = true
  | [], _, _, h => h
  | a :: q, p, hp, h => by
    rcases e : q ++ p with _ | ⟨b, r⟩
    · exact absurd (List.append_eq_nil_iff.1 e).2 hp
    · rw [List.cons_append, e] at h
      have := (weigh_cons h).1
      rw [← e] at this
      exact ok_tail q hp this

theorem ok_edge {n : Net} : ∀ (q : List Int) {a b : Int} {r : List Int}, (weighA n (q ++ a :: b :: r)).2 = true → 0 ≤ edgeOf n a b := fun q a b r h =>
  (weigh_cons (ok_tail q (by simp) h)).2.1

theorem ok_init {n : Net} : ∀ (p : List Int) {q : List Int}, p ≠ [] → (weighA n (p ++ q)).2 = true → (weighA n p).2 = true
  | [], _, h, _ => absurd rfl h
  | [a], _, _, _ => rfl
  | a :: b :: r, q, _, h => by
    have h1 := weigh_cons (show (weighA n (a :: b :: (r ++ q))).2 = true from h)
    have h2 := ok_init (b :: r) (q := q) (by simp) h1.1
    rw [weigh_more h2 h1.2.1]

theorem ok_snoc {n : Net} {k : Int} : ∀ {p : List Int} {a : Int}, p.getLast? = some a → (weighA n p).2 = true → 0 ≤ edgeOf n a k → (weighA n (p ++ [k])).2 = true
  | [], _, h, _, _ => by cases h
  | [b], a, h, _, he => by
    have : b = a := by simpa using h
    subst this
    show (weighA n (b :: k :: [])).2 = true
    rw [weigh_more rfl he]
  | b :: c :: r, a, h, ho, he => by
    have h1 := weigh_cons ho
    have h2 : (weighA n (c :: (r ++ [k]))).2 = true := ok_snoc (p := c :: r) (a := a) (by rw [← h]; simp) h1.1 he
    show (weighA n (b :: c :: (r ++ [k]))).2 = true
    rw [weigh_more h2 h1.2.1]

theorem edge_link {n : Net} (ha : Apart n.links) {l : Lnk} (hl : l ∈ n.links) : edgeOf n l.fr l.dst = l.edge := by
  unfold edgeOf
  have key : ∀ L : List Lnk, Apart L → l ∈ L → L.find? (fun x => decide (x.fr = l.fr) && decide (x.dst = l.dst)) = some l := by
    intro L
    induction L with
    | nil => intro _ h; cases h
    | cons x L ih =>
      intro h hm
      by_cases e : (decide (x.fr = l.fr) && decide (x.dst = l.dst)) = true
      · rw [List.find?_cons_of_pos (by simpa using e)]
        rcases List.mem_cons.1 hm with rfl | hm
        · rfl
        · have h1 := h.1 l hm
          simp only [Bool.and_eq_true, decide_eq_true_eq] at e
          have : l.like x = true := by simp [Lnk.like]; omega
          rw [this] at h1
          cases h1
      · rw [List.find?_cons_of_neg (by simpa using e)]
        rcases List.mem_cons.1 hm with rfl | hm
        · simp at e
        · exact ih h.2 hm
  rw [key _ ha hl]
  rfl

theorem edge_has {n : Net} {i k : Int} (he : 0 ≤ edgeOf n i k) : ∃ l ∈ n.links, l.fr = i ∧ l.dst = k ∧ l.edge = edgeOf n i k := by
  unfold edgeOf at he ⊢
  rcases hf : n.links.find? fun l => decide (l.fr = i) && decide (l.dst = k) with _ | l
  · rw [hf] at he
    exact absurd he (by decide)
  · have h1 := List.find?_some hf
    simp only [Bool.and_eq_true, decide_eq_true_eq] at h1
    exact ⟨l, List.mem_of_find?_eq_some hf, h1.1, h1.2, by rw [hf]; rfl⟩

theorem weigh_in {n : Net} (h : NetIn n) : ∀ p : List Int, InV n (weighA n p).1
  | [] => ⟨by show (0 : Int) ≤ 0; omega, by have := h.alg.s2; show (0 : Int) < _; omega⟩
  | [_] => ⟨by show (0 : Int) ≤ 0; omega, by have := h.alg.s2; show (0 : Int) < _; omega⟩
  | a :: b :: r => by
    rw [weighA]
    split
    · exact ⟨by show (0 : Int) ≤ 0; omega, by have := h.alg.s2; show (0 : Int) < _; omega⟩
    · rename_i h1
      have he : 0 ≤ edgeOf n a b := by rw [not_or] at h1; omega
      exact over_in h ⟨he, edge_in h he⟩ (weigh_in h (b :: r))

/-- The best along a list, of what is found by each that counts: it is no worse than any of it, and it is one of it, or what it was. -/
theorem fold_good {n : Net} (h : NetIn n) {X : Type} (c : X → Bool) (g : X → Int → Int) (T : X → Int → Prop) : ∀ (L : List X), (∀ x ∈ L, c x = true → ∀ b, InV n b → InV n (g x b) ∧ Le n (g x b) b ∧ (∀ v, T x v → InV n v ∧ Le n (g x b) v) ∧ (g x b = b ∨ T x (g x b))) →
    ∀ b, InV n b → InV n (L.foldl (fun b x => if c x = true then g x b else b) b) ∧ Le n (L.foldl (fun b x => if c x = true then g x b else b) b) b ∧
      (∀ x ∈ L, c x = true → ∀ v, T x v → Le n (L.foldl (fun b x => if c x = true then g x b else b) b) v) ∧
      (L.foldl (fun b x => if c x = true then g x b else b) b = b ∨ ∃ x ∈ L, c x = true ∧ T x (L.foldl (fun b x => if c x = true then g x b else b) b))
  | [], _, b, hb => ⟨hb, le_refl h hb, fun x hx => absurd hx (by simp), Or.inl rfl⟩
  | x :: L, hg, b, hb => by
    rw [List.foldl_cons]
    by_cases hc : c x = true
    · rw [if_pos hc]
      have h1 := hg x (by simp) hc b hb
      have ih := fold_good h c g T L (fun y hy => hg y (by simp [hy])) (g x b) h1.1
      refine ⟨ih.1, le_trans h ih.1 h1.1 hb ih.2.1 h1.2.1, fun y hy hcy v hv => ?_, ?_⟩
      · rcases List.mem_cons.1 hy with rfl | hy
        · have h2 := h1.2.2.1 v hv
          exact le_trans h ih.1 h1.1 h2.1 ih.2.1 h2.2
        · exact ih.2.2.1 y hy hcy v hv
      · rcases ih.2.2.2 with e | ⟨y, hy, hcy, ht⟩
        · rw [e]
          rcases h1.2.2.2 with e2 | ht
          · exact Or.inl e2
          · exact Or.inr ⟨x, by simp, hc, ht⟩
        · exact Or.inr ⟨y, by simp [hy], hcy, ht⟩
    · rw [if_neg hc]
      have ih := fold_good h c g T L (fun y hy => hg y (by simp [hy])) b hb
      refine ⟨ih.1, ih.2.1, fun y hy hcy v hv => ?_, ?_⟩
      · rcases List.mem_cons.1 hy with rfl | hy
        · exact absurd hcy hc
        · exact ih.2.2.1 y hy hcy v hv
      · rcases ih.2.2.2 with e | ⟨y, hy, hcy, ht⟩
        · exact Or.inl e
        · exact Or.inr ⟨y, by simp [hy], hcy, ht⟩

/-- A path without a node twice. -/
structure Path (n : Net) (p : List Int) : Prop where
  rng : ∀ k ∈ p, 0 ≤ k ∧ k < n.nodes
  one : p.Nodup
  ok : (weighA n p).2 = true

/-- From the end on, along links: s is what is behind. -/
def visitF (n : Net) (fr : Int) : Nat → List Int → Int → Int → Int → Int
  | 0, _, _, _, b => b
  | f + 1, s, at', w, b => if at' = fr then bestA n b w else
    n.links.foldl (fun b l => if (decide (l.dst = at') && !decide (l.fr ∈ at' :: s)) = true then visitF n fr f (at' :: s) l.fr (overA n l.edge w) b else b) b

/-- From the beginning on, by nodes. -/
def pathsF (n : Net) (to : Int) : Nat → List Int → Int
  | 0, _ => n.alg.size - 1
  | f + 1, p => if p.getLastD 0 = to then (weighA n p).1 else
    (ints n.nodes).foldl (fun b k => if (decide (0 ≤ edgeOf n (p.getLastD 0) k) && !decide (k ∈ p)) = true then bestA n b (pathsF n to f (p ++ [k])) else b) (n.alg.size - 1)

theorem path_tail {n : Net} {q p : List Int} (hp : p ≠ []) (h : Path n (q ++ p)) : Path n p :=
  ⟨fun k hk => h.rng k (by simp [hk]), (List.nodup_append.1 h.one).2.1, ok_tail q hp h.ok⟩
theorem path_init {n : Net} {q p : List Int} (hp : p ≠ []) (h : Path n (p ++ q)) : Path n p :=
  ⟨fun k hk => h.rng k (by simp [hk]), (List.nodup_append.1 h.one).1, ok_init p hp h.ok⟩

theorem visit_good {n : Net} (hc : checkN n = 0) (fr : Int) : ∀ (f : Nat) (s : List Int) (at' b : Int), Path n (at' :: s) → n.nodes ≤ s.length + f → InV n b →
    InV n (visitF n fr f s at' (weighA n (at' :: s)).1 b) ∧ Le n (visitF n fr f s at' (weighA n (at' :: s)).1 b) b ∧
      (∀ v, (∃ q, Path n (q ++ at' :: s) ∧ (q ++ at' :: s).head? = some fr ∧ v = (weighA n (q ++ at' :: s)).1) → InV n v ∧ Le n (visitF n fr f s at' (weighA n (at' :: s)).1 b) v) ∧
      (visitF n fr f s at' (weighA n (at' :: s)).1 b = b ∨ ∃ q, Path n (q ++ at' :: s) ∧ (q ++ at' :: s).head? = some fr ∧ visitF n fr f s at' (weighA n (at' :: s)).1 b = (weighA n (q ++ at' :: s)).1)
  | 0, s, at', b, hp, hf, hb => by
    have hn := netIn_of hc
    have h1 := nodup_len (by have := hn.n1; omega) hp.one hp.rng
    simp only [List.length_cons] at h1
    omega
  | f + 1, s, at', b, hp, hf, hb => by
    have hn := netIn_of hc
    have hw := weigh_in hn (at' :: s)
    rw [visitF]
    by_cases hat : at' = fr
    · rw [if_pos hat]
      refine ⟨best_in hn hb hw, best_le1 hn hb hw, ?_, ?_⟩
      · rintro v ⟨q, hq, hh, rfl⟩
        rcases q with _ | ⟨a, q⟩
        · exact ⟨hw, best_le2 hn hb hw⟩
        · have : a = fr := by simpa using hh
          subst this
          have h1 := hq.one
          rw [List.cons_append, List.nodup_cons] at h1
          exact absurd (by simp [hat]) h1.1
      · rcases best_select hn hb hw with e | e
        · exact Or.inl e
        · exact Or.inr ⟨[], hp, by simp [hat], e⟩
    · rw [if_neg hat]
      have hg : ∀ l ∈ n.links, (decide (l.dst = at') && !decide (l.fr ∈ at' :: s)) = true → Path n (l.fr :: at' :: s) ∧ overA n l.edge (weighA n (at' :: s)).1 = (weighA n (l.fr :: at' :: s)).1 := by
        intro l hl hcl
        simp only [Bool.and_eq_true, decide_eq_true_eq, Bool.not_eq_true', decide_eq_false_iff_not] at hcl
        have hk := hn.lnk l hl
        have he := edge_link (apart_of hc) hl
        rw [hcl.1] at he
        have h0 : 0 ≤ edgeOf n l.fr at' := by rw [he]; exact hk.e0
        have hm := weigh_more hp.ok h0
        refine ⟨⟨fun k hkm => ?_, ?_, by rw [hm]⟩, ?_⟩
        · rcases List.mem_cons.1 hkm with rfl | hkm
          · exact ⟨hk.f0, hk.f1⟩
          · exact hp.rng k hkm
        · exact List.nodup_cons.2 ⟨hcl.2, hp.one⟩
        · rw [hm, he]
      have key := fold_good hn (fun l : Lnk => decide (l.dst = at') && !decide (l.fr ∈ at' :: s)) (fun l b => visitF n fr f (at' :: s) l.fr (overA n l.edge (weighA n (at' :: s)).1) b)
        (fun l v => ∃ q, Path n (q ++ l.fr :: at' :: s) ∧ (q ++ l.fr :: at' :: s).head? = some fr ∧ v = (weighA n (q ++ l.fr :: at' :: s)).1) n.links (fun l hl hcl b hb => by
          have h1 := hg l hl hcl
          have ih := visit_good hc fr f (at' :: s) l.fr b h1.1 (by simp only [List.length_cons]; omega) hb
          rw [← h1.2] at ih
          exact ih) b hb
      refine ⟨key.1, key.2.1, ?_, ?_⟩
      · rintro v ⟨q, hq, hh, rfl⟩
        refine ⟨weigh_in hn _, ?_⟩
        rcases List.eq_nil_or_concat q with rfl | ⟨q', k, rfl⟩
        · exact absurd (by simpa using hh) hat
        · rw [List.concat_eq_append, List.append_assoc, List.singleton_append] at hq hh ⊢
          have he := ok_edge q' hq.ok
          obtain ⟨l, hl, h1, h2, h3⟩ := edge_has he
          refine key.2.2.1 l hl ?_ _ ⟨q', by rw [h1]; exact hq, by rw [h1]; exact hh, by rw [h1]⟩
          have h4 := (path_tail (by simp) hq).one
          rw [List.nodup_cons] at h4
          simp only [h2, h1, decide_true, Bool.true_and, Bool.not_eq_true', decide_eq_false_iff_not]
          exact h4.1
      · rcases key.2.2.2 with e | ⟨l, hl, hcl, q, hq, hh, e⟩
        · exact Or.inl e
        · exact Or.inr ⟨q ++ [l.fr], by simpa using hq, by simpa using hh, by simpa using e⟩

theorem paths_good {n : Net} (hc : checkN n = 0) (to : Int) : ∀ (f : Nat) (p : List Int), p ≠ [] → Path n p → n.nodes + 1 ≤ p.length + f →
    InV n (pathsF n to f p) ∧ (∀ v, (∃ q, Path n (p ++ q) ∧ (p ++ q).getLast? = some to ∧ v = (weighA n (p ++ q)).1) → InV n v ∧ Le n (pathsF n to f p) v) ∧
      (pathsF n to f p = n.alg.size - 1 ∨ ∃ q, Path n (p ++ q) ∧ (p ++ q).getLast? = some to ∧ pathsF n to f p = (weighA n (p ++ q)).1)
  | 0, p, hp0, hp, hf => by
    have hn := netIn_of hc
    have h1 := nodup_len (by have := hn.n1; omega) hp.one hp.rng
    omega
  | f + 1, p, hp0, hp, hf => by
    have hn := netIn_of hc
    have hw := weigh_in hn p
    obtain ⟨p', a, rfl⟩ : ∃ p' a, p = p' ++ [a] := by
      rcases List.eq_nil_or_concat p with rfl | ⟨p', a, rfl⟩
      · exact absurd rfl hp0
      · exact ⟨p', a, List.concat_eq_append⟩
    have hl : (p' ++ [a]).getLastD 0 = a := by simp
    rw [pathsF, hl]
    by_cases hat : a = to
    · rw [if_pos hat]
      refine ⟨hw, ?_, Or.inr ⟨[], by simpa using hp, by simp [hat], by simp⟩⟩
      rintro v ⟨q, hq, hh, rfl⟩
      refine ⟨weigh_in hn _, ?_⟩
      rcases List.eq_nil_or_concat q with rfl | ⟨q', k, rfl⟩
      · rw [List.append_nil]; exact le_refl hn hw
      · rw [List.concat_eq_append, ← List.append_assoc, List.getLast?_concat] at hh
        have hk : k = to := by simpa using hh
        have h1 := (List.nodup_append.1 hq.one).2.2 a (by simp) k (by simp)
        exact absurd (by rw [hat, hk]) h1
    · rw [if_neg hat]
      have hg : ∀ k ∈ ints n.nodes, (decide (0 ≤ edgeOf n a k) && !decide (k ∈ p' ++ [a])) = true → Path n ((p' ++ [a]) ++ [k]) := by
        intro k hk hck
        simp only [Bool.and_eq_true, decide_eq_true_eq, Bool.not_eq_true', decide_eq_false_iff_not] at hck
        have hkr := mem_ints.1 hk
        refine ⟨fun x hx => ?_, ?_, ok_snoc (by simp) hp.ok hck.1⟩
        · rcases List.mem_append.1 hx with hx | hx
          · exact hp.rng x hx
          · rw [List.mem_singleton.1 hx]; exact hkr
        · refine List.nodup_append.2 ⟨hp.one, by simp, fun x hx y hy => ?_⟩
          rw [List.mem_singleton.1 hy]
          rintro rfl
          exact hck.2 hx
      have key := fold_good hn (fun k : Int => decide (0 ≤ edgeOf n a k) && !decide (k ∈ p' ++ [a])) (fun k b => bestA n b (pathsF n to f (p' ++ [a] ++ [k])))
        (fun k v => ∃ q, Path n (p' ++ [a] ++ [k] ++ q) ∧ (p' ++ [a] ++ [k] ++ q).getLast? = some to ∧ v = (weighA n (p' ++ [a] ++ [k] ++ q)).1) (ints n.nodes) (fun k hk hck b hb => by
          have ih := paths_good hc to f (p' ++ [a] ++ [k]) (by simp) (hg k hk hck) (by simp only [List.length_append, List.length_cons, List.length_nil] at hf ⊢; omega)
          refine ⟨best_in hn hb ih.1, best_le1 hn hb ih.1, fun v hv => ?_, ?_⟩
          · have h2 := ih.2.1 v hv
            exact ⟨h2.1, le_trans hn (best_in hn hb ih.1) ih.1 h2.1 (best_le2 hn hb ih.1) h2.2⟩
          · rcases ih.2.2 with e | ⟨q, hq, hh, e⟩
            · rw [e]
              exact Or.inl (le_inv hn hb)
            · rcases best_select hn hb ih.1 with e2 | e2
              · exact Or.inl e2
              · exact Or.inr ⟨q, hq, hh, by rw [e2, e]⟩) (n.alg.size - 1) (inv_in hn)
      refine ⟨key.1, ?_, ?_⟩
      · rintro v ⟨q, hq, hh, rfl⟩
        refine ⟨weigh_in hn _, ?_⟩
        rcases q with _ | ⟨k, q⟩
        · exact absurd (by simpa using hh) hat
        · have e : p' ++ [a] ++ k :: q = p' ++ [a] ++ [k] ++ q := by simp
          rw [e] at hq hh ⊢
          have h1 : Path n (p' ++ [a] ++ [k]) := path_init (by simp) hq
          refine key.2.2.1 k (mem_ints.2 (h1.rng k (by simp))) ?_ _ ⟨q, hq, hh, rfl⟩
          have h2 : 0 ≤ edgeOf n a k := ok_edge p' (by have := h1.ok; simpa using this)
          have h3 := (List.nodup_append.1 h1.one).2.2
          simp only [h2, decide_true, Bool.true_and, Bool.not_eq_true', decide_eq_false_iff_not]
          intro hm
          exact h3 k hm k (by simp) rfl
      · rcases key.2.2.2 with e | ⟨k, hk, hck, q, hq, hh, e⟩
        · exact Or.inl e
        · exact Or.inr ⟨k :: q, by simpa using hq, by simpa using hh, by simpa using e⟩

/-- The best of all paths. -/
theorem paths_eq {n : Net} (hc : checkN n = 0) {fr to : Int} (hf : 0 ≤ fr ∧ fr < n.nodes) (ht : 0 ≤ to ∧ to < n.nodes) : visitF n fr 6 [] to 0 (n.alg.size - 1) = pathsF n to 6 [fr] := by
  have hn := netIn_of hc
  have n6 := hn.n6
  have one : ∀ {k : Int}, 0 ≤ k ∧ k < n.nodes → Path n [k] := fun h => ⟨fun x hx => by rw [List.mem_singleton.1 hx]; exact h, by simp, rfl⟩
  have hv := visit_good hc fr 6 [] to (n.alg.size - 1) (one ht) (by simp; omega) (inv_in hn)
  have hp := paths_good hc to 6 [fr] (by simp) (one hf) (by simp; omega)
  have e0 : (weighA n [to]).1 = 0 := rfl
  rw [e0] at hv
  refine le_antisymm hn hv.1 hp.1 ?_ ?_
  · rcases hp.2.2 with e | ⟨q, hq, hh, e⟩
    · rw [e]; exact le_inv hn hv.1
    · rw [e]
      obtain ⟨p', hp'⟩ : ∃ p', [fr] ++ q = p' ++ [to] := by
        rcases List.eq_nil_or_concat ([fr] ++ q) with e | ⟨p', a, e⟩
        · simp at e
        · rw [List.concat_eq_append] at e
          rw [e, List.getLast?_concat] at hh
          exact ⟨p', by rw [e]; simpa using hh⟩
      refine (hv.2.2.1 _ ⟨p', by rw [← hp']; exact hq, by rw [← hp']; rfl, by rw [← hp']⟩).2
  · rcases hv.2.2.2 with e | ⟨q, hq, hh, e⟩
    · rw [e]; exact le_inv hn hp.1
    · rw [e]
      obtain ⟨r, hr⟩ : ∃ r, q ++ [to] = [fr] ++ r := by
        rcases e2 : q ++ [to] with _ | ⟨a, r⟩
        · simp at e2
        · rw [e2] at hh
          exact ⟨r, by simpa using hh⟩
      refine (hp.2.1 _ ⟨r, by rw [← hr]; exact hq, by rw [← hr]; simp, by rw [← hr]⟩).2
end Go.Proofs.Ytephecognbbaoaa
