/- Routes of a node, in plain Lean: whatever the order of links. -/
import Derived.Test.YtephecognbbaoaaPn
namespace Go.Proofs.Ytephecognbbaoaa
open Go
set_option linter.all false

def edgeOf (n : Net) (i k : Int) : Int := ((n.links.find? fun l => decide (l.fr = i) && decide (l.dst = k)).map (·.edge)).getD (-1)

def bestA (n : Net) (a b : Int) : Int := at2 n.alg.best a b
def overA (n : Net) (e v : Int) : Int := at2 n.alg.edges e v

/-- By the nodes' order. -/
def routeR (n : Net) (i j : Int) (has : Int → Int) : Int :=
  (ints n.nodes).foldl (fun out k => if 0 ≤ edgeOf n i k then bestA n out (overA n (edgeOf n i k) (has k)) else out) (if i = j then 0 else n.alg.size - 1)

/-- By the links' order. -/
def routeL (n : Net) (i j : Int) (has : Int → Int) (ls : List Lnk) : Int :=
  ls.foldl (fun out l => if l.fr = i then bestA n out (overA n l.edge (has l.dst)) else out) (if i = j then 0 else n.alg.size - 1)

section
variable {n : Net}

theorem holds_seven (h : NetIn n) {b : Brk} (hb : b ∈ casesA n.alg b.law) (hl : b.law ∈ seven) : holdsA n.alg b = true :=
  brokenA_none (laws := seven) (by decide) h.law b.law hl b hb

theorem best_in (h : NetIn n) {a b : Int} (ha : 0 ≤ a ∧ a < n.alg.size) (hb : 0 ≤ b ∧ b < n.alg.size) : 0 ≤ bestA n a b ∧ bestA n a b < n.alg.size := h.alg.best_in ha.1 ha.2 hb.1 hb.2
theorem over_in (h : NetIn n) {e v : Int} (he : 0 ≤ e ∧ e < n.alg.edges.length) (hv : 0 ≤ v ∧ v < n.alg.size) : 0 ≤ overA n e v ∧ overA n e v < n.alg.size := h.alg.edge_in he.1 he.2 hv.1 hv.2

theorem best_comm (h : NetIn n) {a b : Int} (ha : 0 ≤ a ∧ a < n.alg.size) (hb : 0 ≤ b ∧ b < n.alg.size) : bestA n a b = bestA n b a := by
  have hm : (⟨1, a, b, 0, 0⟩ : Brk) ∈ casesA n.alg 1 := mem_cases.2 ⟨rfl, ha, hb, ⟨Int.le_refl _, show (0 : Int) < 1 by decide⟩, ⟨Int.le_refl _, show (0 : Int) < 1 by decide⟩⟩
  have := holds_seven h hm (show (1 : Int) ∈ seven by decide)
  exact of_decide_eq_true this

theorem best_assoc (h : NetIn n) {a b c : Int} (ha : 0 ≤ a ∧ a < n.alg.size) (hb : 0 ≤ b ∧ b < n.alg.size) (hc : 0 ≤ c ∧ c < n.alg.size) : bestA n a (bestA n b c) = bestA n (bestA n a b) c := by
  have hm : (⟨2, a, b, c, 0⟩ : Brk) ∈ casesA n.alg 2 := mem_cases.2 ⟨rfl, ha, hb, hc, ⟨Int.le_refl _, show (0 : Int) < 1 by decide⟩⟩
  have := holds_seven h hm (show (2 : Int) ∈ seven by decide)
  exact of_decide_eq_true this

/-- A list, sorted into classes. -/
theorem perm_classes (f : Lnk → Int) : ∀ (ks : List Int) (l : Lnk) (L : List Lnk), ks.Nodup → f l ∈ ks → (ks.flatMap fun k => (l :: L).filter fun x => decide (f x = k)).Perm (l :: ks.flatMap fun k => L.filter fun x => decide (f x = k))
  | [], l, L, _, h => by cases h
  | k :: ks, l, L, hd, h => by
    obtain ⟨hk, hd⟩ := List.nodup_cons.1 hd
    simp only [List.flatMap_cons]
    by_cases e : f l = k
    · have hrest : (ks.flatMap fun k' => (l :: L).filter fun x => decide (f x = k')) = ks.flatMap fun k' => L.filter fun x => decide (f x = k') := by
        refine flat_congr fun k' hk' => ?_
        rw [List.filter_cons_of_neg]
        simp only [decide_eq_true_eq]
        intro e2
        exact hk (by rw [← e, e2]; exact hk')
      rw [hrest, List.filter_cons_of_pos (by simpa using e)]
      exact List.Perm.refl _
    · rw [List.filter_cons_of_neg (by simpa using e)]
      have hmem : f l ∈ ks := by
        rcases List.mem_cons.1 h with h | h
        · exact absurd h e
        · exact h
      exact ((perm_classes f ks l L hd hmem).append_left _).trans List.perm_middle

theorem perm_all (f : Lnk → Int) (ks : List Int) (hd : ks.Nodup) : ∀ L : List Lnk, (∀ l ∈ L, f l ∈ ks) → (ks.flatMap fun k => L.filter fun x => decide (f x = k)).Perm L
  | [], _ => by
    have : (ks.flatMap fun k => ([] : List Lnk).filter fun x => decide (f x = k)) = [] := by simp
    rw [this]
  | l :: L, h => (perm_classes f ks l L hd (h l (by simp))).trans ((perm_all f ks hd L fun x hx => h x (by simp [hx])).cons l)

theorem ints_nodup (m : Int) : (ints m).Nodup := by
  unfold ints
  rw [List.nodup_iff_pairwise_ne, List.pairwise_map]
  exact List.nodup_range.imp fun h e => h (by omega)

/-- No two links between the same nodes. -/
def Apart : List Lnk → Prop
  | [] => True
  | l :: r => (∀ x ∈ r, x.like l = false) ∧ Apart r

theorem apart_snoc {l : Lnk} : ∀ {pre : List Lnk}, Apart pre → pre.any l.like = false → Apart (pre ++ [l])
  | [], _, _ => ⟨(fun _ h => by cases h), trivial⟩
  | x :: r, h, hn => by
    rw [List.any_cons, Bool.or_eq_false_iff] at hn
    refine ⟨fun y hy => ?_, apart_snoc h.2 hn.2⟩
    rcases List.mem_append.1 hy with hy | hy
    · exact h.1 y hy
    · rw [List.mem_singleton.1 hy]
      exact hn.1

theorem linksErr_apart : ∀ (r pre : List Lnk), linksErr n pre r = 0 → Apart pre → Apart (pre ++ r)
  | [], pre, _, h => by simpa using h
  | x :: r, pre, h, hp => by
    rw [linksErr] at h
    split at h
    · rename_i h1; exact absurd h h1
    · rename_i h1
      have h2 := lnkIn_of (Decidable.not_not.1 h1)
      have := linksErr_apart r (pre ++ [x]) h (apart_snoc hp h2.2)
      simpa using this

theorem apart_of (h : checkN n = 0) : Apart n.links := by
  unfold checkN at h
  split at h
  · rename_i h1; exact absurd h h1
  · split at h
    · cases h
    · split at h
      · cases h
      · exact linksErr_apart n.links [] h trivial

/-- The links from i to k: at most one. -/
theorem one_link : ∀ {L : List Lnk} (i k : Int), Apart L → (L.filter fun l => decide (l.fr = i) && decide (l.dst = k)) = ((L.find? fun l => decide (l.fr = i) && decide (l.dst = k)).toList)
  | [], _, _, _ => rfl
  | l :: r, i, k, h => by
    by_cases e : (decide (l.fr = i) && decide (l.dst = k)) = true
    · rw [List.filter_cons_of_pos (by simpa using e), List.find?_cons_of_pos (by simpa using e), List.filter_eq_nil_iff.2]
      · rfl
      · intro x hx hc
        have h1 := h.1 x hx
        simp only [Bool.and_eq_true, decide_eq_true_eq] at e hc
        have : x.like l = true := by simp [Lnk.like]; omega
        rw [this] at h1
        cases h1
    · rw [List.filter_cons_of_neg (by simpa using e), List.find?_cons_of_neg (by simpa using e)]
      exact one_link i k h.2

/-- A step that stays in range. -/
def stepA (n : Net) (has : Int → Int) (out : Int) (l : Lnk) : Int := if 0 ≤ out ∧ out < n.alg.size then bestA n out (overA n l.edge (has l.dst)) else out

theorem route_eq (hn : checkN n = 0) (i j : Int) (has : Int → Int) (hh : ∀ k, 0 ≤ k → k < n.nodes → 0 ≤ has k ∧ has k < n.alg.size) : routeL n i j has n.links = routeR n i j has := by
  have h := netIn_of hn
  have hap := apart_of hn
  have s2 := h.alg.s2
  have hval : ∀ l ∈ n.links, 0 ≤ overA n l.edge (has l.dst) ∧ overA n l.edge (has l.dst) < n.alg.size := fun l hl =>
    let g := h.lnk l hl
    over_in h ⟨g.e0, g.e1⟩ (hh _ g.d0 g.d1)
  have h0 : 0 ≤ (if i = j then 0 else n.alg.size - 1 : Int) ∧ (if i = j then 0 else n.alg.size - 1 : Int) < n.alg.size := by split <;> omega
  -- by the links' order: those of i
  have e1 : ∀ (L : List Lnk) (out : Int), (∀ l ∈ L, l ∈ n.links) → 0 ≤ out ∧ out < n.alg.size →
      L.foldl (fun out l => if l.fr = i then bestA n out (overA n l.edge (has l.dst)) else out) out = (L.filter fun l => decide (l.fr = i)).foldl (stepA n has) out := by
    intro L
    induction L with
    | nil => intro out _ _; rfl
    | cons l r ih =>
      intro out hL ho
      by_cases e : l.fr = i
      · rw [List.foldl_cons, if_pos e, List.filter_cons_of_pos (by simpa using e), List.foldl_cons]
        rw [ih _ (fun x hx => hL x (by simp [hx])) (best_in h ho (hval l (hL l (by simp))))]
        congr 1
        exact (if_pos ho).symm
      · rw [List.foldl_cons, if_neg e, List.filter_cons_of_neg (by simpa using e)]
        exact ih out (fun x hx => hL x (by simp [hx])) ho
  -- by the nodes' order
  have e2 : ∀ (K : List Int) (out : Int), 0 ≤ out ∧ out < n.alg.size →
      K.foldl (fun out k => if 0 ≤ edgeOf n i k then bestA n out (overA n (edgeOf n i k) (has k)) else out) out = (K.flatMap fun k => (n.links.filter fun l => decide (l.fr = i)).filter fun l => decide (l.dst = k)).foldl (stepA n has) out := by
    intro K
    induction K with
    | nil => intro out _; rfl
    | cons k r ih =>
      intro out ho
      rw [List.foldl_cons, List.flatMap_cons, List.foldl_append]
      have hf : ((n.links.filter fun l => decide (l.fr = i)).filter fun l => decide (l.dst = k)) = (n.links.find? fun l => decide (l.fr = i) && decide (l.dst = k)).toList := by
        rw [List.filter_filter, ← one_link i k hap]
        congr 1
        funext x
        rw [Bool.and_comm]
      rw [hf]
      unfold edgeOf
      cases hfd : n.links.find? fun l => decide (l.fr = i) && decide (l.dst = k) with
      | none =>
        simp only [Option.map_none, Option.getD_none, Option.toList_none, List.foldl_nil]
        rw [if_neg (by omega)]
        have := ih out ho
        unfold edgeOf at this
        exact this
      | some l =>
        have hl := List.mem_of_find?_eq_some hfd
        have hp := List.find?_some hfd
        simp only [Bool.and_eq_true, decide_eq_true_eq] at hp
        have g := h.lnk l hl
        simp only [Option.map_some, Option.getD_some, Option.toList_some, List.foldl_cons, List.foldl_nil]
        rw [if_pos g.e0]
        have hst : stepA n has out l = bestA n out (overA n l.edge (has k)) := by rw [stepA, if_pos ho, hp.2]
        rw [hst]
        have hv := hval l hl
        rw [hp.2] at hv
        have := ih _ (best_in h ho hv)
        unfold edgeOf at this
        exact this
  unfold routeL routeR
  rw [e1 n.links _ (fun l hl => hl) h0, e2 _ _ h0]
  have hp : ((ints n.nodes).flatMap fun k => (n.links.filter fun l => decide (l.fr = i)).filter fun l => decide (l.dst = k)).Perm (n.links.filter fun l => decide (l.fr = i)) :=
    perm_all (·.dst) (ints n.nodes) (ints_nodup _) _ fun l hl => by
      have g := h.lnk l (List.mem_filter.1 hl).1
      exact mem_ints.2 ⟨g.d0, g.d1⟩
  refine (List.Perm.foldl_eq' hp (fun x hx y hy z => ?_) _).symm
  have hx' : x ∈ n.links := (List.mem_filter.1 (hp.mem_iff.1 hx)).1
  have hy' : y ∈ n.links := (List.mem_filter.1 (hp.mem_iff.1 hy)).1
  unfold stepA
  by_cases hz : 0 ≤ z ∧ z < n.alg.size
  · have vx := hval x hx'
    have vy := hval y hy'
    rw [if_pos hz, if_pos hz, if_pos (best_in h hz vx), if_pos (best_in h hz vy), ← best_assoc h hz vx vy, ← best_assoc h hz vy vx, best_comm h vx vy]
  · rw [if_neg hz, if_neg hz, if_neg hz]

theorem routeR_in (h : NetIn n) (i j : Int) (has : Int → Int) (hh : ∀ k, 0 ≤ k → k < n.nodes → 0 ≤ has k ∧ has k < n.alg.size) : 0 ≤ routeR n i j has ∧ routeR n i j has < n.alg.size := by
  have s2 := h.alg.s2
  have key : ∀ (K : List Int) (out : Int), (∀ k ∈ K, 0 ≤ k ∧ k < n.nodes) → 0 ≤ out ∧ out < n.alg.size →
      0 ≤ K.foldl (fun out k => if 0 ≤ edgeOf n i k then bestA n out (overA n (edgeOf n i k) (has k)) else out) out ∧ K.foldl (fun out k => if 0 ≤ edgeOf n i k then bestA n out (overA n (edgeOf n i k) (has k)) else out) out < n.alg.size := by
    intro K
    induction K with
    | nil => intro out _ ho; exact ho
    | cons k r ih =>
      intro out hK ho
      rw [List.foldl_cons]
      refine ih _ (fun x hx => hK x (by simp [hx])) ?_
      split
      · rename_i he
        refine best_in h ho (over_in h ⟨he, ?_⟩ (hh k (hK k (by simp)).1 (hK k (by simp)).2))
        unfold edgeOf at he ⊢
        cases hfd : n.links.find? fun l => decide (l.fr = i) && decide (l.dst = k) with
        | none => rw [hfd] at he; simp at he
        | some l => exact (h.lnk l (List.mem_of_find?_eq_some hfd)).e1
      · exact ho
  exact key _ _ (fun k hk => mem_ints.1 hk) (by split <;> omega)

/-- The next state. -/
def roundA (n : Net) (x : List (List Int)) : List (List Int) := (ints n.nodes).map fun i => (ints n.nodes).map fun j => routeR n i j fun k => at2 x k j

def beginA (n : Net) : List (List Int) := (ints n.nodes).map fun i => (ints n.nodes).map fun j => if i = j then 0 else n.alg.size - 1

theorem at2_in {x : List (List Int)} (h : RowsIn n x) {i j : Int} (hi : 0 ≤ i ∧ i < n.nodes) (hj : 0 ≤ j ∧ j < n.nodes) : 0 ≤ at2 x i j ∧ at2 x i j < n.alg.size := by
  have hr := at0_mem x hi.1 (by rw [h.len]; exact hi.2)
  exact h.val _ hr _ (at0_mem _ hj.1 (by rw [h.row _ hr]; exact hj.2))

theorem round_in (hn : NetIn n) {x : List (List Int)} (h : RowsIn n x) : RowsIn n (roundA n x) := by
  have n1 := hn.n1
  refine ⟨?_, fun r hr => ?_, fun r hr v hv => ?_⟩
  · rw [roundA, List.length_map, ints_length]; omega
  · obtain ⟨i, _, rfl⟩ := List.mem_map.1 hr
    rw [List.length_map, ints_length]; omega
  · obtain ⟨i, hi, rfl⟩ := List.mem_map.1 hr
    obtain ⟨j, hj, rfl⟩ := List.mem_map.1 hv
    exact routeR_in hn i j _ fun k h0 h1 => at2_in h ⟨h0, h1⟩ (mem_ints.1 hj)

theorem begin_in (hn : NetIn n) : RowsIn n (beginA n) := by
  have n1 := hn.n1
  have s2 := hn.alg.s2
  refine ⟨?_, fun r hr => ?_, fun r hr v hv => ?_⟩
  · rw [beginA, List.length_map, ints_length]; omega
  · obtain ⟨i, _, rfl⟩ := List.mem_map.1 hr
    rw [List.length_map, ints_length]; omega
  · obtain ⟨i, hi, rfl⟩ := List.mem_map.1 hr
    obtain ⟨j, hj, rfl⟩ := List.mem_map.1 hv
    split <;> omega

/-- Rounds until nothing changes. -/
def settleF (n : Net) : Nat → Int → List (List Int) → List (List Int) × Int
  | 0, k, x => (x, k)
  | f + 1, k, x => if x = roundA n x then (x, k) else settleF n f (k + 1) (roundA n x)

def settleA (n : Net) (x : List (List Int)) (most : Int) : (List (List Int) × Int) × Int :=
  if fitA n x ≠ 0 then (([], 0), fitA n x)
  else if !inR most 0 1000 then (([], 0), 3)
  else (settleF n most.toNat 0 x, 0)
end
end Go.Proofs.Ytephecognbbaoaa
