/- Packets read; packets compared. -/
import Derived.Test.YtephecognbbaoaaGreatZWb
import Derived.Test.YtephecognbbaoaaGreatZAi
open Go
set_option linter.all false
set_option maxRecDepth 100000
set_option maxHeartbeats 4000000
namespace Go.Proofs.YtephecognbbaoaaGreat
open Go
set_option linter.all false
set_option maxRecDepth 100000
set_option maxHeartbeats 4000000
theorem str_iff {a b : List Int} (ha : ∀ c ∈ a, 0 ≤ c ∧ c ≤ 255) (hb : ∀ c ∈ b, 0 ≤ c ∧ c ≤ 255) : (strOfNums a).toList = (strOfNums b).toList ↔ a = b := by
  have := str_same ha hb
  by_cases h : a = b
  · simp [h]
  · simp only [h, decide_false, beq_eq_false_iff_ne, ne_eq, iff_false] at this ⊢
    exact this
theorem read_calls (l : List Int) (hl : l.length ≤ 140737488351232) (hb : ∀ c ∈ l, 0 ≤ c ∧ c ≤ 255) (σ : Store) : ACalls Tryz.prog 118 [.c (.string (strOfNums l))] σ fun r σ' => σ' = σ ∧ r = .tup [.agg (packetC (readL l).1), .c (.int .i64 (readL l).2)] := by
  refine ACalls.cutX ?_
  have r1 := at0_range hb 1
  have r2 := at0_range hb 2
  have r3 := at0_range hb 3
  refine ACalls_of_awp Tryz.func118 rfl Tryz.results118 ?_
  simp only [List.length_cons, List.length_nil, Tryz.ntmps118, Nat.reduceAdd, Nat.reduceSub, enterA]
  (repeat' (first|(refine g_s fun K hK=>?_)|(refine g_b ?_)|(refine g_r ?_)|(refine g_k ?_;simp only[thenQ,blockQ])|(refine g_e ?_;simp only[thenQ,blockQ,↓reduceIte,Nat.reduceEqDiff])|(refine g_c (fun h=>?_) (fun h=>?_)<;>(try simp only[go_sem] at h)<;>(try exact g_f))|((first|refine g_t ?_|refine g_g ?_|refine g_U ?_|refine g_A ?_|refine g_W ?_);(try simp -implicitDefEqProofs only[go_sem,u8_at hb]))|(with_reducible refine hK _ _ ?_;clear hK K)|(clear hK K;first|(with_reducible refine hK _ _ ?_;clear hK K)|(clear hK K;with_reducible refine hK _ _ ?_;clear hK K)|(clear hK K;clear hK K;with_reducible refine hK _ _ ?_;clear hK K))|(with_reducible refine splitB_intro (fun h=>?_) (fun h=>?_)<;>(try simp only[go_sem] at h)<;>(try exact g_f)<;>(try simp -implicitDefEqProofs only[go_sem,u8_at hb]))|(with_reducible refine And.intro (fun h=>?_) (fun h=>?_)<;>(try simp only[go_sem] at h)<;>(try exact g_f))|(with_reducible refine And.intro ?_ ?_;· exact g_x)|(with_reducible intro h;(try simp only[go_sem] at h);(try exact g_f))))
  · have e : readL l = (⟨0, 0, []⟩, 2) := by rw [readL, if_pos (by omega)]
    rw [e]
    refine CutQ_w rfl ?_ ?_
    · (repeat' (first | exact Bd.c _ | exact Bd.emp | exact BdL.nil | exact Bd.ints _ | refine Bd.aggL ?_ | refine Bd.tupL ?_ | refine BdL.cons ?_ ?_))
    · (repeat' (first | exact Wk.nil | exact Wk.emp | exact WkL.nil | (with_reducible exact Wk.refl _) | refine Wk.agg ?_ | refine Wk.tup ?_ | refine WkL.cons ?_ ?_ | (refine Wk.eq ?_; rfl)))
  · rename_i h1 h2
    have e : readL l = (⟨0, 0, []⟩, 1) := by rw [readL, if_neg (by omega), if_pos (.inl (by omega))]
    rw [e]
    refine CutQ_w rfl ?_ ?_
    · (repeat' (first | exact Bd.c _ | exact Bd.emp | exact BdL.nil | exact Bd.ints _ | refine Bd.aggL ?_ | refine Bd.tupL ?_ | refine BdL.cons ?_ ?_))
    · (repeat' (first | exact Wk.nil | exact Wk.emp | exact WkL.nil | (with_reducible exact Wk.refl _) | refine Wk.agg ?_ | refine Wk.tup ?_ | refine WkL.cons ?_ ?_ | (refine Wk.eq ?_; rfl)))
  · rename_i h1 h2
    have e : readL l = (⟨0, 0, []⟩, 1) := by rw [readL, if_neg (by omega), if_pos (.inr (by omega))]
    rw [e]
    refine CutQ_w rfl ?_ ?_
    · (repeat' (first | exact Bd.c _ | exact Bd.emp | exact BdL.nil | exact Bd.ints _ | refine Bd.aggL ?_ | refine Bd.tupL ?_ | refine BdL.cons ?_ ?_))
    · (repeat' (first | exact Wk.nil | exact Wk.emp | exact WkL.nil | (with_reducible exact Wk.refl _) | refine Wk.agg ?_ | refine Wk.tup ?_ | refine WkL.cons ?_ ?_ | (refine Wk.eq ?_; rfl)))
  rename_i h1 h2
  generalize hm : List.drop 4 (List.take ((l.length : Int) - 2).toNat l) = mid
  have hmb : ∀ c ∈ mid, 0 ≤ c ∧ c ≤ 255 := fun c hc => by
    subst hm
    exact hb c (List.mem_of_mem_take (List.mem_of_mem_drop hc))
  have hml : (mid.length : Int) = l.length - 6 := by
    subst hm
    simp
    omega
  rw [str_bytes hmb]
  refine AWP_pad ?_
  have hJ := hK
  clear hK
  simp -implicitDefEqProofs only [go_sem]
  refine AWP_each mid (fun k r acc => acc ++ r = mid) (fun k acc τ => [(42, intA1 k)]) (fun _ acc τ => σ ++ (.cells 3 [[.c (.int .i64 0), .c (.int .i64 0), .c (.slice none 0 0)]] :: .cells 3 [[intA1 (at0 l 1), intA1 (at0 l 2), accV 1 (σ.length + (τ.length + 3)) acc]] :: .cells 1 (mid.map byteC) :: (τ ++ [accO intC 1 acc]))) [] [] rfl ?_ ?_ ?_ ?_
  · simp -implicitDefEqProofs only [go_sem, accV, accO]
  · refine ALe_of ?_
    simp -implicitDefEqProofs only [go_sem]
  · rintro k r acc τ' hk0 hk1 h3 L hL
    have hr := hmb _ (at0_mem mid hk0 hk1)
    have hal : acc.length ≤ 60 := by have := congrArg List.length h3; simp at this; omega
    rcases acc with _ | ⟨x, acc⟩ <;> simp only [List.length_cons, List.length_nil] at hal <;> simp -implicitDefEqProofs only [go_sem, accV, accO]
    all_goals (repeat' (first|(refine g_s fun K hK=>?_)|(refine g_b ?_)|(refine g_r ?_)|(refine g_k ?_;simp only[thenQ,blockQ])|(refine g_e ?_;simp only[thenQ,blockQ,↓reduceIte,Nat.reduceEqDiff])|(refine g_c (fun h=>?_) (fun h=>?_)<;>(try simp only[go_sem] at h)<;>(try exact g_f))|((first|refine g_t ?_|refine g_g ?_|refine g_U ?_|refine g_A ?_|refine g_W ?_);(try simp -implicitDefEqProofs only[go_sem]))|(with_reducible refine hK _ _ ?_;clear hK K)|(clear hK K;first|(with_reducible refine hK _ _ ?_;clear hK K)|(clear hK K;with_reducible refine hK _ _ ?_;clear hK K)|(clear hK K;clear hK K;with_reducible refine hK _ _ ?_;clear hK K))|(with_reducible refine splitB_intro (fun h=>?_) (fun h=>?_)<;>(try simp only[go_sem] at h)<;>(try exact g_f)<;>(try simp -implicitDefEqProofs only[go_sem]))|(with_reducible refine And.intro (fun h=>?_) (fun h=>?_)<;>(try simp only[go_sem] at h)<;>(try exact g_f))|(with_reducible refine And.intro ?_ ?_;· exact g_x)|(with_reducible intro h;(try simp only[go_sem] at h);(try exact g_f))))
    · refine hL [at0 mid k] (τ' ++ [.dead, .cells 1 [intC (at0 mid k)]]) _ _ (by simpa using h3) (ALe_of ?_) ?_
      · simp -implicitDefEqProofs only [go_sem]
      · simp [accV, accO, intC, intA1]
    · refine hL (x :: acc ++ [at0 mid k]) (τ' ++ [.dead, .cells 1 [intC (at0 mid k)]]) _ _ (by simpa using h3) (ALe_of ?_) ?_
      · simp -implicitDefEqProofs only [go_sem]
      · simp [accV, accO, intC, intA1]
  · rintro k acc τ' hk h3 L
    rw [List.append_nil] at h3
    subst h3
    simp -implicitDefEqProofs only [go_sem]
    (repeat' (first|(refine g_s fun K hK=>?_)|(refine g_b ?_)|(refine g_r ?_)|(refine g_k ?_;simp only[thenQ,blockQ])|(refine g_e ?_;simp only[thenQ,blockQ,↓reduceIte,Nat.reduceEqDiff])|(refine g_c (fun h=>?_) (fun h=>?_)<;>(try simp only[go_sem] at h)<;>(try exact g_f))|((first|refine g_t ?_|refine g_g ?_|refine g_U ?_|refine g_A ?_|refine g_W ?_);(try simp -implicitDefEqProofs only[go_sem]))|(with_reducible refine hK _ _ ?_;clear hK K)|(clear hK K;first|(with_reducible refine hK _ _ ?_;clear hK K)|(clear hK K;with_reducible refine hK _ _ ?_;clear hK K)|(clear hK K;clear hK K;with_reducible refine hK _ _ ?_;clear hK K))|(with_reducible refine splitB_intro (fun h=>?_) (fun h=>?_)<;>(try simp only[go_sem] at h)<;>(try exact g_f)<;>(try simp -implicitDefEqProofs only[go_sem]))|(with_reducible refine And.intro (fun h=>?_) (fun h=>?_)<;>(try simp only[go_sem] at h)<;>(try exact g_f))|(with_reducible refine And.intro ?_ ?_;· exact g_x)|(with_reducible intro h;(try simp only[go_sem] at h);(try exact g_f))))
    refine hJ _ _ ?_
    clear hJ
    refine AWP_freezeS σ [.cells 3 [[.c (.int .i64 0), .c (.int .i64 0), .c (.slice none 0 0)]]] (.cells 1 (acc.map byteC) :: τ') [] 0 2 intC acc rfl rfl rfl (by simp; omega) ?_
    simp -implicitDefEqProofs only [go_sem]
    have hp : packetAt l = ⟨at0 l 1, at0 l 2, acc⟩ := by
      unfold packetAt
      congr 1
      rw [← hm]
      congr 2
      omega
    have hrd : readL l = if (writeL ⟨at0 l 1, at0 l 2, acc⟩).2 ≠ 0 ∨ (writeL ⟨at0 l 1, at0 l 2, acc⟩).1 ≠ l then (⟨0, 0, []⟩, 1) else (⟨at0 l 1, at0 l 2, acc⟩, 0) := by
      rw [readL, if_neg (by omega), if_neg (by omega), hp]
    (repeat' (first|(refine g_s fun K hK=>?_)|(refine g_b ?_)|(refine g_r ?_)|(refine g_k ?_;simp only[thenQ,blockQ])|(refine g_e ?_;simp only[thenQ,blockQ,↓reduceIte,Nat.reduceEqDiff])|(refine g_c (fun h=>?_) (fun h=>?_)<;>(try simp only[go_sem] at h)<;>(try exact g_f))|((first|refine g_t ?_|refine g_g ?_|refine g_U ?_|refine g_A ?_|refine (write_calls ⟨at0 l 1, at0 l 2, acc⟩ (by show acc.length ≤ _; omega) _).use ?_|refine g_q (fun τ=>write_calls ⟨at0 l 1, at0 l 2, acc⟩ (by show acc.length ≤ _; omega) _) ?_|refine g_W ?_);(try simp -implicitDefEqProofs only[go_sem]))|(with_reducible refine hK _ _ ?_;clear hK K)|(clear hK K;first|(with_reducible refine hK _ _ ?_;clear hK K)|(clear hK K;with_reducible refine hK _ _ ?_;clear hK K)|(clear hK K;clear hK K;with_reducible refine hK _ _ ?_;clear hK K))|(with_reducible refine splitB_intro (fun h=>?_) (fun h=>?_)<;>(try simp only[go_sem] at h)<;>(try exact g_f)<;>(try simp -implicitDefEqProofs only[go_sem]))|(with_reducible refine And.intro (fun h=>?_) (fun h=>?_)<;>(try simp only[go_sem] at h)<;>(try exact g_f))|(with_reducible refine And.intro ?_ ?_;· exact g_x)|(with_reducible intro h;(try simp only[go_sem] at h);(try exact g_f))))
    · rename_i h9
      rw [hrd, if_pos (.inl h9)]
      refine CutQ_w rfl ?_ ?_
      · (repeat' (first | exact Bd.c _ | exact Bd.emp | exact BdL.nil | exact Bd.ints _ | refine Bd.aggL ?_ | refine Bd.tupL ?_ | refine BdL.cons ?_ ?_))
      · (repeat' (first | exact Wk.nil | exact Wk.emp | exact WkL.nil | (with_reducible exact Wk.refl _) | refine Wk.agg ?_ | refine Wk.tup ?_ | refine WkL.cons ?_ ?_ | (refine Wk.eq ?_; rfl)))
    · rename_i h9
      rw [hrd, if_pos (.inr fun e => h (by rw [e]))]
      refine CutQ_w rfl ?_ ?_
      · (repeat' (first | exact Bd.c _ | exact Bd.emp | exact BdL.nil | exact Bd.ints _ | refine Bd.aggL ?_ | refine Bd.tupL ?_ | refine BdL.cons ?_ ?_))
      · (repeat' (first | exact Wk.nil | exact Wk.emp | exact WkL.nil | (with_reducible exact Wk.refl _) | refine Wk.agg ?_ | refine Wk.tup ?_ | refine WkL.cons ?_ ?_ | (refine Wk.eq ?_; rfl)))
    · rename_i h9
      rw [str_iff (writeL_bytes h9) hb] at h
      rw [hrd, if_neg (by rintro (h' | h'); exact h' h9; exact h' h)]
      refine CutQ_w rfl ?_ ?_
      · (repeat' (first | exact Bd.c _ | exact Bd.emp | exact BdL.nil | exact Bd.ints _ | refine Bd.aggL ?_ | refine Bd.tupL ?_ | refine BdL.cons ?_ ?_))
      · (repeat' (first | exact Wk.nil | exact Wk.emp | exact WkL.nil | (with_reducible exact Wk.refl _) | refine Wk.agg ?_ | refine Wk.tup ?_ | refine WkL.cons ?_ ?_ | (refine Wk.eq ?_; rfl)))
end Go.Proofs.YtephecognbbaoaaGreat
/- Turns of nodes, one at a time: in plain Lean. -/
namespace Go.Proofs.YtephecognbbaoaaGreat
structure Trn where
  act : List Bool
  ages : List (List Int)
deriving Inhabited
def turnErr (n : Net) (t : Trn) : Int :=
  if (t.act.length : Int) ≠ n.nodes ∨ (t.ages.length : Int) ≠ n.nodes ∨ t.ages.any (fun r => decide ((r.length : Int) ≠ n.nodes)) = true then 1
  else if t.ages.any (fun r => r.any fun v => !inR v 1 20) then 3
  else 0
def turnsErr (n : Net) : List Trn → Int
  | [] => 0
  | t :: r => if turnErr n t ≠ 0 then turnErr n t else turnsErr n r
def checkT (n : Net) (t : List Trn) : Int := if checkN n ≠ 0 then checkN n else if t.length > 200 then 2 else turnsErr n t
structure TrnIn (n : Net) (t : Trn) : Prop where
  act : (t.act.length : Int) = n.nodes
  len : (t.ages.length : Int) = n.nodes
  row : ∀ r ∈ t.ages, (r.length : Int) = n.nodes
  val : ∀ r ∈ t.ages, ∀ v ∈ r, 1 ≤ v ∧ v ≤ 20
/-- How old a state a turn uses. -/
def usedA (u : Trn) (k i to : Int) : Int := max 0 (k + 1 - at2 u.ages i to)
def nextT (n : Net) (out : List (List (List Int))) (k : Int) (u : Trn) : List (List Int) :=
  (ints n.nodes).map fun i => if at0 u.act i then (ints n.nodes).map (fun j => routeL n i j (fun to => at2 (at0 out (usedA u k i to)) to j) n.links) else at0 (at0 out k) i
/-- All states that come. -/
def runF (n : Net) : Int → List Trn → List (List (List Int)) → List (List (List Int))
  | _, [], out => out
  | k, u :: r, out => runF n (k + 1) r (out ++ [nextT n out k u])
def runA (n : Net) (x : List (List Int)) (t : List Trn) : List (List (List Int)) := runF n 0 t [x]
theorem at0_ext {X : Type} [Inhabited X] {a b : List X} (hl : a.length = b.length) (h : ∀ k : Int, 0 ≤ k → k < a.length → at0 a k = at0 b k) : a = b := by
  apply List.ext_getElem hl
  intro i h1 h2
  have := h i (by omega) (by omega)
  simpa [at0, List.getD_eq_getElem?_getD, h1, h2] using this
theorem routeL_in {n : Net} (hc : checkN n = 0) (i j : Int) (has : Int → Int) (hh : ∀ k, 0 ≤ k → k < n.nodes → 0 ≤ has k ∧ has k < n.alg.size) : 0 ≤ routeL n i j has n.links ∧ routeL n i j has n.links < n.alg.size := by
  rw [route_eq hc i j has hh]
  exact routeR_in (netIn_of hc) i j has hh
/-- As the document has it. -/
def cellT (n : Net) (out : List (List (List Int))) (k : Int) (u : Trn) (i j : Int) : Int :=
  if at0 u.act i then routeR n i j (fun to => at2 (at0 out (usedA u k i to)) to j) else at2 (at0 out k) i j
end Go.Proofs.YtephecognbbaoaaGreat
/- Nets whose algebra is strict settle, always to the same state: in plain Lean. -/
namespace Go.Proofs.YtephecognbbaoaaGreat
section
variable {n : Net}
/-- In range. -/
def InV (n : Net) (a : Int) : Prop := 0 ≤ a ∧ a < n.alg.size
/-- At least as good. -/
def Le (n : Net) (a b : Int) : Prop := bestA n a b = a
theorem best_select (h : NetIn n) {a b : Int} (ha : InV n a) (hb : InV n b) : bestA n a b = a ∨ bestA n a b = b := by
  have hm : (⟨3, a, b, 0, 0⟩ : Brk) ∈ casesA n.alg 3 := mem_cases.2 ⟨rfl, ha, hb, ⟨Int.le_refl _, show (0 : Int) < 1 by decide⟩, ⟨Int.le_refl _, show (0 : Int) < 1 by decide⟩⟩
  have := holds_seven h hm (show (3 : Int) ∈ seven by decide)
  have e : holdsA n.alg ⟨3, a, b, 0, 0⟩ = (decide (at2 n.alg.best a b = a) || decide (at2 n.alg.best a b = b)) := rfl
  rw [e] at this
  simp only [Bool.or_eq_true, decide_eq_true_eq] at this
  exact this
theorem inv_in (h : NetIn n) : InV n (n.alg.size - 1) := ⟨by have := h.alg.s2; omega, by omega⟩
theorem le_inv (h : NetIn n) {a : Int} (ha : InV n a) : Le n a (n.alg.size - 1) := by
  have hm : (⟨5, a, 0, 0, 0⟩ : Brk) ∈ casesA n.alg 5 := mem_cases.2 ⟨rfl, ha, ⟨Int.le_refl _, show (0 : Int) < 1 by decide⟩, ⟨Int.le_refl _, show (0 : Int) < 1 by decide⟩, ⟨Int.le_refl _, show (0 : Int) < 1 by decide⟩⟩
  have := holds_seven h hm (show (5 : Int) ∈ seven by decide)
  have e : holdsA n.alg ⟨5, a, 0, 0, 0⟩ = decide (at2 n.alg.best (n.alg.size - 1) a = a) := rfl
  rw [e] at this
  unfold Le
  rw [best_comm h ha (inv_in h)]
  exact of_decide_eq_true this
theorem over_inv (h : NetIn n) {e : Int} (he : 0 ≤ e ∧ e < n.alg.edges.length) : overA n e (n.alg.size - 1) = n.alg.size - 1 := by
  have hm : (⟨6, 0, 0, 0, e⟩ : Brk) ∈ casesA n.alg 6 := mem_cases.2 ⟨rfl, ⟨Int.le_refl _, show (0 : Int) < 1 by decide⟩, ⟨Int.le_refl _, show (0 : Int) < 1 by decide⟩, ⟨Int.le_refl _, show (0 : Int) < 1 by decide⟩, he⟩
  have := holds_seven h hm (show (6 : Int) ∈ seven by decide)
  have e : holdsA n.alg ⟨6, 0, 0, 0, e⟩ = decide (at2 n.alg.edges e (n.alg.size - 1) = n.alg.size - 1) := rfl
  rw [e] at this
  exact of_decide_eq_true this
def StrictA (n : Net) : Prop := (brokenA n.alg [8]).law = 0
theorem over_strict (h : NetIn n) (hs : StrictA n) {e a : Int} (he : 0 ≤ e ∧ e < n.alg.edges.length) (ha : InV n a) (hi : a ≠ n.alg.size - 1) : Le n a (overA n e a) ∧ overA n e a ≠ a := by
  have hm : (⟨8, a, 0, 0, e⟩ : Brk) ∈ casesA n.alg 8 := mem_cases.2 ⟨rfl, ha, ⟨Int.le_refl _, show (0 : Int) < 1 by decide⟩, ⟨Int.le_refl _, show (0 : Int) < 1 by decide⟩, he⟩
  have := brokenA_none (laws := [8]) (by decide) hs 8 (by simp) _ hm
  have e : holdsA n.alg ⟨8, a, 0, 0, e⟩ = (decide (a = n.alg.size - 1) || (decide (at2 n.alg.best a (at2 n.alg.edges e a) = a) && !decide (at2 n.alg.edges e a = a))) := rfl
  rw [e, decide_eq_false hi, Bool.false_or, Bool.and_eq_true, Bool.not_eq_true', decide_eq_true_eq, decide_eq_false_iff_not] at this
  exact this
theorem le_refl (h : NetIn n) {a : Int} (ha : InV n a) : Le n a a := by
  rcases best_select h ha ha with e | e <;> exact e
theorem le_antisymm (h : NetIn n) {a b : Int} (ha : InV n a) (hb : InV n b) (h1 : Le n a b) (h2 : Le n b a) : a = b := by
  unfold Le at h1 h2
  rw [← h1, best_comm h ha hb, h2]
theorem le_trans (h : NetIn n) {a b c : Int} (ha : InV n a) (hb : InV n b) (hc : InV n c) (h1 : Le n a b) (h2 : Le n b c) : Le n a c := by
  unfold Le at *
  have := best_assoc h ha hb hc
  rw [h2, h1] at this
  exact this.symm
theorem le_total (h : NetIn n) {a b : Int} (ha : InV n a) (hb : InV n b) : Le n a b ∨ Le n b a := by
  rcases best_select h ha hb with e | e
  · exact .inl e
  · right
    unfold Le
    rw [best_comm h hb ha]
    exact e
theorem best_le1 (h : NetIn n) {a b : Int} (ha : InV n a) (hb : InV n b) : Le n (bestA n a b) a := by
  rcases le_total h ha hb with e | e
  · rw [show bestA n a b = a from e]; exact le_refl h ha
  · have : bestA n a b = b := by rw [best_comm h ha hb]; exact e
    rw [this]; exact e
theorem best_le2 (h : NetIn n) {a b : Int} (ha : InV n a) (hb : InV n b) : Le n (bestA n a b) b := by
  rw [best_comm h ha hb]; exact best_le1 h hb ha
/-- How many are better. -/
def rank (n : Net) (v : Int) : Nat := ((ints n.alg.size).filter fun w => decide (bestA n w v = w) && !decide (w = v)).length
theorem filter_lt {p q : Int → Bool} : ∀ (L : List Int), (∀ w ∈ L, p w = true → q w = true) → (∃ w ∈ L, q w = true ∧ p w = false) → (L.filter p).length < (L.filter q).length
  | [], _, h => by obtain ⟨w, hw, _⟩ := h; cases hw
  | x :: r, h1, h2 => by
    have hle : ∀ (L : List Int), (∀ w ∈ L, p w = true → q w = true) → (L.filter p).length ≤ (L.filter q).length := by
      intro L
      induction L with
      | nil => intro _; simp
      | cons y L ih =>
        intro hL
        have h9 := ih fun w hw => hL w (by simp [hw])
        by_cases hp : p y = true
        · rw [List.filter_cons_of_pos hp, List.filter_cons_of_pos (hL y (by simp) hp)]
          simp only [List.length_cons]; omega
        · rw [List.filter_cons_of_neg hp]
          by_cases hq : q y = true
          · rw [List.filter_cons_of_pos hq]; simp only [List.length_cons]; omega
          · rw [List.filter_cons_of_neg hq]; exact h9
    have hr := hle r fun w hw => h1 w (by simp [hw])
    obtain ⟨w, hw, hq, hp⟩ := h2
    by_cases hx : p x = true
    · rw [List.filter_cons_of_pos hx, List.filter_cons_of_pos (h1 x (by simp) hx)]
      have : w ∈ r := by
        rcases List.mem_cons.1 hw with rfl | hw
        · rw [hx] at hp; cases hp
        · exact hw
      have := filter_lt r (fun w hw => h1 w (by simp [hw])) ⟨w, this, hq, hp⟩
      simp only [List.length_cons]; omega
    · rw [List.filter_cons_of_neg hx]
      by_cases hqx : q x = true
      · rw [List.filter_cons_of_pos hqx]; simp only [List.length_cons]; omega
      · rw [List.filter_cons_of_neg hqx]
        have : w ∈ r := by
          rcases List.mem_cons.1 hw with rfl | hw
          · exact absurd hq hqx
          · exact hw
        exact filter_lt r (fun w hw => h1 w (by simp [hw])) ⟨w, this, hq, hp⟩
theorem rank_lt (h : NetIn n) {a b : Int} (ha : InV n a) (hb : InV n b) (h1 : Le n a b) (h2 : a ≠ b) : rank n a < rank n b := by
  refine filter_lt _ (fun w hw hp => ?_) ⟨a, mem_ints.2 ha, ?_, by simp⟩
  · have hw := mem_ints.1 hw
    simp only [Bool.and_eq_true, decide_eq_true_eq, Bool.not_eq_true', decide_eq_false_iff_not] at hp ⊢
    refine ⟨le_trans h hw ha hb hp.1 h1, fun e => ?_⟩
    subst e
    exact h2 (le_antisymm h ha hb h1 hp.1)
  · simp only [Bool.and_eq_true, decide_eq_true_eq, Bool.not_eq_true', decide_eq_false_iff_not]
    exact ⟨h1, h2⟩
theorem rank_top (h : NetIn n) {v : Int} (hv : InV n v) : (rank n v : Int) < n.alg.size := by
  have h1 : rank n v < ((ints n.alg.size).filter fun _ => true).length := filter_lt _ (fun _ _ _ => rfl) ⟨v, mem_ints.2 hv, rfl, by simp⟩
  rw [List.filter_eq_self.2 (fun _ _ => rfl), ints_length] at h1
  have := h.alg.s2
  omega
/-- What a fold of bests is. -/
theorem route_facts (h : NetIn n) (i : Int) (val : Lnk → Int) : ∀ (L : List Lnk) (out : Int), (∀ l ∈ L, InV n (val l)) → InV n out →
    InV n (L.foldl (fun out l => if l.fr = i then bestA n out (val l) else out) out) ∧ Le n (L.foldl (fun out l => if l.fr = i then bestA n out (val l) else out) out) out ∧
    (∀ l ∈ L, l.fr = i → Le n (L.foldl (fun out l => if l.fr = i then bestA n out (val l) else out) out) (val l)) ∧
    (L.foldl (fun out l => if l.fr = i then bestA n out (val l) else out) out = out ∨ ∃ l ∈ L, l.fr = i ∧ L.foldl (fun out l => if l.fr = i then bestA n out (val l) else out) out = val l)
  | [], out, _, ho => ⟨ho, le_refl h ho, (fun l hl => by cases hl), .inl rfl⟩
  | x :: r, out, hv, ho => by
    have hvx := hv x (by simp)
    have hvr : ∀ l ∈ r, InV n (val l) := fun l hl => hv l (by simp [hl])
    rw [List.foldl_cons]
    by_cases e : x.fr = i
    · rw [if_pos e]
      have hb : InV n (bestA n out (val x)) := best_in h ho hvx
      obtain ⟨h1, h2, h3, h4⟩ := route_facts h i val r (bestA n out (val x)) hvr hb
      refine ⟨h1, le_trans h h1 hb ho h2 (best_le1 h ho hvx), fun l hl hf => ?_, ?_⟩
      · rcases List.mem_cons.1 hl with rfl | hl
        · exact le_trans h h1 hb hvx h2 (best_le2 h ho hvx)
        · exact h3 l hl hf
      · rcases h4 with h4 | ⟨l, hl, hf, h4⟩
        · rcases best_select h ho hvx with e2 | e2
          · exact .inl (h4.trans e2)
          · exact .inr ⟨x, by simp, e, h4.trans e2⟩
        · exact .inr ⟨l, by simp [hl], hf, h4⟩
    · rw [if_neg e]
      obtain ⟨h1, h2, h3, h4⟩ := route_facts h i val r out hvr ho
      refine ⟨h1, h2, fun l hl hf => ?_, ?_⟩
      · rcases List.mem_cons.1 hl with rfl | hl
        · exact absurd hf e
        · exact h3 l hl hf
      · rcases h4 with h4 | ⟨l, hl, hf, h4⟩
        · exact .inl h4
        · exact .inr ⟨l, by simp [hl], hf, h4⟩
theorem round_at (hc : checkN n = 0) {x : List (List Int)} (hx : RowsIn n x) {i j : Int} (hi : 0 ≤ i ∧ i < n.nodes) (hj : 0 ≤ j ∧ j < n.nodes) : at2 (roundA n x) i j = routeL n i j (fun k => at2 x k j) n.links := by
  have hn := netIn_of hc
  have n1 := hn.n1
  rw [route_eq hc i j _ fun k h0 h1 => at2_in hx ⟨h0, h1⟩ hj]
  have a0 : ∀ {X : Type} [Inhabited X] (f : Int → X) {q : Int}, 0 ≤ q ∧ q < n.nodes → at0 ((ints n.nodes).map f) q = f q := fun f q hq => by
    have h1 : q.toNat < (ints n.nodes).length := by rw [ints_length]; omega
    simp only [at0, List.getD_eq_getElem?_getD, List.getElem?_map, List.getElem?_eq_getElem h1, Option.map_some, Option.getD_some]
    congr 1
    simp [ints]
    omega
  unfold at2 roundA
  rw [a0 _ hi, a0 _ hj]
  rfl
/-- Where two states differ, both are of rank t or more. -/
def Agree (n : Net) (t : Nat) (x y : List (List Int)) : Prop := ∀ i j, 0 ≤ i ∧ i < n.nodes → 0 ≤ j ∧ j < n.nodes → at2 x i j ≠ at2 y i j → t ≤ rank n (at2 x i j) ∧ t ≤ rank n (at2 y i j)
theorem agree_step1 (hc : checkN n = 0) (hs : StrictA n) {x y : List (List Int)} (hx : RowsIn n x) (hy : RowsIn n y) {t : Nat} (h : Agree n t x y) {i j : Int} (hi : 0 ≤ i ∧ i < n.nodes) (hj : 0 ≤ j ∧ j < n.nodes)
    (hle : Le n (at2 (roundA n x) i j) (at2 (roundA n y) i j)) (hne : at2 (roundA n x) i j ≠ at2 (roundA n y) i j) : t + 1 ≤ rank n (at2 (roundA n x) i j) ∧ t + 1 ≤ rank n (at2 (roundA n y) i j) := by
  have hn := netIn_of hc
  have s2 := hn.alg.s2
  have hrx := at2_in (round_in hn hx) hi hj
  have hry := at2_in (round_in hn hy) hi hj
  have hlt := rank_lt hn hrx hry hle hne
  suffices hk : t + 1 ≤ rank n (at2 (roundA n x) i j) from ⟨hk, by omega⟩
  have hvx : ∀ l ∈ n.links, InV n (overA n l.edge (at2 x l.dst j)) := fun l hl =>
    let g := hn.lnk l hl
    over_in hn ⟨g.e0, g.e1⟩ (at2_in hx ⟨g.d0, g.d1⟩ hj)
  have hvy : ∀ l ∈ n.links, InV n (overA n l.edge (at2 y l.dst j)) := fun l hl =>
    let g := hn.lnk l hl
    over_in hn ⟨g.e0, g.e1⟩ (at2_in hy ⟨g.d0, g.d1⟩ hj)
  have hb : InV n (if i = j then 0 else n.alg.size - 1 : Int) := by unfold InV; split <;> omega
  obtain ⟨_, _, _, f4⟩ := route_facts hn i (fun l => overA n l.edge (at2 x l.dst j)) n.links _ hvx hb
  obtain ⟨_, g2, g3, _⟩ := route_facts hn i (fun l => overA n l.edge (at2 y l.dst j)) n.links _ hvy hb
  have ex : at2 (roundA n x) i j = n.links.foldl (fun out l => if l.fr = i then bestA n out (overA n l.edge (at2 x l.dst j)) else out) (if i = j then 0 else n.alg.size - 1) := round_at hc hx hi hj
  have ey : at2 (roundA n y) i j = n.links.foldl (fun out l => if l.fr = i then bestA n out (overA n l.edge (at2 y l.dst j)) else out) (if i = j then 0 else n.alg.size - 1) := round_at hc hy hi hj
  rw [← ex] at f4
  rw [← ey] at g2 g3
  rcases f4 with f4 | ⟨l, hl, hf, f4⟩
  · rw [f4] at hle hne hrx
    exact absurd (le_antisymm hn hrx hry hle g2) hne
  · have g := hn.lnk l hl
    have hxk := at2_in hx ⟨g.d0, g.d1⟩ hj
    have hyk := at2_in hy ⟨g.d0, g.d1⟩ hj
    have hg3 := g3 l hl hf
    have hdiff : at2 x l.dst j ≠ at2 y l.dst j := fun e => by
      rw [e] at f4
      exact hne (le_antisymm hn hrx hry hle (by rw [f4]; exact hg3))
    have hinv : at2 x l.dst j ≠ n.alg.size - 1 := fun e => by
      rw [e, over_inv hn ⟨g.e0, g.e1⟩] at f4
      refine hne (le_antisymm hn hrx hry hle ?_)
      rw [f4]
      exact le_inv hn hry
    obtain ⟨s1, s3⟩ := over_strict hn hs ⟨g.e0, g.e1⟩ hxk hinv
    rw [← f4] at s1 s3
    have := rank_lt hn hxk hrx s1 (Ne.symm s3)
    have := (h l.dst j ⟨g.d0, g.d1⟩ hj hdiff).1
    omega
theorem agree_symm {t : Nat} {x y : List (List Int)} (h : Agree n t x y) : Agree n t y x := fun i j hi hj hne => ⟨(h i j hi hj (Ne.symm hne)).2, (h i j hi hj (Ne.symm hne)).1⟩
theorem agree_step (hc : checkN n = 0) (hs : StrictA n) {x y : List (List Int)} (hx : RowsIn n x) (hy : RowsIn n y) {t : Nat} (h : Agree n t x y) : Agree n (t + 1) (roundA n x) (roundA n y) := by
  have hn := netIn_of hc
  intro i j hi hj hne
  rcases le_total hn (at2_in (round_in hn hx) hi hj) (at2_in (round_in hn hy) hi hj) with hle | hle
  · exact agree_step1 hc hs hx hy h hi hj hle hne
  · have := agree_step1 hc hs hy hx (agree_symm h) hi hj hle (Ne.symm hne)
    exact ⟨this.2, this.1⟩
def iter (n : Net) : Nat → List (List Int) → List (List Int)
  | 0, x => x
  | t + 1, x => iter n t (roundA n x)
theorem iter_in (hn : NetIn n) : ∀ (t : Nat) {x : List (List Int)}, RowsIn n x → RowsIn n (iter n t x)
  | 0, _, h => h
  | t + 1, _, h => iter_in hn t (round_in hn h)
theorem iter_agree (hc : checkN n = 0) (hs : StrictA n) : ∀ (t u : Nat) {x y : List (List Int)}, RowsIn n x → RowsIn n y → Agree n u x y → Agree n (u + t) (iter n t x) (iter n t y)
  | 0, _, _, _, _, _, h => h
  | t + 1, u, x, y, hx, hy, h => by
    have := iter_agree hc hs t (u + 1) (round_in (netIn_of hc) hx) (round_in (netIn_of hc) hy) (agree_step hc hs hx hy h)
    rw [show u + (t + 1) = u + 1 + t by omega]
    exact this
theorem agree_eq (hn : NetIn n) {x y : List (List Int)} (hx : RowsIn n x) (hy : RowsIn n y) {t : Nat} (ht : n.alg.size - 1 ≤ t) (h : Agree n t x y) : x = y := by
  have key : ∀ i j, 0 ≤ i ∧ i < n.nodes → 0 ≤ j ∧ j < n.nodes → at2 x i j = at2 y i j := fun i j hi hj => by
    apply Classical.byContradiction
    intro hne
    have h1 := h i j hi hj hne
    have vx := at2_in hx hi hj
    have vy := at2_in hy hi hj
    have tx := rank_top hn vx
    have ty := rank_top hn vy
    rcases le_total hn vx vy with hle | hle
    · have := rank_lt hn vx vy hle hne
      omega
    · have := rank_lt hn vy vx hle (Ne.symm hne)
      omega
  refine at0_ext (by have := hx.len; have := hy.len; omega) fun i h0 h1 => ?_
  have hi : 0 ≤ i ∧ i < n.nodes := ⟨h0, by rw [← hx.len]; exact h1⟩
  have rx := hx.row _ (at0_mem x h0 h1)
  have ry := hy.row _ (at0_mem y h0 (by rw [hy.len]; exact hi.2))
  refine at0_ext (by omega) fun j g0 g1 => key i j hi ⟨g0, by rw [← rx]; exact g1⟩
/-- All states meet, by size - 1 rounds. -/
theorem iter_same (hc : checkN n = 0) (hs : StrictA n) {x y : List (List Int)} (hx : RowsIn n x) (hy : RowsIn n y) : iter n (n.alg.size - 1).toNat x = iter n (n.alg.size - 1).toNat y := by
  have hn := netIn_of hc
  have s2 := hn.alg.s2
  have h := iter_agree hc hs (n.alg.size - 1).toNat 0 hx hy (fun i j _ _ _ => ⟨Nat.zero_le _, Nat.zero_le _⟩)
  exact agree_eq hn (iter_in hn _ hx) (iter_in hn _ hy) (by omega) h
theorem iter_round : ∀ (t : Nat) (x : List (List Int)), roundA n (iter n t x) = iter n t (roundA n x)
  | 0, _ => rfl
  | t + 1, x => iter_round t (roundA n x)
theorem iter_fix : ∀ (t : Nat) {x : List (List Int)}, x = roundA n x → iter n t x = x
  | 0, _, _ => rfl
  | t + 1, x, h => by
    rw [iter, ← h]
    exact iter_fix t h
theorem settle_fix : ∀ (f t : Nat) (k : Int) (x : List (List Int)), t ≤ f → iter n t x = roundA n (iter n t x) → (settleF n f k x).1 = roundA n (settleF n f k x).1 ∧ (settleF n f k x).2 ≤ k + t ∧ ∃ u, (settleF n f k x).1 = iter n u x
  | 0, 0, k, x, _, h => ⟨h, by simp [settleF], 0, rfl⟩
  | 0, t + 1, _, _, hl, _ => by omega
  | f + 1, t, k, x, hl, h => by
    by_cases e : x = roundA n x
    · rw [settleF, if_pos e]
      exact ⟨e, by simp only; omega, 0, rfl⟩
    · rw [settleF, if_neg e]
      cases t with
      | zero => exact absurd h e
      | succ t =>
        obtain ⟨h1, h2, u, h3⟩ := settle_fix f t (k + 1) (roundA n x) (by omega) h
        exact ⟨h1, by omega, u + 1, h3⟩
theorem settle_in (hn : NetIn n) {f : Nat} {k : Int} {x : List (List Int)} (hx : RowsIn n x) : RowsIn n (settleF n f k x).1 := by
  induction f generalizing k x with
  | zero => exact hx
  | succ f ih =>
    rw [settleF]
    split
    · exact hx
    · exact ih (round_in hn hx)
theorem fit_ok (hc : checkN n = 0) {x : List (List Int)} (hx : RowsIn n x) : fitA n x = 0 := by
  rw [fitA, if_neg (by simpa using hc), rowsErr, if_neg, if_neg]
  · rw [Bool.not_eq_true, List.any_eq_false]
    intro r hr
    rw [Bool.not_eq_true, List.any_eq_false]
    intro v hv
    have := hx.val r hr v hv
    simp only [inR, Bool.not_eq_true, Bool.not_eq_false', Bool.and_eq_true, decide_eq_true_eq]
    omega
  · rintro (h | h)
    · exact h hx.len
    · obtain ⟨r, hr, h⟩ := List.any_eq_true.1 h
      exact of_decide_eq_true h (hx.row r hr)
/-- Whatever the states: they settle by size rounds, to the same. -/
theorem always (hc : checkN n = 0) (hs : StrictA n) {x y : List (List Int)} (hx : RowsIn n x) (hy : RowsIn n y) :
    (settleF n 100 0 x).1 = roundA n (settleF n 100 0 x).1 ∧ (settleF n 100 0 x).2 ≤ n.alg.size ∧ (settleF n 100 0 y).2 ≤ n.alg.size ∧ (settleF n 100 0 x).1 = (settleF n 100 0 y).1 := by
  have hn := netIn_of hc
  have s2 := hn.alg.s2
  have s24 := hn.alg.s24
  have fix : ∀ z, RowsIn n z → iter n (n.alg.size - 1).toNat z = roundA n (iter n (n.alg.size - 1).toNat z) := fun z hz => by
    rw [iter_round]
    exact iter_same hc hs hz (round_in hn hz)
  obtain ⟨a1, a2, _⟩ := settle_fix 100 (n.alg.size - 1).toNat 0 x (by omega) (fix x hx)
  obtain ⟨b1, b2, _⟩ := settle_fix 100 (n.alg.size - 1).toNat 0 y (by omega) (fix y hy)
  refine ⟨a1, by omega, by omega, ?_⟩
  have := iter_same hc hs (settle_in hn (f := 100) (k := 0) hx) (settle_in hn (f := 100) (k := 0) hy)
  rwa [iter_fix _ a1, iter_fix _ b1] at this
end
end Go.Proofs.YtephecognbbaoaaGreat
/- Where to: the program's way and the document's find the same: in plain Lean. -/
namespace Go.Proofs.YtephecognbbaoaaGreat
section
variable {n : Net}
/-- As the program finds it. -/
def toL (n : Net) (i j : Int) (has : Int → Int) : Int :=
  if i = j then -1
  else if routeL n i j has n.links = n.alg.size - 1 then -1
  else match (ints n.nodes).find? fun k => decide (0 ≤ edgeOf n i k) && decide (overA n (edgeOf n i k) (has k) = routeL n i j has n.links) with
  | some k => k
  | none => -1
/-- As the document does. -/
def toStep (n : Net) (i : Int) (has : Int → Int) (b : Int × Int) (k : Int) : Int × Int :=
  if 0 ≤ edgeOf n i k then (if bestA n b.1 (overA n (edgeOf n i k) (has k)) ≠ b.1 then (overA n (edgeOf n i k) (has k), k) else b) else b
def toR (n : Net) (i j : Int) (has : Int → Int) : Int := if i = j then -1 else ((ints n.nodes).foldl (toStep n i has) (n.alg.size - 1, -1)).2
theorem edge_in (h : NetIn n) {i k : Int} (he : 0 ≤ edgeOf n i k) : edgeOf n i k < n.alg.edges.length := by
  unfold edgeOf at he ⊢
  cases hfd : n.links.find? fun l => decide (l.fr = i) && decide (l.dst = k) with
  | none => rw [hfd] at he; simp at he
  | some l => exact (h.lnk l (List.mem_of_find?_eq_some hfd)).e1
/-- The table of a state. -/
def tableA (n : Net) (x : List (List Int)) : List (List Int) := (ints n.nodes).map fun i => (ints n.nodes).map fun j => toR n i j fun k => at2 x k j
end
end Go.Proofs.YtephecognbbaoaaGreat
namespace Go.Proofs.YtephecognbbaoaaGreat
/-- What is wrong with a table. -/
def tabErr (n : Net) (t : List (List Int)) : Int :=
  if checkN n ≠ 0 then checkN n
  else if (t.length : Int) ≠ n.nodes ∨ t.any (fun r => decide ((r.length : Int) ≠ n.nodes)) = true then 1
  else if t.any (fun r => r.any fun v => !(decide (v = -1) || inR v 0 (n.nodes - 1))) then 5
  else 0
structure TabIn (n : Net) (t : List (List Int)) : Prop where
  chk : checkN n = 0
  len : (t.length : Int) = n.nodes
  row : ∀ r ∈ t, (r.length : Int) = n.nodes
  val : ∀ r ∈ t, ∀ v ∈ r, v = -1 ∨ (0 ≤ v ∧ v < n.nodes)
/-- A walk by a table. -/
def walkF (t : List (List Int)) (to : Int) : Nat → Int → List Int → List Int × Bool
  | 0, _, out => (out, true)
  | f + 1, at', out => if at' = to then (out, true) else if at2 t at' to < 0 ∨ at2 t at' to ∈ out then (out, false) else walkF t to f (at2 t at' to) (out ++ [at2 t at' to])
/-- Weigh: and is it a path. -/
def weighA (n : Net) : List Int → Int × Bool
  | [] => (0, false)
  | [_] => (0, true)
  | a :: b :: r => if (weighA n (b :: r)).2 = false ∨ edgeOf n a b < 0 then (0, false) else (overA n (edgeOf n a b) (weighA n (b :: r)).1, true)
def weighErr (n : Net) (p : List Int) : Int := if checkN n ≠ 0 then checkN n else if p = [] then 1 else if p.any (fun i => !inR i 0 (n.nodes - 1)) then 5 else if (weighA n p).2 then 0 else 5
def weighV (n : Net) (p : List Int) : Int := if weighErr n p = 0 then (weighA n p).1 else 0
theorem edge_link {n : Net} (ha : Apart n.links) {l : Lnk} (hl : l ∈ n.links) : edgeOf n l.fr l.dst = l.edge := by
  unfold edgeOf
  have key : ∀ L : List Lnk, Apart L → l ∈ L → L.find? (fun x => decide (x.fr = l.fr) && decide (x.dst = l.dst)) = some l := by
    intro L
    induction L with
    | nil => intro _ h; cases h
    | cons x L ih =>
      intro h hm
      by_cases e : (decide (x.fr = l.fr) && decide (x.dst = l.dst)) = true
      · rw [List.find?_cons_of_pos (by simpa using e)]
        rcases List.mem_cons.1 hm with rfl | hm
        · rfl
        · have h1 := h.1 l hm
          simp only [Bool.and_eq_true, decide_eq_true_eq] at e
          have : l.like x = true := by simp [Lnk.like]; omega
          rw [this] at h1
          cases h1
      · rw [List.find?_cons_of_neg (by simpa using e)]
        rcases List.mem_cons.1 hm with rfl | hm
        · simp at e
        · exact ih h.2 hm
  rw [key _ ha hl]
  rfl
/-- A path without a node twice. -/
structure Path (n : Net) (p : List Int) : Prop where
  rng : ∀ k ∈ p, 0 ≤ k ∧ k < n.nodes
  one : p.Nodup
  ok : (weighA n p).2 = true
/-- From the end on, along links: s is what is behind. -/
def visitF (n : Net) (fr : Int) : Nat → List Int → Int → Int → Int → Int
  | 0, _, _, _, b => b
  | f + 1, s, at', w, b => if at' = fr then bestA n b w else
    n.links.foldl (fun b l => if (decide (l.dst = at') && !decide (l.fr ∈ at' :: s)) = true then visitF n fr f (at' :: s) l.fr (overA n l.edge w) b else b) b
/-- From the beginning on, by nodes. -/
def pathsF (n : Net) (to : Int) : Nat → List Int → Int
  | 0, _ => n.alg.size - 1
  | f + 1, p => if p.getLastD 0 = to then (weighA n p).1 else
    (ints n.nodes).foldl (fun b k => if (decide (0 ≤ edgeOf n (p.getLastD 0) k) && !decide (k ∈ p)) = true then bestA n b (pathsF n to f (p ++ [k])) else b) (n.alg.size - 1)
end Go.Proofs.YtephecognbbaoaaGreat
namespace Go.Proofs.YtephecognbbaoaaGreat
/-- Which nodes have been met. -/
def addK : List Int → Int → List Bool → List Int
  | K, _, [] => K
  | K, i, a :: r => addK (if a = true ∧ i ∉ K then K ++ [i] else K) (i + 1) r
/-- Where all have been met. -/
def endF (n : Net) : List Trn → Int → List Int → Option Int
  | [], e, K => if n.nodes ≤ K.length then some e else none
  | u :: r, e, K => if n.nodes ≤ K.length then some e else endF n r (e + 1) (addK K 0 u.act)
def olderA (n : Net) (u : Trn) (k e : Int) : Bool := n.links.any fun l => at0 u.act l.fr && decide (usedA u k l.fr l.dst < e)
/-- Behind which turn nothing older is used. -/
def doneF (n : Net) (e : Int) : List Trn → Int → Int → Int
  | [], _, d => d
  | u :: r, k, d => doneF n e r (k + 1) (if olderA n u k e then k + 1 else d)
def cycleA (n : Net) (t : List Trn) (fr : Int) : Option Int := (endF n (t.drop fr.toNat) fr []).map fun e => doneF n e (t.drop e.toNat) e e
def cyclesF (n : Net) (t : List Trn) : Nat → Int → Int → Int
  | 0, _, many => many
  | f + 1, fr, many => match cycleA n t fr with
    | none => many
    | some to => cyclesF n t f to (many + 1)
def cyclesA (n : Net) (t : List Trn) : Int := cyclesF n t (t.length + 1) 0 0
/-- A list of met nodes. -/
structure Met (n : Net) (K : List Int) : Prop where
  nd : K.Nodup
  mem : ∀ i ∈ K, 0 ≤ i ∧ i < n.nodes
theorem Met.nil (n : Net) : Met n [] := ⟨List.nodup_nil, fun _ h => by cases h⟩
theorem Met.add {n : Net} {K : List Int} (h : Met n K) {i : Int} (h0 : 0 ≤ i ∧ i < n.nodes) (hi : i ∉ K) : Met n (K ++ [i]) :=
  ⟨List.nodup_append.2 ⟨h.nd, by simp, fun a ha b hb e => by rw [List.mem_singleton.1 hb] at e; exact hi (e ▸ ha)⟩, fun j hj => by
    rcases List.mem_append.1 hj with hj | hj
    · exact h.mem j hj
    · rw [List.mem_singleton.1 hj]; exact h0⟩
end Go.Proofs.YtephecognbbaoaaGreat
namespace Go.Proofs.YtephecognbbaoaaGreat
section
variable {n : Net}
/-- One route, made of what differs late alone. -/
theorem cell_step1 (hc : checkN n = 0) (hs : StrictA n) {i j : Int} {f g : Int → Int} (hf : ∀ l ∈ n.links, InV n (f l.dst)) (hg : ∀ l ∈ n.links, InV n (g l.dst)) {t : Nat}
    (h : ∀ l ∈ n.links, l.fr = i → f l.dst ≠ g l.dst → t ≤ rank n (f l.dst)) (hle : Le n (routeL n i j f n.links) (routeL n i j g n.links)) (hne : routeL n i j f n.links ≠ routeL n i j g n.links)
    (hrx : InV n (routeL n i j f n.links)) (hry : InV n (routeL n i j g n.links)) : t + 1 ≤ rank n (routeL n i j f n.links) ∧ t + 1 ≤ rank n (routeL n i j g n.links) := by
  have hn := netIn_of hc
  have s2 := hn.alg.s2
  have hlt := rank_lt hn hrx hry hle hne
  suffices hk : t + 1 ≤ rank n (routeL n i j f n.links) from ⟨hk, by omega⟩
  have hvx : ∀ l ∈ n.links, InV n (overA n l.edge (f l.dst)) := fun l hl =>
    let q := hn.lnk l hl
    over_in hn ⟨q.e0, q.e1⟩ (hf l hl)
  have hvy : ∀ l ∈ n.links, InV n (overA n l.edge (g l.dst)) := fun l hl =>
    let q := hn.lnk l hl
    over_in hn ⟨q.e0, q.e1⟩ (hg l hl)
  have hb : InV n (if i = j then 0 else n.alg.size - 1 : Int) := by unfold InV; split <;> omega
  obtain ⟨_, _, _, f4⟩ := route_facts hn i (fun l => overA n l.edge (f l.dst)) n.links _ hvx hb
  obtain ⟨_, g2, g3, _⟩ := route_facts hn i (fun l => overA n l.edge (g l.dst)) n.links _ hvy hb
  have ex : routeL n i j f n.links = n.links.foldl (fun out l => if l.fr = i then bestA n out (overA n l.edge (f l.dst)) else out) (if i = j then 0 else n.alg.size - 1) := rfl
  have ey : routeL n i j g n.links = n.links.foldl (fun out l => if l.fr = i then bestA n out (overA n l.edge (g l.dst)) else out) (if i = j then 0 else n.alg.size - 1) := rfl
  rw [← ex] at f4
  rw [← ey] at g2 g3
  rcases f4 with f4 | ⟨l, hl, hfr, f4⟩
  · rw [f4] at hle hne hrx
    exact absurd (le_antisymm hn hrx hry hle g2) hne
  · have q := hn.lnk l hl
    have hxk := hf l hl
    have hyk := hg l hl
    have hg3 := g3 l hl hfr
    have hdiff : f l.dst ≠ g l.dst := fun e => by
      rw [e] at f4
      exact hne (le_antisymm hn hrx hry hle (by rw [f4]; exact hg3))
    have hinv : f l.dst ≠ n.alg.size - 1 := fun e => by
      rw [e, over_inv hn ⟨q.e0, q.e1⟩] at f4
      refine hne (le_antisymm hn hrx hry hle ?_)
      rw [f4]
      exact le_inv hn hry
    obtain ⟨s1, s3⟩ := over_strict hn hs ⟨q.e0, q.e1⟩ hxk hinv
    rw [← f4] at s1 s3
    have := rank_lt hn hxk hrx s1 (Ne.symm s3)
    have := h l hl hfr hdiff
    omega
theorem cell_step (hc : checkN n = 0) (hs : StrictA n) {i j : Int} {f g : Int → Int} (hf : ∀ k, 0 ≤ k → k < n.nodes → InV n (f k)) (hg : ∀ k, 0 ≤ k → k < n.nodes → InV n (g k)) {t : Nat}
    (h : ∀ l ∈ n.links, l.fr = i → f l.dst ≠ g l.dst → t ≤ rank n (f l.dst) ∧ t ≤ rank n (g l.dst)) (hne : routeL n i j f n.links ≠ routeL n i j g n.links) :
    t + 1 ≤ rank n (routeL n i j f n.links) ∧ t + 1 ≤ rank n (routeL n i j g n.links) := by
  have hn := netIn_of hc
  have hrx : InV n (routeL n i j f n.links) := routeL_in hc i j f hf
  have hry : InV n (routeL n i j g n.links) := routeL_in hc i j g hg
  have hf' : ∀ l ∈ n.links, InV n (f l.dst) := fun l hl => let q := hn.lnk l hl; hf _ q.d0 q.d1
  have hg' : ∀ l ∈ n.links, InV n (g l.dst) := fun l hl => let q := hn.lnk l hl; hg _ q.d0 q.d1
  rcases le_total hn hrx hry with hle | hle
  · exact cell_step1 hc hs hf' hg' (fun l hl hfr hd => (h l hl hfr hd).1) hle hne hrx hry
  · have := cell_step1 hc hs hg' hf' (fun l hl hfr hd => (h l hl hfr (Ne.symm hd)).2) hle (Ne.symm hne) hry hrx
    exact ⟨this.2, this.1⟩
/-- All states of a schedule: where it began, and each made of those before it. -/
structure Sched (n : Net) (t : List Trn) (o : List (List (List Int))) : Prop where
  len : o.length = t.length + 1
  inn : ∀ s ∈ o, RowsIn n s
  step : ∀ k : Int, 0 ≤ k → k < t.length → at0 o (k + 1) = nextT n o k (at0 t k)
/-- Where a row differs from the state that stays, it is of rank m or more. -/
def RowOk (n : Net) (m : Nat) (s y : List (List Int)) (i : Int) : Prop := ∀ j, 0 ≤ j ∧ j < n.nodes → at2 y i j ≠ at2 s i j → m ≤ rank n (at2 y i j) ∧ m ≤ rank n (at2 s i j)
theorem at0_ints_map {X : Type} [Inhabited X] {m : Int} (f : Int → X) {q : Int} (hq : 0 ≤ q ∧ q < m) : at0 ((ints m).map f) q = f q := by
  have h1 : q.toNat < (ints m).length := by rw [ints_length]; omega
  simp only [at0, List.getD_eq_getElem?_getD, List.getElem?_map, List.getElem?_eq_getElem h1, Option.map_some, Option.getD_some]
  congr 1
  simp [ints]
  omega
end
end Go.Proofs.YtephecognbbaoaaGreat
namespace Go.Proofs.YtephecognbbaoaaGreat
structure Rtr where
  routes : List Int
  told : List (List Int)
structure Mail where
  fr : Int
  dst : Int
  bytes : List Int
structure Eng where
  routers : List Rtr
  bag : List Mail
structure Evt where
  kind : Int
  at' : Int
  b : Int
  c : Int
  routes : List Int
instance : Inhabited Rtr := ⟨⟨[], []⟩⟩
instance : Inhabited Mail := ⟨⟨0, 0, []⟩⟩
instance : Inhabited Eng := ⟨⟨[], []⟩⟩
instance : Inhabited Evt := ⟨⟨0, 0, 0, 0, []⟩⟩
/-- What is wrong with a row of routes. -/
def rowErr (n : Net) (l : List Int) : Int := if (l.length : Int) ≠ n.nodes then 1 else if (l.any fun r => !inR r 0 (n.alg.size - 1)) = true then 5 else 0
def formBad (n : Net) (r : Rtr) : Bool := decide ((r.told.length : Int) ≠ n.nodes) || (decide ((r.routes.length : Int) ≠ n.nodes) || r.told.any fun l => decide (l ≠ []) && decide ((l.length : Int) ≠ n.nodes))
def noneBad (n : Net) (r : Rtr) : Bool := decide (rowErr n r.routes = 5) || r.told.any fun l => decide (l ≠ []) && decide (rowErr n l = 5)
def checkE (n : Net) (e : Eng) : Int :=
  if checkN n ≠ 0 then checkN n
  else if (e.routers.length : Int) ≠ n.nodes ∨ e.routers.any (formBad n) = true then 1
  else if e.routers.any (noneBad n) = true then 5
  else if 120 < e.bag.length then 2
  else if (e.bag.any fun m => !inR m.fr 0 (n.nodes - 1) || !inR m.dst 0 (n.nodes - 1)) = true then 5
  else if (e.bag.any fun m => decide (60 < m.bytes.length)) = true then 2
  else 0
structure RtrIn (n : Net) (r : Rtr) : Prop where
  rl : (r.routes.length : Int) = n.nodes
  rv : ∀ v ∈ r.routes, InV n v
  tl : (r.told.length : Int) = n.nodes
  tr : ∀ l ∈ r.told, l = [] ∨ ((l.length : Int) = n.nodes ∧ ∀ v ∈ l, InV n v)
structure MailIn (n : Net) (m : Mail) : Prop where
  fr : 0 ≤ m.fr ∧ m.fr < n.nodes
  dst : 0 ≤ m.dst ∧ m.dst < n.nodes
  len : m.bytes.length ≤ 60
structure EngIn (n : Net) (e : Eng) : Prop where
  len : (e.routers.length : Int) = n.nodes
  rtr : ∀ r ∈ e.routers, RtrIn n r
  bag : e.bag.length ≤ 120
  mail : ∀ m ∈ e.bag, MailIn n m
section
variable {n : Net}
theorem rowErr_zero {l : List Int} : rowErr n l = 0 ↔ (l.length : Int) = n.nodes ∧ ∀ v ∈ l, InV n v := by
  unfold rowErr
  by_cases h : (l.length : Int) = n.nodes
  · rw [if_neg (not_not_intro h)]
    by_cases h2 : (l.any fun r => !inR r 0 (n.alg.size - 1)) = true
    · rw [if_pos h2]
      refine ⟨fun h => (by cases h), fun ⟨_, h3⟩ => ?_⟩
      obtain ⟨v, hv, h4⟩ := List.any_eq_true.1 h2
      have := not_inR.1 h4
      have := h3 v hv
      unfold InV at this
      omega
    · rw [if_neg h2]
      refine ⟨fun _ => ⟨h, fun v hv => ?_⟩, fun _ => rfl⟩
      have h3 : inR v 0 (n.alg.size - 1) = true := by
        apply Classical.byContradiction
        intro hc
        exact h2 (List.any_eq_true.2 ⟨v, hv, by simpa using hc⟩)
      have := inR_iff.1 h3
      unfold InV
      omega
  · rw [if_pos h]
    exact ⟨fun h => (by cases h), fun h2 => absurd h2.1 h⟩
theorem rowErr_len {l : List Int} : (l.length : Int) ≠ n.nodes ↔ rowErr n l = 1 := by
  unfold rowErr
  constructor
  · intro h; rw [if_pos h]
  · intro h hc
    rw [if_neg (not_not_intro hc)] at h
    split at h <;> cases h
theorem rowErr_cases (n : Net) (l : List Int) : rowErr n l = 0 ∨ rowErr n l = 1 ∨ rowErr n l = 5 := by
  unfold rowErr
  split
  · exact .inr (.inl rfl)
  · split
    · exact .inr (.inr rfl)
    · exact .inl rfl
theorem rtrIn_iff {r : Rtr} : formBad n r = false ∧ noneBad n r = false ↔ RtrIn n r := by
  unfold formBad noneBad
  simp only [Bool.or_eq_false_iff, decide_eq_false_iff_not, List.any_eq_false, Bool.and_eq_true, decide_eq_true_eq, not_and, Decidable.not_not, ne_eq]
  constructor
  · rintro ⟨⟨h1, h2, h3⟩, h4, h5⟩
    have h6 : rowErr n r.routes = 0 := by
      rcases rowErr_cases n r.routes with h | h | h
      · exact h
      · exact absurd h2 (rowErr_len.2 h)
      · exact absurd h h4
    refine ⟨h2, (rowErr_zero.1 h6).2, h1, fun l hl => ?_⟩
    by_cases e : l = []
    · exact .inl e
    · refine .inr ?_
      rcases rowErr_cases n l with h | h | h
      · exact rowErr_zero.1 h
      · exact absurd (h3 l hl e) (rowErr_len.2 h)
      · exact absurd h (h5 l hl e)
  · intro h
    have h0 := rowErr_zero.2 ⟨h.rl, h.rv⟩
    refine ⟨⟨h.tl, h.rl, fun l hl e => ((h.tr l hl).resolve_left e).1⟩, by rw [h0]; decide, fun l hl e => ?_⟩
    rw [rowErr_zero.2 ((h.tr l hl).resolve_left e)]
    decide
theorem engIn_of {e : Eng} (h : checkE n e = 0) : checkN n = 0 ∧ EngIn n e := by
  unfold checkE at h
  by_cases h0 : checkN n = 0
  · refine ⟨h0, ?_⟩
    rw [if_neg (not_not_intro h0)] at h
    split at h
    · cases h
    rename_i h1
    split at h
    · cases h
    rename_i h2
    split at h
    · cases h
    rename_i h3
    split at h
    · cases h
    rename_i h4
    split at h
    · cases h
    rename_i h5
    rw [not_or, Decidable.not_not, Bool.not_eq_true, List.any_eq_false] at h1
    rw [Bool.not_eq_true, List.any_eq_false] at h2 h4 h5
    refine ⟨h1.1, fun r hr => rtrIn_iff.1 ⟨by simpa using h1.2 r hr, by simpa using h2 r hr⟩, by omega, fun m hm => ?_⟩
    have h6 := h4 m hm
    have h7 := h5 m hm
    rw [Bool.not_eq_true, Bool.or_eq_false_iff, Bool.not_eq_false', Bool.not_eq_false'] at h6
    have a := inR_iff.1 h6.1
    have b := inR_iff.1 h6.2
    refine ⟨by omega, by omega, ?_⟩
    simpa using h7
  · rw [if_pos h0] at h
    exact absurd h h0
theorem check_of {e : Eng} (h0 : checkN n = 0) (h : EngIn n e) : checkE n e = 0 := by
  unfold checkE
  rw [if_neg (not_not_intro h0), if_neg, if_neg, if_neg, if_neg, if_neg]
  · rw [Bool.not_eq_true, List.any_eq_false]
    intro m hm
    have := (h.mail m hm).len
    rw [decide_eq_true_eq]
    omega
  · rw [Bool.not_eq_true, List.any_eq_false]
    intro m hm
    have a := (h.mail m hm).fr
    have b := (h.mail m hm).dst
    rw [Bool.not_eq_true, Bool.or_eq_false_iff, Bool.not_eq_false', Bool.not_eq_false', inR_iff, inR_iff]
    omega
  · have := h.bag
    omega
  · rw [Bool.not_eq_true, List.any_eq_false]
    intro r hr
    rw [(rtrIn_iff.2 (h.rtr r hr)).2]
    decide
  · rw [not_or, Decidable.not_not, Bool.not_eq_true, List.any_eq_false]
    refine ⟨h.len, fun r hr => ?_⟩
    rw [(rtrIn_iff.2 (h.rtr r hr)).1]
    decide
/-- What a router was told, as it counts. -/
def toldAt (n : Net) (r : Rtr) (to j : Int) : Int := if at0 r.told to = [] then n.alg.size - 1 else at2 r.told to j
/-- What it looks at makes these routes. -/
def lookE (n : Net) (r : Rtr) (i : Int) : List Int := (ints n.nodes).map fun j => routeL n i j (fun to => toldAt n r to j) n.links
def setR (e : Eng) (i : Int) (r : Rtr) : Eng := ⟨e.routers.set i.toNat r, e.bag⟩
def lookedR (n : Net) (r : Rtr) (i : Int) : Rtr := ⟨lookE n r i, r.told⟩
def lookedE (n : Net) (e : Eng) (i : Int) : Eng := setR e i (lookedR n (at0 e.routers i) i)
def hearsA (n : Net) (i : Int) : List Int := (ints n.nodes).filter fun k => decide (0 ≤ edgeOf n k i)
def mailA (l : List Int) (i k : Int) : Mail := ⟨i, k, (writeL ⟨i, k, l⟩).1⟩
def tickE (n : Net) (e : Eng) (i : Int) : Eng × Int :=
  if 120 < e.bag.length + (hearsA n i).length then (e, 2) else (⟨(lookedE n e i).routers, e.bag ++ (hearsA n i).map (mailA (lookE n (at0 e.routers i) i) i)⟩, 0)
def dropE (e : Eng) (k : Int) : Eng := ⟨e.routers, e.bag.eraseIdx k.toNat⟩
def takesB (n : Net) (m : Mail) : Bool :=
  decide ((readL m.bytes).2 = 0) && (decide ((readL m.bytes).1.fr = m.fr) && (decide ((readL m.bytes).1.dst = m.dst) && (decide (rowErr n (readL m.bytes).1.routes = 0) && decide (0 ≤ edgeOf n m.dst m.fr))))
def toldR (r : Rtr) (k : Int) (l : List Int) : Rtr := ⟨r.routes, r.told.set k.toNat l⟩
def takeE (n : Net) (e : Eng) (m : Mail) : Eng := if takesB n m = true then lookedE n (setR e m.dst (toldR (at0 e.routers m.dst) m.fr (readL m.bytes).1.routes)) m.dst else e
def deliverE (n : Net) (e : Eng) (k : Int) : Eng := takeE n (dropE e k) (at0 e.bag k)
/-- A byte with some bits turned. -/
def xorB (a c : Int) : Int := IntKind.u8.wrap (BitVec.ofInt 8 a ^^^ BitVec.ofInt 8 c).toNat
def spoilM (m : Mail) (b c : Int) : Mail := ⟨m.fr, m.dst, m.bytes.set b.toNat (xorB (at0 m.bytes b) c)⟩
def spoilE (e : Eng) (v : Evt) : Eng × Int :=
  if !inR v.b 0 ((at0 e.bag v.at').bytes.length - 1) || !inR v.c 1 255 then (e, 3) else (⟨e.routers, e.bag.set v.at'.toNat (spoilM (at0 e.bag v.at') v.b v.c)⟩, 0)
def freshR (n : Net) (l : List Int) : Rtr := ⟨l, List.replicate n.nodes.toNat []⟩
def stepE (n : Net) (e : Eng) (v : Evt) : Eng × Int :=
  if !inR v.kind 1 7 then (e, 7)
  else if inR v.kind 2 5 = true then
    (if !inR v.at' 0 (e.bag.length - 1) then (e, 5)
     else if v.kind = 2 then (deliverE n e v.at', 0)
     else if v.kind = 3 then (if e.bag.length = 120 then (e, 2) else (⟨e.routers, e.bag ++ [at0 e.bag v.at']⟩, 0))
     else if v.kind = 4 then (dropE e v.at', 0)
     else spoilE e v)
  else if !inR v.at' 0 (n.nodes - 1) then (e, 5)
  else if v.kind = 1 then tickE n e v.at'
  else if v.kind = 6 then (if !inR v.b 0 (n.nodes - 1) then (e, 5) else (lookedE n (setR e v.at' (toldR (at0 e.routers v.at') v.b [])) v.at', 0))
  else if rowErr n v.routes ≠ 0 then (e, rowErr n v.routes) else (setR e v.at' (freshR n v.routes), 0)
def newE (n : Net) : Eng := ⟨(beginA n).map (freshR n), []⟩
def playF (n : Net) : List Evt → Int → Eng → Eng × Int
  | [], k, e => (e, k)
  | v :: r, k, e => if (stepE n e v).2 ≠ 0 then (e, k) else playF n r (k + 1) (stepE n e v).1
/-- All mail that is on its way comes. -/
def comeF (n : Net) : List Mail → Eng → Eng
  | [], e => e
  | m :: r, e => comeF n r (takeE n ⟨e.routers, r⟩ m)
def comeE (n : Net) (e : Eng) : Eng := comeF n e.bag e
def ticksE (n : Net) (e : Eng) : Eng := (ints n.nodes).foldl (fun e i => (tickE n e i).1) e
def calmF (n : Net) : Nat → Eng → Eng
  | 0, e => e
  | f + 1, e => calmF n f (comeE n (ticksE n e))
def calmE (n : Net) (e : Eng) (rounds : Int) : Eng := calmF n rounds.toNat (comeE n e)
theorem at0_setG {X : Type} [Inhabited X] (l : List X) {k q : Int} (v : X) (h0 : 0 ≤ k) (hq : 0 ≤ q) (h : k < l.length) : at0 (l.set k.toNat v) q = if q = k then v else at0 l q := by
  simp only [at0, List.getD_eq_getElem?_getD, List.getElem?_set]
  by_cases e : q = k
  · subst e
    have : q.toNat < l.length := by omega
    simp [this]
  · have : ¬ k.toNat = q.toNat := by omega
    simp [this, e]
theorem mem_setG {X : Type} {l : List X} {k : Nat} {v x : X} (h : x ∈ l.set k v) : x ∈ l ∨ x = v := List.mem_or_eq_of_mem_set h
theorem toldAt_in (hn : NetIn n) {r : Rtr} (hr : RtrIn n r) {to j : Int} (ht : 0 ≤ to ∧ to < n.nodes) (hj : 0 ≤ j ∧ j < n.nodes) : InV n (toldAt n r to j) := by
  unfold toldAt
  split
  · exact inv_in hn
  · rename_i h
    have hm := at0_mem r.told ht.1 (by have := hr.tl; omega)
    obtain ⟨h1, h2⟩ := (hr.tr _ hm).resolve_left h
    exact h2 _ (at0_mem _ hj.1 (by omega))
theorem lookE_len (n : Net) (r : Rtr) (i : Int) : (lookE n r i).length = n.nodes.toNat := by rw [lookE, List.length_map, ints_length]
theorem lookE_in (hc : checkN n = 0) {r : Rtr} (hr : RtrIn n r) (i : Int) : ∀ v ∈ lookE n r i, InV n v := by
  intro v hv
  obtain ⟨j, hj, rfl⟩ := List.mem_map.1 hv
  have hj := mem_ints.1 hj
  exact routeL_in hc i j _ fun k h0 h1 => toldAt_in (netIn_of hc) hr ⟨h0, h1⟩ hj
theorem lookedR_in (hc : checkN n = 0) {r : Rtr} (hr : RtrIn n r) (i : Int) : RtrIn n (lookedR n r i) := by
  have h1 := (netIn_of hc).n1
  exact ⟨by rw [lookedR, lookE_len]; omega, lookE_in hc hr i, hr.tl, hr.tr⟩
theorem setR_in {e : Eng} (h : EngIn n e) {r : Rtr} (hr : RtrIn n r) (i : Int) : EngIn n (setR e i r) :=
  ⟨by rw [setR, List.length_set]; exact h.len, fun x hx => by
    rcases mem_setG hx with hx | rfl
    · exact h.rtr x hx
    · exact hr, h.bag, h.mail⟩
theorem rtr_at {e : Eng} (h : EngIn n e) {i : Int} (hi : 0 ≤ i ∧ i < n.nodes) : RtrIn n (at0 e.routers i) := h.rtr _ (at0_mem _ hi.1 (by have := h.len; omega))
theorem lookedE_in (hc : checkN n = 0) {e : Eng} (h : EngIn n e) {i : Int} (hi : 0 ≤ i ∧ i < n.nodes) : EngIn n (lookedE n e i) := setR_in h (lookedR_in hc (rtr_at h hi) i) i
theorem toldR_in {r : Rtr} (hr : RtrIn n r) {l : List Int} (hl : l = [] ∨ ((l.length : Int) = n.nodes ∧ ∀ v ∈ l, InV n v)) (k : Int) : RtrIn n (toldR r k l) :=
  ⟨hr.rl, hr.rv, by rw [toldR, List.length_set]; exact hr.tl, fun x hx => by
    rcases mem_setG hx with hx | rfl
    · exact hr.tr x hx
    · exact hl⟩
theorem freshR_in {l : List Int} (h1 : 1 ≤ n.nodes) (hl : (l.length : Int) = n.nodes) (hv : ∀ v ∈ l, InV n v) : RtrIn n (freshR n l) :=
  ⟨hl, hv, by rw [freshR, List.length_replicate]; omega, fun x hx => .inl (List.eq_of_mem_replicate hx)⟩
theorem dropE_in {e : Eng} (h : EngIn n e) (k : Int) : EngIn n (dropE e k) :=
  ⟨h.len, h.rtr, Nat.le_trans (by unfold dropE; rw [List.length_eraseIdx]; split <;> omega) h.bag, fun m hm => h.mail m (List.mem_of_mem_eraseIdx hm)⟩
theorem takes_iff {m : Mail} : takesB n m = true ↔ (readL m.bytes).2 = 0 ∧ (readL m.bytes).1.fr = m.fr ∧ (readL m.bytes).1.dst = m.dst ∧ rowErr n (readL m.bytes).1.routes = 0 ∧ 0 ≤ edgeOf n m.dst m.fr := by
  unfold takesB
  simp only [Bool.and_eq_true, decide_eq_true_eq]
theorem takeE_in (hc : checkN n = 0) {e : Eng} (h : EngIn n e) {m : Mail} (hm : MailIn n m) : EngIn n (takeE n e m) := by
  unfold takeE
  split
  · rename_i ht
    obtain ⟨_, _, _, h4, _⟩ := takes_iff.1 ht
    exact lookedE_in hc (setR_in h (toldR_in (rtr_at h hm.dst) (.inr (rowErr_zero.1 h4)) _) _) hm.dst
  · exact h
theorem hears_len (hn : NetIn n) (i : Int) : (hearsA n i).length ≤ 6 := by
  have h1 : (hearsA n i).length ≤ (ints n.nodes).length := List.length_filter_le _ _
  rw [ints_length] at h1
  have := hn.n6
  omega
theorem hears_mem {i k : Int} : k ∈ hearsA n i ↔ (0 ≤ k ∧ k < n.nodes) ∧ 0 ≤ edgeOf n k i := by
  rw [hearsA, List.mem_filter, mem_ints, decide_eq_true_eq]
/-- What a node tells can be written. -/
theorem mail_ok (hn : NetIn n) {l : List Int} (hl : (l.length : Int) = n.nodes) (hv : ∀ v ∈ l, InV n v) {i k : Int} (hi : 0 ≤ i ∧ i < n.nodes) (hk : 0 ≤ k ∧ k < n.nodes) : (writeL ⟨i, k, l⟩).2 = 0 := by
  have n6 := hn.n6
  have s24 := hn.alg.s24
  unfold writeL
  rw [if_neg, if_neg]
  · show ¬ 54 < l.length
    omega
  · rw [Bool.not_eq_true, List.any_eq_false]
    intro c hcm
    have : 0 ≤ c ∧ c ≤ 250 := by
      rcases List.mem_cons.1 hcm with e | hcm
      · have e : c = i := e
        omega
      · rcases List.mem_cons.1 hcm with e | hcm
        · have e : c = k := e
          omega
        · have := hv c hcm
          unfold InV at this
          omega
    rw [(fitsB_iff c).2 this]
    decide
theorem mail_in (hn : NetIn n) {l : List Int} (hl : (l.length : Int) = n.nodes) (hv : ∀ v ∈ l, InV n v) {i k : Int} (hi : 0 ≤ i ∧ i < n.nodes) (hk : 0 ≤ k ∧ k < n.nodes) : MailIn n (mailA l i k) := by
  refine ⟨hi, hk, ?_⟩
  have h1 : (mailA l i k).bytes.length = l.length + 6 := writeL_length (mail_ok hn hl hv hi hk)
  have := hn.n6
  omega
theorem tickE_in (hc : checkN n = 0) {e : Eng} (h : EngIn n e) {i : Int} (hi : 0 ≤ i ∧ i < n.nodes) : EngIn n (tickE n e i).1 := by
  unfold tickE
  split
  · exact h
  · rename_i hlt
    have hl := lookedE_in hc h hi
    have hn := netIn_of hc
    have n1 := hn.n1
    refine ⟨hl.len, hl.rtr, by rw [List.length_append, List.length_map]; omega, fun m hm => ?_⟩
    rcases List.mem_append.1 hm with hm | hm
    · exact h.mail m hm
    · obtain ⟨k, hk, rfl⟩ := List.mem_map.1 hm
      exact mail_in hn (by rw [lookE_len]; omega) (lookE_in hc (rtr_at h hi) i) hi (hears_mem.1 hk).1
theorem step_in (hc : checkN n = 0) {e : Eng} (h : EngIn n e) (v : Evt) : EngIn n (stepE n e v).1 := by
  have hn := netIn_of hc
  have n1 := hn.n1
  unfold stepE
  split
  · exact h
  split
  · split
    · exact h
    rename_i ha
    have ha : inR v.at' 0 (e.bag.length - 1) = true := by simpa using ha
    have ha := inR_iff.1 ha
    have hm := at0_mem e.bag ha.1 (by omega)
    split
    · exact takeE_in hc (dropE_in h _) (h.mail _ hm)
    split
    · split
      · exact h
      · refine ⟨h.len, h.rtr, ?_, fun m hm2 => ?_⟩
        · have := h.bag
          rw [List.length_append, List.length_singleton]
          omega
        · rcases List.mem_append.1 hm2 with hm2 | hm2
          · exact h.mail m hm2
          · rw [List.mem_singleton.1 hm2]
            exact h.mail _ hm
    split
    · exact dropE_in h _
    · unfold spoilE
      split
      · exact h
      · refine ⟨h.len, h.rtr, by rw [List.length_set]; exact h.bag, fun m hm2 => ?_⟩
        rcases mem_setG hm2 with hm2 | rfl
        · exact h.mail m hm2
        · have q := h.mail _ hm
          exact ⟨q.fr, q.dst, by unfold spoilM; rw [List.length_set]; exact q.len⟩
  split
  · exact h
  rename_i ha
  have ha : inR v.at' 0 (n.nodes - 1) = true := by simpa using ha
  have ha := inR_iff.1 ha
  have hat : 0 ≤ v.at' ∧ v.at' < n.nodes := by omega
  split
  · exact tickE_in hc h hat
  split
  · split
    · exact h
    · exact lookedE_in hc (setR_in h (toldR_in (rtr_at h hat) (.inl rfl) _) _) hat
  · split
    · exact h
    · rename_i h9
      rw [Decidable.not_not] at h9
      exact setR_in h (freshR_in n1 (rowErr_zero.1 h9).1 (rowErr_zero.1 h9).2) _
theorem play_in (hc : checkN n = 0) : ∀ (l : List Evt) (k : Int) {e : Eng}, EngIn n e → EngIn n (playF n l k e).1
  | [], _, _, h => h
  | v :: r, k, e, h => by
    rw [playF]
    split
    · exact h
    · exact play_in hc r (k + 1) (step_in hc h v)
theorem come_in (hc : checkN n = 0) : ∀ (l : List Mail) {e : Eng}, EngIn n e → e.bag = l → EngIn n (comeF n l e)
  | [], e, h, _ => h
  | m :: r, e, h, hb => by
    rw [comeF]
    have hm := h.mail m (by rw [hb]; simp)
    have h0 : EngIn n ⟨e.routers, r⟩ := ⟨h.len, h.rtr, by have := h.bag; rw [hb] at this; simp at this ⊢; omega, fun x hx => h.mail x (by rw [hb]; simp [show x ∈ r from hx])⟩
    refine come_in hc r (takeE_in hc h0 hm) ?_
    unfold takeE
    split <;> rfl
theorem takeE_bag (e : Eng) (m : Mail) : (takeE n e m).bag = e.bag := by
  unfold takeE
  split <;> rfl
theorem come_bag : ∀ (l : List Mail) (e : Eng), e.bag = l → (comeF n l e).bag = []
  | [], e, h => h
  | m :: r, e, h => by
    rw [comeF]
    exact come_bag r _ (takeE_bag _ _)
/-- The first mail comes, then the rest. -/
theorem come_step {e : Eng} {m : Mail} {r : List Mail} (h : e.bag = m :: r) : comeE n e = comeE n (deliverE n e 0) := by
  have h1 : deliverE n e 0 = takeE n ⟨e.routers, r⟩ m := by
    unfold deliverE dropE
    rw [h]
    rfl
  rw [h1]
  unfold comeE
  rw [h, comeF, takeE_bag]
end
end Go.Proofs.YtephecognbbaoaaGreat
namespace Go.Proofs.YtephecognbbaoaaGreat
theorem u8_in {x : Int} (h : 0 ≤ x) (h' : x ≤ 255) : IntKind.u8.wrap x = x := by
  have e : (2 : Int) ^ IntKind.u8.bits = 256 := rfl
  simp [IntKind.wrap, IntKind.signed, e]
  omega
theorem xorB_eq {a c : Int} : xorB a c = ((BitVec.ofInt 8 a ^^^ BitVec.ofInt 8 c).toNat : Int) := by
  have h : (BitVec.ofInt 8 a ^^^ BitVec.ofInt 8 c).toNat < 256 := BitVec.isLt _
  unfold xorB
  exact u8_in (by omega) (by omega)
theorem xorB_rng (a c : Int) : 0 ≤ xorB a c ∧ xorB a c ≤ 255 := by
  rw [xorB_eq]
  have h : (BitVec.ofInt 8 a ^^^ BitVec.ofInt 8 c).toNat < 256 := BitVec.isLt _
  omega
theorem xorB_ne {a c : Int} (ha : 0 ≤ a ∧ a ≤ 255) (hc : 1 ≤ c ∧ c ≤ 255) : xorB a c ≠ a := by
  rw [xorB_eq]
  intro h
  have h1 : (BitVec.ofInt 8 a).toNat = a.toNat := by rw [BitVec.toNat_ofInt]; omega
  have h2 : (BitVec.ofInt 8 c).toNat = c.toNat := by rw [BitVec.toNat_ofInt]; omega
  have h3 : BitVec.ofInt 8 a ^^^ BitVec.ofInt 8 c = BitVec.ofInt 8 a := BitVec.eq_of_toNat_eq (by rw [h1]; omega)
  have h4 : BitVec.ofInt 8 c = 0#8 := by
    have := congrArg (fun x => BitVec.ofInt 8 a ^^^ x) h3
    simp only [← BitVec.xor_assoc, BitVec.xor_self, BitVec.zero_xor] at this
    exact this
  rw [h4] at h2
  simp at h2
  omega
/-- As the document counts it: each bit that one of both has, but not both. -/
def xsN (a b : Nat) : Nat → Nat
  | 0 => 0
  | k + 1 => xsN a b k + if a / 2 ^ k % 2 = b / 2 ^ k % 2 then 0 else 2 ^ k
section
variable {n : Net}
theorem spoilt (hc : checkN n = 0) {e : Eng} (h : EngIn n e) {a : Int} (ha : 0 ≤ a ∧ a < n.nodes) (he : (tickE n e a).2 = 0) (hne : (tickE n e a).1.bag.length ≠ e.bag.length) :
    ((at0 (tickE n e a).1.bag e.bag.length).bytes.length : Int) = n.nodes + 6 ∧ (∀ v ∈ (at0 (tickE n e a).1.bag e.bag.length).bytes, 0 ≤ v ∧ v ≤ 255) ∧
    ∀ b c : Int, 0 ≤ b → b < n.nodes + 6 → 1 ≤ c → c ≤ 255 →
      (stepE n (tickE n e a).1 ⟨5, e.bag.length, b, c, []⟩).2 = 0 ∧
      (stepE n (stepE n (tickE n e a).1 ⟨5, e.bag.length, b, c, []⟩).1 ⟨2, e.bag.length, 0, 0, []⟩).2 = 0 ∧
      (stepE n (stepE n (tickE n e a).1 ⟨5, e.bag.length, b, c, []⟩).1 ⟨2, e.bag.length, 0, 0, []⟩).1.routers = (tickE n e a).1.routers := by
  have hn := netIn_of hc
  have n1 := hn.n1
  have n6 := hn.n6
  obtain ⟨L, hL⟩ : ∃ L, lookE n (at0 e.routers a) a = L := ⟨_, rfl⟩
  have hLl : (L.length : Int) = n.nodes := by rw [← hL, lookE_len]; omega
  have hLv : ∀ v ∈ L, InV n v := by rw [← hL]; exact lookE_in hc (rtr_at h ha) a
  unfold tickE at he hne ⊢
  split at he
  · cases he
  rename_i hlt
  rw [if_neg hlt] at hne ⊢
  rw [hL] at hne ⊢
  simp only at hne ⊢
  rw [List.length_append, List.length_map] at hne
  rcases hh : hearsA n a with _ | ⟨k, r⟩
  · rw [hh] at hne; simp at hne
  have hk : 0 ≤ k ∧ k < n.nodes := (hears_mem.1 (by rw [hh]; simp : k ∈ hearsA n a)).1
  have hok := mail_ok hn hLl hLv ha hk
  rw [List.map_cons]
  obtain ⟨B, hB⟩ : ∃ B, e.bag ++ mailA L a k :: r.map (mailA L a) = B := ⟨_, rfl⟩
  have hat : at0 B (e.bag.length : Int) = mailA L a k := by
    rw [← hB]
    simp [at0, List.getD_eq_getElem?_getD]
  have hBl : e.bag.length < B.length := by rw [← hB]; simp
  rw [hB, hat]
  have hlen : (mailA L a k).bytes.length = L.length + 6 := writeL_length hok
  have hby := writeL_bytes hok
  refine ⟨by rw [hlen]; omega, hby, fun b c hb0 hb1 hc0 hc1 => ?_⟩
  have hs5 : stepE n ⟨(lookedE n e a).routers, B⟩ ⟨5, e.bag.length, b, c, []⟩ = (⟨(lookedE n e a).routers, B.set e.bag.length (spoilM (mailA L a k) b c)⟩, 0) := by
    unfold stepE
    simp only
    rw [if_neg (by decide), if_pos (by decide), if_neg, if_neg (by decide), if_neg (by decide), if_neg (by decide)]
    · unfold spoilE
      simp only
      rw [hat, if_neg]
      · rfl
      · rw [Bool.or_eq_true, not_inR, not_inR, hlen]
        omega
    · rw [not_inR]
      omega
  rw [hs5]
  simp only
  have hl2 : e.bag.length < (B.set e.bag.length (spoilM (mailA L a k) b c)).length := by rw [List.length_set]; exact hBl
  have hat2 : at0 (B.set e.bag.length (spoilM (mailA L a k) b c)) (e.bag.length : Int) = spoilM (mailA L a k) b c := by
    have := at0_setG B (k := (e.bag.length : Int)) (q := (e.bag.length : Int)) (spoilM (mailA L a k) b c) (by omega) (by omega) (by omega)
    rw [if_pos rfl] at this
    exact this
  have hbad : (readL (spoilM (mailA L a k) b c).bytes).2 ≠ 0 := by
    have hbn : b.toNat < (writeL ⟨a, k, L⟩).1.length := by
      show b.toNat < (mailA L a k).bytes.length
      omega
    have hx := at0_mem (writeL ⟨a, k, L⟩).1 (k := b) hb0 (by omega)
    have hold := hby _ hx
    refine turned hok b.toNat _ hbn (xorB_rng _ _) ?_
    have e1 : (writeL ⟨a, k, L⟩).1[b.toNat] = at0 (writeL ⟨a, k, L⟩).1 b := by
      unfold at0
      rw [List.getD_eq_getElem?_getD, List.getElem?_eq_getElem hbn]
      rfl
    rw [e1]
    exact xorB_ne hold ⟨hc0, hc1⟩
  have hs2 : stepE n ⟨(lookedE n e a).routers, B.set e.bag.length (spoilM (mailA L a k) b c)⟩ ⟨2, e.bag.length, 0, 0, []⟩ = (⟨(lookedE n e a).routers, (B.set e.bag.length (spoilM (mailA L a k) b c)).eraseIdx e.bag.length⟩, 0) := by
    unfold stepE
    simp only
    rw [if_neg (by decide), if_pos (by decide), if_neg, if_pos (by decide)]
    · unfold deliverE takeE
      simp only
      rw [hat2, if_neg]
      · rfl
      · rw [takes_iff]
        exact fun h => hbad h.1
    · rw [not_inR]
      omega
  rw [hs2]
  exact ⟨trivial, rfl, rfl⟩
/-- A row of routes of i that differs from the state that stays at rank m or more alone. -/
def Good (n : Net) (m : Nat) (s : List (List Int)) (i : Int) (f : Int → Int) : Prop := ∀ j, 0 ≤ j ∧ j < n.nodes → f j ≠ at2 s i j → m ≤ rank n (f j) ∧ m ≤ rank n (at2 s i j)
theorem Good.zero {s : List (List Int)} {i : Int} {f : Int → Int} : Good n 0 s i f := fun _ _ _ => ⟨Nat.zero_le _, Nat.zero_le _⟩
theorem Good.less {m m' : Nat} (hm : m' ≤ m) {s : List (List Int)} {i : Int} {f : Int → Int} (h : Good n m s i f) : Good n m' s i f := fun j hj hne => ⟨Nat.le_trans hm (h j hj hne).1, Nat.le_trans hm (h j hj hne).2⟩
/-- What all were told along links is good. -/
def ToldG (n : Net) (m : Nat) (s : List (List Int)) (e : Eng) : Prop := ∀ l ∈ n.links, Good n m s l.dst (toldAt n (at0 e.routers l.fr) l.dst)
def RoutesG (n : Net) (m : Nat) (s : List (List Int)) (e : Eng) : Prop := ∀ i, 0 ≤ i ∧ i < n.nodes → Good n m s i (at0 (at0 e.routers i).routes)
/-- Mail that will be taken tells what is good. -/
def MailG (n : Net) (m : Nat) (s : List (List Int)) (x : Mail) : Prop := takesB n x = true → Good n m s x.fr (at0 (readL x.bytes).1.routes)
variable {s : List (List Int)}
theorem look_good (hc : checkN n = 0) (hs : StrictA n) (hS : RowsIn n s) (hfix : s = roundA n s) {r : Rtr} (hr : RtrIn n r) {i : Int} (hi : 0 ≤ i ∧ i < n.nodes) {m : Nat}
    (h : ∀ l ∈ n.links, l.fr = i → Good n m s l.dst (toldAt n r l.dst)) : Good n (m + 1) s i (at0 (lookE n r i)) := by
  have hn := netIn_of hc
  intro j hj hne
  have e1 : at0 (lookE n r i) j = routeL n i j (fun to => toldAt n r to j) n.links := by
    unfold lookE
    rw [at0_ints_map _ hj]
  have e2 : at2 s i j = routeL n i j (fun to => at2 s to j) n.links := by
    conv => lhs; rw [hfix]
    exact round_at hc hS hi hj
  rw [e1, e2] at hne ⊢
  exact cell_step hc hs (fun to h0 h1 => toldAt_in hn hr ⟨h0, h1⟩ hj) (fun to h0 h1 => at2_in hS ⟨h0, h1⟩ hj) (fun l hl hfr hd => h l hl hfr j hj hd) hne
theorem at0_setR {e : Eng} (h : (e.routers.length : Int) = n.nodes) {i q : Int} (hi : 0 ≤ i ∧ i < n.nodes) (hq : 0 ≤ q ∧ q < n.nodes) (r : Rtr) : at0 (setR e i r).routers q = if q = i then r else at0 e.routers q :=
  at0_setG e.routers r hi.1 hq.1 (by omega)
theorem looked_told {e : Eng} (h : (e.routers.length : Int) = n.nodes) {i q : Int} (hi : 0 ≤ i ∧ i < n.nodes) (hq : 0 ≤ q ∧ q < n.nodes) : (at0 (lookedE n e i).routers q).told = (at0 e.routers q).told := by
  unfold lookedE
  rw [at0_setR h hi hq]
  split
  · rename_i e; rw [e]; rfl
  · rfl
theorem toldAt_congr {r r' : Rtr} (h : r.told = r'.told) : toldAt n r = toldAt n r' := by
  funext to j
  unfold toldAt
  rw [h]
theorem looked_routes {e : Eng} (h : (e.routers.length : Int) = n.nodes) {i q : Int} (hi : 0 ≤ i ∧ i < n.nodes) (hq : 0 ≤ q ∧ q < n.nodes) : (at0 (lookedE n e i).routers q).routes = if q = i then lookE n (at0 e.routers i) i else (at0 e.routers q).routes := by
  unfold lookedE
  rw [at0_setR h hi hq]
  split <;> rfl
/-- What a router that took mail was told. -/
theorem toldR_at (hn : NetIn n) {r : Rtr} (hr : RtrIn n r) {k : Int} (hk : 0 ≤ k ∧ k < n.nodes) {l : List Int} (hl : (l.length : Int) = n.nodes) {to : Int} (ht : 0 ≤ to ∧ to < n.nodes) :
    toldAt n (toldR r k l) to = if to = k then at0 l else toldAt n r to := by
  have n1 := hn.n1
  have e1 : at0 (toldR r k l).told to = if to = k then l else at0 r.told to := at0_setG r.told l hk.1 ht.1 (by have := hr.tl; omega)
  by_cases h : to = k
  · rw [if_pos h] at e1 ⊢
    funext j
    unfold toldAt
    rw [e1, if_neg (by rintro rfl; simp at hl; omega)]
    unfold at2
    rw [e1]
  · rw [if_neg h] at e1 ⊢
    funext j
    unfold toldAt at2
    rw [e1]
/-- One mail comes. m: what was told ahead of the round; all mail tells better. -/
theorem take_good (hc : checkN n = 0) (hs : StrictA n) (hS : RowsIn n s) (hfix : s = roundA n s) {e : Eng} (h : EngIn n e) {x : Mail} (hx : MailIn n x) {m k : Nat} (hkm : k ≤ m + 1) (hT : ToldG n m s e) (hR : RoutesG n k s e) (hM : MailG n m s x) :
    ToldG n m s (takeE n e x) ∧ RoutesG n k s (takeE n e x) := by
  have hn := netIn_of hc
  unfold takeE
  split
  · rename_i ht
    obtain ⟨h1, h2, h3, h4, h5⟩ := takes_iff.1 ht
    have hG := hM ht
    obtain ⟨l0, hl0⟩ : ∃ l0, (readL x.bytes).1.routes = l0 := ⟨_, rfl⟩
    rw [hl0] at h4 hG ⊢
    have h4 := rowErr_zero.1 h4
    have hr0 := rtr_at h hx.dst
    have hr1 := toldR_in hr0 (.inr h4) x.fr
    obtain ⟨e1, he1⟩ : ∃ e1, setR e x.dst (toldR (at0 e.routers x.dst) x.fr l0) = e1 := ⟨_, rfl⟩
    have hin : EngIn n e1 := by rw [← he1]; exact setR_in h hr1 x.dst
    have hat : ∀ q, 0 ≤ q ∧ q < n.nodes → at0 e1.routers q = if q = x.dst then toldR (at0 e.routers x.dst) x.fr l0 else at0 e.routers q := fun q hq => by
      rw [← he1]
      exact at0_setR h.len hx.dst hq _
    rw [he1]
    have hT1 : ToldG n m s e1 := by
      intro l hl
      have q := hn.lnk l hl
      rw [hat l.fr ⟨q.f0, q.f1⟩]
      split
      · rename_i hd
        rw [toldR_at hn hr0 hx.fr h4.1 ⟨q.d0, q.d1⟩]
        split
        · rename_i hf
          rw [hf]
          exact hG
        · rw [← hd]
          exact hT l hl
      · exact hT l hl
    refine ⟨fun l hl => ?_, fun i hi => ?_⟩
    · have q := hn.lnk l hl
      rw [toldAt_congr (looked_told hin.len hx.dst ⟨q.f0, q.f1⟩)]
      exact hT1 l hl
    · rw [looked_routes hin.len hx.dst hi]
      split
      · rename_i hd
        rw [hd]
        refine (look_good hc hs hS hfix (rtr_at hin hx.dst) hx.dst (m := m) fun l hl hfr => ?_).less hkm
        have := hT1 l hl
        rw [hfr] at this
        exact this
      · rw [hat i hi]
        split
        · rename_i hd
          rw [hd]
          exact hR x.dst hx.dst
        · exact hR i hi
  · exact ⟨hT, hR⟩
/-- What a link tells is as good as the mail, or there is mail on its way. -/
def Sent (n : Net) (m : Nat) (s : List (List Int)) (bag : List Mail) (e : Eng) : Prop := ∀ l ∈ n.links, Good n m s l.dst (toldAt n (at0 e.routers l.fr) l.dst) ∨ ∃ x ∈ bag, x.fr = l.dst ∧ x.dst = l.fr ∧ takesB n x = true
theorem take_sent (hc : checkN n = 0) {e : Eng} (h : EngIn n e) {x : Mail} (hx : MailIn n x) {bag : List Mail} {m : Nat} (hM : MailG n m s x) (hS : Sent n m s (x :: bag) e) : Sent n m s bag (takeE n e x) := by
  have hn := netIn_of hc
  intro l hl
  have q := hn.lnk l hl
  unfold takeE
  by_cases ht : takesB n x = true
  · rw [if_pos ht]
    obtain ⟨h1, h2, h3, h4, h5⟩ := takes_iff.1 ht
    have hG := hM ht
    obtain ⟨l0, hl0⟩ : ∃ l0, (readL x.bytes).1.routes = l0 := ⟨_, rfl⟩
    rw [hl0] at h4 hG ⊢
    have h4 := rowErr_zero.1 h4
    have hr0 := rtr_at h hx.dst
    have hr1 := toldR_in hr0 (.inr h4) x.fr
    have hin : EngIn n (setR e x.dst (toldR (at0 e.routers x.dst) x.fr l0)) := setR_in h hr1 x.dst
    rw [toldAt_congr (looked_told hin.len hx.dst ⟨q.f0, q.f1⟩), at0_setR h.len hx.dst ⟨q.f0, q.f1⟩]
    by_cases hd : l.fr = x.dst
    · rw [if_pos hd, toldR_at hn hr0 hx.fr h4.1 ⟨q.d0, q.d1⟩]
      by_cases hf : l.dst = x.fr
      · rw [if_pos hf, hf]
        exact .inl hG
      · rw [if_neg hf]
        rcases hS l hl with hg | ⟨y, hy, hy1, hy2, hy3⟩
        · rw [hd] at hg
          exact .inl hg
        · rcases List.mem_cons.1 hy with rfl | hy
          · exact absurd hy1.symm hf
          · exact .inr ⟨y, hy, hy1, hy2, hy3⟩
    · rw [if_neg hd]
      rcases hS l hl with hg | ⟨y, hy, hy1, hy2, hy3⟩
      · exact .inl hg
      · rcases List.mem_cons.1 hy with rfl | hy
        · exact absurd hy2.symm hd
        · exact .inr ⟨y, hy, hy1, hy2, hy3⟩
  · rw [if_neg ht]
    rcases hS l hl with hg | ⟨y, hy, hy1, hy2, hy3⟩
    · exact .inl hg
    · rcases List.mem_cons.1 hy with rfl | hy
      · exact absurd hy3 ht
      · exact .inr ⟨y, hy, hy1, hy2, hy3⟩
theorem come_good (hc : checkN n = 0) (hs : StrictA n) (hS : RowsIn n s) (hfix : s = roundA n s) {m : Nat} : ∀ (bag : List Mail) (e : Eng), EngIn n e → e.bag = bag → (∀ x ∈ bag, MailG n (m + 1) s x) → ToldG n m s e → RoutesG n (m + 1) s e → Sent n (m + 1) s bag e →
    ToldG n (m + 1) s (comeF n bag e) ∧ RoutesG n (m + 1) s (comeF n bag e)
  | [], e, h, _, _, _, hR, hD => ⟨fun l hl => (hD l hl).resolve_right fun ⟨y, hy, _⟩ => (by cases hy), hR⟩
  | x :: r, e, h, hb, hM, hT, hR, hD => by
    rw [comeF]
    have hx := h.mail x (by rw [hb]; simp)
    have h0 : EngIn n ⟨e.routers, r⟩ := ⟨h.len, h.rtr, by have := h.bag; rw [hb] at this; simp at this ⊢; omega, fun y hy => h.mail y (by rw [hb]; simp [show y ∈ r from hy])⟩
    have hMx := hM x (by simp)
    have hMx' : MailG n m s x := fun ht => (hMx ht).less (by omega)
    obtain ⟨h1, h2⟩ := take_good hc hs hS hfix h0 hx (m := m) (k := m + 1) (Nat.le_refl _) (fun l hl => hT l hl) (fun i hi => hR i hi) hMx'
    exact come_good hc hs hS hfix r _ (takeE_in hc h0 hx) (takeE_bag _ _) (fun y hy => hM y (by simp [hy])) h1 h2 (take_sent hc h0 hx hMx fun l hl => hD l hl)
/-- All have told. -/
theorem ticks_good (hc : checkN n = 0) (hs : StrictA n) (hS : RowsIn n s) (hfix : s = roundA n s) {m : Nat} : ∀ (K done : List Int) (e : Eng), (∀ i ∈ K, 0 ≤ i ∧ i < n.nodes) → EngIn n e → e.bag.length + 6 * K.length ≤ 120 → (∀ x ∈ e.bag, MailG n (m + 1) s x) → ToldG n m s e →
    (∀ i ∈ done, (0 ≤ i ∧ i < n.nodes) → Good n (m + 1) s i (at0 (at0 e.routers i).routes)) → (∀ l ∈ n.links, l.dst ∈ done → ∃ x ∈ e.bag, x.fr = l.dst ∧ x.dst = l.fr ∧ takesB n x = true) →
    ∃ e', K.foldl (fun e i => (tickE n e i).1) e = e' ∧ EngIn n e' ∧ (∀ x ∈ e'.bag, MailG n (m + 1) s x) ∧ ToldG n m s e' ∧ (∀ i ∈ done ++ K, (0 ≤ i ∧ i < n.nodes) → Good n (m + 1) s i (at0 (at0 e'.routers i).routes)) ∧
      ∀ l ∈ n.links, l.dst ∈ done ++ K → ∃ x ∈ e'.bag, x.fr = l.dst ∧ x.dst = l.fr ∧ takesB n x = true
  | [], done, e, _, h, _, hM, hT, hR, hD => ⟨e, rfl, h, hM, hT, by rw [List.append_nil]; exact hR, by rw [List.append_nil]; exact hD⟩
  | i :: K, done, e, hK, h, hlen, hM, hT, hR, hD => by
    have hn := netIn_of hc
    have n1 := hn.n1
    have hi := hK i (by simp)
    rw [List.foldl_cons]
    have hh := hears_len hn i
    have hlt : ¬ 120 < e.bag.length + (hearsA n i).length := by
      simp only [List.length_cons] at hlen
      omega
    obtain ⟨L, hL⟩ : ∃ L, lookE n (at0 e.routers i) i = L := ⟨_, rfl⟩
    have hLl : (L.length : Int) = n.nodes := by rw [← hL, lookE_len]; omega
    have hLv : ∀ v ∈ L, InV n v := by rw [← hL]; exact lookE_in hc (rtr_at h hi) i
    have hLg : Good n (m + 1) s i (at0 L) := by
      rw [← hL]
      refine look_good hc hs hS hfix (rtr_at h hi) hi fun l hl hfr => ?_
      have := hT l hl
      rw [hfr] at this
      exact this
    have htake : ∀ k, k ∈ hearsA n i → (readL (mailA L i k).bytes).1 = ⟨i, k, L⟩ ∧ takesB n (mailA L i k) = true := fun k hk => by
      obtain ⟨hk1, hk2⟩ := hears_mem.1 hk
      have hb := back2 (mail_ok hn hLl hLv hi hk1)
      have hb' : readL (mailA L i k).bytes = (⟨i, k, L⟩, 0) := hb
      refine ⟨by rw [hb'], takes_iff.2 ?_⟩
      rw [hb']
      exact ⟨rfl, rfl, rfl, rowErr_zero.2 ⟨hLl, hLv⟩, hk2⟩
    have hte : (tickE n e i).1 = ⟨(lookedE n e i).routers, e.bag ++ (hearsA n i).map (mailA L i)⟩ := by
      rw [tickE, if_neg hlt, hL]
    have hin := tickE_in hc h hi
    have hrec := ticks_good hc hs hS hfix (m := m) K (done ++ [i]) (tickE n e i).1 (fun j hj => hK j (by simp [hj])) hin (by
        rw [hte]
        simp only [List.length_append, List.length_map, List.length_cons] at hlen ⊢
        omega) (fun x hx => by
        rw [hte] at hx
        rcases List.mem_append.1 hx with hx | hx
        · exact hM x hx
        · obtain ⟨k, hk, rfl⟩ := List.mem_map.1 hx
          intro _
          rw [(htake k hk).1]
          exact hLg) (fun l hl => by
        have q := hn.lnk l hl
        rw [hte]
        show Good n m s l.dst (toldAt n (at0 (lookedE n e i).routers l.fr) l.dst)
        rw [toldAt_congr (looked_told h.len hi ⟨q.f0, q.f1⟩)]
        exact hT l hl) (fun j hj hjr => by
        rw [hte]
        show Good n (m + 1) s j (at0 (at0 (lookedE n e i).routers j).routes)
        rw [looked_routes h.len hi hjr]
        split
        · rename_i e; rw [e, hL]; exact hLg
        · rename_i hne
          rcases List.mem_append.1 hj with hj | hj
          · exact hR j hj hjr
          · exact absurd (List.mem_singleton.1 hj) hne) (fun l hl hd => by
        rw [hte]
        rcases List.mem_append.1 hd with hd | hd
        · obtain ⟨x, hx, h9⟩ := hD l hl hd
          exact ⟨x, List.mem_append_left _ hx, h9⟩
        · have hd := List.mem_singleton.1 hd
          have q := hn.lnk l hl
          have hk : l.fr ∈ hearsA n i := hears_mem.2 ⟨⟨q.f0, q.f1⟩, by rw [← hd, edge_link (apart_of hc) hl]; exact q.e0⟩
          exact ⟨mailA L i l.fr, List.mem_append_right _ (List.mem_map.2 ⟨l.fr, hk, rfl⟩), hd.symm, rfl, (htake l.fr hk).2⟩)
    rw [List.append_assoc, List.singleton_append] at hrec
    exact hrec
theorem calm_good (hc : checkN n = 0) (hs : StrictA n) (hS : RowsIn n s) (hfix : s = roundA n s) : ∀ (f m : Nat) (e : Eng), EngIn n e → e.bag = [] → ToldG n m s e → (0 < f ∨ RoutesG n m s e) →
    (calmF n f e).bag = [] ∧ EngIn n (calmF n f e) ∧ RoutesG n (m + f) s (calmF n f e)
  | 0, m, e, h, hb, hT, hR => ⟨hb, h, hR.resolve_left (by omega)⟩
  | f + 1, m, e, h, hb, hT, _ => by
    have hn := netIn_of hc
    have n6 := hn.n6
    rw [calmF]
    obtain ⟨e', he, h1, h2, h3, h4, h5⟩ := ticks_good hc hs hS hfix (m := m) (ints n.nodes) [] e (fun i hi => mem_ints.1 hi) h (by rw [hb, ints_length]; simp; omega) (by rw [hb]; simp) hT (by simp) (by simp)
    have hte : ticksE n e = e' := he
    rw [hte]
    have hcm := come_good hc hs hS hfix e'.bag e' h1 rfl h2 h3 (fun i hi => h4 i (by simp [mem_ints.2 hi]) hi) (fun l hl => .inr (h5 l hl (by have q := hn.lnk l hl; simp [mem_ints.2 ⟨q.d0, q.d1⟩])))
    have hr := calm_good hc hs hS hfix f (m + 1) (comeE n e') (come_in hc e'.bag h1 rfl) (come_bag _ _ rfl) hcm.1 (.inr hcm.2)
    rw [show m + (f + 1) = m + 1 + f by omega]
    exact hr
def routesOf (e : Eng) : List (List Int) := e.routers.map (·.routes)
/-- Calm rounds enough end where the net settles. -/
theorem calm_settles (hc : checkN n = 0) (hs : StrictA n) {e : Eng} (h : EngIn n e) {rounds : Int} (hr : n.alg.size + 1 ≤ rounds) :
    (calmE n e rounds).bag = [] ∧ EngIn n (calmE n e rounds) ∧ routesOf (calmE n e rounds) = (settleF n 100 0 (beginA n)).1 := by
  have hn := netIn_of hc
  have s2 := hn.alg.s2
  have hb := begin_in hn
  obtain ⟨a1, _, _, _⟩ := always hc hs hb hb
  have hS := settle_in hn (f := 100) (k := 0) hb
  obtain ⟨S, hSe⟩ : ∃ S, (settleF n 100 0 (beginA n)).1 = S := ⟨_, rfl⟩
  rw [hSe] at a1 hS ⊢
  have h0 := come_in hc e.bag h rfl
  obtain ⟨h1, h2, h3⟩ := calm_good hc hs hS a1 rounds.toNat 0 (comeE n e) h0 (come_bag _ _ rfl) (fun _ _ => .zero) (.inl (by omega))
  refine ⟨h1, h2, ?_⟩
  obtain ⟨E, hE⟩ : ∃ E, calmE n e rounds = E := ⟨_, rfl⟩
  have hE' : calmF n rounds.toNat (comeE n e) = E := hE
  rw [hE'] at h2 h3
  rw [hE]
  unfold routesOf
  refine at0_ext ?_ fun i h0 hi => ?_
  · rw [List.length_map]
    have := h2.len
    have := hS.len
    omega
  · rw [List.length_map] at hi
    have hir : 0 ≤ i ∧ i < n.nodes := by have := h2.len; omega
    have e1 : at0 (E.routers.map (·.routes)) i = (at0 E.routers i).routes := by
      have : i.toNat < E.routers.length := by omega
      simp [at0, List.getD_eq_getElem?_getD, this]
    rw [e1]
    have hri := rtr_at h2 hir
    have hSr := hS.row _ (at0_mem S h0 (by have := hS.len; omega))
    refine at0_ext (by have := hri.rl; omega) fun j h4 hj => ?_
    have hjr : 0 ≤ j ∧ j < n.nodes := by have := hri.rl; omega
    apply Classical.byContradiction
    intro hne
    have hg := (h3 i hir j hjr hne).1
    have hv := hri.rv _ (at0_mem _ hjr.1 (by omega))
    have := rank_top hn hv
    omega
end
end Go.Proofs.YtephecognbbaoaaGreat
