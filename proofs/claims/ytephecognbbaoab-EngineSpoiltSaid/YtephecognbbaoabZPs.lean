/- Packets as bytes, in plain Lean: what is written is read as it was; a turned byte is found. -/
import Derived.Test.YtephecognbbaoabZLo
import Derived.Test.YtephecognbbaoabZAb
import Derived.Test.YtephecognbbaoabZRd
import Derived.Laws.Strings2
open Go
set_option linter.all false
set_option maxRecDepth 100000
set_option maxHeartbeats 4000000
namespace Go.Proofs.Ytephecognbbaoab
open Go
set_option linter.all false
def sumL (n : Int) : List Int → Int
  | [] => n
  | c :: l => sumL ((n * 31 + c) % 65521) l
theorem sumL_bd : ∀ (l : List Int) (n : Int), 0 ≤ n → n < 65521 → 0 ≤ sumL n l ∧ sumL n l < 65521
  | [], n, h, h' => ⟨h, h'⟩
  | c :: l, n, h, h' => sumL_bd l _ (by omega) (by omega)
theorem sumL_app : ∀ (a b : List Int) (n : Int), sumL n (a ++ b) = sumL (sumL n a) b
  | [], b, n => rfl
  | c :: a, b, n => by simp only [List.cons_append, sumL]; exact sumL_app a b _
theorem sumL_inj : ∀ (l : List Int) (n m : Int), 0 ≤ n → n < 65521 → 0 ≤ m → m < 65521 → sumL n l = sumL m l → n = m
  | [], n, m, _, _, _, _, h => h
  | c :: l, n, m, h1, h2, h3, h4, h => by
    have := sumL_inj l _ _ (by omega) (by omega) (by omega) (by omega) h
    omega
def fitsB (n : Int) : Bool := decide (0 ≤ n) && decide (n ≤ 250)
theorem fitsB_iff (n : Int) : fitsB n = true ↔ 0 ≤ n ∧ n ≤ 250 := by simp [fitsB]
structure Packet where
  fr : Int
  dst : Int
  routes : List Int
deriving DecidableEq
def writeL (p : Packet) : List Int × Int :=
  if (p.fr :: p.dst :: p.routes).any fun n => !fitsB n then ([], 3)
  else if 54 < p.routes.length then ([], 2)
  else
    let b := [83, p.fr, p.dst, (p.routes.length : Int)] ++ p.routes
    (b ++ [sumL 1 b / 256, sumL 1 b % 256], 0)
/-- The packet that is to stand in some bytes. -/
def packetAt (s : List Int) : Packet := ⟨at0 s 1, at0 s 2, (s.take (s.length - 2)).drop 4⟩
/-- What the program reads. -/
def readL (s : List Int) : Packet × Int :=
  if 60 < s.length then (⟨0, 0, []⟩, 2)
  else if s.length < 6 ∨ at0 s 3 ≠ s.length - 6 then (⟨0, 0, []⟩, 1)
  else if (writeL (packetAt s)).2 ≠ 0 ∨ (writeL (packetAt s)).1 ≠ s then (⟨0, 0, []⟩, 1)
  else (packetAt s, 0)
/-- What the document says. -/
def readOfL (s : List Int) : Packet × Int :=
  if 60 < s.length then (⟨0, 0, []⟩, 2)
  else if s.length < 6 ∨ at0 s 0 ≠ 83 ∨ at0 s 3 ≠ s.length - 6 ∨ 250 < at0 s 1 ∨ 250 < at0 s 2 then (⟨0, 0, []⟩, 1)
  else if ((s.take (s.length - 2)).drop 4).any (fun c => decide (250 < c)) then (⟨0, 0, []⟩, 1)
  else if sumL 1 (s.take (s.length - 2)) ≠ 256 * at0 s (s.length - 2) + at0 s (s.length - 1) then (⟨0, 0, []⟩, 1)
  else (packetAt s, 0)
/-- Bytes of a packet's length: head, middle, end. -/
theorem split_packet (s : List Int) (h : 6 ≤ s.length) : s = at0 s 0 :: at0 s 1 :: at0 s 2 :: at0 s 3 :: ((s.take (s.length - 2)).drop 4 ++ [at0 s (s.length - 2), at0 s (s.length - 1)]) := by
  have e1 : s = s.take (s.length - 2) ++ s.drop (s.length - 2) := (List.take_append_drop _ _).symm
  have e2 : s.drop (s.length - 2) = [at0 s (s.length - 2), at0 s (s.length - 1)] := by
    have d1 : ((s.length : Int) - 2).toNat = s.length - 2 := by omega
    have := drop_at s (k := (s.length : Int) - 2) (by omega) (by omega)
    rw [d1] at this
    rw [this]
    congr 1
    have e : ((s.length : Int) - 2 + 1) = s.length - 1 := by omega
    rw [e, drop_at s (k := (s.length : Int) - 1) (by omega) (by omega)]
    congr 1
    exact List.drop_of_length_le (by omega)
  obtain ⟨a, b, c, d, r, rfl⟩ : ∃ a b c d r, s = a :: b :: c :: d :: r := by
    match s, h with
    | a :: b :: c :: d :: r, _ => exact ⟨a, b, c, d, r, rfl⟩
  have e3 : (a :: b :: c :: d :: r).take ((a :: b :: c :: d :: r).length - 2) = a :: b :: c :: d :: r.take (r.length - 2) := by
    simp only [List.length_cons] at h ⊢
    have : r.length + 1 + 1 + 1 + 1 - 2 = r.length - 2 + 1 + 1 + 1 + 1 := by omega
    rw [this]
    simp
  rw [e2, e3] at e1
  rw [e3]
  exact e1
theorem read_eq (s : List Int) (hb : ∀ c ∈ s, 0 ≤ c ∧ c ≤ 255) : readL s = readOfL s := by
  unfold readL readOfL
  by_cases h1 : 60 < s.length
  · simp [h1]
  rw [if_neg h1, if_neg h1]
  by_cases h2 : s.length < 6
  · rw [if_pos (.inl h2), if_pos (.inl h2)]
  by_cases h3 : at0 s 3 ≠ s.length - 6
  · rw [if_pos (.inr h3), if_pos (.inr (.inr (.inl h3)))]
  rw [if_neg (by intro h; rcases h with h | h; exact h2 h; exact h3 h)]
  have h3' : at0 s 3 = s.length - 6 := by omega
  have hs := split_packet s (by omega)
  have hw : ∀ k : Int, 0 ≤ k → k < s.length → 0 ≤ at0 s k ∧ at0 s k ≤ 255 := fun k h h' => hb _ (at0_mem s h h')
  have r1 := hw 1 (by omega) (by omega)
  have r2 := hw 2 (by omega) (by omega)
  have re := hw (s.length - 1) (by omega) (by omega)
  have rd := hw (s.length - 2) (by omega) (by omega)
  have hm : ∀ c ∈ (s.take (s.length - 2)).drop 4, 0 ≤ c ∧ c ≤ 255 := fun c hc => hb c (List.mem_of_mem_take (List.mem_of_mem_drop hc))
  have hml : ((s.take (s.length - 2)).drop 4).length = s.length - 6 := by simp; omega
  have hany : ((packetAt s).fr :: (packetAt s).dst :: (packetAt s).routes).any (fun n => !fitsB n) = (decide (250 < at0 s 1) || (decide (250 < at0 s 2) || ((s.take (s.length - 2)).drop 4).any fun c => decide (250 < c))) := by
    have e : ∀ c : Int, 0 ≤ c → (!fitsB c) = decide (250 < c) := fun c hc => by
      by_cases h : 250 < c
      · simp [fitsB, h, show ¬ c ≤ 250 by omega]
      · simp [fitsB, hc, h, show c ≤ 250 by omega]
    simp only [packetAt, List.any_cons, e _ r1.1, e _ r2.1]
    congr 2
    apply List.any_eq.trans
    rw [List.any_eq]
    refine decide_eq_decide.2 ?_
    constructor
    · rintro ⟨x, hx, h⟩; exact ⟨x, hx, by rw [← e x (hm x hx).1]; exact h⟩
    · rintro ⟨x, hx, h⟩; exact ⟨x, hx, by rw [e x (hm x hx).1]; exact h⟩
  by_cases h4 : 250 < at0 s 1 ∨ 250 < at0 s 2
  · rw [if_pos, if_pos]
    · rcases h4 with h | h
      · exact .inr (.inr (.inr (.inl h)))
      · exact .inr (.inr (.inr (.inr h)))
    · refine .inl ?_
      rw [writeL, hany]
      rcases h4 with h | h <;> simp [h]
  rw [not_or] at h4
  by_cases h5 : (((s.take (s.length - 2)).drop 4).any fun c => decide (250 < c)) = true
  · rw [if_pos]
    · by_cases h6 : s.length < 6 ∨ at0 s 0 ≠ 83 ∨ at0 s 3 ≠ s.length - 6 ∨ 250 < at0 s 1 ∨ 250 < at0 s 2
      · rw [if_pos h6]
      · rw [if_neg h6, if_pos h5]
    · refine .inl ?_
      rw [writeL, hany]
      simp [h5]
  have hwr : writeL (packetAt s) = ([83, at0 s 1, at0 s 2, at0 s 3] ++ (s.take (s.length - 2)).drop 4 ++ [sumL 1 ([83, at0 s 1, at0 s 2, at0 s 3] ++ (s.take (s.length - 2)).drop 4) / 256, sumL 1 ([83, at0 s 1, at0 s 2, at0 s 3] ++ (s.take (s.length - 2)).drop 4) % 256], 0) := by
    have hl : ((packetAt s).routes.length : Int) = at0 s 3 := by
      show ((((s.take (s.length - 2)).drop 4).length : Nat) : Int) = _
      rw [hml]; omega
    rw [writeL, hany, if_neg (by simp [h4, h5]), if_neg (by show ¬ 54 < ((s.take (s.length - 2)).drop 4).length; omega)]
    simp only [hl]
    rfl
  rw [hwr]
  have htake : s.take (s.length - 2) = at0 s 0 :: at0 s 1 :: at0 s 2 :: at0 s 3 :: (s.take (s.length - 2)).drop 4 := by
    have e3 : ∀ (l : List Int) (a b c d x y : Int), (a :: b :: c :: d :: (l ++ [x, y])).take ((a :: b :: c :: d :: (l ++ [x, y])).length - 2) = a :: b :: c :: d :: l := by
      intro l a b c d x y
      have : (a :: b :: c :: d :: (l ++ [x, y])).length - 2 = l.length + 1 + 1 + 1 + 1 := by simp
      rw [this]
      simp
    have := e3 ((s.take (s.length - 2)).drop 4) (at0 s 0) (at0 s 1) (at0 s 2) (at0 s 3) (at0 s (s.length - 2)) (at0 s (s.length - 1))
    rw [← hs] at this
    exact this
  by_cases h0 : at0 s 0 = 83
  · rw [if_neg (show ¬ (s.length < 6 ∨ at0 s 0 ≠ 83 ∨ at0 s 3 ≠ s.length - 6 ∨ 250 < at0 s 1 ∨ 250 < at0 s 2) by omega), if_neg h5]
    have hb1 := sumL_bd (s.take (s.length - 2)) 1 (by omega) (by omega)
    have e4 : [83, at0 s 1, at0 s 2, at0 s 3] ++ (s.take (s.length - 2)).drop 4 = s.take (s.length - 2) := by
      rw [← h0]
      exact htake.symm
    rw [e4]
    have e5 : s = s.take (s.length - 2) ++ [at0 s (s.length - 2), at0 s (s.length - 1)] := by
      conv => rhs; rw [htake]
      exact hs
    by_cases h6 : sumL 1 (s.take (s.length - 2)) = 256 * at0 s (s.length - 2) + at0 s (s.length - 1)
    · rw [if_neg, if_neg (by simpa using h6)]
      simp only [ne_eq, not_true_eq_false, false_or, Decidable.not_not]
      conv => rhs; rw [e5]
      congr 2
      · omega
      · congr 1
        omega
    · rw [if_pos, if_pos h6]
      refine .inr fun h => h6 ?_
      have h' : s.take (s.length - 2) ++ [sumL 1 (s.take (s.length - 2)) / 256, sumL 1 (s.take (s.length - 2)) % 256] = s.take (s.length - 2) ++ [at0 s (s.length - 2), at0 s (s.length - 1)] := by rw [← e5]; exact h
      have := List.append_cancel_left h'
      simp only [List.cons.injEq, and_true] at this
      omega
  · rw [if_pos, if_pos (.inr (.inl h0))]
    refine .inr fun h => h0 ?_
    rw [← h]
    rfl
theorem writeL_ok {p : Packet} (h : (writeL p).2 = 0) : (∀ c ∈ p.fr :: p.dst :: p.routes, 0 ≤ c ∧ c ≤ 250) ∧ p.routes.length ≤ 54 ∧
    (writeL p).1 = 83 :: p.fr :: p.dst :: (p.routes.length : Int) :: (p.routes ++ [sumL 1 (83 :: p.fr :: p.dst :: (p.routes.length : Int) :: p.routes) / 256, sumL 1 (83 :: p.fr :: p.dst :: (p.routes.length : Int) :: p.routes) % 256]) := by
  unfold writeL at h ⊢
  split at h
  · cases h
  rename_i h1
  split at h
  · cases h
  rename_i h2
  rw [if_neg h1, if_neg h2]
  refine ⟨fun c hc => ?_, by omega, rfl⟩
  rw [← fitsB_iff]
  simp only [Bool.not_eq_true, List.any_eq_false, Bool.not_eq_true, Bool.not_eq_false', Bool.not_eq_eq_eq_not, Bool.not_true, Bool.not_false] at h1
  simpa using h1 c hc
theorem writeL_bytes {p : Packet} (h : (writeL p).2 = 0) : ∀ c ∈ (writeL p).1, 0 ≤ c ∧ c ≤ 255 := by
  obtain ⟨h1, h2, h3⟩ := writeL_ok h
  rw [h3]
  have := sumL_bd (83 :: p.fr :: p.dst :: (p.routes.length : Int) :: p.routes) 1 (by omega) (by omega)
  intro c hc
  simp only [List.mem_cons, List.mem_append, List.not_mem_nil, or_false] at hc
  rcases hc with rfl | rfl | rfl | rfl | hc | rfl | rfl
  · omega
  · have := h1 p.fr (by simp); omega
  · have := h1 p.dst (by simp); omega
  · omega
  · have := h1 c (by simp [hc]); omega
  · omega
  · omega
theorem writeL_length {p : Packet} (h : (writeL p).2 = 0) : (writeL p).1.length = p.routes.length + 6 := by
  rw [(writeL_ok h).2.2]
  simp
/-- What is written is read as it was. -/
theorem back2 {p : Packet} (h : (writeL p).2 = 0) : readL (writeL p).1 = (p, 0) := by
  obtain ⟨h1, h2, h3⟩ := writeL_ok h
  have hl := writeL_length h
  have hp : packetAt (writeL p).1 = p := by
    unfold packetAt
    rw [hl, h3]
    have e : ∀ (l : List Int) (a b c d x y : Int), ((a :: b :: c :: d :: (l ++ [x, y])).take (l.length + 6 - 2)).drop 4 = l := by
      intro l a b c d x y
      have : l.length + 6 - 2 = l.length + 1 + 1 + 1 + 1 := by omega
      rw [this]
      simp
    rw [e]
    rfl
  unfold readL
  rw [hp, if_neg (by omega), if_neg, if_neg (by simp [h])]
  rw [hl, h3]
  simp [at0]
/-- With one byte turned it is read no more. -/
theorem turned {p : Packet} (h : (writeL p).2 = 0) (k : Nat) (c : Int) (hk : k < (writeL p).1.length) (hc : 0 ≤ c ∧ c ≤ 255) (hne : c ≠ (writeL p).1[k]) : (readL ((writeL p).1.set k c)).2 ≠ 0 := by
  obtain ⟨h1, h2, h3⟩ := writeL_ok h
  have hl := writeL_length h
  have hB := writeL_bytes h
  have hT : ∀ x ∈ (writeL p).1.set k c, 0 ≤ x ∧ x ≤ 255 := fun x hx => by
    rcases List.mem_or_eq_of_mem_set hx with hx | rfl
    · exact hB x hx
    · exact hc
  rw [read_eq _ hT]
  have h0 : (readOfL (writeL p).1).2 = 0 := by rw [← read_eq _ hB, back2 h]
  generalize hs : (writeL p).1 = s at *
  intro hbad
  have key : ∀ t : List Int, (readOfL t).2 = 0 → 6 ≤ t.length ∧ at0 t 0 = 83 ∧ at0 t 3 = t.length - 6 ∧ sumL 1 (t.take (t.length - 2)) = 256 * at0 t (t.length - 2) + at0 t (t.length - 1) := by
    intro t ht
    unfold readOfL at ht
    split at ht
    · cases ht
    split at ht
    · cases ht
    split at ht
    · cases ht
    split at ht
    · cases ht
    rename_i g1 g2 g3 g4
    refine ⟨by omega, by omega, by omega, by simpa using g4⟩
  obtain ⟨a1, a2, a3, a4⟩ := key _ h0
  obtain ⟨b1, b2, b3, b4⟩ := key _ hbad
  simp only [List.length_set] at b1 b3 b4
  have hset : ∀ i : Int, 0 ≤ i → i < s.length → at0 (s.set k c) i = if i = k then c else at0 s i := by
    intro i hi hi'
    simp only [at0, List.getD_eq_getElem?_getD]
    rw [List.getElem?_eq_getElem (by simp; omega), List.getElem?_eq_getElem (by omega)]
    simp only [Option.getD_some, List.getElem_set]
    by_cases e : k = i.toNat
    · rw [if_pos e, if_pos (by omega)]
    · rw [if_neg e, if_neg (by omega)]
  have hk0 : s[k] = at0 s k := by
    simp only [at0, Int.toNat_natCast, List.getD_eq_getElem?_getD, List.getElem?_eq_getElem hk, Option.getD_some]
  rw [hk0] at hne
  rw [hset _ (by omega) (by omega)] at b2 b3
  rw [hset _ (by omega) (by omega), hset _ (by omega) (by omega)] at b4
  have hr : ∀ i : Int, 0 ≤ i → i < s.length → 0 ≤ at0 s i ∧ at0 s i ≤ 255 := fun i h h' => hB _ (at0_mem s h h')
  have hx := hr (s.length - 2) (by omega) (by omega)
  have hy := hr (s.length - 1) (by omega) (by omega)
  rcases Nat.lt_or_ge k (s.length - 2) with hlt | hge
  · rw [if_neg (by omega), if_neg (by omega)] at b4
    have e1 : (s.set k c).take (s.length - 2) = s.take k ++ c :: (s.take (s.length - 2)).drop (k + 1) := by
      rw [List.set_eq_take_append_cons_drop, if_pos hk, List.take_append, List.take_take, List.length_take]
      have m1 : min (s.length - 2) k = k := by omega
      have m2 : s.length - 2 - min k s.length = s.length - 2 - k - 1 + 1 := by omega
      rw [m1, m2, List.take_succ_cons, List.drop_take]
      congr 3
    have e2 : s.take (s.length - 2) = s.take k ++ at0 s k :: (s.take (s.length - 2)).drop (k + 1) := by
      conv => lhs; rw [← List.take_append_drop k (s.take (s.length - 2))]
      rw [List.take_take]
      have m1 : min k (s.length - 2) = k := by omega
      rw [m1]
      congr 1
      rw [List.drop_eq_getElem_cons (by simp; omega)]
      congr 1
      rw [List.getElem_take, hk0]
    rw [e1, sumL_app, sumL] at b4
    rw [e2, sumL_app, sumL] at a4
    have hb := sumL_bd (s.take k) 1 (by omega) (by omega)
    have := sumL_inj _ _ _ (by omega) (by omega) (by omega) (by omega) (a4.trans b4.symm)
    have hat := hr k (by omega) (by omega)
    omega
  · have e1 : (s.set k c).take (s.length - 2) = s.take (s.length - 2) := by
      rw [List.take_set_of_le hge]
    rw [e1, a4] at b4
    by_cases hk1 : (s.length : Int) - 1 = k
    · rw [if_neg (by omega), if_pos hk1] at b4
      rw [← hk1] at hne
      omega
    · have hk2 : (s.length : Int) - 2 = k := by omega
      rw [if_pos hk2, if_neg (by omega)] at b4
      rw [← hk2] at hne
      omega
end Go.Proofs.Ytephecognbbaoab
namespace Go.Proofs.Ytephecognbbaoab
theorem sum_calls (l : List Int) (hl : l.length ≤ 1000) (hb : ∀ c ∈ l, 0 ≤ c ∧ c ≤ 255) (σ : Store) : ACalls Try.prog 208 [bytesA l] σ fun r σ' => σ' = σ ∧ r = intA1 (sumL 1 l) := by
  refine ACalls_of_awp Try.func208 rfl Try.results208 ?_
  simp only [List.length_cons, List.length_nil, Try.ntmps208, Nat.reduceAdd, Nat.reduceSub, enterA]
  (repeat' (first|(refine g_s fun K hK=>?_)|(refine g_b ?_)|(refine g_r ?_)|(refine g_k ?_;simp only[thenQ,blockQ])|(refine g_e ?_;simp only[thenQ,blockQ,↓reduceIte,Nat.reduceEqDiff])|(refine g_c (fun h=>?_) (fun h=>?_)<;>(try simp only[go_sem] at h)<;>(try exact g_f))|((first|refine g_t ?_|refine g_g ?_|refine g_U ?_|refine g_A ?_|refine g_W ?_);(try simp -implicitDefEqProofs only[go_sem]))|(with_reducible refine hK _ _ ?_;clear hK K)|(clear hK K;first|(with_reducible refine hK _ _ ?_;clear hK K)|(clear hK K;with_reducible refine hK _ _ ?_;clear hK K)|(clear hK K;clear hK K;with_reducible refine hK _ _ ?_;clear hK K))|(with_reducible refine splitB_intro (fun h=>?_) (fun h=>?_)<;>(try simp only[go_sem] at h)<;>(try exact g_f)<;>(try simp -implicitDefEqProofs only[go_sem]))|(with_reducible refine And.intro (fun h=>?_) (fun h=>?_)<;>(try simp only[go_sem] at h)<;>(try exact g_f))|(with_reducible refine And.intro ?_ ?_;· exact g_x)|(with_reducible intro h;(try simp only[go_sem] at h);(try exact g_f))))
  refine AWP_each l (fun _ r s => sumL 1 l = sumL s r ∧ 0 ≤ s ∧ s < 65521) (fun k s _ => [(3, intA1 s), (8, intA1 k)]) (fun _ _ _ => σ) 1 [] ?_ ?_ (ALe_of ?_) ?_ ?_
  · simp
  · rfl
  · simp -implicitDefEqProofs only [go_sem]
  · rintro k r s τ hk0 hk1 ⟨h1, h2, h3⟩ L hL
    have hc := hb _ (at0_mem l hk0 hk1)
    simp -implicitDefEqProofs only [go_sem]
    (repeat' (first|(refine g_s fun K hK=>?_)|(refine g_b ?_)|(refine g_r ?_)|(refine g_k ?_;simp only[thenQ,blockQ])|(refine g_e ?_;simp only[thenQ,blockQ,↓reduceIte,Nat.reduceEqDiff])|(refine g_c (fun h=>?_) (fun h=>?_)<;>(try simp only[go_sem] at h)<;>(try exact g_f))|((first|refine g_t ?_|refine g_g ?_|refine g_U ?_|refine g_A ?_|refine g_W ?_);(try simp -implicitDefEqProofs only[go_sem]))|(with_reducible refine hK _ _ ?_;clear hK K)|(clear hK K;first|(with_reducible refine hK _ _ ?_;clear hK K)|(clear hK K;with_reducible refine hK _ _ ?_;clear hK K)|(clear hK K;clear hK K;with_reducible refine hK _ _ ?_;clear hK K))|(with_reducible refine splitB_intro (fun h=>?_) (fun h=>?_)<;>(try simp only[go_sem] at h)<;>(try exact g_f)<;>(try simp -implicitDefEqProofs only[go_sem]))|(with_reducible refine And.intro (fun h=>?_) (fun h=>?_)<;>(try simp only[go_sem] at h)<;>(try exact g_f))|(with_reducible refine And.intro ?_ ?_;· exact g_x)|(with_reducible intro h;(try simp only[go_sem] at h);(try exact g_f))))
    refine hL ((s * 31 + at0 l k) % 65521) [] _ _ ⟨by rw [h1, sumL], by omega, by omega⟩ (ALe_of ?_) rfl
    simp -implicitDefEqProofs only [go_sem]
    rw [Int.tmod_eq_emod_of_nonneg (by omega)]
  · rintro k s τ hk ⟨h1, h2, h3⟩ L
    simp -implicitDefEqProofs only [go_sem]
    (repeat' (first|(refine g_s fun K hK=>?_)|(refine g_b ?_)|(refine g_r ?_)|(refine g_k ?_;simp only[thenQ,blockQ])|(refine g_e ?_;simp only[thenQ,blockQ,↓reduceIte,Nat.reduceEqDiff])|(refine g_c (fun h=>?_) (fun h=>?_)<;>(try simp only[go_sem] at h)<;>(try exact g_f))|((first|refine g_t ?_|refine g_g ?_|refine g_U ?_|refine g_A ?_|refine g_W ?_);(try simp -implicitDefEqProofs only[go_sem]))|(with_reducible refine hK _ _ ?_;clear hK K)|(clear hK K;first|(with_reducible refine hK _ _ ?_;clear hK K)|(clear hK K;with_reducible refine hK _ _ ?_;clear hK K)|(clear hK K;clear hK K;with_reducible refine hK _ _ ?_;clear hK K))|(with_reducible refine splitB_intro (fun h=>?_) (fun h=>?_)<;>(try simp only[go_sem] at h)<;>(try exact g_f)<;>(try simp -implicitDefEqProofs only[go_sem]))|(with_reducible refine And.intro (fun h=>?_) (fun h=>?_)<;>(try simp only[go_sem] at h)<;>(try exact g_f))|(with_reducible refine And.intro ?_ ?_;· exact g_x)|(with_reducible intro h;(try simp only[go_sem] at h);(try exact g_f))))
    rw [h1, sumL]
theorem numsA_cons (n : Int) (r : List (List AV)) : numsA ([.c (.int .u8 n)] :: r) = (numsA r).map fun l => n :: l := rfl
theorem numsA_nil : numsA [] = some [] := rfl
theorem numsA_bad {e : List AV} (h : ∀ n, e ≠ [.c (.int .u8 n)]) (r : List (List AV)) : numsA (e :: r) = none := by
  unfold numsA
  split
  · rename_i h'; cases h'
  · rename_i n r' h'
    cases h'
    exact (h _ rfl).elim
  · rfl
theorem numsA_app : ∀ (a b : List (List AV)), numsA (a ++ b) = (numsA a).bind fun x => (numsA b).map fun y => x ++ y
  | [], b => by simp [numsA]
  | e :: r, b => by
    rw [List.cons_append]
    have ih := numsA_app r b
    by_cases h : ∃ n, e = [.c (.int .u8 n)]
    · obtain ⟨n, rfl⟩ := h
      rw [numsA_cons, numsA_cons, ih]
      cases numsA r <;> cases numsA b <;> rfl
    · have h' : ∀ n, e ≠ [.c (.int .u8 n)] := fun n e => h ⟨n, e⟩
      rw [numsA_bad h', numsA_bad h']
      rfl
theorem numsA_map : ∀ (l : List Int), numsA (l.map fun c => [.c (.int .u8 c)]) = some l
  | [] => rfl
  | c :: l => by simp [numsA, numsA_map l]
theorem u8_id {x : Int} (h : 0 ≤ x) (h' : x ≤ 255) : IntKind.u8.wrap x = x := by
  have e : (2 : Int) ^ IntKind.u8.bits = 256 := rfl
  have e2 : IntKind.u8.signed = false := rfl
  simp only [IntKind.wrap, e, e2, Bool.false_and, if_false, Bool.false_eq_true]
  omega
theorem u8_mod (x : Int) : IntKind.u8.wrap x = x % 256 := by
  have e : (2 : Int) ^ IntKind.u8.bits = 256 := rfl
  have e2 : IntKind.u8.signed = false := rfl
  simp only [IntKind.wrap, e, e2, Bool.false_and, if_false, Bool.false_eq_true]
theorem u8_shr8 {x : Int} (h : 0 ≤ x) (h' : x < 65536) : IntKind.u8.wrap (x.fdiv (2 ^ min 8 64)) = x / 256 := by
  have e : (2 : Int) ^ min 8 64 = 256 := rfl
  rw [e, Int.fdiv_eq_ediv_of_nonneg _ (by omega), u8_id (by omega) (by omega)]
theorem numsA_byteC (l : List Int) : numsA (l.map byteC) = some l := numsA_map l
theorem sum_own (l : List Int) (hl : l.length ≤ 1000) (hb : ∀ c ∈ l, 0 ≤ c ∧ c ≤ 255) (σ : Store) {b n c : Nat} (he : elemsA σ (.own b 1 0 n c) = some (l.map byteC)) :
    ACalls Try.prog 208 [.own b 1 0 n c] σ fun r σ' => σ' = σ ∧ r = intA1 (sumL 1 l) := by
  refine (ACalls.borrow (args := [.own b 1 0 n c]) (args' := [bytesA l]) (R := fun v => v = .int .i64 (sumL 1 l)) (And.intro (.inr ⟨_, he, rfl⟩) trivial) fun τ => ?_).mono ?_
  · exact (sum_calls l hl hb τ).mono fun _ _ ⟨h1, h2⟩ => ⟨h1, _, h2, rfl⟩
  · rintro r σ' ⟨h1, v, rfl, rfl⟩
    exact ⟨h1, rfl⟩
theorem fits_calls (n : Int) (σ : Store) : ACalls Try.prog 207 [intA1 n] σ fun r σ' => σ' = σ ∧ r = .c (.bool (fitsB n)) := by
  refine ACalls_of_awp Try.func207 rfl Try.results207 ?_
  simp only [List.length_cons, List.length_nil, Try.ntmps207, Nat.reduceAdd, Nat.reduceSub, enterA]
  (repeat' (first|(refine g_s fun K hK=>?_)|(refine g_b ?_)|(refine g_r ?_)|(refine g_k ?_;simp only[thenQ,blockQ])|(refine g_e ?_;simp only[thenQ,blockQ,↓reduceIte,Nat.reduceEqDiff])|(refine g_c (fun h=>?_) (fun h=>?_)<;>(try simp only[go_sem] at h)<;>(try exact g_f))|((first|refine g_t ?_|refine g_g ?_|refine g_U ?_|refine g_A ?_|refine g_W ?_);(try simp -implicitDefEqProofs only[go_sem]))|(with_reducible refine hK _ _ ?_;clear hK K)|(clear hK K;first|(with_reducible refine hK _ _ ?_;clear hK K)|(clear hK K;with_reducible refine hK _ _ ?_;clear hK K)|(clear hK K;clear hK K;with_reducible refine hK _ _ ?_;clear hK K))|(with_reducible refine splitB_intro (fun h=>?_) (fun h=>?_)<;>(try simp only[go_sem] at h)<;>(try exact g_f)<;>(try simp -implicitDefEqProofs only[go_sem]))|(with_reducible refine And.intro (fun h=>?_) (fun h=>?_)<;>(try simp only[go_sem] at h)<;>(try exact g_f))|(with_reducible refine And.intro ?_ ?_;· exact g_x)|(with_reducible intro h;(try simp only[go_sem] at h);(try exact g_f))))
  all_goals (simp [fitsB]; omega)
theorem write1_calls (n : Int) (σ : Store) : ACalls Try.prog 206 [intA1 n] σ fun r σ' => σ' = σ ∧ r = .c (.bool (!fitsB n)) := by
  refine ACalls_of_awp Try.func206 rfl Try.results206 ?_
  simp only [List.length_cons, List.length_nil, Try.ntmps206, Nat.reduceAdd, Nat.reduceSub, enterA]
  (repeat' (first|(refine g_s fun K hK=>?_)|(refine g_b ?_)|(refine g_r ?_)|(refine g_k ?_;simp only[thenQ,blockQ])|(refine g_e ?_;simp only[thenQ,blockQ,↓reduceIte,Nat.reduceEqDiff])|(refine g_c (fun h=>?_) (fun h=>?_)<;>(try simp only[go_sem] at h)<;>(try exact g_f))|((first|refine g_t ?_|refine g_g ?_|refine g_U ?_|refine g_A ?_|refine (fits_calls _ _).use ?_|refine g_q (fun τ=>fits_calls _ _) ?_|refine g_W ?_);(try simp -implicitDefEqProofs only[go_sem]))|(with_reducible refine hK _ _ ?_;clear hK K)|(clear hK K;first|(with_reducible refine hK _ _ ?_;clear hK K)|(clear hK K;with_reducible refine hK _ _ ?_;clear hK K)|(clear hK K;clear hK K;with_reducible refine hK _ _ ?_;clear hK K))|(with_reducible refine splitB_intro (fun h=>?_) (fun h=>?_)<;>(try simp only[go_sem] at h)<;>(try exact g_f)<;>(try simp -implicitDefEqProofs only[go_sem]))|(with_reducible refine And.intro (fun h=>?_) (fun h=>?_)<;>(try simp only[go_sem] at h)<;>(try exact g_f))|(with_reducible refine And.intro ?_ ?_;· exact g_x)|(with_reducible intro h;(try simp only[go_sem] at h);(try exact g_f))))
def packetC (p : Packet) : List AV := [.c (.int .i64 p.fr), .c (.int .i64 p.dst), intsA p.routes]
attribute [go_sem] packetC
theorem write_calls (p : Packet) (hl : p.routes.length ≤ 17592186044000) (σ : Store) : ACalls Try.prog 192 [.agg (packetC p)] σ fun r σ' => σ' = σ ∧ r = .tup [.c (.string (strOfNums (writeL p).1)), .c (.int .i64 (writeL p).2)] := by
  refine ACalls.cut ?_
  refine ACalls_of_awp Try.func192 rfl Try.results192 ?_
  simp only [List.length_cons, List.length_nil, Try.ntmps192, Nat.reduceAdd, Nat.reduceSub, enterA]
  refine AWP_seq_k fun K hK => ?_
  (refine AWP_region ?_; simp -implicitDefEqProofs only [go_sem])
  refine hK _ _ ?_; clear hK K
  refine AWP_freezeP 1 rfl (by simp only [st0]; rfl) ?_
  simp only [ss0, List.set_cons_zero]
  refine AWP_seq_v (ι := Store) (fun _ => [(1, .cp (packetC p) 0), (2, .c (.string (strOfNums []))), (3, intA1 0), (4, intsA (p.fr :: p.dst :: p.routes))]) (fun τ => σ ++ τ) (fun τ => ?_) (fun J hJ hV => ?_)
  · (repeat' (first|(refine g_s fun K hK=>?_)|(refine g_b ?_)|(refine g_r ?_)|(refine g_k ?_;simp only[thenQ,blockQ])|(refine g_e ?_;simp only[thenQ,blockQ,↓reduceIte,Nat.reduceEqDiff])|(refine g_c (fun h=>?_) (fun h=>?_)<;>(try simp only[go_sem] at h)<;>(try exact g_f))|((first|refine g_t ?_|refine g_g ?_|refine g_U ?_|refine g_A ?_|refine (containsFunc_int (p.fr :: p.dst :: p.routes) (fun n => !fitsB n) 206 [] [] (σ ++ τ) (by simp; omega) (by simp only [go_sem]) (fun x _ => write1_calls x _)).use ?_|refine g_q (fun τ=>containsFunc_int (p.fr :: p.dst :: p.routes) (fun n => !fitsB n) 206 [] [] (σ ++ τ) (by simp; omega) (by simp only [go_sem]) (fun x _ => write1_calls x _)) ?_|refine g_W ?_);(try simp -implicitDefEqProofs only[go_sem]))|(with_reducible refine hK _ _ ?_;clear hK K)|(clear hK K;first|(with_reducible refine hK _ _ ?_;clear hK K)|(clear hK K;with_reducible refine hK _ _ ?_;clear hK K)|(clear hK K;clear hK K;with_reducible refine hK _ _ ?_;clear hK K))|(with_reducible refine splitB_intro (fun h=>?_) (fun h=>?_)<;>(try simp only[go_sem] at h)<;>(try exact g_f)<;>(try simp -implicitDefEqProofs only[go_sem]))|(with_reducible refine And.intro (fun h=>?_) (fun h=>?_)<;>(try simp only[go_sem] at h)<;>(try exact g_f))|(with_reducible refine And.intro ?_ ?_;· exact g_x)|(with_reducible intro h;(try simp only[go_sem] at h);(try exact g_f))))
    · exact ⟨bd2 _ _, by simp only [writeL, h, if_true]; rfl⟩
    · rename_i h1
      have h : 54 < p.routes.length := by omega
      exact ⟨bd2 _ _, by simp only [writeL, h1, h, if_true, if_false, Bool.false_eq_true]; rfl⟩
    · rename_i h1
      have hfr : 0 ≤ p.fr ∧ p.fr ≤ 250 := by simp [fitsB] at h1; omega
      have hdst : 0 ≤ p.dst ∧ p.dst ≤ 250 := by simp [fitsB] at h1; omega
      have hrt : ∀ x ∈ p.routes, 0 ≤ x ∧ x ≤ 250 := by simp [fitsB] at h1; exact h1.2.2
      simp only [u8_id hfr.1 (by omega : p.fr ≤ 255), u8_id hdst.1 (by omega : p.dst ≤ 255), u8_id (by omega : 0 ≤ (p.routes.length : Int)) (by omega)]
      have hJ' := hK
      clear hK
      refine AWP_each p.routes (fun k r bs => bs ++ r = [83, p.fr, p.dst, (p.routes.length : Int)] ++ p.routes ∧ bs.length = k + 4) (fun k bs τ => [(5, .own (σ.length + τ.length) 1 0 bs.length bs.length), (39, intA1 k)])
        (fun _ bs τ => σ ++ (τ ++ [.cells 1 (bs.map byteC)])) [83, p.fr, p.dst, (p.routes.length : Int)] τ ⟨rfl, rfl⟩ rfl (ALe_of ?_) ?_ ?_
      · simp -implicitDefEqProofs only [go_sem]
      · rintro k r bs τ' hk0 hk1 ⟨h2, h3⟩ L hL
        have hr := hrt _ (at0_mem p.routes hk0 hk1)
        have hw := u8_id hr.1 (Int.le_trans hr.2 (by omega))
        simp -implicitDefEqProofs only [go_sem]
        (repeat' (first|(refine g_s fun K hK=>?_)|(refine g_b ?_)|(refine g_r ?_)|(refine g_k ?_;simp only[thenQ,blockQ])|(refine g_e ?_;simp only[thenQ,blockQ,↓reduceIte,Nat.reduceEqDiff])|(refine g_c (fun h=>?_) (fun h=>?_)<;>(try simp only[go_sem] at h)<;>(try exact g_f))|((first|refine g_t ?_|refine g_g ?_|refine g_U ?_|refine g_A ?_|refine g_W ?_);(try simp -implicitDefEqProofs only[go_sem,hw]))|(with_reducible refine hK _ _ ?_;clear hK K)|(clear hK K;first|(with_reducible refine hK _ _ ?_;clear hK K)|(clear hK K;with_reducible refine hK _ _ ?_;clear hK K)|(clear hK K;clear hK K;with_reducible refine hK _ _ ?_;clear hK K))|(with_reducible refine splitB_intro (fun h=>?_) (fun h=>?_)<;>(try simp only[go_sem] at h)<;>(try exact g_f)<;>(try simp -implicitDefEqProofs only[go_sem,hw]))|(with_reducible refine And.intro (fun h=>?_) (fun h=>?_)<;>(try simp only[go_sem] at h)<;>(try exact g_f))|(with_reducible refine And.intro ?_ ?_;· exact g_x)|(with_reducible intro h;(try simp only[go_sem] at h);(try exact g_f))))
        refine hL (bs ++ [at0 p.routes k]) (τ' ++ [Ob.dead, Ob.cells 1 [[AV.c (Value.int IntKind.u8 (at0 p.routes k))]]]) _ _ ⟨by rw [← h2]; simp, by simp; omega⟩ (ALe_of ?_) (by simp [byteC])
        simp -implicitDefEqProofs only [go_sem]
      · rintro k bs τ' rfl ⟨h2, h3⟩ L
        have hbs : ∀ c ∈ [83, p.fr, p.dst, (p.routes.length : Int)] ++ p.routes, 0 ≤ c ∧ c ≤ 255 := fun c hc => by
          simp only [List.cons_append, List.nil_append, List.mem_cons] at hc
          rcases hc with rfl | rfl | rfl | rfl | hc
          · omega
          · omega
          · omega
          · omega
          · have := hrt c hc; omega
        rw [List.append_nil] at h2
        subst h2
        simp -implicitDefEqProofs only [go_sem]
        (repeat' (first|(refine g_s fun K hK=>?_)|(refine g_b ?_)|(refine g_r ?_)|(refine g_k ?_;simp only[thenQ,blockQ])|(refine g_e ?_;simp only[thenQ,blockQ,↓reduceIte,Nat.reduceEqDiff])|(refine g_c (fun h=>?_) (fun h=>?_)<;>(try simp only[go_sem] at h)<;>(try exact g_f))|((first|refine g_t ?_|refine g_g ?_|refine g_U ?_|refine g_A ?_|refine g_W ?_);(try simp -implicitDefEqProofs only[go_sem]))|(with_reducible refine hK _ _ ?_;clear hK K)|(clear hK K;first|(with_reducible refine hK _ _ ?_;clear hK K)|(clear hK K;with_reducible refine hK _ _ ?_;clear hK K)|(clear hK K;clear hK K;with_reducible refine hK _ _ ?_;clear hK K))|(with_reducible refine splitB_intro (fun h=>?_) (fun h=>?_)<;>(try simp only[go_sem] at h)<;>(try exact g_f)<;>(try simp -implicitDefEqProofs only[go_sem]))|(with_reducible refine And.intro (fun h=>?_) (fun h=>?_)<;>(try simp only[go_sem] at h)<;>(try exact g_f))|(with_reducible refine And.intro ?_ ?_;· exact g_x)|(with_reducible intro h;(try simp only[go_sem] at h);(try exact g_f))))
        refine hJ' _ _ ?_
        clear hJ'
        have hS := sumL_bd (83 :: p.fr :: p.dst :: (p.routes.length : Int) :: p.routes) 1 (by omega) (by omega)
        have v1 := u8_shr8 hS.1 (by omega)
        have v2 := u8_mod (sumL 1 (83 :: p.fr :: p.dst :: (p.routes.length : Int) :: p.routes))
        (repeat' (first|(refine g_s fun K hK=>?_)|(refine g_b ?_)|(refine g_r ?_)|(refine g_k ?_;simp only[thenQ,blockQ])|(refine g_e ?_;simp only[thenQ,blockQ,↓reduceIte,Nat.reduceEqDiff])|(refine g_c (fun h=>?_) (fun h=>?_)<;>(try simp only[go_sem] at h)<;>(try exact g_f))|((first|refine g_t ?_|refine g_g ?_|refine g_U ?_|refine g_A ?_|refine (sum_own _ (by simp; omega) hbs _ (elemsA_st _ _ _ _ (by simp))).use ?_|refine g_q (fun τ=>sum_own _ (by simp; omega) hbs _ (elemsA_st _ _ _ _ (by simp))) ?_|refine g_W ?_);(try simp -implicitDefEqProofs only[go_sem,numsA_app, numsA_byteC, numsA_cons, numsA_nil, v1, v2]))|(with_reducible refine hK _ _ ?_;clear hK K)|(clear hK K;first|(with_reducible refine hK _ _ ?_;clear hK K)|(clear hK K;with_reducible refine hK _ _ ?_;clear hK K)|(clear hK K;clear hK K;with_reducible refine hK _ _ ?_;clear hK K))|(with_reducible refine splitB_intro (fun h=>?_) (fun h=>?_)<;>(try simp only[go_sem] at h)<;>(try exact g_f)<;>(try simp -implicitDefEqProofs only[go_sem,numsA_app, numsA_byteC, numsA_cons, numsA_nil, v1, v2]))|(with_reducible refine And.intro (fun h=>?_) (fun h=>?_)<;>(try simp only[go_sem] at h)<;>(try exact g_f))|(with_reducible refine And.intro ?_ ?_;· exact g_x)|(with_reducible intro h;(try simp only[go_sem] at h);(try exact g_f))))
        refine ⟨bd2 _ _, ?_⟩
        rw [writeL, h1, if_neg (by simp), if_neg (by omega)]
        simp
  · (refine AWP_region ?_; simp -implicitDefEqProofs only [go_sem])
    (repeat' (first|(with_reducible refine hK _ _ ?_;clear hK K)|(clear hK K;first|(with_reducible refine hK _ _ ?_;clear hK K)|(clear hK K;with_reducible refine hK _ _ ?_;clear hK K)|(clear hK K;clear hK K;with_reducible refine hK _ _ ?_;clear hK K))|(with_reducible refine splitB_intro (fun h=>?_) (fun h=>?_)<;>(try simp only[go_sem] at h)<;>(try exact g_f)<;>(try simp -implicitDefEqProofs only[go_sem]))|(with_reducible refine And.intro (fun h=>?_) (fun h=>?_)<;>(try simp only[go_sem] at h)<;>(try exact g_f))|(with_reducible refine And.intro ?_ ?_;· exact g_x)|(with_reducible intro h;(try simp only[go_sem] at h);(try exact g_f))))
    refine hJ _ _ (AWP_freezeAll 4 rfl (by simp -implicitDefEqProofs only [go_sem]; rfl) (by simp <;> omega) ?_)
    simp -implicitDefEqProofs only [go_sem]
    refine AWPr.weak (ALe_of ?_) (hV _)
    simp -implicitDefEqProofs only [go_sem]
    exact ⟨rfl, rfl⟩
end Go.Proofs.Ytephecognbbaoab
namespace Go.Proofs.Ytephecognbbaoab
/-- A string's bytes. -/
def numsS (s : ByteArray) : List Int := s.data.toList.map fun b => (b.toNat : Int)
theorem numsS_size (s : ByteArray) : s.size = (numsS s).length := by rw [numsS, List.length_map]; rfl
theorem numsS_range (s : ByteArray) : ∀ c ∈ numsS s, 0 ≤ c ∧ c ≤ 255 := fun c hc => by
  simp only [numsS, List.mem_map] at hc
  obtain ⟨b, _, rfl⟩ := hc
  have := b.toNat_lt
  omega
theorem str_numsS (s : ByteArray) : strOfNums (numsS s) = s := by
  have : (numsS s).map (fun n => UInt8.ofNat n.toNat) = s.data.toList := by
    simp [numsS, List.map_map, Function.comp_def]
  unfold strOfNums
  rw [this]
theorem numsS_str (l : List Int) (h : ∀ c ∈ l, 0 ≤ c ∧ c ≤ 255) : numsS (strOfNums l) = l := by
  simp only [numsS, strOfNums_data, List.map_map]
  conv => rhs; rw [← List.map_id l]
  refine List.map_congr_left fun c hc => ?_
  have := h c hc
  simp only [Function.comp, id, UInt8.toNat_ofNat']
  omega
theorem str_append (a b : List Int) : strOfNums a ++ strOfNums b = strOfNums (a ++ b) := by
  apply ByteArray.ext
  simp [strOfNums]
theorem numsS_inj {s t : ByteArray} (h : numsS s = numsS t) : s = t := by rw [← str_numsS s, h, str_numsS]
theorem at0_range {l : List Int} (h : ∀ c ∈ l, 0 ≤ c ∧ c ≤ 255) (k : Int) : 0 ≤ at0 l k ∧ at0 l k ≤ 255 := by
  unfold at0
  rw [List.getD_eq_getElem?_getD]
  rcases Nat.lt_or_ge k.toNat l.length with h1 | h1
  · rw [List.getElem?_eq_getElem h1]
    exact h _ (List.getElem_mem h1)
  · rw [List.getElem?_eq_none h1]
    simp [default]
/-- A byte that is read, as a number. -/
theorem u8_at {l : List Int} (h : ∀ c ∈ l, 0 ≤ c ∧ c ≤ 255) (k : Int) : ((UInt8.ofNat (at0 l k).toNat).toNat : Int) = at0 l k := by
  have := at0_range h k
  simp only [UInt8.toNat_ofNat']
  omega
theorem on_str (l : List Int) (k : Int) (K : UInt8 → Prop) : on (strOfNums l)[k.toNat]? K = (k.toNat < l.length ∧ K (UInt8.ofNat (at0 l k).toNat)) := by
  rcases Nat.lt_or_ge k.toNat l.length with h | h
  · have hk' : k.toNat < (strOfNums l).size := by rw [strOfNums_size]; exact h
    rw [getElem?_pos (strOfNums l) k.toNat hk']
    have e : (strOfNums l)[k.toNat] = UInt8.ofNat (at0 l k).toNat := by
      have : (strOfNums l)[k.toNat] = (strOfNums l).data.toList[k.toNat]'(by rw [strOfNums_data]; simpa using h) := rfl
      rw [this]
      simp [strOfNums_data, at0, List.getD_eq_getElem?_getD, h]
    rw [e]
    simp [on, h]
  · have hn : (strOfNums l)[k.toNat]? = none := by
      rw [getElem?_neg]
      rw [strOfNums_size]
      omega
    rw [hn]
    exact propext ⟨fun h' => h'.elim, fun h' => absurd h'.1 (Nat.not_lt.2 h)⟩
theorem on_str0 (l : List Int) (K : UInt8 → Prop) : on (strOfNums l)[0]? K = (0 < l.length ∧ K (UInt8.ofNat (at0 l 0).toNat)) := on_str l 0 K
theorem on_str1 (l : List Int) (K : UInt8 → Prop) : on (strOfNums l)[1]? K = (1 < l.length ∧ K (UInt8.ofNat (at0 l 1).toNat)) := on_str l 1 K
theorem on_str2 (l : List Int) (K : UInt8 → Prop) : on (strOfNums l)[2]? K = (2 < l.length ∧ K (UInt8.ofNat (at0 l 2).toNat)) := on_str l 2 K
theorem on_str3 (l : List Int) (K : UInt8 → Prop) : on (strOfNums l)[3]? K = (3 < l.length ∧ K (UInt8.ofNat (at0 l 3).toNat)) := on_str l 3 K
theorem str_extract (l : List Int) (a b : Nat) : (strOfNums l).extract a b = strOfNums ((l.take b).drop a) := by
  apply ByteArray.ext
  apply Array.ext'
  show ((strOfNums l).extract a b).data.toList = (strOfNums ((l.take b).drop a)).data.toList
  rw [ByteArray.data_extract, Array.toList_extract, strOfNums_data, strOfNums_data]
  simp [List.extract_eq_take_drop, List.map_take, List.map_drop, List.drop_take]
theorem str_bytes {l : List Int} (h : ∀ c ∈ l, 0 ≤ c ∧ c ≤ 255) : ((strOfNums l).data.toList.map fun b => [AV.c (.int .u8 b.toNat)]) = l.map byteC := by
  rw [strOfNums_data, List.map_map]
  refine List.map_congr_left fun c hc => ?_
  have := h c hc
  simp only [Function.comp, byteC, UInt8.toNat_ofNat']
  congr 3
  omega
theorem str_eq (s t : ByteArray) : (s.toList == t.toList) = decide (numsS s = numsS t) := by
  rw [ByteArray.toList_eq, ByteArray.toList_eq]
  by_cases h : numsS s = numsS t
  · have := numsS_inj h
    subst this
    simp
  · have h' : s.data.toList ≠ t.data.toList := fun e => h (by rw [numsS, numsS, e])
    simp only [h, decide_false, beq_eq_false_iff_ne, ne_eq]
    exact h'
theorem str_same {a b : List Int} (ha : ∀ c ∈ a, 0 ≤ c ∧ c ≤ 255) (hb : ∀ c ∈ b, 0 ≤ c ∧ c ≤ 255) : ((strOfNums a).toList == (strOfNums b).toList) = decide (a = b) := by
  rw [str_eq, numsS_str a ha, numsS_str b hb]
theorem str_empty : ByteArray.empty = strOfNums [] := rfl
theorem str_empty' : ByteArray.mk #[] = strOfNums [] := rfl
attribute [go_sem] numsA_cons numsA_nil numsA_byteC numsA_app strOfNums_size str_append on_str on_str0 on_str1 on_str2 on_str3 str_extract str_empty str_empty'
end Go.Proofs.Ytephecognbbaoab
namespace Go.Proofs.Ytephecognbbaoab
theorem str_iff {a b : List Int} (ha : ∀ c ∈ a, 0 ≤ c ∧ c ≤ 255) (hb : ∀ c ∈ b, 0 ≤ c ∧ c ≤ 255) : (strOfNums a).toList = (strOfNums b).toList ↔ a = b := by
  have := str_same ha hb
  by_cases h : a = b
  · simp [h]
  · simp only [h, decide_false, beq_eq_false_iff_ne, ne_eq, iff_false] at this ⊢
    exact this
theorem read_calls (l : List Int) (hl : l.length ≤ 140737488351232) (hb : ∀ c ∈ l, 0 ≤ c ∧ c ≤ 255) (σ : Store) : ACalls Try.prog 193 [.c (.string (strOfNums l))] σ fun r σ' => σ' = σ ∧ r = .tup [.agg (packetC (readL l).1), .c (.int .i64 (readL l).2)] := by
  refine ACalls.cutX ?_
  have r1 := at0_range hb 1
  have r2 := at0_range hb 2
  have r3 := at0_range hb 3
  refine ACalls_of_awp Try.func193 rfl Try.results193 ?_
  simp only [List.length_cons, List.length_nil, Try.ntmps193, Nat.reduceAdd, Nat.reduceSub, enterA]
  (repeat' (first|(refine g_s fun K hK=>?_)|(refine g_b ?_)|(refine g_r ?_)|(refine g_k ?_;simp only[thenQ,blockQ])|(refine g_e ?_;simp only[thenQ,blockQ,↓reduceIte,Nat.reduceEqDiff])|(refine g_c (fun h=>?_) (fun h=>?_)<;>(try simp only[go_sem] at h)<;>(try exact g_f))|((first|refine g_t ?_|refine g_g ?_|refine g_U ?_|refine g_A ?_|refine g_W ?_);(try simp -implicitDefEqProofs only[go_sem,u8_at hb]))|(with_reducible refine hK _ _ ?_;clear hK K)|(clear hK K;first|(with_reducible refine hK _ _ ?_;clear hK K)|(clear hK K;with_reducible refine hK _ _ ?_;clear hK K)|(clear hK K;clear hK K;with_reducible refine hK _ _ ?_;clear hK K))|(with_reducible refine splitB_intro (fun h=>?_) (fun h=>?_)<;>(try simp only[go_sem] at h)<;>(try exact g_f)<;>(try simp -implicitDefEqProofs only[go_sem,u8_at hb]))|(with_reducible refine And.intro (fun h=>?_) (fun h=>?_)<;>(try simp only[go_sem] at h)<;>(try exact g_f))|(with_reducible refine And.intro ?_ ?_;· exact g_x)|(with_reducible intro h;(try simp only[go_sem] at h);(try exact g_f))))
  · have e : readL l = (⟨0, 0, []⟩, 2) := by rw [readL, if_pos (by omega)]
    rw [e]
    refine CutQ_w rfl ?_ ?_
    · (repeat' (first | exact Bd.c _ | exact Bd.emp | exact BdL.nil | exact Bd.ints _ | refine Bd.aggL ?_ | refine Bd.tupL ?_ | refine BdL.cons ?_ ?_))
    · (repeat' (first | exact Wk.nil | exact Wk.emp | exact WkL.nil | (with_reducible exact Wk.refl _) | refine Wk.agg ?_ | refine Wk.tup ?_ | refine WkL.cons ?_ ?_ | (refine Wk.eq ?_; rfl)))
  · rename_i h1 h2
    have e : readL l = (⟨0, 0, []⟩, 1) := by rw [readL, if_neg (by omega), if_pos (.inl (by omega))]
    rw [e]
    refine CutQ_w rfl ?_ ?_
    · (repeat' (first | exact Bd.c _ | exact Bd.emp | exact BdL.nil | exact Bd.ints _ | refine Bd.aggL ?_ | refine Bd.tupL ?_ | refine BdL.cons ?_ ?_))
    · (repeat' (first | exact Wk.nil | exact Wk.emp | exact WkL.nil | (with_reducible exact Wk.refl _) | refine Wk.agg ?_ | refine Wk.tup ?_ | refine WkL.cons ?_ ?_ | (refine Wk.eq ?_; rfl)))
  · rename_i h1 h2
    have e : readL l = (⟨0, 0, []⟩, 1) := by rw [readL, if_neg (by omega), if_pos (.inr (by omega))]
    rw [e]
    refine CutQ_w rfl ?_ ?_
    · (repeat' (first | exact Bd.c _ | exact Bd.emp | exact BdL.nil | exact Bd.ints _ | refine Bd.aggL ?_ | refine Bd.tupL ?_ | refine BdL.cons ?_ ?_))
    · (repeat' (first | exact Wk.nil | exact Wk.emp | exact WkL.nil | (with_reducible exact Wk.refl _) | refine Wk.agg ?_ | refine Wk.tup ?_ | refine WkL.cons ?_ ?_ | (refine Wk.eq ?_; rfl)))
  rename_i h1 h2
  generalize hm : List.drop 4 (List.take ((l.length : Int) - 2).toNat l) = mid
  have hmb : ∀ c ∈ mid, 0 ≤ c ∧ c ≤ 255 := fun c hc => by
    subst hm
    exact hb c (List.mem_of_mem_take (List.mem_of_mem_drop hc))
  have hml : (mid.length : Int) = l.length - 6 := by
    subst hm
    simp
    omega
  rw [str_bytes hmb]
  refine AWP_pad ?_
  have hJ := hK
  clear hK
  simp -implicitDefEqProofs only [go_sem]
  refine AWP_each mid (fun k r acc => acc ++ r = mid) (fun k acc τ => [(42, intA1 k)]) (fun _ acc τ => σ ++ (.cells 3 [[.c (.int .i64 0), .c (.int .i64 0), .c (.slice none 0 0)]] :: .cells 3 [[intA1 (at0 l 1), intA1 (at0 l 2), accV 1 (σ.length + (τ.length + 3)) acc]] :: .cells 1 (mid.map byteC) :: (τ ++ [accO intC 1 acc]))) [] [] rfl ?_ ?_ ?_ ?_
  · simp -implicitDefEqProofs only [go_sem, accV, accO]
  · refine ALe_of ?_
    simp -implicitDefEqProofs only [go_sem]
  · rintro k r acc τ' hk0 hk1 h3 L hL
    have hr := hmb _ (at0_mem mid hk0 hk1)
    have hal : acc.length ≤ 60 := by have := congrArg List.length h3; simp at this; omega
    rcases acc with _ | ⟨x, acc⟩ <;> simp only [List.length_cons, List.length_nil] at hal <;> simp -implicitDefEqProofs only [go_sem, accV, accO]
    all_goals (repeat' (first|(refine g_s fun K hK=>?_)|(refine g_b ?_)|(refine g_r ?_)|(refine g_k ?_;simp only[thenQ,blockQ])|(refine g_e ?_;simp only[thenQ,blockQ,↓reduceIte,Nat.reduceEqDiff])|(refine g_c (fun h=>?_) (fun h=>?_)<;>(try simp only[go_sem] at h)<;>(try exact g_f))|((first|refine g_t ?_|refine g_g ?_|refine g_U ?_|refine g_A ?_|refine g_W ?_);(try simp -implicitDefEqProofs only[go_sem]))|(with_reducible refine hK _ _ ?_;clear hK K)|(clear hK K;first|(with_reducible refine hK _ _ ?_;clear hK K)|(clear hK K;with_reducible refine hK _ _ ?_;clear hK K)|(clear hK K;clear hK K;with_reducible refine hK _ _ ?_;clear hK K))|(with_reducible refine splitB_intro (fun h=>?_) (fun h=>?_)<;>(try simp only[go_sem] at h)<;>(try exact g_f)<;>(try simp -implicitDefEqProofs only[go_sem]))|(with_reducible refine And.intro (fun h=>?_) (fun h=>?_)<;>(try simp only[go_sem] at h)<;>(try exact g_f))|(with_reducible refine And.intro ?_ ?_;· exact g_x)|(with_reducible intro h;(try simp only[go_sem] at h);(try exact g_f))))
    · refine hL [at0 mid k] (τ' ++ [.dead, .cells 1 [intC (at0 mid k)]]) _ _ (by simpa using h3) (ALe_of ?_) ?_
      · simp -implicitDefEqProofs only [go_sem]
      · simp [accV, accO, intC, intA1]
    · refine hL (x :: acc ++ [at0 mid k]) (τ' ++ [.dead, .cells 1 [intC (at0 mid k)]]) _ _ (by simpa using h3) (ALe_of ?_) ?_
      · simp -implicitDefEqProofs only [go_sem]
      · simp [accV, accO, intC, intA1]
  · rintro k acc τ' hk h3 L
    rw [List.append_nil] at h3
    subst h3
    simp -implicitDefEqProofs only [go_sem]
    (repeat' (first|(refine g_s fun K hK=>?_)|(refine g_b ?_)|(refine g_r ?_)|(refine g_k ?_;simp only[thenQ,blockQ])|(refine g_e ?_;simp only[thenQ,blockQ,↓reduceIte,Nat.reduceEqDiff])|(refine g_c (fun h=>?_) (fun h=>?_)<;>(try simp only[go_sem] at h)<;>(try exact g_f))|((first|refine g_t ?_|refine g_g ?_|refine g_U ?_|refine g_A ?_|refine g_W ?_);(try simp -implicitDefEqProofs only[go_sem]))|(with_reducible refine hK _ _ ?_;clear hK K)|(clear hK K;first|(with_reducible refine hK _ _ ?_;clear hK K)|(clear hK K;with_reducible refine hK _ _ ?_;clear hK K)|(clear hK K;clear hK K;with_reducible refine hK _ _ ?_;clear hK K))|(with_reducible refine splitB_intro (fun h=>?_) (fun h=>?_)<;>(try simp only[go_sem] at h)<;>(try exact g_f)<;>(try simp -implicitDefEqProofs only[go_sem]))|(with_reducible refine And.intro (fun h=>?_) (fun h=>?_)<;>(try simp only[go_sem] at h)<;>(try exact g_f))|(with_reducible refine And.intro ?_ ?_;· exact g_x)|(with_reducible intro h;(try simp only[go_sem] at h);(try exact g_f))))
    refine hJ _ _ ?_
    clear hJ
    refine AWP_freezeS σ [.cells 3 [[.c (.int .i64 0), .c (.int .i64 0), .c (.slice none 0 0)]]] (.cells 1 (acc.map byteC) :: τ') [] 0 2 intC acc rfl rfl rfl (by simp; omega) ?_
    simp -implicitDefEqProofs only [go_sem]
    have hp : packetAt l = ⟨at0 l 1, at0 l 2, acc⟩ := by
      unfold packetAt
      congr 1
      rw [← hm]
      congr 2
      omega
    have hrd : readL l = if (writeL ⟨at0 l 1, at0 l 2, acc⟩).2 ≠ 0 ∨ (writeL ⟨at0 l 1, at0 l 2, acc⟩).1 ≠ l then (⟨0, 0, []⟩, 1) else (⟨at0 l 1, at0 l 2, acc⟩, 0) := by
      rw [readL, if_neg (by omega), if_neg (by omega), hp]
    (repeat' (first|(refine g_s fun K hK=>?_)|(refine g_b ?_)|(refine g_r ?_)|(refine g_k ?_;simp only[thenQ,blockQ])|(refine g_e ?_;simp only[thenQ,blockQ,↓reduceIte,Nat.reduceEqDiff])|(refine g_c (fun h=>?_) (fun h=>?_)<;>(try simp only[go_sem] at h)<;>(try exact g_f))|((first|refine g_t ?_|refine g_g ?_|refine g_U ?_|refine g_A ?_|refine (write_calls ⟨at0 l 1, at0 l 2, acc⟩ (by show acc.length ≤ _; omega) _).use ?_|refine g_q (fun τ=>write_calls ⟨at0 l 1, at0 l 2, acc⟩ (by show acc.length ≤ _; omega) _) ?_|refine g_W ?_);(try simp -implicitDefEqProofs only[go_sem]))|(with_reducible refine hK _ _ ?_;clear hK K)|(clear hK K;first|(with_reducible refine hK _ _ ?_;clear hK K)|(clear hK K;with_reducible refine hK _ _ ?_;clear hK K)|(clear hK K;clear hK K;with_reducible refine hK _ _ ?_;clear hK K))|(with_reducible refine splitB_intro (fun h=>?_) (fun h=>?_)<;>(try simp only[go_sem] at h)<;>(try exact g_f)<;>(try simp -implicitDefEqProofs only[go_sem]))|(with_reducible refine And.intro (fun h=>?_) (fun h=>?_)<;>(try simp only[go_sem] at h)<;>(try exact g_f))|(with_reducible refine And.intro ?_ ?_;· exact g_x)|(with_reducible intro h;(try simp only[go_sem] at h);(try exact g_f))))
    · rename_i h9
      rw [hrd, if_pos (.inl h9)]
      refine CutQ_w rfl ?_ ?_
      · (repeat' (first | exact Bd.c _ | exact Bd.emp | exact BdL.nil | exact Bd.ints _ | refine Bd.aggL ?_ | refine Bd.tupL ?_ | refine BdL.cons ?_ ?_))
      · (repeat' (first | exact Wk.nil | exact Wk.emp | exact WkL.nil | (with_reducible exact Wk.refl _) | refine Wk.agg ?_ | refine Wk.tup ?_ | refine WkL.cons ?_ ?_ | (refine Wk.eq ?_; rfl)))
    · rename_i h9
      rw [hrd, if_pos (.inr fun e => h (by rw [e]))]
      refine CutQ_w rfl ?_ ?_
      · (repeat' (first | exact Bd.c _ | exact Bd.emp | exact BdL.nil | exact Bd.ints _ | refine Bd.aggL ?_ | refine Bd.tupL ?_ | refine BdL.cons ?_ ?_))
      · (repeat' (first | exact Wk.nil | exact Wk.emp | exact WkL.nil | (with_reducible exact Wk.refl _) | refine Wk.agg ?_ | refine Wk.tup ?_ | refine WkL.cons ?_ ?_ | (refine Wk.eq ?_; rfl)))
    · rename_i h9
      rw [str_iff (writeL_bytes h9) hb] at h
      rw [hrd, if_neg (by rintro (h' | h'); exact h' h9; exact h' h)]
      refine CutQ_w rfl ?_ ?_
      · (repeat' (first | exact Bd.c _ | exact Bd.emp | exact BdL.nil | exact Bd.ints _ | refine Bd.aggL ?_ | refine Bd.tupL ?_ | refine BdL.cons ?_ ?_))
      · (repeat' (first | exact Wk.nil | exact Wk.emp | exact WkL.nil | (with_reducible exact Wk.refl _) | refine Wk.agg ?_ | refine Wk.tup ?_ | refine WkL.cons ?_ ?_ | (refine Wk.eq ?_; rfl)))
end Go.Proofs.Ytephecognbbaoab
/- Turns of nodes, one at a time: in plain Lean. -/
namespace Go.Proofs.Ytephecognbbaoab
structure Trn where
  act : List Bool
  ages : List (List Int)
deriving Inhabited
def turnErr (n : Net) (t : Trn) : Int :=
  if (t.act.length : Int) ≠ n.nodes ∨ (t.ages.length : Int) ≠ n.nodes ∨ t.ages.any (fun r => decide ((r.length : Int) ≠ n.nodes)) = true then 1
  else if t.ages.any (fun r => r.any fun v => !inR v 1 20) then 3
  else 0
def turnsErr (n : Net) : List Trn → Int
  | [] => 0
  | t :: r => if turnErr n t ≠ 0 then turnErr n t else turnsErr n r
def checkT (n : Net) (t : List Trn) : Int := if checkN n ≠ 0 then checkN n else if t.length > 200 then 2 else turnsErr n t
structure TrnIn (n : Net) (t : Trn) : Prop where
  act : (t.act.length : Int) = n.nodes
  len : (t.ages.length : Int) = n.nodes
  row : ∀ r ∈ t.ages, (r.length : Int) = n.nodes
  val : ∀ r ∈ t.ages, ∀ v ∈ r, 1 ≤ v ∧ v ≤ 20
/-- How old a state a turn uses. -/
def usedA (u : Trn) (k i to : Int) : Int := max 0 (k + 1 - at2 u.ages i to)
def nextT (n : Net) (out : List (List (List Int))) (k : Int) (u : Trn) : List (List Int) :=
  (ints n.nodes).map fun i => if at0 u.act i then (ints n.nodes).map (fun j => routeL n i j (fun to => at2 (at0 out (usedA u k i to)) to j) n.links) else at0 (at0 out k) i
/-- All states that come. -/
def runF (n : Net) : Int → List Trn → List (List (List Int)) → List (List (List Int))
  | _, [], out => out
  | k, u :: r, out => runF n (k + 1) r (out ++ [nextT n out k u])
def runA (n : Net) (x : List (List Int)) (t : List Trn) : List (List (List Int)) := runF n 0 t [x]
theorem at0_ext {X : Type} [Inhabited X] {a b : List X} (hl : a.length = b.length) (h : ∀ k : Int, 0 ≤ k → k < a.length → at0 a k = at0 b k) : a = b := by
  apply List.ext_getElem hl
  intro i h1 h2
  have := h i (by omega) (by omega)
  simpa [at0, List.getD_eq_getElem?_getD, h1, h2] using this
theorem routeL_in {n : Net} (hc : checkN n = 0) (i j : Int) (has : Int → Int) (hh : ∀ k, 0 ≤ k → k < n.nodes → 0 ≤ has k ∧ has k < n.alg.size) : 0 ≤ routeL n i j has n.links ∧ routeL n i j has n.links < n.alg.size := by
  rw [route_eq hc i j has hh]
  exact routeR_in (netIn_of hc) i j has hh
/-- As the document has it. -/
def cellT (n : Net) (out : List (List (List Int))) (k : Int) (u : Trn) (i j : Int) : Int :=
  if at0 u.act i then routeR n i j (fun to => at2 (at0 out (usedA u k i to)) to j) else at2 (at0 out k) i j
end Go.Proofs.Ytephecognbbaoab
/- Nets whose algebra is strict settle, always to the same state: in plain Lean. -/
namespace Go.Proofs.Ytephecognbbaoab
section
variable {n : Net}
/-- In range. -/
def InV (n : Net) (a : Int) : Prop := 0 ≤ a ∧ a < n.alg.size
/-- At least as good. -/
def Le (n : Net) (a b : Int) : Prop := bestA n a b = a
theorem best_select (h : NetIn n) {a b : Int} (ha : InV n a) (hb : InV n b) : bestA n a b = a ∨ bestA n a b = b := by
  have hm : (⟨3, a, b, 0, 0⟩ : Brk) ∈ casesA n.alg 3 := mem_cases.2 ⟨rfl, ha, hb, ⟨Int.le_refl _, show (0 : Int) < 1 by decide⟩, ⟨Int.le_refl _, show (0 : Int) < 1 by decide⟩⟩
  have := holds_seven h hm (show (3 : Int) ∈ seven by decide)
  have e : holdsA n.alg ⟨3, a, b, 0, 0⟩ = (decide (at2 n.alg.best a b = a) || decide (at2 n.alg.best a b = b)) := rfl
  rw [e] at this
  simp only [Bool.or_eq_true, decide_eq_true_eq] at this
  exact this
theorem inv_in (h : NetIn n) : InV n (n.alg.size - 1) := ⟨by have := h.alg.s2; omega, by omega⟩
theorem le_inv (h : NetIn n) {a : Int} (ha : InV n a) : Le n a (n.alg.size - 1) := by
  have hm : (⟨5, a, 0, 0, 0⟩ : Brk) ∈ casesA n.alg 5 := mem_cases.2 ⟨rfl, ha, ⟨Int.le_refl _, show (0 : Int) < 1 by decide⟩, ⟨Int.le_refl _, show (0 : Int) < 1 by decide⟩, ⟨Int.le_refl _, show (0 : Int) < 1 by decide⟩⟩
  have := holds_seven h hm (show (5 : Int) ∈ seven by decide)
  have e : holdsA n.alg ⟨5, a, 0, 0, 0⟩ = decide (at2 n.alg.best (n.alg.size - 1) a = a) := rfl
  rw [e] at this
  unfold Le
  rw [best_comm h ha (inv_in h)]
  exact of_decide_eq_true this
theorem over_inv (h : NetIn n) {e : Int} (he : 0 ≤ e ∧ e < n.alg.edges.length) : overA n e (n.alg.size - 1) = n.alg.size - 1 := by
  have hm : (⟨6, 0, 0, 0, e⟩ : Brk) ∈ casesA n.alg 6 := mem_cases.2 ⟨rfl, ⟨Int.le_refl _, show (0 : Int) < 1 by decide⟩, ⟨Int.le_refl _, show (0 : Int) < 1 by decide⟩, ⟨Int.le_refl _, show (0 : Int) < 1 by decide⟩, he⟩
  have := holds_seven h hm (show (6 : Int) ∈ seven by decide)
  have e : holdsA n.alg ⟨6, 0, 0, 0, e⟩ = decide (at2 n.alg.edges e (n.alg.size - 1) = n.alg.size - 1) := rfl
  rw [e] at this
  exact of_decide_eq_true this
def StrictA (n : Net) : Prop := (brokenA n.alg [8]).law = 0
theorem over_strict (h : NetIn n) (hs : StrictA n) {e a : Int} (he : 0 ≤ e ∧ e < n.alg.edges.length) (ha : InV n a) (hi : a ≠ n.alg.size - 1) : Le n a (overA n e a) ∧ overA n e a ≠ a := by
  have hm : (⟨8, a, 0, 0, e⟩ : Brk) ∈ casesA n.alg 8 := mem_cases.2 ⟨rfl, ha, ⟨Int.le_refl _, show (0 : Int) < 1 by decide⟩, ⟨Int.le_refl _, show (0 : Int) < 1 by decide⟩, he⟩
  have := brokenA_none (laws := [8]) (by decide) hs 8 (by simp) _ hm
  have e : holdsA n.alg ⟨8, a, 0, 0, e⟩ = (decide (a = n.alg.size - 1) || (decide (at2 n.alg.best a (at2 n.alg.edges e a) = a) && !decide (at2 n.alg.edges e a = a))) := rfl
  rw [e, decide_eq_false hi, Bool.false_or, Bool.and_eq_true, Bool.not_eq_true', decide_eq_true_eq, decide_eq_false_iff_not] at this
  exact this
theorem le_refl (h : NetIn n) {a : Int} (ha : InV n a) : Le n a a := by
  rcases best_select h ha ha with e | e <;> exact e
theorem le_antisymm (h : NetIn n) {a b : Int} (ha : InV n a) (hb : InV n b) (h1 : Le n a b) (h2 : Le n b a) : a = b := by
  unfold Le at h1 h2
  rw [← h1, best_comm h ha hb, h2]
theorem le_trans (h : NetIn n) {a b c : Int} (ha : InV n a) (hb : InV n b) (hc : InV n c) (h1 : Le n a b) (h2 : Le n b c) : Le n a c := by
  unfold Le at *
  have := best_assoc h ha hb hc
  rw [h2, h1] at this
  exact this.symm
theorem le_total (h : NetIn n) {a b : Int} (ha : InV n a) (hb : InV n b) : Le n a b ∨ Le n b a := by
  rcases best_select h ha hb with e | e
  · exact .inl e
  · right
    unfold Le
    rw [best_comm h hb ha]
    exact e
theorem best_le1 (h : NetIn n) {a b : Int} (ha : InV n a) (hb : InV n b) : Le n (bestA n a b) a := by
  rcases le_total h ha hb with e | e
  · rw [show bestA n a b = a from e]; exact le_refl h ha
  · have : bestA n a b = b := by rw [best_comm h ha hb]; exact e
    rw [this]; exact e
theorem best_le2 (h : NetIn n) {a b : Int} (ha : InV n a) (hb : InV n b) : Le n (bestA n a b) b := by
  rw [best_comm h ha hb]; exact best_le1 h hb ha
/-- How many are better. -/
def rank (n : Net) (v : Int) : Nat := ((ints n.alg.size).filter fun w => decide (bestA n w v = w) && !decide (w = v)).length
theorem filter_lt {p q : Int → Bool} : ∀ (L : List Int), (∀ w ∈ L, p w = true → q w = true) → (∃ w ∈ L, q w = true ∧ p w = false) → (L.filter p).length < (L.filter q).length
  | [], _, h => by obtain ⟨w, hw, _⟩ := h; cases hw
  | x :: r, h1, h2 => by
    have hle : ∀ (L : List Int), (∀ w ∈ L, p w = true → q w = true) → (L.filter p).length ≤ (L.filter q).length := by
      intro L
      induction L with
      | nil => intro _; simp
      | cons y L ih =>
        intro hL
        have h9 := ih fun w hw => hL w (by simp [hw])
        by_cases hp : p y = true
        · rw [List.filter_cons_of_pos hp, List.filter_cons_of_pos (hL y (by simp) hp)]
          simp only [List.length_cons]; omega
        · rw [List.filter_cons_of_neg hp]
          by_cases hq : q y = true
          · rw [List.filter_cons_of_pos hq]; simp only [List.length_cons]; omega
          · rw [List.filter_cons_of_neg hq]; exact h9
    have hr := hle r fun w hw => h1 w (by simp [hw])
    obtain ⟨w, hw, hq, hp⟩ := h2
    by_cases hx : p x = true
    · rw [List.filter_cons_of_pos hx, List.filter_cons_of_pos (h1 x (by simp) hx)]
      have : w ∈ r := by
        rcases List.mem_cons.1 hw with rfl | hw
        · rw [hx] at hp; cases hp
        · exact hw
      have := filter_lt r (fun w hw => h1 w (by simp [hw])) ⟨w, this, hq, hp⟩
      simp only [List.length_cons]; omega
    · rw [List.filter_cons_of_neg hx]
      by_cases hqx : q x = true
      · rw [List.filter_cons_of_pos hqx]; simp only [List.length_cons]; omega
      · rw [List.filter_cons_of_neg hqx]
        have : w ∈ r := by
          rcases List.mem_cons.1 hw with rfl | hw
          · exact absurd hq hqx
          · exact hw
        exact filter_lt r (fun w hw => h1 w (by simp [hw])) ⟨w, this, hq, hp⟩
theorem rank_lt (h : NetIn n) {a b : Int} (ha : InV n a) (hb : InV n b) (h1 : Le n a b) (h2 : a ≠ b) : rank n a < rank n b := by
  refine filter_lt _ (fun w hw hp => ?_) ⟨a, mem_ints.2 ha, ?_, by simp⟩
  · have hw := mem_ints.1 hw
    simp only [Bool.and_eq_true, decide_eq_true_eq, Bool.not_eq_true', decide_eq_false_iff_not] at hp ⊢
    refine ⟨le_trans h hw ha hb hp.1 h1, fun e => ?_⟩
    subst e
    exact h2 (le_antisymm h ha hb h1 hp.1)
  · simp only [Bool.and_eq_true, decide_eq_true_eq, Bool.not_eq_true', decide_eq_false_iff_not]
    exact ⟨h1, h2⟩
theorem rank_top (h : NetIn n) {v : Int} (hv : InV n v) : (rank n v : Int) < n.alg.size := by
  have h1 : rank n v < ((ints n.alg.size).filter fun _ => true).length := filter_lt _ (fun _ _ _ => rfl) ⟨v, mem_ints.2 hv, rfl, by simp⟩
  rw [List.filter_eq_self.2 (fun _ _ => rfl), ints_length] at h1
  have := h.alg.s2
  omega
/-- What a fold of bests is. -/
theorem route_facts (h : NetIn n) (i : Int) (val : Lnk → Int) : ∀ (L : List Lnk) (out : Int), (∀ l ∈ L, InV n (val l)) → InV n out →
    InV n (L.foldl (fun out l => if l.fr = i then bestA n out (val l) else out) out) ∧ Le n (L.foldl (fun out l => if l.fr = i then bestA n out (val l) else out) out) out ∧
    (∀ l ∈ L, l.fr = i → Le n (L.foldl (fun out l => if l.fr = i then bestA n out (val l) else out) out) (val l)) ∧
    (L.foldl (fun out l => if l.fr = i then bestA n out (val l) else out) out = out ∨ ∃ l ∈ L, l.fr = i ∧ L.foldl (fun out l => if l.fr = i then bestA n out (val l) else out) out = val l)
  | [], out, _, ho => ⟨ho, le_refl h ho, (fun l hl => by cases hl), .inl rfl⟩
  | x :: r, out, hv, ho => by
    have hvx := hv x (by simp)
    have hvr : ∀ l ∈ r, InV n (val l) := fun l hl => hv l (by simp [hl])
    rw [List.foldl_cons]
    by_cases e : x.fr = i
    · rw [if_pos e]
      have hb : InV n (bestA n out (val x)) := best_in h ho hvx
      obtain ⟨h1, h2, h3, h4⟩ := route_facts h i val r (bestA n out (val x)) hvr hb
      refine ⟨h1, le_trans h h1 hb ho h2 (best_le1 h ho hvx), fun l hl hf => ?_, ?_⟩
      · rcases List.mem_cons.1 hl with rfl | hl
        · exact le_trans h h1 hb hvx h2 (best_le2 h ho hvx)
        · exact h3 l hl hf
      · rcases h4 with h4 | ⟨l, hl, hf, h4⟩
        · rcases best_select h ho hvx with e2 | e2
          · exact .inl (h4.trans e2)
          · exact .inr ⟨x, by simp, e, h4.trans e2⟩
        · exact .inr ⟨l, by simp [hl], hf, h4⟩
    · rw [if_neg e]
      obtain ⟨h1, h2, h3, h4⟩ := route_facts h i val r out hvr ho
      refine ⟨h1, h2, fun l hl hf => ?_, ?_⟩
      · rcases List.mem_cons.1 hl with rfl | hl
        · exact absurd hf e
        · exact h3 l hl hf
      · rcases h4 with h4 | ⟨l, hl, hf, h4⟩
        · exact .inl h4
        · exact .inr ⟨l, by simp [hl], hf, h4⟩
theorem round_at (hc : checkN n = 0) {x : List (List Int)} (hx : RowsIn n x) {i j : Int} (hi : 0 ≤ i ∧ i < n.nodes) (hj : 0 ≤ j ∧ j < n.nodes) : at2 (roundA n x) i j = routeL n i j (fun k => at2 x k j) n.links := by
  have hn := netIn_of hc
  have n1 := hn.n1
  rw [route_eq hc i j _ fun k h0 h1 => at2_in hx ⟨h0, h1⟩ hj]
  have a0 : ∀ {X : Type} [Inhabited X] (f : Int → X) {q : Int}, 0 ≤ q ∧ q < n.nodes → at0 ((ints n.nodes).map f) q = f q := fun f q hq => by
    have h1 : q.toNat < (ints n.nodes).length := by rw [ints_length]; omega
    simp only [at0, List.getD_eq_getElem?_getD, List.getElem?_map, List.getElem?_eq_getElem h1, Option.map_some, Option.getD_some]
    congr 1
    simp [ints]
    omega
  unfold at2 roundA
  rw [a0 _ hi, a0 _ hj]
  rfl
/-- Where two states differ, both are of rank t or more. -/
def Agree (n : Net) (t : Nat) (x y : List (List Int)) : Prop := ∀ i j, 0 ≤ i ∧ i < n.nodes → 0 ≤ j ∧ j < n.nodes → at2 x i j ≠ at2 y i j → t ≤ rank n (at2 x i j) ∧ t ≤ rank n (at2 y i j)
theorem agree_step1 (hc : checkN n = 0) (hs : StrictA n) {x y : List (List Int)} (hx : RowsIn n x) (hy : RowsIn n y) {t : Nat} (h : Agree n t x y) {i j : Int} (hi : 0 ≤ i ∧ i < n.nodes) (hj : 0 ≤ j ∧ j < n.nodes)
    (hle : Le n (at2 (roundA n x) i j) (at2 (roundA n y) i j)) (hne : at2 (roundA n x) i j ≠ at2 (roundA n y) i j) : t + 1 ≤ rank n (at2 (roundA n x) i j) ∧ t + 1 ≤ rank n (at2 (roundA n y) i j) := by
  have hn := netIn_of hc
  have s2 := hn.alg.s2
  have hrx := at2_in (round_in hn hx) hi hj
  have hry := at2_in (round_in hn hy) hi hj
  have hlt := rank_lt hn hrx hry hle hne
  suffices hk : t + 1 ≤ rank n (at2 (roundA n x) i j) from ⟨hk, by omega⟩
  have hvx : ∀ l ∈ n.links, InV n (overA n l.edge (at2 x l.dst j)) := fun l hl =>
    let g := hn.lnk l hl
    over_in hn ⟨g.e0, g.e1⟩ (at2_in hx ⟨g.d0, g.d1⟩ hj)
  have hvy : ∀ l ∈ n.links, InV n (overA n l.edge (at2 y l.dst j)) := fun l hl =>
    let g := hn.lnk l hl
    over_in hn ⟨g.e0, g.e1⟩ (at2_in hy ⟨g.d0, g.d1⟩ hj)
  have hb : InV n (if i = j then 0 else n.alg.size - 1 : Int) := by unfold InV; split <;> omega
  obtain ⟨_, _, _, f4⟩ := route_facts hn i (fun l => overA n l.edge (at2 x l.dst j)) n.links _ hvx hb
  obtain ⟨_, g2, g3, _⟩ := route_facts hn i (fun l => overA n l.edge (at2 y l.dst j)) n.links _ hvy hb
  have ex : at2 (roundA n x) i j = n.links.foldl (fun out l => if l.fr = i then bestA n out (overA n l.edge (at2 x l.dst j)) else out) (if i = j then 0 else n.alg.size - 1) := round_at hc hx hi hj
  have ey : at2 (roundA n y) i j = n.links.foldl (fun out l => if l.fr = i then bestA n out (overA n l.edge (at2 y l.dst j)) else out) (if i = j then 0 else n.alg.size - 1) := round_at hc hy hi hj
  rw [← ex] at f4
  rw [← ey] at g2 g3
  rcases f4 with f4 | ⟨l, hl, hf, f4⟩
  · rw [f4] at hle hne hrx
    exact absurd (le_antisymm hn hrx hry hle g2) hne
  · have g := hn.lnk l hl
    have hxk := at2_in hx ⟨g.d0, g.d1⟩ hj
    have hyk := at2_in hy ⟨g.d0, g.d1⟩ hj
    have hg3 := g3 l hl hf
    have hdiff : at2 x l.dst j ≠ at2 y l.dst j := fun e => by
      rw [e] at f4
      exact hne (le_antisymm hn hrx hry hle (by rw [f4]; exact hg3))
    have hinv : at2 x l.dst j ≠ n.alg.size - 1 := fun e => by
      rw [e, over_inv hn ⟨g.e0, g.e1⟩] at f4
      refine hne (le_antisymm hn hrx hry hle ?_)
      rw [f4]
      exact le_inv hn hry
    obtain ⟨s1, s3⟩ := over_strict hn hs ⟨g.e0, g.e1⟩ hxk hinv
    rw [← f4] at s1 s3
    have := rank_lt hn hxk hrx s1 (Ne.symm s3)
    have := (h l.dst j ⟨g.d0, g.d1⟩ hj hdiff).1
    omega
theorem agree_symm {t : Nat} {x y : List (List Int)} (h : Agree n t x y) : Agree n t y x := fun i j hi hj hne => ⟨(h i j hi hj (Ne.symm hne)).2, (h i j hi hj (Ne.symm hne)).1⟩
theorem agree_step (hc : checkN n = 0) (hs : StrictA n) {x y : List (List Int)} (hx : RowsIn n x) (hy : RowsIn n y) {t : Nat} (h : Agree n t x y) : Agree n (t + 1) (roundA n x) (roundA n y) := by
  have hn := netIn_of hc
  intro i j hi hj hne
  rcases le_total hn (at2_in (round_in hn hx) hi hj) (at2_in (round_in hn hy) hi hj) with hle | hle
  · exact agree_step1 hc hs hx hy h hi hj hle hne
  · have := agree_step1 hc hs hy hx (agree_symm h) hi hj hle (Ne.symm hne)
    exact ⟨this.2, this.1⟩
def iter (n : Net) : Nat → List (List Int) → List (List Int)
  | 0, x => x
  | t + 1, x => iter n t (roundA n x)
theorem iter_in (hn : NetIn n) : ∀ (t : Nat) {x : List (List Int)}, RowsIn n x → RowsIn n (iter n t x)
  | 0, _, h => h
  | t + 1, _, h => iter_in hn t (round_in hn h)
theorem iter_agree (hc : checkN n = 0) (hs : StrictA n) : ∀ (t u : Nat) {x y : List (List Int)}, RowsIn n x → RowsIn n y → Agree n u x y → Agree n (u + t) (iter n t x) (iter n t y)
  | 0, _, _, _, _, _, h => h
  | t + 1, u, x, y, hx, hy, h => by
    have := iter_agree hc hs t (u + 1) (round_in (netIn_of hc) hx) (round_in (netIn_of hc) hy) (agree_step hc hs hx hy h)
    rw [show u + (t + 1) = u + 1 + t by omega]
    exact this
theorem agree_eq (hn : NetIn n) {x y : List (List Int)} (hx : RowsIn n x) (hy : RowsIn n y) {t : Nat} (ht : n.alg.size - 1 ≤ t) (h : Agree n t x y) : x = y := by
  have key : ∀ i j, 0 ≤ i ∧ i < n.nodes → 0 ≤ j ∧ j < n.nodes → at2 x i j = at2 y i j := fun i j hi hj => by
    apply Classical.byContradiction
    intro hne
    have h1 := h i j hi hj hne
    have vx := at2_in hx hi hj
    have vy := at2_in hy hi hj
    have tx := rank_top hn vx
    have ty := rank_top hn vy
    rcases le_total hn vx vy with hle | hle
    · have := rank_lt hn vx vy hle hne
      omega
    · have := rank_lt hn vy vx hle (Ne.symm hne)
      omega
  refine at0_ext (by have := hx.len; have := hy.len; omega) fun i h0 h1 => ?_
  have hi : 0 ≤ i ∧ i < n.nodes := ⟨h0, by rw [← hx.len]; exact h1⟩
  have rx := hx.row _ (at0_mem x h0 h1)
  have ry := hy.row _ (at0_mem y h0 (by rw [hy.len]; exact hi.2))
  refine at0_ext (by omega) fun j g0 g1 => key i j hi ⟨g0, by rw [← rx]; exact g1⟩
/-- All states meet, by size - 1 rounds. -/
theorem iter_same (hc : checkN n = 0) (hs : StrictA n) {x y : List (List Int)} (hx : RowsIn n x) (hy : RowsIn n y) : iter n (n.alg.size - 1).toNat x = iter n (n.alg.size - 1).toNat y := by
  have hn := netIn_of hc
  have s2 := hn.alg.s2
  have h := iter_agree hc hs (n.alg.size - 1).toNat 0 hx hy (fun i j _ _ _ => ⟨Nat.zero_le _, Nat.zero_le _⟩)
  exact agree_eq hn (iter_in hn _ hx) (iter_in hn _ hy) (by omega) h
theorem iter_round : ∀ (t : Nat) (x : List (List Int)), roundA n (iter n t x) = iter n t (roundA n x)
  | 0, _ => rfl
  | t + 1, x => iter_round t (roundA n x)
theorem iter_fix : ∀ (t : Nat) {x : List (List Int)}, x = roundA n x → iter n t x = x
  | 0, _, _ => rfl
  | t + 1, x, h => by
    rw [iter, ← h]
    exact iter_fix t h
theorem settle_fix : ∀ (f t : Nat) (k : Int) (x : List (List Int)), t ≤ f → iter n t x = roundA n (iter n t x) → (settleF n f k x).1 = roundA n (settleF n f k x).1 ∧ (settleF n f k x).2 ≤ k + t ∧ ∃ u, (settleF n f k x).1 = iter n u x
  | 0, 0, k, x, _, h => ⟨h, by simp [settleF], 0, rfl⟩
  | 0, t + 1, _, _, hl, _ => by omega
  | f + 1, t, k, x, hl, h => by
    by_cases e : x = roundA n x
    · rw [settleF, if_pos e]
      exact ⟨e, by simp only; omega, 0, rfl⟩
    · rw [settleF, if_neg e]
      cases t with
      | zero => exact absurd h e
      | succ t =>
        obtain ⟨h1, h2, u, h3⟩ := settle_fix f t (k + 1) (roundA n x) (by omega) h
        exact ⟨h1, by omega, u + 1, h3⟩
theorem settle_in (hn : NetIn n) {f : Nat} {k : Int} {x : List (List Int)} (hx : RowsIn n x) : RowsIn n (settleF n f k x).1 := by
  induction f generalizing k x with
  | zero => exact hx
  | succ f ih =>
    rw [settleF]
    split
    · exact hx
    · exact ih (round_in hn hx)
/-- Whatever the states: they settle by size rounds, to the same. -/
theorem always (hc : checkN n = 0) (hs : StrictA n) {x y : List (List Int)} (hx : RowsIn n x) (hy : RowsIn n y) :
    (settleF n 100 0 x).1 = roundA n (settleF n 100 0 x).1 ∧ (settleF n 100 0 x).2 ≤ n.alg.size ∧ (settleF n 100 0 y).2 ≤ n.alg.size ∧ (settleF n 100 0 x).1 = (settleF n 100 0 y).1 := by
  have hn := netIn_of hc
  have s2 := hn.alg.s2
  have s24 := hn.alg.s24
  have fix : ∀ z, RowsIn n z → iter n (n.alg.size - 1).toNat z = roundA n (iter n (n.alg.size - 1).toNat z) := fun z hz => by
    rw [iter_round]
    exact iter_same hc hs hz (round_in hn hz)
  obtain ⟨a1, a2, _⟩ := settle_fix 100 (n.alg.size - 1).toNat 0 x (by omega) (fix x hx)
  obtain ⟨b1, b2, _⟩ := settle_fix 100 (n.alg.size - 1).toNat 0 y (by omega) (fix y hy)
  refine ⟨a1, by omega, by omega, ?_⟩
  have := iter_same hc hs (settle_in hn (f := 100) (k := 0) hx) (settle_in hn (f := 100) (k := 0) hy)
  rwa [iter_fix _ a1, iter_fix _ b1] at this
end
end Go.Proofs.Ytephecognbbaoab
/- Where to: the program's way and the document's find the same: in plain Lean. -/
namespace Go.Proofs.Ytephecognbbaoab
section
variable {n : Net}
/-- As the program finds it. -/
def toL (n : Net) (i j : Int) (has : Int → Int) : Int :=
  if i = j then -1
  else if routeL n i j has n.links = n.alg.size - 1 then -1
  else match (ints n.nodes).find? fun k => decide (0 ≤ edgeOf n i k) && decide (overA n (edgeOf n i k) (has k) = routeL n i j has n.links) with
  | some k => k
  | none => -1
/-- As the document does. -/
def toStep (n : Net) (i : Int) (has : Int → Int) (b : Int × Int) (k : Int) : Int × Int :=
  if 0 ≤ edgeOf n i k then (if bestA n b.1 (overA n (edgeOf n i k) (has k)) ≠ b.1 then (overA n (edgeOf n i k) (has k), k) else b) else b
def toR (n : Net) (i j : Int) (has : Int → Int) : Int := if i = j then -1 else ((ints n.nodes).foldl (toStep n i has) (n.alg.size - 1, -1)).2
theorem edge_in (h : NetIn n) {i k : Int} (he : 0 ≤ edgeOf n i k) : edgeOf n i k < n.alg.edges.length := by
  unfold edgeOf at he ⊢
  cases hfd : n.links.find? fun l => decide (l.fr = i) && decide (l.dst = k) with
  | none => rw [hfd] at he; simp at he
  | some l => exact (h.lnk l (List.mem_of_find?_eq_some hfd)).e1
/-- The table of a state. -/
def tableA (n : Net) (x : List (List Int)) : List (List Int) := (ints n.nodes).map fun i => (ints n.nodes).map fun j => toR n i j fun k => at2 x k j
end
end Go.Proofs.Ytephecognbbaoab
namespace Go.Proofs.Ytephecognbbaoab
/-- What is wrong with a table. -/
def tabErr (n : Net) (t : List (List Int)) : Int :=
  if checkN n ≠ 0 then checkN n
  else if (t.length : Int) ≠ n.nodes ∨ t.any (fun r => decide ((r.length : Int) ≠ n.nodes)) = true then 1
  else if t.any (fun r => r.any fun v => !(decide (v = -1) || inR v 0 (n.nodes - 1))) then 5
  else 0
structure TabIn (n : Net) (t : List (List Int)) : Prop where
  chk : checkN n = 0
  len : (t.length : Int) = n.nodes
  row : ∀ r ∈ t, (r.length : Int) = n.nodes
  val : ∀ r ∈ t, ∀ v ∈ r, v = -1 ∨ (0 ≤ v ∧ v < n.nodes)
/-- A walk by a table. -/
def walkF (t : List (List Int)) (to : Int) : Nat → Int → List Int → List Int × Bool
  | 0, _, out => (out, true)
  | f + 1, at', out => if at' = to then (out, true) else if at2 t at' to < 0 ∨ at2 t at' to ∈ out then (out, false) else walkF t to f (at2 t at' to) (out ++ [at2 t at' to])
/-- Weigh: and is it a path. -/
def weighA (n : Net) : List Int → Int × Bool
  | [] => (0, false)
  | [_] => (0, true)
  | a :: b :: r => if (weighA n (b :: r)).2 = false ∨ edgeOf n a b < 0 then (0, false) else (overA n (edgeOf n a b) (weighA n (b :: r)).1, true)
def weighErr (n : Net) (p : List Int) : Int := if checkN n ≠ 0 then checkN n else if p = [] then 1 else if p.any (fun i => !inR i 0 (n.nodes - 1)) then 5 else if (weighA n p).2 then 0 else 5
def weighV (n : Net) (p : List Int) : Int := if weighErr n p = 0 then (weighA n p).1 else 0
/-- A path without a node twice. -/
structure Path (n : Net) (p : List Int) : Prop where
  rng : ∀ k ∈ p, 0 ≤ k ∧ k < n.nodes
  one : p.Nodup
  ok : (weighA n p).2 = true
/-- From the end on, along links: s is what is behind. -/
def visitF (n : Net) (fr : Int) : Nat → List Int → Int → Int → Int → Int
  | 0, _, _, _, b => b
  | f + 1, s, at', w, b => if at' = fr then bestA n b w else
    n.links.foldl (fun b l => if (decide (l.dst = at') && !decide (l.fr ∈ at' :: s)) = true then visitF n fr f (at' :: s) l.fr (overA n l.edge w) b else b) b
/-- From the beginning on, by nodes. -/
def pathsF (n : Net) (to : Int) : Nat → List Int → Int
  | 0, _ => n.alg.size - 1
  | f + 1, p => if p.getLastD 0 = to then (weighA n p).1 else
    (ints n.nodes).foldl (fun b k => if (decide (0 ≤ edgeOf n (p.getLastD 0) k) && !decide (k ∈ p)) = true then bestA n b (pathsF n to f (p ++ [k])) else b) (n.alg.size - 1)
end Go.Proofs.Ytephecognbbaoab
namespace Go.Proofs.Ytephecognbbaoab
/-- Which nodes have been met. -/
def addK : List Int → Int → List Bool → List Int
  | K, _, [] => K
  | K, i, a :: r => addK (if a = true ∧ i ∉ K then K ++ [i] else K) (i + 1) r
/-- Where all have been met. -/
def endF (n : Net) : List Trn → Int → List Int → Option Int
  | [], e, K => if n.nodes ≤ K.length then some e else none
  | u :: r, e, K => if n.nodes ≤ K.length then some e else endF n r (e + 1) (addK K 0 u.act)
def olderA (n : Net) (u : Trn) (k e : Int) : Bool := n.links.any fun l => at0 u.act l.fr && decide (usedA u k l.fr l.dst < e)
/-- Behind which turn nothing older is used. -/
def doneF (n : Net) (e : Int) : List Trn → Int → Int → Int
  | [], _, d => d
  | u :: r, k, d => doneF n e r (k + 1) (if olderA n u k e then k + 1 else d)
def cycleA (n : Net) (t : List Trn) (fr : Int) : Option Int := (endF n (t.drop fr.toNat) fr []).map fun e => doneF n e (t.drop e.toNat) e e
def cyclesF (n : Net) (t : List Trn) : Nat → Int → Int → Int
  | 0, _, many => many
  | f + 1, fr, many => match cycleA n t fr with
    | none => many
    | some to => cyclesF n t f to (many + 1)
def cyclesA (n : Net) (t : List Trn) : Int := cyclesF n t (t.length + 1) 0 0
/-- A list of met nodes. -/
structure Met (n : Net) (K : List Int) : Prop where
  nd : K.Nodup
  mem : ∀ i ∈ K, 0 ≤ i ∧ i < n.nodes
theorem Met.nil (n : Net) : Met n [] := ⟨List.nodup_nil, fun _ h => by cases h⟩
theorem Met.add {n : Net} {K : List Int} (h : Met n K) {i : Int} (h0 : 0 ≤ i ∧ i < n.nodes) (hi : i ∉ K) : Met n (K ++ [i]) :=
  ⟨List.nodup_append.2 ⟨h.nd, by simp, fun a ha b hb e => by rw [List.mem_singleton.1 hb] at e; exact hi (e ▸ ha)⟩, fun j hj => by
    rcases List.mem_append.1 hj with hj | hj
    · exact h.mem j hj
    · rw [List.mem_singleton.1 hj]; exact h0⟩
end Go.Proofs.Ytephecognbbaoab
namespace Go.Proofs.Ytephecognbbaoab
section
variable {n : Net}
/-- All states of a schedule: where it began, and each made of those before it. -/
structure Sched (n : Net) (t : List Trn) (o : List (List (List Int))) : Prop where
  len : o.length = t.length + 1
  inn : ∀ s ∈ o, RowsIn n s
  step : ∀ k : Int, 0 ≤ k → k < t.length → at0 o (k + 1) = nextT n o k (at0 t k)
/-- Where a row differs from the state that stays, it is of rank m or more. -/
def RowOk (n : Net) (m : Nat) (s y : List (List Int)) (i : Int) : Prop := ∀ j, 0 ≤ j ∧ j < n.nodes → at2 y i j ≠ at2 s i j → m ≤ rank n (at2 y i j) ∧ m ≤ rank n (at2 s i j)
end
end Go.Proofs.Ytephecognbbaoab
