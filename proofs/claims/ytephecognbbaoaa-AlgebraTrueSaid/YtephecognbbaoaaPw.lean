/- Packets as bytes, in plain Lean: what is written is read as it was; a turned byte is found. -/
import Derived.Test.YtephecognbbaoaaLo
namespace Go.Proofs.Ytephecognbbaoaa
open Go
set_option linter.all false

def sumL (n : Int) : List Int → Int
  | [] => n
  | c :: l => sumL ((n * 31 + c) % 65521) l

theorem sumL_bd : ∀ (l : List Int) (n : Int), 0 ≤ n → n < 65521 → 0 ≤ sumL n l ∧ sumL n l < 65521
  | [], n, h, h' => ⟨h, h'⟩
  | c :: l, n, h, h' => sumL_bd l _ (by omega) (by omega)

theorem sumL_app : ∀ (a b : List Int) (n : Int), sumL n (a ++ b) = sumL (sumL n a) b
  | [], b, n => rfl
  | c :: a, b, n => by simp only [List.cons_append, sumL]; exact sumL_app a b _

theorem sumL_inj : ∀ (l : List Int) (n m : Int), 0 ≤ n → n < 65521 → 0 ≤ m → m < 65521 → sumL n l = sumL m l → n = m
  | [], n, m, _, _, _, _, h => h
  | c :: l, n, m, h1, h2, h3, h4, h => by
    have := sumL_inj l _ _ (by omega) (by omega) (by omega) (by omega) h
    omega

def fitsB (n : Int) : Bool := decide (0 ≤ n) && decide (n ≤ 250)

theorem fitsB_iff (n : Int) : fitsB n = true ↔ 0 ≤ n ∧ n ≤ 250 := by simp [fitsB]

structure Packet where
  fr : Int
  dst : Int
  routes : List Int
deriving DecidableEq

def writeL (p : Packet) : List Int × Int :=
  if (p.fr :: p.dst :: p.routes).any fun n => !fitsB n then ([], 3)
  else if 54 < p.routes.length then ([], 2)
  else
    let b := [83, p.fr, p.dst, (p.routes.length : Int)] ++ p.routes
    (b ++ [sumL 1 b / 256, sumL 1 b % 256], 0)

/-- The packet that is to stand in some bytes. -/
def packetAt (s : List Int) : Packet := ⟨at0 s 1, at0 s 2, (s.take (s.length - 2)).drop 4⟩

/-- What the program reads. -/
def readL (s : List Int) : Packet × Int :=
  if 60 < s.length then (⟨0, 0, []⟩, 2)
  else if s.length < 6 ∨ at0 s 3 ≠ s.length - 6 then (⟨0, 0, []⟩, 1)
  else if (writeL (packetAt s)).2 ≠ 0 ∨ (writeL (packetAt s)).1 ≠ s then (⟨0, 0, []⟩, 1)
  else (packetAt s, 0)

/-- What the document says. -/
def readOfL (s : List Int) : Packet × Int :=
  if 60 < s.length then (⟨0, 0, []⟩, 2)
  else if s.length < 6 ∨ at0 s 0 ≠ 83 ∨ at0 s 3 ≠ s.length - 6 ∨ 250 < at0 s 1 ∨ 250 < at0 s 2 then (⟨0, 0, []⟩, 1)
  else if ((s.take (s.length - 2)).drop 4).any (fun c => decide (250 < c)) then (⟨0, 0, []⟩, 1)
  else if sumL 1 (s.take (s.length - 2)) ≠ 256 * at0 s (s.length - 2) + at0 s (s.length - 1) then (⟨0, 0, []⟩, 1)
  else (packetAt s, 0)

theorem at0_app_left {a b : List Int} {k : Int} (h : 0 ≤ k) (h' : k < a.length) : at0 (a ++ b) k = at0 a k := by
  unfold at0
  rw [List.getD_eq_getElem?_getD, List.getD_eq_getElem?_getD, List.getElem?_append_left (by omega)]

theorem at0_app_right {a b : List Int} {k : Int} (h' : (a.length : Int) ≤ k) : at0 (a ++ b) k = at0 b (k - a.length) := by
  unfold at0
  rw [List.getD_eq_getElem?_getD, List.getD_eq_getElem?_getD, List.getElem?_append_right (by omega)]
  congr 2
  omega

/-- Bytes of a packet's length: head, middle, end. -/
theorem split_packet (s : List Int) (h : 6 ≤ s.length) : s = at0 s 0 :: at0 s 1 :: at0 s 2 :: at0 s 3 :: ((s.take (s.length - 2)).drop 4 ++ [at0 s (s.length - 2), at0 s (s.length - 1)]) := by
  have e1 : s = s.take (s.length - 2) ++ s.drop (s.length - 2) := (List.take_append_drop _ _).symm
  have e2 : s.drop (s.length - 2) = [at0 s (s.length - 2), at0 s (s.length - 1)] := by
    have d1 : ((s.length : Int) - 2).toNat = s.length - 2 := by omega
    have := drop_at s (k := (s.length : Int) - 2) (by omega) (by omega)
    rw [d1] at this
    rw [this]
    congr 1
    have e : ((s.length : Int) - 2 + 1) = s.length - 1 := by omega
    rw [e, drop_at s (k := (s.length : Int) - 1) (by omega) (by omega)]
    congr 1
    exact List.drop_of_length_le (by omega)
  obtain ⟨a, b, c, d, r, rfl⟩ : ∃ a b c d r, s = a :: b :: c :: d :: r := by
    match s, h with
    | a :: b :: c :: d :: r, _ => exact ⟨a, b, c, d, r, rfl⟩
  have e3 : (a :: b :: c :: d :: r).take ((a :: b :: c :: d :: r).length - 2) = a :: b :: c :: d :: r.take (r.length - 2) := by
    simp only [List.length_cons] at h ⊢
    have : r.length + 1 + 1 + 1 + 1 - 2 = r.length - 2 + 1 + 1 + 1 + 1 := by omega
    rw [this]
    simp
  rw [e2, e3] at e1
  rw [e3]
  exact e1

theorem read_eq (s : List Int) (hb : ∀ c ∈ s, 0 ≤ c ∧ c ≤ 255) : readL s = readOfL s := by
  unfold readL readOfL
  by_cases h1 : 60 < s.length
  · simp [h1]
  rw [if_neg h1, if_neg h1]
  by_cases h2 : s.length < 6
  · rw [if_pos (.inl h2), if_pos (.inl h2)]
  by_cases h3 : at0 s 3 ≠ s.length - 6
  · rw [if_pos (.inr h3), if_pos (.inr (.inr (.inl h3)))]
  rw [if_neg (by intro h; rcases h with h | h; exact h2 h; exact h3 h)]
  have h3' : at0 s 3 = s.length - 6 := by omega
  have hs := split_packet s (by omega)
  have hw : ∀ k : Int, 0 ≤ k → k < s.length → 0 ≤ at0 s k ∧ at0 s k ≤ 255 := fun k h h' => hb _ (at0_mem s h h')
  have r1 := hw 1 (by omega) (by omega)
  have r2 := hw 2 (by omega) (by omega)
  have re := hw (s.length - 1) (by omega) (by omega)
  have rd := hw (s.length - 2) (by omega) (by omega)
  have hm : ∀ c ∈ (s.take (s.length - 2)).drop 4, 0 ≤ c ∧ c ≤ 255 := fun c hc => hb c (List.mem_of_mem_take (List.mem_of_mem_drop hc))
  have hml : ((s.take (s.length - 2)).drop 4).length = s.length - 6 := by simp; omega
  have hany : ((packetAt s).fr :: (packetAt s).dst :: (packetAt s).routes).any (fun n => !fitsB n) = (decide (250 < at0 s 1) || (decide (250 < at0 s 2) || ((s.take (s.length - 2)).drop 4).any fun c => decide (250 < c))) := by
    have e : ∀ c : Int, 0 ≤ c → (!fitsB c) = decide (250 < c) := fun c hc => by
      by_cases h : 250 < c
      · simp [fitsB, h, show ¬ c ≤ 250 by omega]
      · simp [fitsB, hc, h, show c ≤ 250 by omega]
    simp only [packetAt, List.any_cons, e _ r1.1, e _ r2.1]
    congr 2
    apply List.any_eq.trans
    rw [List.any_eq]
    refine decide_eq_decide.2 ?_
    constructor
    · rintro ⟨x, hx, h⟩; exact ⟨x, hx, by rw [← e x (hm x hx).1]; exact h⟩
    · rintro ⟨x, hx, h⟩; exact ⟨x, hx, by rw [e x (hm x hx).1]; exact h⟩
  by_cases h4 : 250 < at0 s 1 ∨ 250 < at0 s 2
  · rw [if_pos, if_pos]
    · rcases h4 with h | h
      · exact .inr (.inr (.inr (.inl h)))
      · exact .inr (.inr (.inr (.inr h)))
    · refine .inl ?_
      rw [writeL, hany]
      rcases h4 with h | h <;> simp [h]
  rw [not_or] at h4
  by_cases h5 : (((s.take (s.length - 2)).drop 4).any fun c => decide (250 < c)) = true
  · rw [if_pos]
    · by_cases h6 : s.length < 6 ∨ at0 s 0 ≠ 83 ∨ at0 s 3 ≠ s.length - 6 ∨ 250 < at0 s 1 ∨ 250 < at0 s 2
      · rw [if_pos h6]
      · rw [if_neg h6, if_pos h5]
    · refine .inl ?_
      rw [writeL, hany]
      simp [h5]
  have hwr : writeL (packetAt s) = ([83, at0 s 1, at0 s 2, at0 s 3] ++ (s.take (s.length - 2)).drop 4 ++ [sumL 1 ([83, at0 s 1, at0 s 2, at0 s 3] ++ (s.take (s.length - 2)).drop 4) / 256, sumL 1 ([83, at0 s 1, at0 s 2, at0 s 3] ++ (s.take (s.length - 2)).drop 4) % 256], 0) := by
    have hl : ((packetAt s).routes.length : Int) = at0 s 3 := by
      show ((((s.take (s.length - 2)).drop 4).length : Nat) : Int) = _
      rw [hml]; omega
    rw [writeL, hany, if_neg (by simp [h4, h5]), if_neg (by show ¬ 54 < ((s.take (s.length - 2)).drop 4).length; omega)]
    simp only [hl]
    rfl
  rw [hwr]
  have htake : s.take (s.length - 2) = at0 s 0 :: at0 s 1 :: at0 s 2 :: at0 s 3 :: (s.take (s.length - 2)).drop 4 := by
    have e3 : ∀ (l : List Int) (a b c d x y : Int), (a :: b :: c :: d :: (l ++ [x, y])).take ((a :: b :: c :: d :: (l ++ [x, y])).length - 2) = a :: b :: c :: d :: l := by
      intro l a b c d x y
      have : (a :: b :: c :: d :: (l ++ [x, y])).length - 2 = l.length + 1 + 1 + 1 + 1 := by simp
      rw [this]
      simp
    have := e3 ((s.take (s.length - 2)).drop 4) (at0 s 0) (at0 s 1) (at0 s 2) (at0 s 3) (at0 s (s.length - 2)) (at0 s (s.length - 1))
    rw [← hs] at this
    exact this
  by_cases h0 : at0 s 0 = 83
  · rw [if_neg (show ¬ (s.length < 6 ∨ at0 s 0 ≠ 83 ∨ at0 s 3 ≠ s.length - 6 ∨ 250 < at0 s 1 ∨ 250 < at0 s 2) by omega), if_neg h5]
    have hb1 := sumL_bd (s.take (s.length - 2)) 1 (by omega) (by omega)
    have e4 : [83, at0 s 1, at0 s 2, at0 s 3] ++ (s.take (s.length - 2)).drop 4 = s.take (s.length - 2) := by
      rw [← h0]
      exact htake.symm
    rw [e4]
    have e5 : s = s.take (s.length - 2) ++ [at0 s (s.length - 2), at0 s (s.length - 1)] := by
      conv => rhs; rw [htake]
      exact hs
    by_cases h6 : sumL 1 (s.take (s.length - 2)) = 256 * at0 s (s.length - 2) + at0 s (s.length - 1)
    · rw [if_neg, if_neg (by simpa using h6)]
      simp only [ne_eq, not_true_eq_false, false_or, Decidable.not_not]
      conv => rhs; rw [e5]
      congr 2
      · omega
      · congr 1
        omega
    · rw [if_pos, if_pos h6]
      refine .inr fun h => h6 ?_
      have h' : s.take (s.length - 2) ++ [sumL 1 (s.take (s.length - 2)) / 256, sumL 1 (s.take (s.length - 2)) % 256] = s.take (s.length - 2) ++ [at0 s (s.length - 2), at0 s (s.length - 1)] := by rw [← e5]; exact h
      have := List.append_cancel_left h'
      simp only [List.cons.injEq, and_true] at this
      omega
  · rw [if_pos, if_pos (.inr (.inl h0))]
    refine .inr fun h => h0 ?_
    rw [← h]
    rfl

/-- What is read is written as it was. -/
theorem back1 {s : List Int} (h : (readL s).2 = 0) : writeL (readL s).1 = (s, 0) := by
  unfold readL at h ⊢
  split at h
  · cases h
  rename_i h1
  rw [if_neg h1]
  split at h
  · cases h
  rename_i h2
  rw [if_neg h2]
  split at h
  · cases h
  rename_i h3
  rw [if_neg h3]
  rw [not_or, Decidable.not_not, Decidable.not_not] at h3
  exact Prod.ext h3.2 h3.1

theorem writeL_ok {p : Packet} (h : (writeL p).2 = 0) : (∀ c ∈ p.fr :: p.dst :: p.routes, 0 ≤ c ∧ c ≤ 250) ∧ p.routes.length ≤ 54 ∧
    (writeL p).1 = 83 :: p.fr :: p.dst :: (p.routes.length : Int) :: (p.routes ++ [sumL 1 (83 :: p.fr :: p.dst :: (p.routes.length : Int) :: p.routes) / 256, sumL 1 (83 :: p.fr :: p.dst :: (p.routes.length : Int) :: p.routes) % 256]) := by
  unfold writeL at h ⊢
  split at h
  · cases h
  rename_i h1
  split at h
  · cases h
  rename_i h2
  rw [if_neg h1, if_neg h2]
  refine ⟨fun c hc => ?_, by omega, rfl⟩
  rw [← fitsB_iff]
  simp only [Bool.not_eq_true, List.any_eq_false, Bool.not_eq_true, Bool.not_eq_false', Bool.not_eq_eq_eq_not, Bool.not_true, Bool.not_false] at h1
  simpa using h1 c hc

theorem writeL_bytes {p : Packet} (h : (writeL p).2 = 0) : ∀ c ∈ (writeL p).1, 0 ≤ c ∧ c ≤ 255 := by
  obtain ⟨h1, h2, h3⟩ := writeL_ok h
  rw [h3]
  have := sumL_bd (83 :: p.fr :: p.dst :: (p.routes.length : Int) :: p.routes) 1 (by omega) (by omega)
  intro c hc
  simp only [List.mem_cons, List.mem_append, List.not_mem_nil, or_false] at hc
  rcases hc with rfl | rfl | rfl | rfl | hc | rfl | rfl
  · omega
  · have := h1 p.fr (by simp); omega
  · have := h1 p.dst (by simp); omega
  · omega
  · have := h1 c (by simp [hc]); omega
  · omega
  · omega

theorem writeL_length {p : Packet} (h : (writeL p).2 = 0) : (writeL p).1.length = p.routes.length + 6 := by
  rw [(writeL_ok h).2.2]
  simp

theorem writeL_bad {p : Packet} (h : (writeL p).2 ≠ 0) : (writeL p).1 = [] := by
  unfold writeL at h ⊢
  split
  · rfl
  · rename_i h1
    rw [if_neg h1] at h
    split
    · rfl
    · rename_i h2
      rw [if_neg h2] at h
      exact absurd rfl h

/-- What is written is read as it was. -/
theorem back2 {p : Packet} (h : (writeL p).2 = 0) : readL (writeL p).1 = (p, 0) := by
  obtain ⟨h1, h2, h3⟩ := writeL_ok h
  have hl := writeL_length h
  have hp : packetAt (writeL p).1 = p := by
    unfold packetAt
    rw [hl, h3]
    have e : ∀ (l : List Int) (a b c d x y : Int), ((a :: b :: c :: d :: (l ++ [x, y])).take (l.length + 6 - 2)).drop 4 = l := by
      intro l a b c d x y
      have : l.length + 6 - 2 = l.length + 1 + 1 + 1 + 1 := by omega
      rw [this]
      simp
    rw [e]
    rfl
  unfold readL
  rw [hp, if_neg (by omega), if_neg, if_neg (by simp [h])]
  rw [hl, h3]
  simp [at0]

/-- With one byte turned it is read no more. -/
theorem turned {p : Packet} (h : (writeL p).2 = 0) (k : Nat) (c : Int) (hk : k < (writeL p).1.length) (hc : 0 ≤ c ∧ c ≤ 255) (hne : c ≠ (writeL p).1[k]) : (readL ((writeL p).1.set k c)).2 ≠ 0 := by
  obtain ⟨h1, h2, h3⟩ := writeL_ok h
  have hl := writeL_length h
  have hB := writeL_bytes h
  have hT : ∀ x ∈ (writeL p).1.set k c, 0 ≤ x ∧ x ≤ 255 := fun x hx => by
    rcases List.mem_or_eq_of_mem_set hx with hx | rfl
    · exact hB x hx
    · exact hc
  rw [read_eq _ hT]
  have h0 : (readOfL (writeL p).1).2 = 0 := by rw [← read_eq _ hB, back2 h]
  generalize hs : (writeL p).1 = s at *
  intro hbad
  have key : ∀ t : List Int, (readOfL t).2 = 0 → 6 ≤ t.length ∧ at0 t 0 = 83 ∧ at0 t 3 = t.length - 6 ∧ sumL 1 (t.take (t.length - 2)) = 256 * at0 t (t.length - 2) + at0 t (t.length - 1) := by
    intro t ht
    unfold readOfL at ht
    split at ht
    · cases ht
    split at ht
    · cases ht
    split at ht
    · cases ht
    split at ht
    · cases ht
    rename_i g1 g2 g3 g4
    refine ⟨by omega, by omega, by omega, by simpa using g4⟩
  obtain ⟨a1, a2, a3, a4⟩ := key _ h0
  obtain ⟨b1, b2, b3, b4⟩ := key _ hbad
  simp only [List.length_set] at b1 b3 b4
  have hset : ∀ i : Int, 0 ≤ i → i < s.length → at0 (s.set k c) i = if i = k then c else at0 s i := by
    intro i hi hi'
    simp only [at0, List.getD_eq_getElem?_getD]
    rw [List.getElem?_eq_getElem (by simp; omega), List.getElem?_eq_getElem (by omega)]
    simp only [Option.getD_some, List.getElem_set]
    by_cases e : k = i.toNat
    · rw [if_pos e, if_pos (by omega)]
    · rw [if_neg e, if_neg (by omega)]
  have hk0 : s[k] = at0 s k := by
    simp only [at0, Int.toNat_natCast, List.getD_eq_getElem?_getD, List.getElem?_eq_getElem hk, Option.getD_some]
  rw [hk0] at hne
  rw [hset _ (by omega) (by omega)] at b2 b3
  rw [hset _ (by omega) (by omega), hset _ (by omega) (by omega)] at b4
  have hr : ∀ i : Int, 0 ≤ i → i < s.length → 0 ≤ at0 s i ∧ at0 s i ≤ 255 := fun i h h' => hB _ (at0_mem s h h')
  have hx := hr (s.length - 2) (by omega) (by omega)
  have hy := hr (s.length - 1) (by omega) (by omega)
  rcases Nat.lt_or_ge k (s.length - 2) with hlt | hge
  · rw [if_neg (by omega), if_neg (by omega)] at b4
    have e1 : (s.set k c).take (s.length - 2) = s.take k ++ c :: (s.take (s.length - 2)).drop (k + 1) := by
      rw [List.set_eq_take_append_cons_drop, if_pos hk, List.take_append, List.take_take, List.length_take]
      have m1 : min (s.length - 2) k = k := by omega
      have m2 : s.length - 2 - min k s.length = s.length - 2 - k - 1 + 1 := by omega
      rw [m1, m2, List.take_succ_cons, List.drop_take]
      congr 3
    have e2 : s.take (s.length - 2) = s.take k ++ at0 s k :: (s.take (s.length - 2)).drop (k + 1) := by
      conv => lhs; rw [← List.take_append_drop k (s.take (s.length - 2))]
      rw [List.take_take]
      have m1 : min k (s.length - 2) = k := by omega
      rw [m1]
      congr 1
      rw [List.drop_eq_getElem_cons (by simp; omega)]
      congr 1
      rw [List.getElem_take, hk0]
    rw [e1, sumL_app, sumL] at b4
    rw [e2, sumL_app, sumL] at a4
    have hb := sumL_bd (s.take k) 1 (by omega) (by omega)
    have := sumL_inj _ _ _ (by omega) (by omega) (by omega) (by omega) (a4.trans b4.symm)
    have hat := hr k (by omega) (by omega)
    omega
  · have e1 : (s.set k c).take (s.length - 2) = s.take (s.length - 2) := by
      rw [List.take_set_of_le hge]
    rw [e1, a4] at b4
    by_cases hk1 : (s.length : Int) - 1 = k
    · rw [if_neg (by omega), if_pos hk1] at b4
      rw [← hk1] at hne
      omega
    · have hk2 : (s.length : Int) - 2 = k := by omega
      rw [if_pos hk2, if_neg (by omega)] at b4
      rw [← hk2] at hne
      omega
end Go.Proofs.Ytephecognbbaoaa
