/- Engines of routers and mail: what each event makes of one; in plain Lean. -/
import Derived.Test.YtephecognbbaoabZPs
import Derived.Test.YtephecognbbaoabZRd
open Go
set_option linter.all false
set_option maxRecDepth 100000
set_option maxHeartbeats 4000000
namespace Go.Proofs.Ytephecognbbaoab
open Go
set_option linter.all false
structure Rtr where
  routes : List Int
  told : List (List Int)
structure Mail where
  fr : Int
  dst : Int
  bytes : List Int
structure Eng where
  routers : List Rtr
  bag : List Mail
structure Evt where
  kind : Int
  at' : Int
  b : Int
  c : Int
  routes : List Int
instance : Inhabited Rtr := ⟨⟨[], []⟩⟩
instance : Inhabited Mail := ⟨⟨0, 0, []⟩⟩
instance : Inhabited Eng := ⟨⟨[], []⟩⟩
instance : Inhabited Evt := ⟨⟨0, 0, 0, 0, []⟩⟩
/-- What is wrong with a row of routes. -/
def rowErr (n : Net) (l : List Int) : Int := if (l.length : Int) ≠ n.nodes then 1 else if (l.any fun r => !inR r 0 (n.alg.size - 1)) = true then 5 else 0
def formBad (n : Net) (r : Rtr) : Bool := decide ((r.told.length : Int) ≠ n.nodes) || (decide ((r.routes.length : Int) ≠ n.nodes) || r.told.any fun l => decide (l ≠ []) && decide ((l.length : Int) ≠ n.nodes))
def noneBad (n : Net) (r : Rtr) : Bool := decide (rowErr n r.routes = 5) || r.told.any fun l => decide (l ≠ []) && decide (rowErr n l = 5)
def checkE (n : Net) (e : Eng) : Int :=
  if checkN n ≠ 0 then checkN n
  else if (e.routers.length : Int) ≠ n.nodes ∨ e.routers.any (formBad n) = true then 1
  else if e.routers.any (noneBad n) = true then 5
  else if 120 < e.bag.length then 2
  else if (e.bag.any fun m => !inR m.fr 0 (n.nodes - 1) || !inR m.dst 0 (n.nodes - 1)) = true then 5
  else if (e.bag.any fun m => decide (60 < m.bytes.length)) = true then 2
  else 0
structure RtrIn (n : Net) (r : Rtr) : Prop where
  rl : (r.routes.length : Int) = n.nodes
  rv : ∀ v ∈ r.routes, InV n v
  tl : (r.told.length : Int) = n.nodes
  tr : ∀ l ∈ r.told, l = [] ∨ ((l.length : Int) = n.nodes ∧ ∀ v ∈ l, InV n v)
structure MailIn (n : Net) (m : Mail) : Prop where
  fr : 0 ≤ m.fr ∧ m.fr < n.nodes
  dst : 0 ≤ m.dst ∧ m.dst < n.nodes
  len : m.bytes.length ≤ 60
structure EngIn (n : Net) (e : Eng) : Prop where
  len : (e.routers.length : Int) = n.nodes
  rtr : ∀ r ∈ e.routers, RtrIn n r
  bag : e.bag.length ≤ 120
  mail : ∀ m ∈ e.bag, MailIn n m
section
variable {n : Net}
theorem rowErr_zero {l : List Int} : rowErr n l = 0 ↔ (l.length : Int) = n.nodes ∧ ∀ v ∈ l, InV n v := by
  unfold rowErr
  by_cases h : (l.length : Int) = n.nodes
  · rw [if_neg (not_not_intro h)]
    by_cases h2 : (l.any fun r => !inR r 0 (n.alg.size - 1)) = true
    · rw [if_pos h2]
      refine ⟨fun h => (by cases h), fun ⟨_, h3⟩ => ?_⟩
      obtain ⟨v, hv, h4⟩ := List.any_eq_true.1 h2
      have := not_inR.1 h4
      have := h3 v hv
      unfold InV at this
      omega
    · rw [if_neg h2]
      refine ⟨fun _ => ⟨h, fun v hv => ?_⟩, fun _ => rfl⟩
      have h3 : inR v 0 (n.alg.size - 1) = true := by
        apply Classical.byContradiction
        intro hc
        exact h2 (List.any_eq_true.2 ⟨v, hv, by simpa using hc⟩)
      have := inR_iff.1 h3
      unfold InV
      omega
  · rw [if_pos h]
    exact ⟨fun h => (by cases h), fun h2 => absurd h2.1 h⟩
theorem rowErr_len {l : List Int} : (l.length : Int) ≠ n.nodes ↔ rowErr n l = 1 := by
  unfold rowErr
  constructor
  · intro h; rw [if_pos h]
  · intro h hc
    rw [if_neg (not_not_intro hc)] at h
    split at h <;> cases h
theorem rowErr_cases (n : Net) (l : List Int) : rowErr n l = 0 ∨ rowErr n l = 1 ∨ rowErr n l = 5 := by
  unfold rowErr
  split
  · exact .inr (.inl rfl)
  · split
    · exact .inr (.inr rfl)
    · exact .inl rfl
theorem rtrIn_iff {r : Rtr} : formBad n r = false ∧ noneBad n r = false ↔ RtrIn n r := by
  unfold formBad noneBad
  simp only [Bool.or_eq_false_iff, decide_eq_false_iff_not, List.any_eq_false, Bool.and_eq_true, decide_eq_true_eq, not_and, Decidable.not_not, ne_eq]
  constructor
  · rintro ⟨⟨h1, h2, h3⟩, h4, h5⟩
    have h6 : rowErr n r.routes = 0 := by
      rcases rowErr_cases n r.routes with h | h | h
      · exact h
      · exact absurd h2 (rowErr_len.2 h)
      · exact absurd h h4
    refine ⟨h2, (rowErr_zero.1 h6).2, h1, fun l hl => ?_⟩
    by_cases e : l = []
    · exact .inl e
    · refine .inr ?_
      rcases rowErr_cases n l with h | h | h
      · exact rowErr_zero.1 h
      · exact absurd (h3 l hl e) (rowErr_len.2 h)
      · exact absurd h (h5 l hl e)
  · intro h
    have h0 := rowErr_zero.2 ⟨h.rl, h.rv⟩
    refine ⟨⟨h.tl, h.rl, fun l hl e => ((h.tr l hl).resolve_left e).1⟩, by rw [h0]; decide, fun l hl e => ?_⟩
    rw [rowErr_zero.2 ((h.tr l hl).resolve_left e)]
    decide
theorem engIn_of {e : Eng} (h : checkE n e = 0) : checkN n = 0 ∧ EngIn n e := by
  unfold checkE at h
  by_cases h0 : checkN n = 0
  · refine ⟨h0, ?_⟩
    rw [if_neg (not_not_intro h0)] at h
    split at h
    · cases h
    rename_i h1
    split at h
    · cases h
    rename_i h2
    split at h
    · cases h
    rename_i h3
    split at h
    · cases h
    rename_i h4
    split at h
    · cases h
    rename_i h5
    rw [not_or, Decidable.not_not, Bool.not_eq_true, List.any_eq_false] at h1
    rw [Bool.not_eq_true, List.any_eq_false] at h2 h4 h5
    refine ⟨h1.1, fun r hr => rtrIn_iff.1 ⟨by simpa using h1.2 r hr, by simpa using h2 r hr⟩, by omega, fun m hm => ?_⟩
    have h6 := h4 m hm
    have h7 := h5 m hm
    rw [Bool.not_eq_true, Bool.or_eq_false_iff, Bool.not_eq_false', Bool.not_eq_false'] at h6
    have a := inR_iff.1 h6.1
    have b := inR_iff.1 h6.2
    refine ⟨by omega, by omega, ?_⟩
    simpa using h7
  · rw [if_pos h0] at h
    exact absurd h h0
theorem check_of {e : Eng} (h0 : checkN n = 0) (h : EngIn n e) : checkE n e = 0 := by
  unfold checkE
  rw [if_neg (not_not_intro h0), if_neg, if_neg, if_neg, if_neg, if_neg]
  · rw [Bool.not_eq_true, List.any_eq_false]
    intro m hm
    have := (h.mail m hm).len
    rw [decide_eq_true_eq]
    omega
  · rw [Bool.not_eq_true, List.any_eq_false]
    intro m hm
    have a := (h.mail m hm).fr
    have b := (h.mail m hm).dst
    rw [Bool.not_eq_true, Bool.or_eq_false_iff, Bool.not_eq_false', Bool.not_eq_false', inR_iff, inR_iff]
    omega
  · have := h.bag
    omega
  · rw [Bool.not_eq_true, List.any_eq_false]
    intro r hr
    rw [(rtrIn_iff.2 (h.rtr r hr)).2]
    decide
  · rw [not_or, Decidable.not_not, Bool.not_eq_true, List.any_eq_false]
    refine ⟨h.len, fun r hr => ?_⟩
    rw [(rtrIn_iff.2 (h.rtr r hr)).1]
    decide
/-- What a router was told, as it counts. -/
def toldAt (n : Net) (r : Rtr) (to j : Int) : Int := if at0 r.told to = [] then n.alg.size - 1 else at2 r.told to j
/-- What it looks at makes these routes. -/
def lookE (n : Net) (r : Rtr) (i : Int) : List Int := (ints n.nodes).map fun j => routeL n i j (fun to => toldAt n r to j) n.links
def setR (e : Eng) (i : Int) (r : Rtr) : Eng := ⟨e.routers.set i.toNat r, e.bag⟩
def lookedR (n : Net) (r : Rtr) (i : Int) : Rtr := ⟨lookE n r i, r.told⟩
def lookedE (n : Net) (e : Eng) (i : Int) : Eng := setR e i (lookedR n (at0 e.routers i) i)
def hearsA (n : Net) (i : Int) : List Int := (ints n.nodes).filter fun k => decide (0 ≤ edgeOf n k i)
def mailA (l : List Int) (i k : Int) : Mail := ⟨i, k, (writeL ⟨i, k, l⟩).1⟩
def tickE (n : Net) (e : Eng) (i : Int) : Eng × Int :=
  if 120 < e.bag.length + (hearsA n i).length then (e, 2) else (⟨(lookedE n e i).routers, e.bag ++ (hearsA n i).map (mailA (lookE n (at0 e.routers i) i) i)⟩, 0)
def dropE (e : Eng) (k : Int) : Eng := ⟨e.routers, e.bag.eraseIdx k.toNat⟩
def takesB (n : Net) (m : Mail) : Bool :=
  decide ((readL m.bytes).2 = 0) && (decide ((readL m.bytes).1.fr = m.fr) && (decide ((readL m.bytes).1.dst = m.dst) && (decide (rowErr n (readL m.bytes).1.routes = 0) && decide (0 ≤ edgeOf n m.dst m.fr))))
def toldR (r : Rtr) (k : Int) (l : List Int) : Rtr := ⟨r.routes, r.told.set k.toNat l⟩
def takeE (n : Net) (e : Eng) (m : Mail) : Eng := if takesB n m = true then lookedE n (setR e m.dst (toldR (at0 e.routers m.dst) m.fr (readL m.bytes).1.routes)) m.dst else e
def deliverE (n : Net) (e : Eng) (k : Int) : Eng := takeE n (dropE e k) (at0 e.bag k)
/-- A byte with some bits turned. -/
def xorB (a c : Int) : Int := IntKind.u8.wrap (BitVec.ofInt 8 a ^^^ BitVec.ofInt 8 c).toNat
def spoilM (m : Mail) (b c : Int) : Mail := ⟨m.fr, m.dst, m.bytes.set b.toNat (xorB (at0 m.bytes b) c)⟩
def spoilE (e : Eng) (v : Evt) : Eng × Int :=
  if !inR v.b 0 ((at0 e.bag v.at').bytes.length - 1) || !inR v.c 1 255 then (e, 3) else (⟨e.routers, e.bag.set v.at'.toNat (spoilM (at0 e.bag v.at') v.b v.c)⟩, 0)
def freshR (n : Net) (l : List Int) : Rtr := ⟨l, List.replicate n.nodes.toNat []⟩
def stepE (n : Net) (e : Eng) (v : Evt) : Eng × Int :=
  if !inR v.kind 1 7 then (e, 7)
  else if inR v.kind 2 5 = true then
    (if !inR v.at' 0 (e.bag.length - 1) then (e, 5)
     else if v.kind = 2 then (deliverE n e v.at', 0)
     else if v.kind = 3 then (if e.bag.length = 120 then (e, 2) else (⟨e.routers, e.bag ++ [at0 e.bag v.at']⟩, 0))
     else if v.kind = 4 then (dropE e v.at', 0)
     else spoilE e v)
  else if !inR v.at' 0 (n.nodes - 1) then (e, 5)
  else if v.kind = 1 then tickE n e v.at'
  else if v.kind = 6 then (if !inR v.b 0 (n.nodes - 1) then (e, 5) else (lookedE n (setR e v.at' (toldR (at0 e.routers v.at') v.b [])) v.at', 0))
  else if rowErr n v.routes ≠ 0 then (e, rowErr n v.routes) else (setR e v.at' (freshR n v.routes), 0)
def newE (n : Net) : Eng := ⟨(beginA n).map (freshR n), []⟩
def playF (n : Net) : List Evt → Int → Eng → Eng × Int
  | [], k, e => (e, k)
  | v :: r, k, e => if (stepE n e v).2 ≠ 0 then (e, k) else playF n r (k + 1) (stepE n e v).1
/-- All mail that is on its way comes. -/
def comeF (n : Net) : List Mail → Eng → Eng
  | [], e => e
  | m :: r, e => comeF n r (takeE n ⟨e.routers, r⟩ m)
def comeE (n : Net) (e : Eng) : Eng := comeF n e.bag e
def ticksE (n : Net) (e : Eng) : Eng := (ints n.nodes).foldl (fun e i => (tickE n e i).1) e
def calmF (n : Net) : Nat → Eng → Eng
  | 0, e => e
  | f + 1, e => calmF n f (comeE n (ticksE n e))
def calmE (n : Net) (e : Eng) (rounds : Int) : Eng := calmF n rounds.toNat (comeE n e)
theorem at0_setG {X : Type} [Inhabited X] (l : List X) {k q : Int} (v : X) (h0 : 0 ≤ k) (hq : 0 ≤ q) (h : k < l.length) : at0 (l.set k.toNat v) q = if q = k then v else at0 l q := by
  simp only [at0, List.getD_eq_getElem?_getD, List.getElem?_set]
  by_cases e : q = k
  · subst e
    have : q.toNat < l.length := by omega
    simp [this]
  · have : ¬ k.toNat = q.toNat := by omega
    simp [this, e]
theorem mem_setG {X : Type} {l : List X} {k : Nat} {v x : X} (h : x ∈ l.set k v) : x ∈ l ∨ x = v := List.mem_or_eq_of_mem_set h
theorem toldAt_in (hn : NetIn n) {r : Rtr} (hr : RtrIn n r) {to j : Int} (ht : 0 ≤ to ∧ to < n.nodes) (hj : 0 ≤ j ∧ j < n.nodes) : InV n (toldAt n r to j) := by
  unfold toldAt
  split
  · exact inv_in hn
  · rename_i h
    have hm := at0_mem r.told ht.1 (by have := hr.tl; omega)
    obtain ⟨h1, h2⟩ := (hr.tr _ hm).resolve_left h
    exact h2 _ (at0_mem _ hj.1 (by omega))
theorem lookE_len (n : Net) (r : Rtr) (i : Int) : (lookE n r i).length = n.nodes.toNat := by rw [lookE, List.length_map, ints_length]
theorem lookE_in (hc : checkN n = 0) {r : Rtr} (hr : RtrIn n r) (i : Int) : ∀ v ∈ lookE n r i, InV n v := by
  intro v hv
  obtain ⟨j, hj, rfl⟩ := List.mem_map.1 hv
  have hj := mem_ints.1 hj
  exact routeL_in hc i j _ fun k h0 h1 => toldAt_in (netIn_of hc) hr ⟨h0, h1⟩ hj
theorem lookedR_in (hc : checkN n = 0) {r : Rtr} (hr : RtrIn n r) (i : Int) : RtrIn n (lookedR n r i) := by
  have h1 := (netIn_of hc).n1
  exact ⟨by rw [lookedR, lookE_len]; omega, lookE_in hc hr i, hr.tl, hr.tr⟩
theorem setR_in {e : Eng} (h : EngIn n e) {r : Rtr} (hr : RtrIn n r) (i : Int) : EngIn n (setR e i r) :=
  ⟨by rw [setR, List.length_set]; exact h.len, fun x hx => by
    rcases mem_setG hx with hx | rfl
    · exact h.rtr x hx
    · exact hr, h.bag, h.mail⟩
theorem rtr_at {e : Eng} (h : EngIn n e) {i : Int} (hi : 0 ≤ i ∧ i < n.nodes) : RtrIn n (at0 e.routers i) := h.rtr _ (at0_mem _ hi.1 (by have := h.len; omega))
theorem lookedE_in (hc : checkN n = 0) {e : Eng} (h : EngIn n e) {i : Int} (hi : 0 ≤ i ∧ i < n.nodes) : EngIn n (lookedE n e i) := setR_in h (lookedR_in hc (rtr_at h hi) i) i
theorem toldR_in {r : Rtr} (hr : RtrIn n r) {l : List Int} (hl : l = [] ∨ ((l.length : Int) = n.nodes ∧ ∀ v ∈ l, InV n v)) (k : Int) : RtrIn n (toldR r k l) :=
  ⟨hr.rl, hr.rv, by rw [toldR, List.length_set]; exact hr.tl, fun x hx => by
    rcases mem_setG hx with hx | rfl
    · exact hr.tr x hx
    · exact hl⟩
theorem freshR_in {l : List Int} (h1 : 1 ≤ n.nodes) (hl : (l.length : Int) = n.nodes) (hv : ∀ v ∈ l, InV n v) : RtrIn n (freshR n l) :=
  ⟨hl, hv, by rw [freshR, List.length_replicate]; omega, fun x hx => .inl (List.eq_of_mem_replicate hx)⟩
theorem dropE_in {e : Eng} (h : EngIn n e) (k : Int) : EngIn n (dropE e k) :=
  ⟨h.len, h.rtr, Nat.le_trans (by unfold dropE; rw [List.length_eraseIdx]; split <;> omega) h.bag, fun m hm => h.mail m (List.mem_of_mem_eraseIdx hm)⟩
theorem takes_iff {m : Mail} : takesB n m = true ↔ (readL m.bytes).2 = 0 ∧ (readL m.bytes).1.fr = m.fr ∧ (readL m.bytes).1.dst = m.dst ∧ rowErr n (readL m.bytes).1.routes = 0 ∧ 0 ≤ edgeOf n m.dst m.fr := by
  unfold takesB
  simp only [Bool.and_eq_true, decide_eq_true_eq]
theorem takeE_in (hc : checkN n = 0) {e : Eng} (h : EngIn n e) {m : Mail} (hm : MailIn n m) : EngIn n (takeE n e m) := by
  unfold takeE
  split
  · rename_i ht
    obtain ⟨_, _, _, h4, _⟩ := takes_iff.1 ht
    exact lookedE_in hc (setR_in h (toldR_in (rtr_at h hm.dst) (.inr (rowErr_zero.1 h4)) _) _) hm.dst
  · exact h
theorem hears_len (hn : NetIn n) (i : Int) : (hearsA n i).length ≤ 6 := by
  have h1 : (hearsA n i).length ≤ (ints n.nodes).length := List.length_filter_le _ _
  rw [ints_length] at h1
  have := hn.n6
  omega
theorem hears_mem {i k : Int} : k ∈ hearsA n i ↔ (0 ≤ k ∧ k < n.nodes) ∧ 0 ≤ edgeOf n k i := by
  rw [hearsA, List.mem_filter, mem_ints, decide_eq_true_eq]
/-- What a node tells can be written. -/
theorem mail_ok (hn : NetIn n) {l : List Int} (hl : (l.length : Int) = n.nodes) (hv : ∀ v ∈ l, InV n v) {i k : Int} (hi : 0 ≤ i ∧ i < n.nodes) (hk : 0 ≤ k ∧ k < n.nodes) : (writeL ⟨i, k, l⟩).2 = 0 := by
  have n6 := hn.n6
  have s24 := hn.alg.s24
  unfold writeL
  rw [if_neg, if_neg]
  · show ¬ 54 < l.length
    omega
  · rw [Bool.not_eq_true, List.any_eq_false]
    intro c hcm
    have : 0 ≤ c ∧ c ≤ 250 := by
      rcases List.mem_cons.1 hcm with e | hcm
      · have e : c = i := e
        omega
      · rcases List.mem_cons.1 hcm with e | hcm
        · have e : c = k := e
          omega
        · have := hv c hcm
          unfold InV at this
          omega
    rw [(fitsB_iff c).2 this]
    decide
theorem mail_in (hn : NetIn n) {l : List Int} (hl : (l.length : Int) = n.nodes) (hv : ∀ v ∈ l, InV n v) {i k : Int} (hi : 0 ≤ i ∧ i < n.nodes) (hk : 0 ≤ k ∧ k < n.nodes) : MailIn n (mailA l i k) := by
  refine ⟨hi, hk, ?_⟩
  have h1 : (mailA l i k).bytes.length = l.length + 6 := writeL_length (mail_ok hn hl hv hi hk)
  have := hn.n6
  omega
theorem tickE_in (hc : checkN n = 0) {e : Eng} (h : EngIn n e) {i : Int} (hi : 0 ≤ i ∧ i < n.nodes) : EngIn n (tickE n e i).1 := by
  unfold tickE
  split
  · exact h
  · rename_i hlt
    have hl := lookedE_in hc h hi
    have hn := netIn_of hc
    have n1 := hn.n1
    refine ⟨hl.len, hl.rtr, by rw [List.length_append, List.length_map]; omega, fun m hm => ?_⟩
    rcases List.mem_append.1 hm with hm | hm
    · exact h.mail m hm
    · obtain ⟨k, hk, rfl⟩ := List.mem_map.1 hm
      exact mail_in hn (by rw [lookE_len]; omega) (lookE_in hc (rtr_at h hi) i) hi (hears_mem.1 hk).1
theorem step_in (hc : checkN n = 0) {e : Eng} (h : EngIn n e) (v : Evt) : EngIn n (stepE n e v).1 := by
  have hn := netIn_of hc
  have n1 := hn.n1
  unfold stepE
  split
  · exact h
  split
  · split
    · exact h
    rename_i ha
    have ha : inR v.at' 0 (e.bag.length - 1) = true := by simpa using ha
    have ha := inR_iff.1 ha
    have hm := at0_mem e.bag ha.1 (by omega)
    split
    · exact takeE_in hc (dropE_in h _) (h.mail _ hm)
    split
    · split
      · exact h
      · refine ⟨h.len, h.rtr, ?_, fun m hm2 => ?_⟩
        · have := h.bag
          rw [List.length_append, List.length_singleton]
          omega
        · rcases List.mem_append.1 hm2 with hm2 | hm2
          · exact h.mail m hm2
          · rw [List.mem_singleton.1 hm2]
            exact h.mail _ hm
    split
    · exact dropE_in h _
    · unfold spoilE
      split
      · exact h
      · refine ⟨h.len, h.rtr, by rw [List.length_set]; exact h.bag, fun m hm2 => ?_⟩
        rcases mem_setG hm2 with hm2 | rfl
        · exact h.mail m hm2
        · have q := h.mail _ hm
          exact ⟨q.fr, q.dst, by unfold spoilM; rw [List.length_set]; exact q.len⟩
  split
  · exact h
  rename_i ha
  have ha : inR v.at' 0 (n.nodes - 1) = true := by simpa using ha
  have ha := inR_iff.1 ha
  have hat : 0 ≤ v.at' ∧ v.at' < n.nodes := by omega
  split
  · exact tickE_in hc h hat
  split
  · split
    · exact h
    · exact lookedE_in hc (setR_in h (toldR_in (rtr_at h hat) (.inl rfl) _) _) hat
  · split
    · exact h
    · rename_i h9
      rw [Decidable.not_not] at h9
      exact setR_in h (freshR_in n1 (rowErr_zero.1 h9).1 (rowErr_zero.1 h9).2) _
end
end Go.Proofs.Ytephecognbbaoab
namespace Go.Proofs.Ytephecognbbaoab
theorem u8_in {x : Int} (h : 0 ≤ x) (h' : x ≤ 255) : IntKind.u8.wrap x = x := by
  have e : (2 : Int) ^ IntKind.u8.bits = 256 := rfl
  simp [IntKind.wrap, IntKind.signed, e]
  omega
theorem xorB_eq {a c : Int} : xorB a c = ((BitVec.ofInt 8 a ^^^ BitVec.ofInt 8 c).toNat : Int) := by
  have h : (BitVec.ofInt 8 a ^^^ BitVec.ofInt 8 c).toNat < 256 := BitVec.isLt _
  unfold xorB
  exact u8_in (by omega) (by omega)
theorem xorB_rng (a c : Int) : 0 ≤ xorB a c ∧ xorB a c ≤ 255 := by
  rw [xorB_eq]
  have h : (BitVec.ofInt 8 a ^^^ BitVec.ofInt 8 c).toNat < 256 := BitVec.isLt _
  omega
theorem xorB_ne {a c : Int} (ha : 0 ≤ a ∧ a ≤ 255) (hc : 1 ≤ c ∧ c ≤ 255) : xorB a c ≠ a := by
  rw [xorB_eq]
  intro h
  have h1 : (BitVec.ofInt 8 a).toNat = a.toNat := by rw [BitVec.toNat_ofInt]; omega
  have h2 : (BitVec.ofInt 8 c).toNat = c.toNat := by rw [BitVec.toNat_ofInt]; omega
  have h3 : BitVec.ofInt 8 a ^^^ BitVec.ofInt 8 c = BitVec.ofInt 8 a := BitVec.eq_of_toNat_eq (by rw [h1]; omega)
  have h4 : BitVec.ofInt 8 c = 0#8 := by
    have := congrArg (fun x => BitVec.ofInt 8 a ^^^ x) h3
    simp only [← BitVec.xor_assoc, BitVec.xor_self, BitVec.zero_xor] at this
    exact this
  rw [h4] at h2
  simp at h2
  omega
/-- As the document counts it: each bit that one of both has, but not both. -/
def xsN (a b : Nat) : Nat → Nat
  | 0 => 0
  | k + 1 => xsN a b k + if a / 2 ^ k % 2 = b / 2 ^ k % 2 then 0 else 2 ^ k
section
variable {n : Net}
theorem spoilt (hc : checkN n = 0) {e : Eng} (h : EngIn n e) {a : Int} (ha : 0 ≤ a ∧ a < n.nodes) (he : (tickE n e a).2 = 0) (hne : (tickE n e a).1.bag.length ≠ e.bag.length) :
    ((at0 (tickE n e a).1.bag e.bag.length).bytes.length : Int) = n.nodes + 6 ∧ (∀ v ∈ (at0 (tickE n e a).1.bag e.bag.length).bytes, 0 ≤ v ∧ v ≤ 255) ∧
    ∀ b c : Int, 0 ≤ b → b < n.nodes + 6 → 1 ≤ c → c ≤ 255 →
      (stepE n (tickE n e a).1 ⟨5, e.bag.length, b, c, []⟩).2 = 0 ∧
      (stepE n (stepE n (tickE n e a).1 ⟨5, e.bag.length, b, c, []⟩).1 ⟨2, e.bag.length, 0, 0, []⟩).2 = 0 ∧
      (stepE n (stepE n (tickE n e a).1 ⟨5, e.bag.length, b, c, []⟩).1 ⟨2, e.bag.length, 0, 0, []⟩).1.routers = (tickE n e a).1.routers := by
  have hn := netIn_of hc
  have n1 := hn.n1
  have n6 := hn.n6
  obtain ⟨L, hL⟩ : ∃ L, lookE n (at0 e.routers a) a = L := ⟨_, rfl⟩
  have hLl : (L.length : Int) = n.nodes := by rw [← hL, lookE_len]; omega
  have hLv : ∀ v ∈ L, InV n v := by rw [← hL]; exact lookE_in hc (rtr_at h ha) a
  unfold tickE at he hne ⊢
  split at he
  · cases he
  rename_i hlt
  rw [if_neg hlt] at hne ⊢
  rw [hL] at hne ⊢
  simp only at hne ⊢
  rw [List.length_append, List.length_map] at hne
  rcases hh : hearsA n a with _ | ⟨k, r⟩
  · rw [hh] at hne; simp at hne
  have hk : 0 ≤ k ∧ k < n.nodes := (hears_mem.1 (by rw [hh]; simp : k ∈ hearsA n a)).1
  have hok := mail_ok hn hLl hLv ha hk
  rw [List.map_cons]
  obtain ⟨B, hB⟩ : ∃ B, e.bag ++ mailA L a k :: r.map (mailA L a) = B := ⟨_, rfl⟩
  have hat : at0 B (e.bag.length : Int) = mailA L a k := by
    rw [← hB]
    simp [at0, List.getD_eq_getElem?_getD]
  have hBl : e.bag.length < B.length := by rw [← hB]; simp
  rw [hB, hat]
  have hlen : (mailA L a k).bytes.length = L.length + 6 := writeL_length hok
  have hby := writeL_bytes hok
  refine ⟨by rw [hlen]; omega, hby, fun b c hb0 hb1 hc0 hc1 => ?_⟩
  have hs5 : stepE n ⟨(lookedE n e a).routers, B⟩ ⟨5, e.bag.length, b, c, []⟩ = (⟨(lookedE n e a).routers, B.set e.bag.length (spoilM (mailA L a k) b c)⟩, 0) := by
    unfold stepE
    simp only
    rw [if_neg (by decide), if_pos (by decide), if_neg, if_neg (by decide), if_neg (by decide), if_neg (by decide)]
    · unfold spoilE
      simp only
      rw [hat, if_neg]
      · rfl
      · rw [Bool.or_eq_true, not_inR, not_inR, hlen]
        omega
    · rw [not_inR]
      omega
  rw [hs5]
  simp only
  have hl2 : e.bag.length < (B.set e.bag.length (spoilM (mailA L a k) b c)).length := by rw [List.length_set]; exact hBl
  have hat2 : at0 (B.set e.bag.length (spoilM (mailA L a k) b c)) (e.bag.length : Int) = spoilM (mailA L a k) b c := by
    have := at0_setG B (k := (e.bag.length : Int)) (q := (e.bag.length : Int)) (spoilM (mailA L a k) b c) (by omega) (by omega) (by omega)
    rw [if_pos rfl] at this
    exact this
  have hbad : (readL (spoilM (mailA L a k) b c).bytes).2 ≠ 0 := by
    have hbn : b.toNat < (writeL ⟨a, k, L⟩).1.length := by
      show b.toNat < (mailA L a k).bytes.length
      omega
    have hx := at0_mem (writeL ⟨a, k, L⟩).1 (k := b) hb0 (by omega)
    have hold := hby _ hx
    refine turned hok b.toNat _ hbn (xorB_rng _ _) ?_
    have e1 : (writeL ⟨a, k, L⟩).1[b.toNat] = at0 (writeL ⟨a, k, L⟩).1 b := by
      unfold at0
      rw [List.getD_eq_getElem?_getD, List.getElem?_eq_getElem hbn]
      rfl
    rw [e1]
    exact xorB_ne hold ⟨hc0, hc1⟩
  have hs2 : stepE n ⟨(lookedE n e a).routers, B.set e.bag.length (spoilM (mailA L a k) b c)⟩ ⟨2, e.bag.length, 0, 0, []⟩ = (⟨(lookedE n e a).routers, (B.set e.bag.length (spoilM (mailA L a k) b c)).eraseIdx e.bag.length⟩, 0) := by
    unfold stepE
    simp only
    rw [if_neg (by decide), if_pos (by decide), if_neg, if_pos (by decide)]
    · unfold deliverE takeE
      simp only
      rw [hat2, if_neg]
      · rfl
      · rw [takes_iff]
        exact fun h => hbad h.1
    · rw [not_inR]
      omega
  rw [hs2]
  exact ⟨trivial, rfl, rfl⟩
/-- A row of routes of i that differs from the state that stays at rank m or more alone. -/
def Good (n : Net) (m : Nat) (s : List (List Int)) (i : Int) (f : Int → Int) : Prop := ∀ j, 0 ≤ j ∧ j < n.nodes → f j ≠ at2 s i j → m ≤ rank n (f j) ∧ m ≤ rank n (at2 s i j)
theorem Good.zero {s : List (List Int)} {i : Int} {f : Int → Int} : Good n 0 s i f := fun _ _ _ => ⟨Nat.zero_le _, Nat.zero_le _⟩
theorem Good.less {m m' : Nat} (hm : m' ≤ m) {s : List (List Int)} {i : Int} {f : Int → Int} (h : Good n m s i f) : Good n m' s i f := fun j hj hne => ⟨Nat.le_trans hm (h j hj hne).1, Nat.le_trans hm (h j hj hne).2⟩
/-- What all were told along links is good. -/
def ToldG (n : Net) (m : Nat) (s : List (List Int)) (e : Eng) : Prop := ∀ l ∈ n.links, Good n m s l.dst (toldAt n (at0 e.routers l.fr) l.dst)
def RoutesG (n : Net) (m : Nat) (s : List (List Int)) (e : Eng) : Prop := ∀ i, 0 ≤ i ∧ i < n.nodes → Good n m s i (at0 (at0 e.routers i).routes)
/-- Mail that will be taken tells what is good. -/
def MailG (n : Net) (m : Nat) (s : List (List Int)) (x : Mail) : Prop := takesB n x = true → Good n m s x.fr (at0 (readL x.bytes).1.routes)
variable {s : List (List Int)}
/-- What a link tells is as good as the mail, or there is mail on its way. -/
def Sent (n : Net) (m : Nat) (s : List (List Int)) (bag : List Mail) (e : Eng) : Prop := ∀ l ∈ n.links, Good n m s l.dst (toldAt n (at0 e.routers l.fr) l.dst) ∨ ∃ x ∈ bag, x.fr = l.dst ∧ x.dst = l.fr ∧ takesB n x = true
def routesOf (e : Eng) : List (List Int) := e.routers.map (·.routes)
end
end Go.Proofs.Ytephecognbbaoab
namespace Go.Proofs.Ytephecognbbaoab
def rtrC (r : Rtr) : List AV := [intsA r.routes, rowsC r.told]
def mailC (m : Mail) : List AV := [intA1 m.fr, intA1 m.dst, .c (.string (strOfNums m.bytes))]
def engC (e : Eng) : List AV := [.sl (e.routers.map rtrC), .sl (e.bag.map mailC)]
attribute [go_sem] rtrC mailC engC
theorem rtrC_len (l : List Rtr) : (∀ e', e' ∈ l.map rtrC → e'.length = 2) = True := len_map (f := rtrC) (fun _ => rfl) l
theorem rtrC_one (l : List Rtr) : (∀ e', e' ∈ l.map rtrC → e'.all oneA = true) = True := one_map (f := rtrC) (fun _ => rfl) l
theorem mailC_len (l : List Mail) : (∀ e', e' ∈ l.map mailC → e'.length = 3) = True := len_map (f := mailC) (fun _ => rfl) l
theorem mailC_one (l : List Mail) : (∀ e', e' ∈ l.map mailC → e'.all oneA = true) = True := one_map (f := mailC) (fun _ => rfl) l
attribute [go_sem] rtrC_len rtrC_one mailC_len mailC_one
/-- What is known of an engine that came in. -/
structure RtrOk (r : Rtr) : Prop where
  rl : r.routes.length ≤ 17592186044000
  tl : r.told.length ≤ 5864062014634
  tr : ∀ l ∈ r.told, l.length ≤ 17592186044000
structure MailOk (m : Mail) : Prop where
  fr : I64 m.fr
  dst : I64 m.dst
  len : m.bytes.length ≤ 140737488351232
  rng : ∀ c ∈ m.bytes, 0 ≤ c ∧ c ≤ 255
structure EngOk (e : Eng) : Prop where
  rl : e.routers.length ≤ 2932031007317
  rtr : ∀ r ∈ e.routers, RtrOk r
  bl : e.bag.length ≤ 4398046510980
  mail : ∀ m ∈ e.bag, MailOk m
theorem row1_calls (n : Net) (v : Int) (hx : I64 (n.alg.size - 1)) (σ : Store) : ACalls Try.prog 189 [intA1 v, .cp (netC n) 0] σ fun r σ' => σ' = σ ∧ r = .c (.bool (!inR v 0 (n.alg.size - 1))) := by
  have hI := is_calls n.alg v hx
  refine ACalls_of_awp Try.func189 rfl Try.results189 ?_
  simp only [List.length_cons, List.length_nil, Try.ntmps189, Nat.reduceAdd, Nat.reduceSub, enterA]
  (repeat' (first|(refine g_s fun K hK=>?_)|(refine g_b ?_)|(refine g_r ?_)|(refine g_k ?_;simp only[thenQ,blockQ])|(refine g_e ?_;simp only[thenQ,blockQ,↓reduceIte,Nat.reduceEqDiff])|(refine g_c (fun h=>?_) (fun h=>?_)<;>(try simp only[go_sem] at h)<;>(try exact g_f))|((first|refine g_t ?_|refine g_g ?_|refine g_U ?_|refine g_A ?_|refine (hI _).use ?_|refine g_q (fun τ=>hI _) ?_|refine g_W ?_);(try simp -implicitDefEqProofs only[go_sem]))|(with_reducible refine hK _ _ ?_;clear hK K)|(clear hK K;first|(with_reducible refine hK _ _ ?_;clear hK K)|(clear hK K;with_reducible refine hK _ _ ?_;clear hK K)|(clear hK K;clear hK K;with_reducible refine hK _ _ ?_;clear hK K))|(with_reducible refine splitB_intro (fun h=>?_) (fun h=>?_)<;>(try simp only[go_sem] at h)<;>(try exact g_f)<;>(try simp -implicitDefEqProofs only[go_sem]))|(with_reducible refine And.intro (fun h=>?_) (fun h=>?_)<;>(try simp only[go_sem] at h)<;>(try exact g_f))|(with_reducible refine And.intro ?_ ?_;· exact g_x)|(with_reducible intro h;(try simp only[go_sem] at h);(try exact g_f))))
theorem row_calls (n : Net) (l : List Int) (hx : I64 (n.alg.size - 1)) (hl : l.length ≤ 1000000000000000000) (σ : Store) : ACalls Try.prog 165 [.agg (netC n), intsA l] σ fun r σ' => σ' = σ ∧ r = intA1 (rowErr n l) := by
  have hC := fun S => containsFunc_int l (fun v => !inR v 0 (n.alg.size - 1)) 189 [] [.cp (netC n) 0] S hl (by kernel_rfl) (fun v _ => row1_calls n v hx S)
  refine ACalls.cutX ?_
  refine ACalls_of_awp Try.func165 rfl Try.results165 ?_
  simp only [List.length_cons, List.length_nil, Try.ntmps165, Nat.reduceAdd, Nat.reduceSub, enterA]
  refine AWP_seq_k fun K hK => ?_
  (refine AWP_region ?_; simp -implicitDefEqProofs only [go_sem])
  refine hK _ _ ?_; clear hK K
  refine AWP_freezeP 2 rfl (by simp only [st0]; rfl) ?_
  simp only [ss0, List.set_cons_zero]
  by_cases h1 : (l.length : Int) = n.nodes
  · cases h2 : l.any fun v => !inR v 0 (n.alg.size - 1)
    · rw [h2] at hC
      (repeat' (first|(refine g_s fun K hK=>?_)|(refine g_b ?_)|(refine g_r ?_)|(refine g_k ?_;simp only[thenQ,blockQ])|(refine g_e ?_;simp only[thenQ,blockQ,↓reduceIte,Nat.reduceEqDiff])|(refine g_c (fun h=>?_) (fun h=>?_)<;>(try simp only[go_sem] at h)<;>(try exact g_f))|((first|refine g_t ?_|refine g_g ?_|refine g_U ?_|refine g_A ?_|refine (hC _).use ?_|refine g_q (fun τ=>hC _) ?_|refine g_W ?_);(try simp -implicitDefEqProofs only[go_sem]))|(with_reducible refine hK _ _ ?_;clear hK K)|(clear hK K;first|(with_reducible refine hK _ _ ?_;clear hK K)|(clear hK K;with_reducible refine hK _ _ ?_;clear hK K)|(clear hK K;clear hK K;with_reducible refine hK _ _ ?_;clear hK K))|(with_reducible refine splitB_intro (fun h=>?_) (fun h=>?_)<;>(try simp only[go_sem] at h)<;>(try exact g_f)<;>(try simp -implicitDefEqProofs only[go_sem]))|(with_reducible refine And.intro (fun h=>?_) (fun h=>?_)<;>(try simp only[go_sem] at h)<;>(try exact g_f))|(with_reducible refine And.intro ?_ ?_;· exact g_x)|(with_reducible intro h;(try simp only[go_sem] at h);(try exact g_f))))
      refine CutQ_c rfl ?_
      rw [rowErr, if_neg (not_not_intro h1), h2, if_neg (by decide)]
    · rw [h2] at hC
      (repeat' (first|(refine g_s fun K hK=>?_)|(refine g_b ?_)|(refine g_r ?_)|(refine g_k ?_;simp only[thenQ,blockQ])|(refine g_e ?_;simp only[thenQ,blockQ,↓reduceIte,Nat.reduceEqDiff])|(refine g_c (fun h=>?_) (fun h=>?_)<;>(try simp only[go_sem] at h)<;>(try exact g_f))|((first|refine g_t ?_|refine g_g ?_|refine g_U ?_|refine g_A ?_|refine (hC _).use ?_|refine g_q (fun τ=>hC _) ?_|refine g_W ?_);(try simp -implicitDefEqProofs only[go_sem]))|(with_reducible refine hK _ _ ?_;clear hK K)|(clear hK K;first|(with_reducible refine hK _ _ ?_;clear hK K)|(clear hK K;with_reducible refine hK _ _ ?_;clear hK K)|(clear hK K;clear hK K;with_reducible refine hK _ _ ?_;clear hK K))|(with_reducible refine splitB_intro (fun h=>?_) (fun h=>?_)<;>(try simp only[go_sem] at h)<;>(try exact g_f)<;>(try simp -implicitDefEqProofs only[go_sem]))|(with_reducible refine And.intro (fun h=>?_) (fun h=>?_)<;>(try simp only[go_sem] at h)<;>(try exact g_f))|(with_reducible refine And.intro ?_ ?_;· exact g_x)|(with_reducible intro h;(try simp only[go_sem] at h);(try exact g_f))))
      refine CutQ_c rfl ?_
      rw [rowErr, if_neg (not_not_intro h1), h2, if_pos rfl]
  · (repeat' (first|(refine g_s fun K hK=>?_)|(refine g_b ?_)|(refine g_r ?_)|(refine g_k ?_;simp only[thenQ,blockQ])|(refine g_e ?_;simp only[thenQ,blockQ,↓reduceIte,Nat.reduceEqDiff])|(refine g_c (fun h=>?_) (fun h=>?_)<;>(try simp only[go_sem] at h)<;>(try exact g_f))|((first|refine g_t ?_|refine g_g ?_|refine g_U ?_|refine g_A ?_|refine g_W ?_);(try simp -implicitDefEqProofs only[go_sem]))|(with_reducible refine hK _ _ ?_;clear hK K)|(clear hK K;first|(with_reducible refine hK _ _ ?_;clear hK K)|(clear hK K;with_reducible refine hK _ _ ?_;clear hK K)|(clear hK K;clear hK K;with_reducible refine hK _ _ ?_;clear hK K))|(with_reducible refine splitB_intro (fun h=>?_) (fun h=>?_)<;>(try simp only[go_sem] at h)<;>(try exact g_f)<;>(try simp -implicitDefEqProofs only[go_sem]))|(with_reducible refine And.intro (fun h=>?_) (fun h=>?_)<;>(try simp only[go_sem] at h)<;>(try exact g_f))|(with_reducible refine And.intro ?_ ?_;· exact g_x)|(with_reducible intro h;(try simp only[go_sem] at h);(try exact g_f))))
    refine CutQ_c rfl ?_
    rw [rowErr, if_pos h1]
def rowsE (r : Rtr) : List (List Int) := r.routes :: r.told.filter fun l => decide (l ≠ [])
theorem rowsE_len (r : Rtr) : (rowsE r).length ≤ r.told.length + 1 := by
  have := List.length_filter_le (fun l => decide (l ≠ [])) r.told
  simp only [rowsE, List.length_cons]
  omega
theorem erows_calls (r : Rtr) (ok : RtrOk r) (σ : Store) : ACalls Try.prog 163 [.agg (rtrC r)] σ fun r' σ' => σ' = σ ∧ r' = rowsC (rowsE r) := by
  have htl := ok.tl
  refine ACalls.cutX ?_
  refine ACalls_of_awp Try.func163 rfl Try.results163 ?_
  simp only [List.length_cons, List.length_nil, Try.ntmps163, Nat.reduceAdd, Nat.reduceSub, enterA]
  refine AWP_seq_k fun K hK => ?_
  (refine AWP_region ?_; simp -implicitDefEqProofs only [go_sem])
  refine hK _ _ ?_; clear hK K
  refine AWP_freezeP 1 rfl (by simp only [st0]; rfl) ?_
  simp only [ss0, List.set_cons_zero]
  (repeat' (first|(refine g_s fun K hK=>?_)|(refine g_b ?_)|(refine g_r ?_)|(refine g_k ?_;simp only[thenQ,blockQ])|(refine g_e ?_;simp only[thenQ,blockQ,↓reduceIte,Nat.reduceEqDiff])|(refine g_c (fun h=>?_) (fun h=>?_)<;>(try simp only[go_sem] at h)<;>(try exact g_f))|((first|refine g_t ?_|refine g_g ?_|refine g_U ?_|refine g_A ?_|refine g_W ?_);(try simp -implicitDefEqProofs only[go_sem]))|(with_reducible refine hK _ _ ?_;clear hK K)|(clear hK K;first|(with_reducible refine hK _ _ ?_;clear hK K)|(clear hK K;with_reducible refine hK _ _ ?_;clear hK K)|(clear hK K;clear hK K;with_reducible refine hK _ _ ?_;clear hK K))|(with_reducible refine splitB_intro (fun h=>?_) (fun h=>?_)<;>(try simp only[go_sem] at h)<;>(try exact g_f)<;>(try simp -implicitDefEqProofs only[go_sem]))|(with_reducible refine And.intro (fun h=>?_) (fun h=>?_)<;>(try simp only[go_sem] at h)<;>(try exact g_f))|(with_reducible refine And.intro ?_ ?_;· exact g_x)|(with_reducible intro h;(try simp only[go_sem] at h);(try exact g_f))))
  have hJ := hK
  clear hK
  refine AWP_each r.told (fun _ t acc => acc ++ t.filter (fun l => decide (l ≠ [])) = r.told.filter fun l => decide (l ≠ [])) (fun k acc τ => [(12, intA1 k), (3, accV 1 (σ.length + (τ.length + 1)) (r.routes :: acc))]) (fun _ acc τ => σ ++ (.dead :: (τ ++ [accO rowC 1 (r.routes :: acc)]))) [] [] rfl ?_ (ALe_of ?_) ?_ ?_
  · simp [accO, rowC, intsA]
  · simp -implicitDefEqProofs only [go_sem, accV, accO]
  · rintro k t acc τ hk0 hk1 h3 L hL
    obtain ⟨w, hw⟩ : ∃ w, at0 r.told k = w := ⟨_, rfl⟩
    rw [hw] at h3
    have hal : acc.length ≤ r.told.length := by
      have := congrArg List.length h3
      have h5 := List.length_filter_le (fun l => decide (l ≠ [])) r.told
      rw [List.length_append] at this
      omega
    by_cases he : w = []
    · rw [List.filter_cons_of_neg (by simpa using he)] at h3
      subst he
      simp -implicitDefEqProofs only [go_sem, accV, accO]
      (repeat' (first|(refine g_s fun K hK=>?_)|(refine g_b ?_)|(refine g_r ?_)|(refine g_k ?_;simp only[thenQ,blockQ])|(refine g_e ?_;simp only[thenQ,blockQ,↓reduceIte,Nat.reduceEqDiff])|(refine g_c (fun h=>?_) (fun h=>?_)<;>(try simp only[go_sem] at h)<;>(try exact g_f))|((first|refine g_t ?_|refine g_g ?_|refine g_U ?_|refine g_A ?_|refine g_W ?_);(try simp -implicitDefEqProofs only[go_sem,hw]))|(with_reducible refine hK _ _ ?_;clear hK K)|(clear hK K;first|(with_reducible refine hK _ _ ?_;clear hK K)|(clear hK K;with_reducible refine hK _ _ ?_;clear hK K)|(clear hK K;clear hK K;with_reducible refine hK _ _ ?_;clear hK K))|(with_reducible refine splitB_intro (fun h=>?_) (fun h=>?_)<;>(try simp only[go_sem] at h)<;>(try exact g_f)<;>(try simp -implicitDefEqProofs only[go_sem,hw]))|(with_reducible refine And.intro (fun h=>?_) (fun h=>?_)<;>(try simp only[go_sem] at h)<;>(try exact g_f))|(with_reducible refine And.intro ?_ ?_;· exact g_x)|(with_reducible intro h;(try simp only[go_sem] at h);(try exact g_f))))
      refine hL acc τ _ _ h3 (ALe_of ?_) (by simp [accO])
      simp -implicitDefEqProofs only [go_sem, accV]
    · rw [List.filter_cons_of_pos (by simpa using he)] at h3
      have hwl : 0 < w.length := List.length_pos_iff.2 he
      simp -implicitDefEqProofs only [go_sem, accV, accO]
      (repeat' (first|(refine g_s fun K hK=>?_)|(refine g_b ?_)|(refine g_r ?_)|(refine g_k ?_;simp only[thenQ,blockQ])|(refine g_e ?_;simp only[thenQ,blockQ,↓reduceIte,Nat.reduceEqDiff])|(refine g_c (fun h=>?_) (fun h=>?_)<;>(try simp only[go_sem] at h)<;>(try exact g_f))|((first|refine g_t ?_|refine g_G ?_|refine g_U ?_|refine g_A ?_|refine g_W ?_);(try simp -implicitDefEqProofs only[go_sem,hw]))|(with_reducible refine hK _ _ ?_;clear hK K)|(clear hK K;first|(with_reducible refine hK _ _ ?_;clear hK K)|(clear hK K;with_reducible refine hK _ _ ?_;clear hK K)|(clear hK K;clear hK K;with_reducible refine hK _ _ ?_;clear hK K))|(with_reducible refine splitB_intro (fun h=>?_) (fun h=>?_)<;>(try simp only[go_sem] at h)<;>(try exact g_f)<;>(try simp -implicitDefEqProofs only[go_sem,hw]))|(with_reducible refine And.intro (fun h=>?_) (fun h=>?_)<;>(try simp only[go_sem] at h)<;>(try exact g_f))|(with_reducible refine And.intro ?_ ?_;· exact g_x)|(with_reducible intro h;(try simp only[go_sem] at h);(try exact g_f))))
      refine hL (acc ++ [w]) (τ ++ [.dead]) _ _ (by simpa using h3) (ALe_of ?_) ?_
      · simp -implicitDefEqProofs only [go_sem, accV]
      · simp [accO, rowC, intsA]
  · rintro k acc τ hk h3 L
    rw [List.filter_nil, List.append_nil] at h3
    simp -implicitDefEqProofs only [go_sem]
    (repeat' (first|(refine g_s fun K hK=>?_)|(refine g_b ?_)|(refine g_r ?_)|(refine g_k ?_;simp only[thenQ,blockQ])|(refine g_e ?_;simp only[thenQ,blockQ,↓reduceIte,Nat.reduceEqDiff])|(refine g_c (fun h=>?_) (fun h=>?_)<;>(try simp only[go_sem] at h)<;>(try exact g_f))|((first|refine g_g ?_|refine g_U ?_|refine g_A ?_|refine g_W ?_);(try simp -implicitDefEqProofs only[go_sem]))|(with_reducible refine hK _ _ ?_;clear hK K)|(clear hK K;first|(with_reducible refine hK _ _ ?_;clear hK K)|(clear hK K;with_reducible refine hK _ _ ?_;clear hK K)|(clear hK K;clear hK K;with_reducible refine hK _ _ ?_;clear hK K))|(with_reducible refine splitB_intro (fun h=>?_) (fun h=>?_)<;>(try simp only[go_sem] at h)<;>(try exact g_f)<;>(try simp -implicitDefEqProofs only[go_sem]))|(with_reducible refine And.intro (fun h=>?_) (fun h=>?_)<;>(try simp only[go_sem] at h)<;>(try exact g_f))|(with_reducible refine And.intro ?_ ?_;· exact g_x)|(with_reducible intro h;(try simp only[go_sem] at h);(try exact g_f))))
    refine hJ _ _ ?_
    clear hJ
    have est : σ ++ (.dead :: (τ ++ [accO rowC 1 (r.routes :: acc)])) = σ ++ ((.dead :: τ) ++ accO rowC 1 (r.routes :: acc) :: []) := by simp
    rw [est]
    refine AWP_freezeAcc 3 rowC 1 (r.routes :: acc) σ (.dead :: τ) [] (by simp [look, Nat.add_assoc]) ?_
    (repeat' (first|(refine g_s fun K hK=>?_)|(refine g_b ?_)|(refine g_r ?_)|(refine g_k ?_;simp only[thenQ,blockQ])|(refine g_e ?_;simp only[thenQ,blockQ,↓reduceIte,Nat.reduceEqDiff])|(refine g_c (fun h=>?_) (fun h=>?_)<;>(try simp only[go_sem] at h)<;>(try exact g_f))|((first|refine g_t ?_|refine g_G ?_|refine g_U ?_|refine g_A ?_|refine g_W ?_);(try simp -implicitDefEqProofs only[go_sem]))|(with_reducible refine hK _ _ ?_;clear hK K)|(clear hK K;first|(with_reducible refine hK _ _ ?_;clear hK K)|(clear hK K;with_reducible refine hK _ _ ?_;clear hK K)|(clear hK K;clear hK K;with_reducible refine hK _ _ ?_;clear hK K))|(with_reducible refine splitB_intro (fun h=>?_) (fun h=>?_)<;>(try simp only[go_sem] at h)<;>(try exact g_f)<;>(try simp -implicitDefEqProofs only[go_sem]))|(with_reducible refine And.intro (fun h=>?_) (fun h=>?_)<;>(try simp only[go_sem] at h)<;>(try exact g_f))|(with_reducible refine And.intro ?_ ?_;· exact g_x)|(with_reducible intro h;(try simp only[go_sem] at h);(try exact g_f))))
    rw [h3]
    exact CutQ_w rfl (Bd.rows _) (.eq rfl)
theorem all11_calls (n : Net) (why : Int) (l : List Int) (hx : I64 (n.alg.size - 1)) (hl : l.length ≤ 1000000000000000000) (σ : Store) : ACalls Try.prog 164 [intsA l, .cp (netC n) 0, .cp [intA1 why] 0] σ fun r σ' => σ' = σ ∧ r = .c (.bool (decide (rowErr n l = why))) := by
  have hR := row_calls n l hx hl
  refine ACalls_of_awp Try.func164 rfl Try.results164 ?_
  simp only [List.length_cons, List.length_nil, Try.ntmps164, Nat.reduceAdd, Nat.reduceSub, enterA]
  (repeat' (first|(refine g_s fun K hK=>?_)|(refine g_b ?_)|(refine g_r ?_)|(refine g_k ?_;simp only[thenQ,blockQ])|(refine g_e ?_;simp only[thenQ,blockQ,↓reduceIte,Nat.reduceEqDiff])|(refine g_c (fun h=>?_) (fun h=>?_)<;>(try simp only[go_sem] at h)<;>(try exact g_f))|((first|refine g_t ?_|refine g_g ?_|refine g_U ?_|refine g_A ?_|refine (hR _).use ?_|refine g_q (fun τ=>hR _) ?_|refine g_W ?_);(try simp -implicitDefEqProofs only[go_sem]))|(with_reducible refine hK _ _ ?_;clear hK K)|(clear hK K;first|(with_reducible refine hK _ _ ?_;clear hK K)|(clear hK K;with_reducible refine hK _ _ ?_;clear hK K)|(clear hK K;clear hK K;with_reducible refine hK _ _ ?_;clear hK K))|(with_reducible refine splitB_intro (fun h=>?_) (fun h=>?_)<;>(try simp only[go_sem] at h)<;>(try exact g_f)<;>(try simp -implicitDefEqProofs only[go_sem]))|(with_reducible refine And.intro (fun h=>?_) (fun h=>?_)<;>(try simp only[go_sem] at h)<;>(try exact g_f))|(with_reducible refine And.intro ?_ ?_;· exact g_x)|(with_reducible intro h;(try simp only[go_sem] at h);(try exact g_f))))
  rfl
def allP (n : Net) (why : Int) (r : Rtr) : Bool := (decide (why = 1) && decide ((r.told.length : Int) ≠ n.nodes)) || (rowsE r).any fun l => decide (rowErr n l = why)
theorem all1_calls (n : Net) (why : Int) (r : Rtr) (ok : RtrOk r) (hx : I64 (n.alg.size - 1)) (σ : Store) : ACalls Try.prog 162 [.agg (rtrC r), .cp [intA1 why] 0, .cp (netC n) 0] σ fun r' σ' => σ' = σ ∧ r' = .c (.bool (allP n why r)) := by
  have hR := erows_calls r ok
  have htl := ok.tl
  have hrl := rowsE_len r
  have hC := fun S => containsFunc_rows (rowsE r) (fun l => decide (rowErr n l = why)) 164 [] [.cp (netC n) 0, .cp [intA1 why] 0] S (by omega) (by kernel_rfl) (fun l hl => all11_calls n why l hx (by
    rcases List.mem_cons.1 hl with rfl | hl
    · have := ok.rl; omega
    · have := ok.tr l (List.mem_filter.1 hl).1; omega) S)
  rw [allP]
  obtain ⟨B, hB⟩ : ∃ B, ((rowsE r).any fun l => decide (rowErr n l = why)) = B := ⟨_, rfl⟩
  simp only [hB] at hC ⊢
  refine ACalls.cutX ?_
  by_cases h1 : why = 1 ∧ (r.told.length : Int) ≠ n.nodes
  · obtain ⟨rfl, h2⟩ := h1
    refine ACalls_of_awp Try.func162 rfl Try.results162 ?_
    simp only [List.length_cons, List.length_nil, Try.ntmps162, Nat.reduceAdd, Nat.reduceSub, enterA]
    refine AWP_seq_k fun K hK => ?_
    (refine AWP_region ?_; simp -implicitDefEqProofs only [go_sem])
    refine hK _ _ ?_; clear hK K
    refine AWP_freezeP 3 rfl (by simp only [st0]; rfl) ?_
    simp only [ss0, List.set_cons_zero]
    (repeat' (first|(refine g_s fun K hK=>?_)|(refine g_b ?_)|(refine g_r ?_)|(refine g_k ?_;simp only[thenQ,blockQ])|(refine g_e ?_;simp only[thenQ,blockQ,↓reduceIte,Nat.reduceEqDiff])|(refine g_c (fun h=>?_) (fun h=>?_)<;>(try simp only[go_sem] at h)<;>(try exact g_f))|((first|refine g_t ?_|refine g_g ?_|refine g_U ?_|refine g_A ?_|refine g_W ?_);(try simp -implicitDefEqProofs only[go_sem]))|(with_reducible refine hK _ _ ?_;clear hK K)|(clear hK K;first|(with_reducible refine hK _ _ ?_;clear hK K)|(clear hK K;with_reducible refine hK _ _ ?_;clear hK K)|(clear hK K;clear hK K;with_reducible refine hK _ _ ?_;clear hK K))|(with_reducible refine splitB_intro (fun h=>?_) (fun h=>?_)<;>(try simp only[go_sem] at h)<;>(try exact g_f)<;>(try simp -implicitDefEqProofs only[go_sem]))|(with_reducible refine And.intro (fun h=>?_) (fun h=>?_)<;>(try simp only[go_sem] at h)<;>(try exact g_f))|(with_reducible refine And.intro ?_ ?_;· exact g_x)|(with_reducible intro h;(try simp only[go_sem] at h);(try exact g_f))))
    refine CutQ_c rfl ?_
    simp [h2]
  · have hz : (decide (why = 1) && decide ((r.told.length : Int) ≠ n.nodes)) = false := by
      rw [← Bool.not_eq_true, Bool.and_eq_true, decide_eq_true_eq, decide_eq_true_eq]
      exact h1
    rw [hz, Bool.false_or]
    refine ACalls_of_awp Try.func162 rfl Try.results162 ?_
    simp only [List.length_cons, List.length_nil, Try.ntmps162, Nat.reduceAdd, Nat.reduceSub, enterA]
    refine AWP_seq_k fun K hK => ?_
    (refine AWP_region ?_; simp -implicitDefEqProofs only [go_sem])
    refine hK _ _ ?_; clear hK K
    refine AWP_freezeP 3 rfl (by simp only [st0]; rfl) ?_
    simp only [ss0, List.set_cons_zero]
    (repeat' (first|(refine g_s fun K hK=>?_)|(refine g_b ?_)|(refine g_r ?_)|(refine g_k ?_;simp only[thenQ,blockQ])|(refine g_e ?_;simp only[thenQ,blockQ,↓reduceIte,Nat.reduceEqDiff])|(refine g_c (fun h=>?_) (fun h=>?_)<;>(try simp only[go_sem] at h)<;>(try exact g_f))|((first|refine g_t ?_|refine g_g ?_|refine g_U ?_|refine g_A ?_|refine (hR _).use ?_|refine g_q (fun τ=>hR _) ?_|refine (hC _).use ?_|refine g_q (fun τ=>hC _) ?_|refine g_W ?_);(try simp -implicitDefEqProofs only[go_sem]))|(with_reducible refine hK _ _ ?_;clear hK K)|(clear hK K;first|(with_reducible refine hK _ _ ?_;clear hK K)|(clear hK K;with_reducible refine hK _ _ ?_;clear hK K)|(clear hK K;clear hK K;with_reducible refine hK _ _ ?_;clear hK K))|(with_reducible refine splitB_intro (fun h=>?_) (fun h=>?_)<;>(try simp only[go_sem] at h)<;>(try exact g_f)<;>(try simp -implicitDefEqProofs only[go_sem]))|(with_reducible refine And.intro (fun h=>?_) (fun h=>?_)<;>(try simp only[go_sem] at h)<;>(try exact g_f))|(with_reducible refine And.intro ?_ ?_;· exact g_x)|(with_reducible intro h;(try simp only[go_sem] at h);(try exact g_f))))
    all_goals exact CutQ_c rfl rfl
theorem indexFunc_rtr (l : List Rtr) (p : Rtr → Bool) (f : FuncId) (first cap : List AV) (σ : Store) (hl : l.length ≤ 1000000000000000000) (hok : callOk Try.prog f = true)
    (hf : ∀ x ∈ l, ∀ S, ACalls Try.prog f (first ++ .agg (rtrC x) :: cap) S fun r σ' => σ' = S ∧ r = .c (.bool (p x))) :
    ACalls Try.prog 188 [.sl (l.map rtrC), .fn f first cap] σ fun r σ' => σ' = σ ∧ r = intA1 (firstI p 0 l) := by
  refine ACalls_of_awp Try.func188 rfl Try.results188 ?_
  simp only [List.length_cons, List.length_nil, Try.ntmps188, Nat.reduceAdd, Nat.reduceSub, enterA]
  (repeat' (first|(refine g_s fun K hK=>?_)|(refine g_b ?_)|(refine g_r ?_)|(refine g_k ?_;simp only[thenQ,blockQ])|(refine g_e ?_;simp only[thenQ,blockQ,↓reduceIte,Nat.reduceEqDiff])|(refine g_c (fun h=>?_) (fun h=>?_)<;>(try simp only[go_sem] at h)<;>(try exact g_f))|((first|refine g_t ?_|refine g_g ?_|refine g_U ?_|refine g_A ?_|refine g_W ?_);(try simp -implicitDefEqProofs only[go_sem]))|(with_reducible refine hK _ _ ?_;clear hK K)|(clear hK K;first|(with_reducible refine hK _ _ ?_;clear hK K)|(clear hK K;with_reducible refine hK _ _ ?_;clear hK K)|(clear hK K;clear hK K;with_reducible refine hK _ _ ?_;clear hK K))|(with_reducible refine splitB_intro (fun h=>?_) (fun h=>?_)<;>(try simp only[go_sem] at h)<;>(try exact g_f)<;>(try simp -implicitDefEqProofs only[go_sem]))|(with_reducible refine And.intro (fun h=>?_) (fun h=>?_)<;>(try simp only[go_sem] at h)<;>(try exact g_f))|(with_reducible refine And.intro ?_ ?_;· exact g_x)|(with_reducible intro h;(try simp only[go_sem] at h);(try exact g_f))))
  refine AWP_each l (fun k r _ => firstI p 0 l = firstI p k r) (fun k _ _ => [(8, intA1 k)]) (fun _ _ _ => σ) () [] rfl rfl (ALe_of ?_) ?_ ?_
  · simp -implicitDefEqProofs only [go_sem]
  · rintro k r s τ hk0 hk1 h1 L hL
    obtain ⟨u, hu⟩ : ∃ u, at0 l k = u := ⟨_, rfl⟩
    have hm := at0_mem l hk0 hk1
    rw [hu] at h1 hm
    have hc := hf _ hm
    simp -implicitDefEqProofs only [go_sem]
    (repeat' (first|(refine g_s fun K hK=>?_)|(refine g_b ?_)|(refine g_r ?_)|(refine g_k ?_;simp only[thenQ,blockQ])|(refine g_e ?_;simp only[thenQ,blockQ,↓reduceIte,Nat.reduceEqDiff])|(refine g_c (fun h=>?_) (fun h=>?_)<;>(try simp only[go_sem] at h)<;>(try exact g_f))|((first|refine g_t ?_|refine g_g ?_|refine g_U ?_|refine g_A ?_|refine (hc _).use ?_|refine g_q (fun τ=>hc _) ?_|refine g_W ?_);(try simp -implicitDefEqProofs only[go_sem,hu]))|(with_reducible refine hK _ _ ?_;clear hK K)|(clear hK K;first|(with_reducible refine hK _ _ ?_;clear hK K)|(clear hK K;with_reducible refine hK _ _ ?_;clear hK K)|(clear hK K;clear hK K;with_reducible refine hK _ _ ?_;clear hK K))|(with_reducible refine splitB_intro (fun h=>?_) (fun h=>?_)<;>(try simp only[go_sem] at h)<;>(try exact g_f)<;>(try simp -implicitDefEqProofs only[go_sem,hu]))|(with_reducible refine And.intro (fun h=>?_) (fun h=>?_)<;>(try simp only[go_sem] at h)<;>(try exact g_f))|(with_reducible refine And.intro ?_ ?_;· exact g_x)|(with_reducible intro h;(try simp only[go_sem] at h);(try exact g_f))))
    · rw [h1, firstI, if_pos (by assumption)]
    · refine hL () [] _ _ ?_ (ALe_of ?_) rfl
      · rw [h1, firstI, if_neg (by simp [*])]
      · simp -implicitDefEqProofs only [go_sem]
  · intro k s τ hk h1 L
    simp -implicitDefEqProofs only [go_sem]
    (repeat' (first|(refine g_s fun K hK=>?_)|(refine g_b ?_)|(refine g_r ?_)|(refine g_k ?_;simp only[thenQ,blockQ])|(refine g_e ?_;simp only[thenQ,blockQ,↓reduceIte,Nat.reduceEqDiff])|(refine g_c (fun h=>?_) (fun h=>?_)<;>(try simp only[go_sem] at h)<;>(try exact g_f))|((first|refine g_t ?_|refine g_g ?_|refine g_U ?_|refine g_A ?_|refine g_W ?_);(try simp -implicitDefEqProofs only[go_sem]))|(with_reducible refine hK _ _ ?_;clear hK K)|(clear hK K;first|(with_reducible refine hK _ _ ?_;clear hK K)|(clear hK K;with_reducible refine hK _ _ ?_;clear hK K)|(clear hK K;clear hK K;with_reducible refine hK _ _ ?_;clear hK K))|(with_reducible refine splitB_intro (fun h=>?_) (fun h=>?_)<;>(try simp only[go_sem] at h)<;>(try exact g_f)<;>(try simp -implicitDefEqProofs only[go_sem]))|(with_reducible refine And.intro (fun h=>?_) (fun h=>?_)<;>(try simp only[go_sem] at h)<;>(try exact g_f))|(with_reducible refine And.intro ?_ ?_;· exact g_x)|(with_reducible intro h;(try simp only[go_sem] at h);(try exact g_f))))
    rw [h1, firstI]
theorem containsFunc_rtr (l : List Rtr) (p : Rtr → Bool) (f : FuncId) (first cap : List AV) (σ : Store) (hl : l.length ≤ 1000000000000000000) (hok : callOk Try.prog f = true)
    (hf : ∀ x ∈ l, ∀ S, ACalls Try.prog f (first ++ .agg (rtrC x) :: cap) S fun r σ' => σ' = S ∧ r = .c (.bool (p x))) :
    ACalls Try.prog 161 [.sl (l.map rtrC), .fn f first cap] σ fun r σ' => σ' = σ ∧ r = .c (.bool (l.any p)) := by
  have hc := indexFunc_rtr l p f first cap σ hl hok hf
  refine ACalls_of_awp Try.func161 rfl Try.results161 ?_
  simp only [List.length_cons, List.length_nil, Try.ntmps161, Nat.reduceAdd, Nat.reduceSub, enterA]
  (repeat' (first|(refine g_s fun K hK=>?_)|(refine g_b ?_)|(refine g_r ?_)|(refine g_k ?_;simp only[thenQ,blockQ])|(refine g_e ?_;simp only[thenQ,blockQ,↓reduceIte,Nat.reduceEqDiff])|(refine g_c (fun h=>?_) (fun h=>?_)<;>(try simp only[go_sem] at h)<;>(try exact g_f))|((first|refine g_t ?_|refine g_g ?_|refine g_U ?_|refine g_A ?_|refine (hc).use ?_|refine g_q (fun τ=>hc) ?_|refine g_W ?_);(try simp -implicitDefEqProofs only[go_sem]))|(with_reducible refine hK _ _ ?_;clear hK K)|(clear hK K;first|(with_reducible refine hK _ _ ?_;clear hK K)|(clear hK K;with_reducible refine hK _ _ ?_;clear hK K)|(clear hK K;clear hK K;with_reducible refine hK _ _ ?_;clear hK K))|(with_reducible refine splitB_intro (fun h=>?_) (fun h=>?_)<;>(try simp only[go_sem] at h)<;>(try exact g_f)<;>(try simp -implicitDefEqProofs only[go_sem]))|(with_reducible refine And.intro (fun h=>?_) (fun h=>?_)<;>(try simp only[go_sem] at h)<;>(try exact g_f))|(with_reducible refine And.intro ?_ ?_;· exact g_x)|(with_reducible intro h;(try simp only[go_sem] at h);(try exact g_f))))
  rw [← firstI_ge p l 0 (Int.le_refl _)]
theorem indexFunc_mail (l : List Mail) (p : Mail → Bool) (f : FuncId) (first cap : List AV) (σ : Store) (hl : l.length ≤ 1000000000000000000) (hok : callOk Try.prog f = true)
    (hf : ∀ x ∈ l, ∀ S, ACalls Try.prog f (first ++ .agg (mailC x) :: cap) S fun r σ' => σ' = S ∧ r = .c (.bool (p x))) :
    ACalls Try.prog 166 [.sl (l.map mailC), .fn f first cap] σ fun r σ' => σ' = σ ∧ r = intA1 (firstI p 0 l) := by
  refine ACalls_of_awp Try.func166 rfl Try.results166 ?_
  simp only [List.length_cons, List.length_nil, Try.ntmps166, Nat.reduceAdd, Nat.reduceSub, enterA]
  (repeat' (first|(refine g_s fun K hK=>?_)|(refine g_b ?_)|(refine g_r ?_)|(refine g_k ?_;simp only[thenQ,blockQ])|(refine g_e ?_;simp only[thenQ,blockQ,↓reduceIte,Nat.reduceEqDiff])|(refine g_c (fun h=>?_) (fun h=>?_)<;>(try simp only[go_sem] at h)<;>(try exact g_f))|((first|refine g_t ?_|refine g_g ?_|refine g_U ?_|refine g_A ?_|refine g_W ?_);(try simp -implicitDefEqProofs only[go_sem]))|(with_reducible refine hK _ _ ?_;clear hK K)|(clear hK K;first|(with_reducible refine hK _ _ ?_;clear hK K)|(clear hK K;with_reducible refine hK _ _ ?_;clear hK K)|(clear hK K;clear hK K;with_reducible refine hK _ _ ?_;clear hK K))|(with_reducible refine splitB_intro (fun h=>?_) (fun h=>?_)<;>(try simp only[go_sem] at h)<;>(try exact g_f)<;>(try simp -implicitDefEqProofs only[go_sem]))|(with_reducible refine And.intro (fun h=>?_) (fun h=>?_)<;>(try simp only[go_sem] at h)<;>(try exact g_f))|(with_reducible refine And.intro ?_ ?_;· exact g_x)|(with_reducible intro h;(try simp only[go_sem] at h);(try exact g_f))))
  refine AWP_each l (fun k r _ => firstI p 0 l = firstI p k r) (fun k _ _ => [(8, intA1 k)]) (fun _ _ _ => σ) () [] rfl rfl (ALe_of ?_) ?_ ?_
  · simp -implicitDefEqProofs only [go_sem]
  · rintro k r s τ hk0 hk1 h1 L hL
    obtain ⟨u, hu⟩ : ∃ u, at0 l k = u := ⟨_, rfl⟩
    have hm := at0_mem l hk0 hk1
    rw [hu] at h1 hm
    have hc := hf _ hm
    simp -implicitDefEqProofs only [go_sem]
    (repeat' (first|(refine g_s fun K hK=>?_)|(refine g_b ?_)|(refine g_r ?_)|(refine g_k ?_;simp only[thenQ,blockQ])|(refine g_e ?_;simp only[thenQ,blockQ,↓reduceIte,Nat.reduceEqDiff])|(refine g_c (fun h=>?_) (fun h=>?_)<;>(try simp only[go_sem] at h)<;>(try exact g_f))|((first|refine g_t ?_|refine g_g ?_|refine g_U ?_|refine g_A ?_|refine (hc _).use ?_|refine g_q (fun τ=>hc _) ?_|refine g_W ?_);(try simp -implicitDefEqProofs only[go_sem,hu]))|(with_reducible refine hK _ _ ?_;clear hK K)|(clear hK K;first|(with_reducible refine hK _ _ ?_;clear hK K)|(clear hK K;with_reducible refine hK _ _ ?_;clear hK K)|(clear hK K;clear hK K;with_reducible refine hK _ _ ?_;clear hK K))|(with_reducible refine splitB_intro (fun h=>?_) (fun h=>?_)<;>(try simp only[go_sem] at h)<;>(try exact g_f)<;>(try simp -implicitDefEqProofs only[go_sem,hu]))|(with_reducible refine And.intro (fun h=>?_) (fun h=>?_)<;>(try simp only[go_sem] at h)<;>(try exact g_f))|(with_reducible refine And.intro ?_ ?_;· exact g_x)|(with_reducible intro h;(try simp only[go_sem] at h);(try exact g_f))))
    · rw [h1, firstI, if_pos (by assumption)]
    · refine hL () [] _ _ ?_ (ALe_of ?_) rfl
      · rw [h1, firstI, if_neg (by simp [*])]
      · simp -implicitDefEqProofs only [go_sem]
  · intro k s τ hk h1 L
    simp -implicitDefEqProofs only [go_sem]
    (repeat' (first|(refine g_s fun K hK=>?_)|(refine g_b ?_)|(refine g_r ?_)|(refine g_k ?_;simp only[thenQ,blockQ])|(refine g_e ?_;simp only[thenQ,blockQ,↓reduceIte,Nat.reduceEqDiff])|(refine g_c (fun h=>?_) (fun h=>?_)<;>(try simp only[go_sem] at h)<;>(try exact g_f))|((first|refine g_t ?_|refine g_g ?_|refine g_U ?_|refine g_A ?_|refine g_W ?_);(try simp -implicitDefEqProofs only[go_sem]))|(with_reducible refine hK _ _ ?_;clear hK K)|(clear hK K;first|(with_reducible refine hK _ _ ?_;clear hK K)|(clear hK K;with_reducible refine hK _ _ ?_;clear hK K)|(clear hK K;clear hK K;with_reducible refine hK _ _ ?_;clear hK K))|(with_reducible refine splitB_intro (fun h=>?_) (fun h=>?_)<;>(try simp only[go_sem] at h)<;>(try exact g_f)<;>(try simp -implicitDefEqProofs only[go_sem]))|(with_reducible refine And.intro (fun h=>?_) (fun h=>?_)<;>(try simp only[go_sem] at h)<;>(try exact g_f))|(with_reducible refine And.intro ?_ ?_;· exact g_x)|(with_reducible intro h;(try simp only[go_sem] at h);(try exact g_f))))
    rw [h1, firstI]
theorem containsFunc_mail (l : List Mail) (p : Mail → Bool) (f : FuncId) (first cap : List AV) (σ : Store) (hl : l.length ≤ 1000000000000000000) (hok : callOk Try.prog f = true)
    (hf : ∀ x ∈ l, ∀ S, ACalls Try.prog f (first ++ .agg (mailC x) :: cap) S fun r σ' => σ' = S ∧ r = .c (.bool (p x))) :
    ACalls Try.prog 124 [.sl (l.map mailC), .fn f first cap] σ fun r σ' => σ' = σ ∧ r = .c (.bool (l.any p)) := by
  have hc := indexFunc_mail l p f first cap σ hl hok hf
  refine ACalls_of_awp Try.func124 rfl Try.results124 ?_
  simp only [List.length_cons, List.length_nil, Try.ntmps124, Nat.reduceAdd, Nat.reduceSub, enterA]
  (repeat' (first|(refine g_s fun K hK=>?_)|(refine g_b ?_)|(refine g_r ?_)|(refine g_k ?_;simp only[thenQ,blockQ])|(refine g_e ?_;simp only[thenQ,blockQ,↓reduceIte,Nat.reduceEqDiff])|(refine g_c (fun h=>?_) (fun h=>?_)<;>(try simp only[go_sem] at h)<;>(try exact g_f))|((first|refine g_t ?_|refine g_g ?_|refine g_U ?_|refine g_A ?_|refine (hc).use ?_|refine g_q (fun τ=>hc) ?_|refine g_W ?_);(try simp -implicitDefEqProofs only[go_sem]))|(with_reducible refine hK _ _ ?_;clear hK K)|(clear hK K;first|(with_reducible refine hK _ _ ?_;clear hK K)|(clear hK K;with_reducible refine hK _ _ ?_;clear hK K)|(clear hK K;clear hK K;with_reducible refine hK _ _ ?_;clear hK K))|(with_reducible refine splitB_intro (fun h=>?_) (fun h=>?_)<;>(try simp only[go_sem] at h)<;>(try exact g_f)<;>(try simp -implicitDefEqProofs only[go_sem]))|(with_reducible refine And.intro (fun h=>?_) (fun h=>?_)<;>(try simp only[go_sem] at h)<;>(try exact g_f))|(with_reducible refine And.intro ?_ ?_;· exact g_x)|(with_reducible intro h;(try simp only[go_sem] at h);(try exact g_f))))
  rw [← firstI_ge p l 0 (Int.le_refl _)]
theorem all_calls (n : Net) (e : Eng) (why : Int) (ok : EngOk e) (hx : I64 (n.alg.size - 1)) (σ : Store) : ACalls Try.prog 123 [.agg (netC n), .agg (engC e), intA1 why] σ fun r σ' => σ' = σ ∧ r = .c (.bool (e.routers.any (allP n why))) := by
  have hC := fun S => containsFunc_rtr e.routers (allP n why) 162 [] [.cp [intA1 why] 0, .cp (netC n) 0] S (by have := ok.rl; omega) (by kernel_rfl) (fun r hr S => all1_calls n why r (ok.rtr r hr) hx S)
  refine ACalls.cutX ?_
  refine ACalls_of_awp Try.func123 rfl Try.results123 ?_
  simp only [List.length_cons, List.length_nil, Try.ntmps123, Nat.reduceAdd, Nat.reduceSub, enterA]
  refine AWP_seq_k fun K hK => ?_
  (refine AWP_region ?_; simp -implicitDefEqProofs only [go_sem])
  refine hK _ _ ?_; clear hK K
  refine AWP_freezeP 3 rfl (by simp only [st0]; rfl) ?_
  simp only [ss0, List.set_cons_zero]
  refine AWP_freezeP 4 rfl (by simp only [st1]; rfl) ?_
  simp only [ss1, List.set_cons_zero, List.set_cons_succ]
  refine AWP_freezeP 5 rfl (by simp only [st1]; rfl) ?_
  simp only [ss1, List.set_cons_zero, List.set_cons_succ]
  (repeat' (first|(refine g_s fun K hK=>?_)|(refine g_b ?_)|(refine g_r ?_)|(refine g_k ?_;simp only[thenQ,blockQ])|(refine g_e ?_;simp only[thenQ,blockQ,↓reduceIte,Nat.reduceEqDiff])|(refine g_c (fun h=>?_) (fun h=>?_)<;>(try simp only[go_sem] at h)<;>(try exact g_f))|((first|refine g_t ?_|refine g_g ?_|refine g_U ?_|refine g_A ?_|refine (hC _).use ?_|refine g_q (fun τ=>hC _) ?_|refine g_W ?_);(try simp -implicitDefEqProofs only[go_sem]))|(with_reducible refine hK _ _ ?_;clear hK K)|(clear hK K;first|(with_reducible refine hK _ _ ?_;clear hK K)|(clear hK K;with_reducible refine hK _ _ ?_;clear hK K)|(clear hK K;clear hK K;with_reducible refine hK _ _ ?_;clear hK K))|(with_reducible refine splitB_intro (fun h=>?_) (fun h=>?_)<;>(try simp only[go_sem] at h)<;>(try exact g_f)<;>(try simp -implicitDefEqProofs only[go_sem]))|(with_reducible refine And.intro (fun h=>?_) (fun h=>?_)<;>(try simp only[go_sem] at h)<;>(try exact g_f))|(with_reducible refine And.intro ?_ ?_;· exact g_x)|(with_reducible intro h;(try simp only[go_sem] at h);(try exact g_f))))
  exact CutQ_c rfl rfl
theorem enode_calls (n : Net) (i : Int) (σ : Store) : ACalls Try.prog 126 [.agg (netC n), intA1 i] σ fun r σ' => σ' = σ ∧ r = .c (.bool (inR i 0 (n.nodes - 1))) := by
  refine ACalls.cutX ?_
  refine ACalls_of_awp Try.func126 rfl Try.results126 ?_
  simp only [List.length_cons, List.length_nil, Try.ntmps126, Nat.reduceAdd, Nat.reduceSub, enterA]
  refine AWP_seq_k fun K hK => ?_
  (refine AWP_region ?_; simp -implicitDefEqProofs only [go_sem])
  refine hK _ _ ?_; clear hK K
  refine AWP_freezeP 2 rfl (by simp only [st0]; rfl) ?_
  simp only [ss0, List.set_cons_zero]
  (repeat' (first|(refine g_s fun K hK=>?_)|(refine g_b ?_)|(refine g_r ?_)|(refine g_k ?_;simp only[thenQ,blockQ])|(refine g_e ?_;simp only[thenQ,blockQ,↓reduceIte,Nat.reduceEqDiff])|(refine g_c (fun h=>?_) (fun h=>?_)<;>(try simp only[go_sem] at h)<;>(try exact g_f))|((first|refine g_t ?_|refine g_g ?_|refine g_U ?_|refine g_A ?_|refine g_W ?_);(try simp -implicitDefEqProofs only[go_sem]))|(with_reducible refine hK _ _ ?_;clear hK K)|(clear hK K;first|(with_reducible refine hK _ _ ?_;clear hK K)|(clear hK K;with_reducible refine hK _ _ ?_;clear hK K)|(clear hK K;clear hK K;with_reducible refine hK _ _ ?_;clear hK K))|(with_reducible refine splitB_intro (fun h=>?_) (fun h=>?_)<;>(try simp only[go_sem] at h)<;>(try exact g_f)<;>(try simp -implicitDefEqProofs only[go_sem]))|(with_reducible refine And.intro (fun h=>?_) (fun h=>?_)<;>(try simp only[go_sem] at h)<;>(try exact g_f))|(with_reducible refine And.intro ?_ ?_;· exact g_x)|(with_reducible intro h;(try simp only[go_sem] at h);(try exact g_f))))
  all_goals (refine CutQ_c rfl ?_; congr 2; rw [Bool.eq_iff_iff]; simp [inR]; omega)
theorem check1_calls (n : Net) (m : Mail) (σ : Store) : ACalls Try.prog 125 [.agg (mailC m), .cp (netC n) 0] σ fun r σ' => σ' = σ ∧ r = .c (.bool (!inR m.fr 0 (n.nodes - 1) || !inR m.dst 0 (n.nodes - 1))) := by
  have h1 := enode_calls n m.fr
  have h2 := enode_calls n m.dst
  refine ACalls.cutX ?_
  refine ACalls_of_awp Try.func125 rfl Try.results125 ?_
  simp only [List.length_cons, List.length_nil, Try.ntmps125, Nat.reduceAdd, Nat.reduceSub, enterA]
  refine AWP_seq_k fun K hK => ?_
  (refine AWP_region ?_; simp -implicitDefEqProofs only [go_sem])
  refine hK _ _ ?_; clear hK K
  refine AWP_freezeP 2 rfl (by simp only [st0]; rfl) ?_
  simp only [ss0, List.set_cons_zero]
  cases hf : inR m.fr 0 (n.nodes - 1)
  · rw [hf] at h1
    (repeat' (first|(refine g_s fun K hK=>?_)|(refine g_b ?_)|(refine g_r ?_)|(refine g_k ?_;simp only[thenQ,blockQ])|(refine g_e ?_;simp only[thenQ,blockQ,↓reduceIte,Nat.reduceEqDiff])|(refine g_c (fun h=>?_) (fun h=>?_)<;>(try simp only[go_sem] at h)<;>(try exact g_f))|((first|refine g_t ?_|refine g_g ?_|refine g_U ?_|refine g_A ?_|refine (h1 _).use ?_|refine g_q (fun τ=>h1 _) ?_|refine g_W ?_);(try simp -implicitDefEqProofs only[go_sem]))|(with_reducible refine hK _ _ ?_;clear hK K)|(clear hK K;first|(with_reducible refine hK _ _ ?_;clear hK K)|(clear hK K;with_reducible refine hK _ _ ?_;clear hK K)|(clear hK K;clear hK K;with_reducible refine hK _ _ ?_;clear hK K))|(with_reducible refine splitB_intro (fun h=>?_) (fun h=>?_)<;>(try simp only[go_sem] at h)<;>(try exact g_f)<;>(try simp -implicitDefEqProofs only[go_sem]))|(with_reducible refine And.intro (fun h=>?_) (fun h=>?_)<;>(try simp only[go_sem] at h)<;>(try exact g_f))|(with_reducible refine And.intro ?_ ?_;· exact g_x)|(with_reducible intro h;(try simp only[go_sem] at h);(try exact g_f))))
    exact CutQ_c rfl rfl
  · rw [hf] at h1
    (repeat' (first|(refine g_s fun K hK=>?_)|(refine g_b ?_)|(refine g_r ?_)|(refine g_k ?_;simp only[thenQ,blockQ])|(refine g_e ?_;simp only[thenQ,blockQ,↓reduceIte,Nat.reduceEqDiff])|(refine g_c (fun h=>?_) (fun h=>?_)<;>(try simp only[go_sem] at h)<;>(try exact g_f))|((first|refine g_t ?_|refine g_g ?_|refine g_U ?_|refine g_A ?_|refine (h1 _).use ?_|refine g_q (fun τ=>h1 _) ?_|refine (h2 _).use ?_|refine g_q (fun τ=>h2 _) ?_|refine g_W ?_);(try simp -implicitDefEqProofs only[go_sem]))|(with_reducible refine hK _ _ ?_;clear hK K)|(clear hK K;first|(with_reducible refine hK _ _ ?_;clear hK K)|(clear hK K;with_reducible refine hK _ _ ?_;clear hK K)|(clear hK K;clear hK K;with_reducible refine hK _ _ ?_;clear hK K))|(with_reducible refine splitB_intro (fun h=>?_) (fun h=>?_)<;>(try simp only[go_sem] at h)<;>(try exact g_f)<;>(try simp -implicitDefEqProofs only[go_sem]))|(with_reducible refine And.intro (fun h=>?_) (fun h=>?_)<;>(try simp only[go_sem] at h)<;>(try exact g_f))|(with_reducible refine And.intro ?_ ?_;· exact g_x)|(with_reducible intro h;(try simp only[go_sem] at h);(try exact g_f))))
    exact CutQ_c rfl rfl
theorem check2_calls (m : Mail) (hl : m.bytes.length ≤ 140737488351232) (σ : Store) : ACalls Try.prog 127 [.agg (mailC m)] σ fun r σ' => σ' = σ ∧ r = .c (.bool (decide (60 < m.bytes.length))) := by
  refine ACalls.cutX ?_
  refine ACalls_of_awp Try.func127 rfl Try.results127 ?_
  simp only [List.length_cons, List.length_nil, Try.ntmps127, Nat.reduceAdd, Nat.reduceSub, enterA]
  refine AWP_seq_k fun K hK => ?_
  (refine AWP_region ?_; simp -implicitDefEqProofs only [go_sem])
  refine hK _ _ ?_; clear hK K
  refine AWP_freezeP 1 rfl (by simp only [st0]; rfl) ?_
  simp only [ss0, List.set_cons_zero]
  (repeat' (first|(refine g_s fun K hK=>?_)|(refine g_b ?_)|(refine g_r ?_)|(refine g_k ?_;simp only[thenQ,blockQ])|(refine g_e ?_;simp only[thenQ,blockQ,↓reduceIte,Nat.reduceEqDiff])|(refine g_c (fun h=>?_) (fun h=>?_)<;>(try simp only[go_sem] at h)<;>(try exact g_f))|((first|refine g_t ?_|refine g_g ?_|refine g_U ?_|refine g_A ?_|refine g_W ?_);(try simp -implicitDefEqProofs only[go_sem]))|(with_reducible refine hK _ _ ?_;clear hK K)|(clear hK K;first|(with_reducible refine hK _ _ ?_;clear hK K)|(clear hK K;with_reducible refine hK _ _ ?_;clear hK K)|(clear hK K;clear hK K;with_reducible refine hK _ _ ?_;clear hK K))|(with_reducible refine splitB_intro (fun h=>?_) (fun h=>?_)<;>(try simp only[go_sem] at h)<;>(try exact g_f)<;>(try simp -implicitDefEqProofs only[go_sem]))|(with_reducible refine And.intro (fun h=>?_) (fun h=>?_)<;>(try simp only[go_sem] at h)<;>(try exact g_f))|(with_reducible refine And.intro ?_ ?_;· exact g_x)|(with_reducible intro h;(try simp only[go_sem] at h);(try exact g_f))))
  refine CutQ_c rfl ?_
  have e : (60 < m.bytes.length) = ((60 : Int) < m.bytes.length) := propext (by omega)
  simp only [e]
theorem allP_one (n : Net) (r : Rtr) : allP n 1 r = formBad n r := by
  have h : ∀ l : List Int, decide (rowErr n l = 1) = decide ((l.length : Int) ≠ n.nodes) := fun l => decide_eq_decide.2 rowErr_len.symm
  rw [allP, formBad, rowsE, List.any_cons, List.any_filter, h, decide_eq_true rfl, Bool.true_and]
  simp only [h]
theorem allP_five (n : Net) (r : Rtr) : allP n 5 r = noneBad n r := by
  have h5 : (decide ((5 : Int) = 1)) = false := by decide
  rw [allP, noneBad, rowsE, List.any_cons, List.any_filter, h5, Bool.false_and, Bool.false_or]
theorem checkE_calls (n : Net) (e : Eng) (okn : NetOk n) (ok : EngOk e) (σ : Store) : ACalls Try.prog 63 [.agg (netC n), .agg (engC e)] σ fun r σ' => σ' = σ ∧ r = intA1 (checkE n e) := by
  have hC := netCheck_calls n okn
  have hrl := ok.rl
  have hbl := ok.bl
  refine ACalls.cutX ?_
  by_cases h0 : checkN n = 0
  · have hn := netIn_of h0
    have n1 := hn.n1
    have n6 := hn.n6
    have s2 := hn.alg.s2
    have s24 := hn.alg.s24
    have hx : I64 (n.alg.size - 1) := by unfold I64; omega
    have hA1 := all_calls n e 1 ok hx
    have hA5 := all_calls n e 5 ok hx
    have e1 : allP n 1 = formBad n := funext (allP_one n)
    have e5 : allP n 5 = noneBad n := funext (allP_five n)
    have hM1 := fun S => containsFunc_mail e.bag (fun m => !inR m.fr 0 (n.nodes - 1) || !inR m.dst 0 (n.nodes - 1)) 125 [] [.cp (netC n) 0] S (by omega) (by kernel_rfl) (fun m _ S => check1_calls n m S)
    have hM2 := fun S => containsFunc_mail e.bag (fun m => decide (60 < m.bytes.length)) 127 [] [] S (by omega) (by kernel_rfl) (fun m hm S => check2_calls m (ok.mail m hm).len S)
    rw [e1] at hA1
    rw [e5] at hA5
    rw [h0] at hC
    rw [checkE, if_neg (not_not_intro h0)]
    refine ACalls_of_awp Try.func63 rfl Try.results63 ?_
    simp only [List.length_cons, List.length_nil, Try.ntmps63, Nat.reduceAdd, Nat.reduceSub, enterA]
    refine AWP_seq_k fun K hK => ?_
    (refine AWP_region ?_; simp -implicitDefEqProofs only [go_sem])
    refine hK _ _ ?_; clear hK K
    refine AWP_freezeP 2 rfl (by simp only [st0]; rfl) ?_
    simp only [ss0, List.set_cons_zero]
    refine AWP_freezeP 3 rfl (by simp only [st1]; rfl) ?_
    simp only [ss1, List.set_cons_zero, List.set_cons_succ]
    by_cases hl : (e.routers.length : Int) = n.nodes
    · cases h1 : e.routers.any (formBad n)
      · rw [h1] at hA1
        rw [if_neg (by rw [not_or]; exact ⟨not_not_intro hl, by decide⟩)]
        cases h5 : e.routers.any (noneBad n)
        · rw [h5] at hA5
          rw [if_neg (by decide)]
          by_cases hb : 120 < e.bag.length
          · rw [if_pos hb]
            (repeat' (first|(refine g_s fun K hK=>?_)|(refine g_b ?_)|(refine g_r ?_)|(refine g_k ?_;simp only[thenQ,blockQ])|(refine g_e ?_;simp only[thenQ,blockQ,↓reduceIte,Nat.reduceEqDiff])|(refine g_c (fun h=>?_) (fun h=>?_)<;>(try simp only[go_sem] at h)<;>(try exact g_f))|((first|refine g_t ?_|refine g_g ?_|refine g_U ?_|refine g_A ?_|refine (hC _).use ?_|refine g_q (fun τ=>hC _) ?_|refine (hA1 _).use ?_|refine g_q (fun τ=>hA1 _) ?_|refine (hA5 _).use ?_|refine g_q (fun τ=>hA5 _) ?_|refine g_W ?_);(try simp -implicitDefEqProofs only[go_sem]))|(with_reducible refine hK _ _ ?_;clear hK K)|(clear hK K;first|(with_reducible refine hK _ _ ?_;clear hK K)|(clear hK K;with_reducible refine hK _ _ ?_;clear hK K)|(clear hK K;clear hK K;with_reducible refine hK _ _ ?_;clear hK K))|(with_reducible refine splitB_intro (fun h=>?_) (fun h=>?_)<;>(try simp only[go_sem] at h)<;>(try exact g_f)<;>(try simp -implicitDefEqProofs only[go_sem]))|(with_reducible refine And.intro (fun h=>?_) (fun h=>?_)<;>(try simp only[go_sem] at h)<;>(try exact g_f))|(with_reducible refine And.intro ?_ ?_;· exact g_x)|(with_reducible intro h;(try simp only[go_sem] at h);(try exact g_f))))
            exact CutQ_c rfl rfl
          · rw [if_neg hb]
            cases hm1 : e.bag.any fun m => !inR m.fr 0 (n.nodes - 1) || !inR m.dst 0 (n.nodes - 1)
            · rw [hm1] at hM1
              rw [if_neg (by decide)]
              cases hm2 : e.bag.any fun m => decide (60 < m.bytes.length)
              · rw [hm2] at hM2
                rw [if_neg (by decide)]
                (repeat' (first|(refine g_s fun K hK=>?_)|(refine g_b ?_)|(refine g_r ?_)|(refine g_k ?_;simp only[thenQ,blockQ])|(refine g_e ?_;simp only[thenQ,blockQ,↓reduceIte,Nat.reduceEqDiff])|(refine g_c (fun h=>?_) (fun h=>?_)<;>(try simp only[go_sem] at h)<;>(try exact g_f))|((first|refine g_t ?_|refine g_g ?_|refine g_U ?_|refine g_A ?_|refine (hC _).use ?_|refine g_q (fun τ=>hC _) ?_|refine (hA1 _).use ?_|refine g_q (fun τ=>hA1 _) ?_|refine (hA5 _).use ?_|refine g_q (fun τ=>hA5 _) ?_|refine (hM1 _).use ?_|refine g_q (fun τ=>hM1 _) ?_|refine (hM2 _).use ?_|refine g_q (fun τ=>hM2 _) ?_|refine g_W ?_);(try simp -implicitDefEqProofs only[go_sem]))|(with_reducible refine hK _ _ ?_;clear hK K)|(clear hK K;first|(with_reducible refine hK _ _ ?_;clear hK K)|(clear hK K;with_reducible refine hK _ _ ?_;clear hK K)|(clear hK K;clear hK K;with_reducible refine hK _ _ ?_;clear hK K))|(with_reducible refine splitB_intro (fun h=>?_) (fun h=>?_)<;>(try simp only[go_sem] at h)<;>(try exact g_f)<;>(try simp -implicitDefEqProofs only[go_sem]))|(with_reducible refine And.intro (fun h=>?_) (fun h=>?_)<;>(try simp only[go_sem] at h)<;>(try exact g_f))|(with_reducible refine And.intro ?_ ?_;· exact g_x)|(with_reducible intro h;(try simp only[go_sem] at h);(try exact g_f))))
                exact CutQ_c rfl rfl
              · rw [hm2] at hM2
                rw [if_pos rfl]
                (repeat' (first|(refine g_s fun K hK=>?_)|(refine g_b ?_)|(refine g_r ?_)|(refine g_k ?_;simp only[thenQ,blockQ])|(refine g_e ?_;simp only[thenQ,blockQ,↓reduceIte,Nat.reduceEqDiff])|(refine g_c (fun h=>?_) (fun h=>?_)<;>(try simp only[go_sem] at h)<;>(try exact g_f))|((first|refine g_t ?_|refine g_g ?_|refine g_U ?_|refine g_A ?_|refine (hC _).use ?_|refine g_q (fun τ=>hC _) ?_|refine (hA1 _).use ?_|refine g_q (fun τ=>hA1 _) ?_|refine (hA5 _).use ?_|refine g_q (fun τ=>hA5 _) ?_|refine (hM1 _).use ?_|refine g_q (fun τ=>hM1 _) ?_|refine (hM2 _).use ?_|refine g_q (fun τ=>hM2 _) ?_|refine g_W ?_);(try simp -implicitDefEqProofs only[go_sem]))|(with_reducible refine hK _ _ ?_;clear hK K)|(clear hK K;first|(with_reducible refine hK _ _ ?_;clear hK K)|(clear hK K;with_reducible refine hK _ _ ?_;clear hK K)|(clear hK K;clear hK K;with_reducible refine hK _ _ ?_;clear hK K))|(with_reducible refine splitB_intro (fun h=>?_) (fun h=>?_)<;>(try simp only[go_sem] at h)<;>(try exact g_f)<;>(try simp -implicitDefEqProofs only[go_sem]))|(with_reducible refine And.intro (fun h=>?_) (fun h=>?_)<;>(try simp only[go_sem] at h)<;>(try exact g_f))|(with_reducible refine And.intro ?_ ?_;· exact g_x)|(with_reducible intro h;(try simp only[go_sem] at h);(try exact g_f))))
                exact CutQ_c rfl rfl
            · rw [hm1] at hM1
              rw [if_pos rfl]
              (repeat' (first|(refine g_s fun K hK=>?_)|(refine g_b ?_)|(refine g_r ?_)|(refine g_k ?_;simp only[thenQ,blockQ])|(refine g_e ?_;simp only[thenQ,blockQ,↓reduceIte,Nat.reduceEqDiff])|(refine g_c (fun h=>?_) (fun h=>?_)<;>(try simp only[go_sem] at h)<;>(try exact g_f))|((first|refine g_t ?_|refine g_g ?_|refine g_U ?_|refine g_A ?_|refine (hC _).use ?_|refine g_q (fun τ=>hC _) ?_|refine (hA1 _).use ?_|refine g_q (fun τ=>hA1 _) ?_|refine (hA5 _).use ?_|refine g_q (fun τ=>hA5 _) ?_|refine (hM1 _).use ?_|refine g_q (fun τ=>hM1 _) ?_|refine g_W ?_);(try simp -implicitDefEqProofs only[go_sem]))|(with_reducible refine hK _ _ ?_;clear hK K)|(clear hK K;first|(with_reducible refine hK _ _ ?_;clear hK K)|(clear hK K;with_reducible refine hK _ _ ?_;clear hK K)|(clear hK K;clear hK K;with_reducible refine hK _ _ ?_;clear hK K))|(with_reducible refine splitB_intro (fun h=>?_) (fun h=>?_)<;>(try simp only[go_sem] at h)<;>(try exact g_f)<;>(try simp -implicitDefEqProofs only[go_sem]))|(with_reducible refine And.intro (fun h=>?_) (fun h=>?_)<;>(try simp only[go_sem] at h)<;>(try exact g_f))|(with_reducible refine And.intro ?_ ?_;· exact g_x)|(with_reducible intro h;(try simp only[go_sem] at h);(try exact g_f))))
              exact CutQ_c rfl rfl
        · rw [h5] at hA5
          rw [if_pos rfl]
          (repeat' (first|(refine g_s fun K hK=>?_)|(refine g_b ?_)|(refine g_r ?_)|(refine g_k ?_;simp only[thenQ,blockQ])|(refine g_e ?_;simp only[thenQ,blockQ,↓reduceIte,Nat.reduceEqDiff])|(refine g_c (fun h=>?_) (fun h=>?_)<;>(try simp only[go_sem] at h)<;>(try exact g_f))|((first|refine g_t ?_|refine g_g ?_|refine g_U ?_|refine g_A ?_|refine (hC _).use ?_|refine g_q (fun τ=>hC _) ?_|refine (hA1 _).use ?_|refine g_q (fun τ=>hA1 _) ?_|refine (hA5 _).use ?_|refine g_q (fun τ=>hA5 _) ?_|refine g_W ?_);(try simp -implicitDefEqProofs only[go_sem]))|(with_reducible refine hK _ _ ?_;clear hK K)|(clear hK K;first|(with_reducible refine hK _ _ ?_;clear hK K)|(clear hK K;with_reducible refine hK _ _ ?_;clear hK K)|(clear hK K;clear hK K;with_reducible refine hK _ _ ?_;clear hK K))|(with_reducible refine splitB_intro (fun h=>?_) (fun h=>?_)<;>(try simp only[go_sem] at h)<;>(try exact g_f)<;>(try simp -implicitDefEqProofs only[go_sem]))|(with_reducible refine And.intro (fun h=>?_) (fun h=>?_)<;>(try simp only[go_sem] at h)<;>(try exact g_f))|(with_reducible refine And.intro ?_ ?_;· exact g_x)|(with_reducible intro h;(try simp only[go_sem] at h);(try exact g_f))))
          exact CutQ_c rfl rfl
      · rw [h1] at hA1
        rw [if_pos (.inr rfl)]
        (repeat' (first|(refine g_s fun K hK=>?_)|(refine g_b ?_)|(refine g_r ?_)|(refine g_k ?_;simp only[thenQ,blockQ])|(refine g_e ?_;simp only[thenQ,blockQ,↓reduceIte,Nat.reduceEqDiff])|(refine g_c (fun h=>?_) (fun h=>?_)<;>(try simp only[go_sem] at h)<;>(try exact g_f))|((first|refine g_t ?_|refine g_g ?_|refine g_U ?_|refine g_A ?_|refine (hC _).use ?_|refine g_q (fun τ=>hC _) ?_|refine (hA1 _).use ?_|refine g_q (fun τ=>hA1 _) ?_|refine g_W ?_);(try simp -implicitDefEqProofs only[go_sem]))|(with_reducible refine hK _ _ ?_;clear hK K)|(clear hK K;first|(with_reducible refine hK _ _ ?_;clear hK K)|(clear hK K;with_reducible refine hK _ _ ?_;clear hK K)|(clear hK K;clear hK K;with_reducible refine hK _ _ ?_;clear hK K))|(with_reducible refine splitB_intro (fun h=>?_) (fun h=>?_)<;>(try simp only[go_sem] at h)<;>(try exact g_f)<;>(try simp -implicitDefEqProofs only[go_sem]))|(with_reducible refine And.intro (fun h=>?_) (fun h=>?_)<;>(try simp only[go_sem] at h)<;>(try exact g_f))|(with_reducible refine And.intro ?_ ?_;· exact g_x)|(with_reducible intro h;(try simp only[go_sem] at h);(try exact g_f))))
        exact CutQ_c rfl rfl
    · rw [if_pos (.inl hl)]
      (repeat' (first|(refine g_s fun K hK=>?_)|(refine g_b ?_)|(refine g_r ?_)|(refine g_k ?_;simp only[thenQ,blockQ])|(refine g_e ?_;simp only[thenQ,blockQ,↓reduceIte,Nat.reduceEqDiff])|(refine g_c (fun h=>?_) (fun h=>?_)<;>(try simp only[go_sem] at h)<;>(try exact g_f))|((first|refine g_t ?_|refine g_g ?_|refine g_U ?_|refine g_A ?_|refine (hC _).use ?_|refine g_q (fun τ=>hC _) ?_|refine g_W ?_);(try simp -implicitDefEqProofs only[go_sem]))|(with_reducible refine hK _ _ ?_;clear hK K)|(clear hK K;first|(with_reducible refine hK _ _ ?_;clear hK K)|(clear hK K;with_reducible refine hK _ _ ?_;clear hK K)|(clear hK K;clear hK K;with_reducible refine hK _ _ ?_;clear hK K))|(with_reducible refine splitB_intro (fun h=>?_) (fun h=>?_)<;>(try simp only[go_sem] at h)<;>(try exact g_f)<;>(try simp -implicitDefEqProofs only[go_sem]))|(with_reducible refine And.intro (fun h=>?_) (fun h=>?_)<;>(try simp only[go_sem] at h)<;>(try exact g_f))|(with_reducible refine And.intro ?_ ?_;· exact g_x)|(with_reducible intro h;(try simp only[go_sem] at h);(try exact g_f))))
      exact CutQ_c rfl rfl
  · rw [checkE, if_pos h0]
    refine ACalls_of_awp Try.func63 rfl Try.results63 ?_
    simp only [List.length_cons, List.length_nil, Try.ntmps63, Nat.reduceAdd, Nat.reduceSub, enterA]
    (repeat' (first|(refine g_s fun K hK=>?_)|(refine g_b ?_)|(refine g_r ?_)|(refine g_k ?_;simp only[thenQ,blockQ])|(refine g_e ?_;simp only[thenQ,blockQ,↓reduceIte,Nat.reduceEqDiff])|(refine g_c (fun h=>?_) (fun h=>?_)<;>(try simp only[go_sem] at h)<;>(try exact g_f))|((first|refine g_t ?_|refine g_g ?_|refine g_U ?_|refine g_A ?_|refine (hC _).use ?_|refine g_q (fun τ=>hC _) ?_|refine g_W ?_);(try simp -implicitDefEqProofs only[go_sem]))|(with_reducible refine hK _ _ ?_;clear hK K)|(clear hK K;first|(with_reducible refine hK _ _ ?_;clear hK K)|(clear hK K;with_reducible refine hK _ _ ?_;clear hK K)|(clear hK K;clear hK K;with_reducible refine hK _ _ ?_;clear hK K))|(with_reducible refine splitB_intro (fun h=>?_) (fun h=>?_)<;>(try simp only[go_sem] at h)<;>(try exact g_f)<;>(try simp -implicitDefEqProofs only[go_sem]))|(with_reducible refine And.intro (fun h=>?_) (fun h=>?_)<;>(try simp only[go_sem] at h)<;>(try exact g_f))|(with_reducible refine And.intro ?_ ?_;· exact g_x)|(with_reducible intro h;(try simp only[go_sem] at h);(try exact g_f))))
    exact CutQ_c (τ := [.cells 5 [netC n], .cells 2 [engC e]]) (by simp [netC, engC, intA1, rowsC, linksV]) rfl
end Go.Proofs.Ytephecognbbaoab
