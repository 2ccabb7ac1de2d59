/- Slices as they lie in memory; append; make; bytes and strings. -/
import Derived.Test.YtephecognbbaoaaMk
namespace Go.Proofs.Ytephecognbbaoaa
open Go
set_option linter.all false

section
variable {P : Program} {K : World} {imm : Imm} {m : Own} {w w' : World} {σ : Store} {ev : Operand → Option AV} {ρ : Operand → Value}

theorem slice_at (hs : Sim K imm m w σ) {v : Value} {x : AV} {es : List (List AV)} (hr : Rep imm m v x) (he : elemsA σ x = some es) :
    ∃ p cap, v = .slice p es.length cap ∧ es.length ≤ cap ∧ (0 < es.length → ∃ b o k, p = some ⟨b, o, none⟩ ∧ (∀ i (hi : i < es.length), es[i].length = k) ∧
      ∀ i (hi : i < es.length) j (hj : j < es[i].length), ∃ u, w.cell? ⟨b, o + (i * k + j), none⟩ = some u ∧ Rep imm m u es[i][j]) := by
  rw [elemsA_eq] at he
  unfold elemsB at he
  split at he
  · cases he
    cases hr with
    | sl p cap n es k vals hn hcap hk hp hr =>
      subst hn
      refine ⟨p, cap, rfl, hcap, fun h0 => ?_⟩
      obtain ⟨b, o, rfl, hc⟩ := hp h0
      refine ⟨b, o, k, rfl, hk, fun i hi j hj => ⟨vals i j, ?_, hr i hi j hj⟩⟩
      have := hc i hi j (by rw [← hk i hi]; exact hj)
      unfold icell at this
      split at this
      · rename_i c T fr hb
        simp [World.cell?, hs.imm_ok _ _ hb, this]
      · cases this
  · cases he
    cases hr
    exact ⟨_, _, rfl, Nat.le_refl _, fun h => by simp at h⟩
  · cases he
    rw [hr.c_inv]
    exact ⟨_, _, rfl, Nat.le_refl _, fun h => by simp at h⟩
  · rename_i b k s n c
    split at he
    · rename_i k' es' hb
      split at he
      · rename_i hcond
        obtain ⟨rfl, hle⟩ := hcond
        cases he
        obtain ⟨hlt, hob⟩ := List.getElem?_eq_some_iff.1 hb
        have h0 := hs.obs b hlt
        rw [hob] at h0
        obtain ⟨blk, sz, h1, h2, cs, T', fr, h3, h4, h5, h6, h7⟩ := h0
        cases hr with
        | own b k s n c cap blk' sz' x hm hn hcc hx hc =>
          rw [h1] at hm
          cases hm
          subst hx
          have hlen : ((es'.drop s).take n).length = n := by simp; omega
          refine ⟨_, cap, by rw [hlen], by rw [hlen]; omega, fun hpos => ⟨blk, s * k', k', rfl, fun i hi => ?_, fun i hi j hj => ?_⟩⟩
          · simp only [List.getElem_take, List.getElem_drop]
            exact (h7 _ _).1
          · simp only [List.getElem_take, List.getElem_drop] at hj ⊢
            obtain ⟨u, e, r⟩ := (h7 (s + i) (by omega)).2 j hj
            refine ⟨u, ?_, r⟩
            rw [Nat.add_mul] at e
            simp [World.cell?, h3, ← e, Nat.add_assoc]
      · cases he
    · cases he
  · cases he

/-- A slice's cells, in one list. -/
theorem slice_flat (hs : Sim K imm m w σ) {v : Value} {x : AV} {es : List (List AV)} (hr : Rep imm m v x) (he : elemsA σ x = some es) (h0 : 0 < es.length) {k : Nat} (hk : ∀ e, e ∈ es → e.length = k) :
    ∃ (b o cap : Nat) (news : List Value), v = .slice (some ⟨b, o, none⟩) es.length cap ∧ es.length ≤ cap ∧ news.length = es.length * k ∧ (∀ j u, news[j]? = some u → w.cell? ((⟨b, o, none⟩ : Addr).add j) = some u) ∧
      ∀ i (hi : i < es.length) j (hj : j < es[i].length), ∃ u, news[i * k + j]? = some u ∧ Rep imm m u es[i][j] := by
  obtain ⟨p, cap, rfl, hcap, h⟩ := slice_at hs hr he
  obtain ⟨b, o, k', rfl, hk', hc⟩ := h h0
  obtain rfl : k' = k := by rw [← hk' 0 h0]; exact hk _ (List.getElem_mem _)
  let news := (List.range (es.length * k')).map fun y => (w.cell? ⟨b, o + y, none⟩).getD undef
  refine ⟨b, o, cap, news, rfl, hcap, by simp [news], fun j u hj => ?_, fun i hi j hj => ?_⟩
  · rw [addr_add]
    simp only [news, List.getElem?_map] at hj
    obtain ⟨y, hy, rfl⟩ := Option.map_eq_some_iff.1 hj
    obtain ⟨hlt, rfl⟩ := List.getElem?_eq_some_iff.1 hy
    simp only [List.getElem_range]
    simp at hlt
    have hkpos : 0 < k' := by
      rcases Nat.eq_zero_or_pos k' with h | h
      · subst h; simp at hlt
      · exact h
    have hi : j / k' < es.length := Nat.div_lt_of_lt_mul (by rw [Nat.mul_comm]; exact hlt)
    obtain ⟨u, hu, _⟩ := hc (j / k') hi (j % k') (by rw [hk']; exact Nat.mod_lt _ hkpos)
    rw [Nat.div_add_mod'] at hu
    rw [hu]
    rfl
  · obtain ⟨u, hu, r⟩ := hc i hi j hj
    have hlt : i * k' + j < es.length * k' := flat_lt (by rw [← hk' i hi]; exact hj) hi
    exact ⟨u, by simp [news, hlt, hu], r⟩

theorem run_append_emp (t ty e : TypeId) (i : TypeInfo) (z : Value) (ht : P.underlying t = some (.slice e)) (hi : P.info? e = some i) (hz : i.zero = some z)
    (p : Option Addr) (a : Addr) (n c : Nat) (news : List Value) (hl : news.length = n * i.size) (hnews : ∀ j v, news[j]? = some v → w.cell? (a.add j) = some v)
    (h0 : 0 < n) (h63 : (n : Int) ≤ 9223372036854775807) (h48 : n * i.bytes ≤ 281474976710656) :
    (Builtin.append_ #[t, t] ty #[.slice p 0 0, .slice (some a) n c]).run P w =
      .ok (.slice (some ⟨w.heap.size, 0, none⟩) n (grownCap w n 0 e)) (w.drew.alloc (.cells (news.toArray ++ Builtin.zeroCells z.cells (grownCap w n 0 e - n)) e)) := by
  cases p with
  | none => exact run_append_nil w t ty e i z ht hi hz a n c news hl hnews h0 h63 h48
  | some b =>
    have := run_append_grow (P := P) w t ty e i z ht hi hz b 0 0 [] (by simp) (fun j v h => by simp at h) a n c news hl hnews (by omega) (by simpa using h63) (by rw [Nat.zero_add, nextslicecap_zero h0]; exact h48)
    simpa using this

theorem run_append_empty (t ty e : TypeId) (ht : P.underlying t = some (.slice e)) (hi : (P.info? e).isSome = true) (p : Option Addr) (n cap : Nat) (hn : n ≤ cap) (x : Option Addr) (c : Nat) :
    (Builtin.append_ #[t, t] ty #[.slice p n cap, .slice x 0 c]).run P w = .ok (.slice p n cap) w := by
  obtain ⟨i, hi⟩ := Option.isSome_iff_exists.1 hi
  cases x <;> cases p <;> simp [Builtin.append_, run_underlying ht, sizeOf, run_typeInfo hi, Builtin.lenOf, hn, Builtin.firstCells, loadCells, loadCellsFrom, storeCells]

theorem beside_drew (o : Obj) : Beside w (w.drew.alloc o) := ⟨rfl, rfl, rfl, by show w.heap.size ≤ (w.heap.push o).size; simp⟩

theorem size_zeroCells' (z : Array Value) (n : Nat) : (Builtin.zeroCells z n).size = n * z.size := by simp [Builtin.zeroCells]

/-- What an append makes of abstract elements. -/
def appendE (P : Program) (e : TypeId) (s x : AV) (σ : Store) (K : AV → Store → Prop) : Prop :=
  (P.info? e).isSome = true ∧ 0 < P.cellsOf e ∧ (zeroA P e).map (·.length) = some (P.cellsOf e) ∧
    on (elemsA σ s) fun olds => on (elemsA σ x) fun news => (∀ e', e' ∈ news → e'.length = P.cellsOf e) ∧
      match s with
      | .own b k i n c => k = P.cellsOf e ∧
        (n + news.length ≤ c ∧ n ≠ c → (∀ e', e' ∈ news → e'.all oneA = true) ∧ on σ[b]? fun ob => match ob with
          | .cells _ es => K (.own b k i (n + news.length) c) (σ.set b (.cells k (es.take (i + n) ++ news ++ es.drop (i + n + news.length))))
          | _ => False) ∧
        (n = c ∨ c < n + news.length → i = 0 ∧ (∀ e', e' ∈ news → e'.all oneA = true) ∧ (n + news.length) * P.bytesOf e ≤ 140737488355328 ∧ n + news.length ≤ maxLen ∧
          K (.own σ.length k 0 (olds ++ news).length (olds ++ news).length) (σ.set b .dead ++ [.cells k (olds ++ news)]))
      | .emp => (news.length = 0 → K s σ) ∧ (0 < news.length → news.length * P.bytesOf e ≤ 140737488355328 ∧ news.length ≤ maxLen ∧
          K (.own σ.length (P.cellsOf e) 0 news.length news.length) (σ ++ [.cells (P.cellsOf e) news]))
      | .c _ => (news.length = 0 → K s σ) ∧ (0 < news.length → news.length * P.bytesOf e ≤ 140737488355328 ∧ news.length ≤ maxLen ∧
          K (.own σ.length (P.cellsOf e) 0 news.length news.length) (σ ++ [.cells (P.cellsOf e) news]))
      | _ => False

def appendD (P : Program) (d : Option TypeDesc) (s x : AV) (σ : Store) (K : AV → Store → Prop) : Prop :=
  match d with
  | some (.slice e) => appendE P e s x σ K
  | _ => False

def appendA (P : Program) (t : TypeId) (s x : AV) (σ : Store) (K : AV → Store → Prop) : Prop := appendD P (P.underlying t) s x σ K

/-- A new row out of values that lie in memory. -/
theorem Sim.newRow (hs : Sim K imm m w σ) (hb : Beside w w') (cells : List Value) (rest : Array Value) (T : TypeId) (hw : w'.heap = w.heap.push (.cells (cells.toArray ++ rest) T))
    {k : Nat} (es : List (List AV)) (hk : ∀ e, e ∈ es → e.length = k) (hl : cells.length = es.length * k)
    (hrep : ∀ i (hi : i < es.length) j (hj : j < es[i].length), ∃ v, cells[i * k + j]? = some v ∧ Rep imm m v es[i][j]) :
    Sim K imm (upd m σ.length (w.heap.size, cells.length + rest.size)) w' (σ ++ [.cells k es]) := by
  have := hs.push hb (cells.toArray ++ rest) T (0, 0) hw k es (by simp) (by simp; omega) (fun i hi => ⟨hk _ (List.getElem_mem _), fun j hj => by
    obtain ⟨v, e, r⟩ := hrep i hi j hj
    obtain ⟨hlt, e'⟩ := List.getElem?_eq_some_iff.1 e
    refine ⟨v, ?_, r⟩
    rw [Array.getElem?_append_left (by simpa using hlt)]
    simpa using e⟩)
  simpa using this

/-- Elements written behind the first p ones. -/
theorem inplace {blk k p : Nat} {T : TypeId} {fr : Nat × Nat} {cs : Array Value} {es news : List (List AV)} {nl : List Value} (h3 : w.heap[blk]? = some (.cells cs T fr))
    (h7 : ∀ i (hi : i < es.length), es[i].length = k ∧ ∀ j (hj : j < es[i].length), ∃ v, cs[i * k + j]? = some v ∧ Rep imm m v es[i][j]) (hp : p ≤ es.length)
    (hkn : ∀ e, e ∈ news → e.length = k) (hnl : nl.length = news.length * k) (hrep : ∀ i (hi : i < news.length) j (hj : j < news[i].length), ∃ u, nl[i * k + j]? = some u ∧ Rep imm m u news[i][j])
    (hfit : (p + news.length) * k ≤ cs.size) :
    ∃ cs', (w.setCells blk (p * k) nl).heap[blk]? = some (.cells cs' T fr) ∧ cs'.size = cs.size ∧ (∀ c, c ≠ blk → (w.setCells blk (p * k) nl).heap[c]? = w.heap[c]?) ∧ Beside w (w.setCells blk (p * k) nl) ∧
      (∀ i (hi : i < (es.take p ++ news ++ es.drop (p + news.length)).length), (es.take p ++ news ++ es.drop (p + news.length))[i].length = k ∧
        ∀ j (hj : j < (es.take p ++ news ++ es.drop (p + news.length))[i].length), ∃ v, cs'[i * k + j]? = some v ∧ Rep imm m v (es.take p ++ news ++ es.drop (p + news.length))[i][j]) := by
  obtain ⟨cs', g1, g2, g3, g4, g5, g6⟩ := setCells_heap blk T fr nl (p * k) cs w h3
  refine ⟨cs', g1, g2, g5, g6, fun i hi => ?_⟩
  have hl1 : (es.take p).length = p := by simp; omega
  have e1 : (p + news.length) * k = p * k + news.length * k := Nat.add_mul _ _ _
  rcases Nat.lt_or_ge i p with h1 | h1
  · have he : (es.take p ++ news ++ es.drop (p + news.length))[i] = es[i]'(by omega) := by
      rw [List.getElem_append_left (by simp; omega), List.getElem_append_left (by omega), List.getElem_take]
    rw [he]
    refine ⟨(h7 i _).1, fun j hj => ?_⟩
    obtain ⟨v, e, r⟩ := (h7 i (by omega)).2 j hj
    have hj' : j < k := by rw [← (h7 i (by omega)).1]; exact hj
    refine ⟨v, ?_, r⟩
    rw [g3 _ (.inl (flat_lt hj' h1)), e]
  · rcases Nat.lt_or_ge i (p + news.length) with h2 | h2
    · have he : (es.take p ++ news ++ es.drop (p + news.length))[i] = news[i - p]'(by omega) := by
        rw [List.getElem_append_left (by simp; omega), List.getElem_append_right (by omega)]
        simp only [hl1]
      rw [he]
      refine ⟨hkn _ (List.getElem_mem _), fun j hj => ?_⟩
      have hj1 : j < news[i - p].length := hj
      have hj' : j < k := by rw [← hkn _ (List.getElem_mem (show i - p < news.length by omega))]; exact hj1
      obtain ⟨v, e, r⟩ := hrep (i - p) (by omega) j hj1
      obtain ⟨hlt, e'⟩ := List.getElem?_eq_some_iff.1 e
      have hf := flat_lt hj' h2
      refine ⟨v, ?_, r⟩
      have hi2 : i * k = p * k + (i - p) * k := by rw [← Nat.add_mul]; congr 1; omega
      rw [show i * k + j = p * k + ((i - p) * k + j) by omega, g4 _ hlt (by omega), e']
    · have hi3 : i < es.length := by
        simp only [List.length_append, List.length_take, List.length_drop] at hi
        omega
      have he : (es.take p ++ news ++ es.drop (p + news.length))[i] = es[i]'hi3 := by
        rw [List.getElem_append_right (by simp; omega), List.getElem_drop]
        simp only [List.length_append, hl1]
        congr 1
        omega
      rw [he]
      refine ⟨(h7 i _).1, fun j hj => ?_⟩
      obtain ⟨v, e, r⟩ := (h7 i (by omega)).2 j hj
      refine ⟨v, ?_, r⟩
      have := Nat.mul_le_mul_right k h2
      rw [g3 _ (.inr (by omega)), e]

theorem append_run (hs : Sim K imm m w σ) {t ty : TypeId} {s x : AV} {vs vx : Value} (hrs : Rep imm m vs s) (hrx : Rep imm m vx x) {Kont : AV → Store → Prop} (h : appendA P t s x σ Kont) :
    ∃ v w' imm' m' av σ', (Builtin.append_ #[t, t] ty #[vs, vx]).run P w = .ok v w' ∧ ILe imm imm' ∧ OLe m m' ∧ Sim K imm' m' w' σ' ∧ Rep imm' m' v av ∧ Kont av σ' := by
  unfold appendA appendD at h
  split at h
  · rename_i e ht
    unfold appendE at h
    obtain ⟨hi, hk0, hz, h⟩ := h
    replace h := on_elim h; obtain ⟨olds, holds, h⟩ := h
    replace h := on_elim h; obtain ⟨news, hnews, h⟩ := h
    obtain ⟨hkn, h⟩ := h
    obtain ⟨inf, hinf⟩ := Option.isSome_iff_exists.1 hi
    have hcells : P.cellsOf e = inf.size := by simp [Program.cellsOf, hinf]
    have hbytes : P.bytesOf e = inf.bytes := by simp [Program.bytesOf, hinf]
    obtain ⟨zl, hzl, hzlen⟩ := Option.map_eq_some_iff.1 hz
    obtain ⟨zv, _, _, hzeq, hzinf⟩ := zeroA_run (P := P) (imm := imm) (m := m) (w := w) hzl
    have hzero : inf.zero = some zv := by simpa [hinf] using hzinf
    have hzsz : zv.cells.size = inf.size := by rw [← hcells, ← hzlen, hzeq]; simp
    -- the appended elements, where there are any
    have hnewrow : 0 < news.length → ∃ (b o cap : Nat) (nl : List Value), vx = .slice (some ⟨b, o, none⟩) news.length cap ∧ nl.length = news.length * P.cellsOf e ∧
        (∀ j u, nl[j]? = some u → w.cell? ((⟨b, o, none⟩ : Addr).add j) = some u) ∧
        (∀ i (hi : i < news.length) j (hj : j < news[i].length), ∃ u, nl[i * P.cellsOf e + j]? = some u ∧ Rep imm m u news[i][j]) := fun h0 => by
      obtain ⟨b, o, cap, nl, h1, _, h2, h3, h4⟩ := slice_flat hs hrx hnews h0 hkn
      exact ⟨b, o, cap, nl, h1, h2, h3, h4⟩
    have hempty : ∀ (vs : Value) (p : Option Addr), vs = .slice p 0 0 → (news.length = 0 → Kont s σ) → (0 < news.length → news.length * P.bytesOf e ≤ 140737488355328 ∧ news.length ≤ maxLen ∧
          Kont (.own σ.length (P.cellsOf e) 0 news.length news.length) (σ ++ [.cells (P.cellsOf e) news])) → Rep imm m vs s →
        ∃ v w' imm' m' av σ', (Builtin.append_ #[t, t] ty #[vs, vx]).run P w = .ok v w' ∧ ILe imm imm' ∧ OLe m m' ∧ Sim K imm' m' w' σ' ∧ Rep imm' m' v av ∧ Kont av σ' := by
      rintro vs p rfl h1 h2 hrs
      rcases Nat.eq_zero_or_pos news.length with h0 | h0
      · obtain ⟨q, cap, rfl, _, _⟩ := slice_at hs hrx hnews
        rw [h0]
        refine ⟨_, w, imm, m, s, σ, run_append_empty t ty e ht hi p 0 0 (Nat.le_refl _) q cap, .refl _, .refl _, hs, hrs, h1 h0⟩
      · obtain ⟨hb, hml, hK⟩ := h2 h0
        obtain ⟨b, o, cap, nl, rfl, hnl, hcell, hrep⟩ := hnewrow h0
        have hr := run_append_emp (P := P) (w := w) t ty e inf zv ht hinf hzero p ⟨b, o, none⟩ news.length cap nl (by rw [hnl, hcells]) hcell h0 (by simp [maxLen] at hml; omega) (by rw [← hbytes]; omega)
        have hg := grownCap_ge w news.length 0 e
        refine ⟨_, _, imm, _, _, _, hr, .refl _, .upd (hs.dom _ (Nat.le_refl _)) _, hs.newRow (beside_drew _) nl _ e rfl news hkn hnl hrep, ?_, hK⟩
        refine .own _ _ _ _ _ _ w.heap.size _ _ (by simp [upd]; rfl) (Nat.le_refl _) hg (by simp) ?_
        rw [hnl, size_zeroCells', hzsz, ← hcells, ← Nat.add_mul, Nat.zero_add]
        exact Nat.mul_le_mul_right _ (by omega)
    split at h
    · rename_i b k i n c
      obtain ⟨rfl, hA, hB⟩ := h
      -- the target, opened
      rw [elemsA_eq] at holds
      simp only [elemsB] at holds
      split at holds
      · rename_i k' es hb
        split at holds
        · rename_i hcond
          obtain ⟨rfl, hle⟩ := hcond
          cases holds
          obtain ⟨hlt, hob⟩ := List.getElem?_eq_some_iff.1 hb
          have h0 := hs.obs b hlt
          rw [hob] at h0
          obtain ⟨blk, sz, h1, h2, cs, T', fr, h3, h4, h5, h6, h7⟩ := h0
          have hrs' := hrs
          cases hrs with
          | own b k i n c cap blk' sz' x hm hn hcc hx hc =>
            rw [h1] at hm
            cases hm
            subst hx
            have hmul : ∀ y, y ≤ i + cap → y * P.cellsOf e ≤ sz := fun y hy => Nat.le_trans (Nat.mul_le_mul_right _ hy) hc
            -- in place, where there is room and something to append
            have hroom : 0 < news.length → (∀ e', e' ∈ news → e'.all oneA = true) → n + news.length ≤ cap → ∃ nl, (Builtin.append_ #[t, t] ty #[.slice (some ⟨blk, i * P.cellsOf e, none⟩) n cap, vx]).run P w = .ok (.slice (some ⟨blk, i * P.cellsOf e, none⟩) (n + news.length) cap) (w.setCells blk ((i + n) * P.cellsOf e) nl) ∧
                nl.length = news.length * P.cellsOf e ∧ (∀ i (hi : i < news.length) j (hj : j < news[i].length), ∃ u, nl[i * P.cellsOf e + j]? = some u ∧ Rep imm m u news[i][j]) := fun hpos hone hfit => by
              obtain ⟨b', o', cap', nl, rfl, hnl, hcell, hrep⟩ := hnewrow hpos
              have hmm := hmul (i + n + news.length) (by omega)
              have hmm' : (i + n + news.length) * P.cellsOf e = i * P.cellsOf e + n * P.cellsOf e + news.length * P.cellsOf e := by rw [Nat.add_mul, Nat.add_mul]
              have hon : ∀ u ∈ nl, u.oneCell' = true := fun u hu => by
                obtain ⟨y, hy, rfl⟩ := List.getElem_of_mem hu
                have hi : y / P.cellsOf e < news.length := Nat.div_lt_of_lt_mul (by rw [Nat.mul_comm, ← hnl]; exact hy)
                have hj : y % P.cellsOf e < news[y / P.cellsOf e].length := by rw [hkn _ (List.getElem_mem _)]; exact Nat.mod_lt _ hk0
                obtain ⟨u, e1, r⟩ := hrep _ hi _ hj
                rw [Nat.div_add_mod'] at e1
                obtain ⟨_, rfl⟩ := List.getElem?_eq_some_iff.1 e1
                exact oneA_rep r (List.all_eq_true.1 (hone _ (List.getElem_mem _)) _ (List.getElem_mem _))
              have hr := run_append_room_cells (P := P) w t ty e inf ht hinf blk (i * P.cellsOf e) n cap ⟨b', o', none⟩ news.length cap' nl (by rw [hnl, hcells]) hcell hon hfit
                (fun j hj => by
                  rw [← hcells]
                  have : i * P.cellsOf e + n * P.cellsOf e + j < cs.size := by omega
                  simp [World.cell?, h3, this])
                (fun j hj => by
                  rw [← hcells]
                  have := h5 (i * P.cellsOf e + n * P.cellsOf e + j) (by omega)
                  simp only [World.frozen?, h3]
                  simpa using this)
              refine ⟨nl, ?_, hnl, hrep⟩
              rw [hr, ← hcells, Nat.add_mul]
            by_cases hnc : n + news.length ≤ c ∧ n ≠ c
            · obtain ⟨hone, hA⟩ := hA hnc
              replace hA := on_elim hA; obtain ⟨ob, hob2, hA⟩ := hA
              rw [hb] at hob2
              cases hob2
              simp only at hA
              rcases Nat.eq_zero_or_pos news.length with hz0 | hpos
              · obtain ⟨q, cap2, rfl, _, _⟩ := slice_at hs hrx hnews
                rw [hz0]
                have hnil : news = [] := List.eq_nil_of_length_eq_zero hz0
                subst hnil
                refine ⟨_, w, imm, m, _, _, run_append_empty t ty e ht hi _ n cap (by omega) q cap2, .refl _, .refl _, hs, hrs', ?_⟩
                simp only [List.length_nil, Nat.add_zero, List.append_nil, List.take_append_drop] at hA
                have hset : σ.set b (.cells (P.cellsOf e) es) = σ := by
                  rw [← hob]
                  exact List.set_getElem_self hlt
                rw [hset] at hA
                exact hA
              · obtain ⟨nl, hrun, hnl, hrep⟩ := hroom hpos hone (by omega)
                obtain ⟨cs', g1, g2, g5, g6, g7⟩ := inplace (p := i + n) h3 h7 hle hkn hnl hrep (by rw [h4]; exact hmul _ (by omega))
                have hle' : (es.take (i + n) ++ news ++ es.drop (i + n + news.length)).length * P.cellsOf e ≤ sz := by
                  have : (es.take (i + n) ++ news ++ es.drop (i + n + news.length)).length = max es.length (i + n + news.length) := by simp; omega
                  rw [this]
                  rcases Nat.le_total es.length (i + n + news.length) with hm1 | hm1
                  · rw [Nat.max_eq_right hm1]; exact hmul _ (by omega)
                  · rw [Nat.max_eq_left hm1]; exact h6
                exact ⟨_, _, imm, m, _, _, hrun, .refl _, .refl _, hs.set g6 hlt h1 hob g5 cs' T' fr g1 (by omega) h5 _ hle' g7, .own b _ i _ c cap blk sz _ h1 hnc.1 hcc rfl hc, hA⟩
            · obtain ⟨rfl, hone, hbyt, hml, hB⟩ := hB (by omega)
              simp only [Nat.zero_add, Nat.zero_mul, List.drop_zero] at hle hc hmul hroom hB hrs' ⊢
              have hlen9 : (es.take n ++ news).length = n + news.length := by rw [List.length_append, List.length_take]; omega
              rw [hlen9] at hB
              rcases Nat.eq_zero_or_pos news.length with hz0 | hpos
              · obtain ⟨q, cap2, rfl, _, _⟩ := slice_at hs hrx hnews
                rw [hz0]
                have hnil : news = [] := List.eq_nil_of_length_eq_zero hz0
                subst hnil
                simp only [List.length_nil, Nat.add_zero, List.append_nil] at hB
                have hol : (es.take n).length = n := by simp; omega
                refine ⟨_, w, imm, _, _, _, run_append_empty t ty e ht hi _ n cap (by omega) q cap2, .refl _, .upd (hs.dom _ (Nat.le_refl _)) _, hs.move ⟨rfl, rfl, rfl, Nat.le_refl _⟩ hlt h1 hob (fun _ _ => rfl) cs T' fr h3 h4 h5 (P.cellsOf e) (es.take n) (by rw [hol]; exact hmul _ (by omega)) (fun y hy => ?_), ?_, hB⟩
                · have h9 := h7 y (by omega)
                  simp only [List.getElem_take]
                  exact h9
                · exact .own _ _ _ _ _ cap blk sz _ (by simp [upd]) (Nat.le_refl _) (by omega) (by simp) (by simpa using hc)
              by_cases hfit : n + news.length ≤ cap
              · obtain ⟨nl, hrun, hnl, hrep⟩ := hroom hpos hone hfit
                obtain ⟨cs', g1, g2, g5, g6, g7⟩ := inplace (p := n) h3 h7 hle hkn hnl hrep (by rw [h4]; exact hmul _ (by omega))
                have hol : (es.take n ++ news).length = n + news.length := by simp; omega
                have g8 : ∀ y (hy : y < (es.take n ++ news).length), (es.take n ++ news)[y].length = P.cellsOf e ∧ ∀ j (hj : j < (es.take n ++ news)[y].length), ∃ v, cs'[y * P.cellsOf e + j]? = some v ∧ Rep imm m v (es.take n ++ news)[y][j] := fun y hy => by
                  have h9 := g7 y (by rw [List.length_append]; omega)
                  have he9 : (es.take n ++ news ++ es.drop (n + news.length))[y]'(by rw [List.length_append]; omega) = (es.take n ++ news)[y] := List.getElem_append_left hy
                  simp only [he9] at h9
                  exact h9
                refine ⟨_, _, imm, _, _, _, hrun, .refl _, .upd (hs.dom _ (Nat.le_refl _)) _, hs.move g6 hlt h1 hob g5 cs' T' fr g1 (by omega) h5 (P.cellsOf e) (es.take n ++ news) (by rw [hol]; exact hmul _ (by omega)) g8, ?_, hB⟩
                exact .own _ _ _ _ _ cap blk sz _ (by simp [upd]) (Nat.le_refl _) hfit (by simp) (by simpa using hc)
              · obtain ⟨b', o', cap', nl, rfl, hnl, hcell, hrep⟩ := hnewrow hpos
                have hg := grownCap_ge w (n + news.length) cap e
                -- the old elements, in one list
                let ol := (List.range (n * P.cellsOf e)).map fun y => (w.cell? ⟨blk, y, none⟩).getD undef
                have hcellold : ∀ i (hi : i < n) j (hj : j < P.cellsOf e), ∃ u, w.cell? ⟨blk, i * P.cellsOf e + j, none⟩ = some u ∧ ∀ (h : j < es[i].length), Rep imm m u es[i][j] := fun i hi j hj => by
                  have hj' : j < es[i].length := by rw [(h7 i (by omega)).1]; exact hj
                  obtain ⟨u, e1, r⟩ := (h7 i (by omega)).2 j hj'
                  exact ⟨u, by simp [World.cell?, h3, e1], fun _ => r⟩
                have holen : ol.length = n * P.cellsOf e := by simp [ol]
                have hol1 : ∀ j u, ol[j]? = some u → w.cell? ((⟨blk, 0, none⟩ : Addr).add j) = some u := fun j u hj => by
                  rw [addr_add, Nat.zero_add]
                  simp only [ol, List.getElem?_map] at hj
                  obtain ⟨y, hy, rfl⟩ := Option.map_eq_some_iff.1 hj
                  obtain ⟨hlt', rfl⟩ := List.getElem?_eq_some_iff.1 hy
                  simp only [List.getElem_range]
                  simp at hlt'
                  obtain ⟨u, hu, _⟩ := hcellold (j / P.cellsOf e) (Nat.div_lt_of_lt_mul (by rw [Nat.mul_comm]; exact hlt')) (j % P.cellsOf e) (Nat.mod_lt _ hk0)
                  rw [Nat.div_add_mod'] at hu
                  rw [hu]
                  rfl
                have hr := run_append_grow (P := P) w t ty e inf zv ht hinf hzero ⟨blk, 0, none⟩ n cap ol (by rw [holen, hcells]) hol1 ⟨b', o', none⟩ news.length cap' nl (by rw [hnl, hcells]) hcell (by omega) (by simp [maxLen] at hml; omega)
                  (growslice_fits (by omega) (by rw [← hbytes]; exact hbyt))
                have hkill := hs.kill b
                have hrep2 : ∀ y (hy : y < (es.take n ++ news).length) j (hj : j < (es.take n ++ news)[y].length), ∃ v, (ol ++ nl)[y * P.cellsOf e + j]? = some v ∧ Rep imm m v (es.take n ++ news)[y][j] := fun y hy j hj => by
                  have hl1 : (es.take n).length = n := by simp; omega
                  rcases Nat.lt_or_ge y n with hyn | hyn
                  · have he9 : (es.take n ++ news)[y] = es[y]'(by omega) := by rw [List.getElem_append_left (by omega), List.getElem_take]
                    have hj' : j < P.cellsOf e := by rw [← (h7 y (by omega)).1]; rw [he9] at hj; exact hj
                    obtain ⟨u, hu, r⟩ := hcellold y hyn j hj'
                    refine ⟨u, ?_, by simp only [he9]; exact r (by rw [he9] at hj; exact hj)⟩
                    have hf := flat_lt hj' hyn
                    rw [List.getElem?_append_left (by omega)]
                    simp [ol, hf, hu]
                  · have hy2 : y - n < news.length := by rw [List.length_append, hl1] at hy; omega
                    have he9 : (es.take n ++ news)[y] = news[y - n]'hy2 := by rw [List.getElem_append_right (by omega)]; simp only [hl1]
                    obtain ⟨u, hu, r⟩ := hrep (y - n) hy2 j (by rw [he9] at hj; exact hj)
                    refine ⟨u, ?_, by simp only [he9]; exact r⟩
                    have hyk : y * P.cellsOf e = n * P.cellsOf e + (y - n) * P.cellsOf e := by rw [← Nat.add_mul]; congr 1; omega
                    rw [List.getElem?_append_right (by omega), holen, show y * P.cellsOf e + j - n * P.cellsOf e = (y - n) * P.cellsOf e + j by omega]
                    exact hu
                have hkn2 : ∀ e', e' ∈ es.take n ++ news → e'.length = P.cellsOf e := fun e' he' => by
                  rcases List.mem_append.1 he' with h | h
                  · obtain ⟨y, hy, rfl⟩ := List.getElem_of_mem h
                    rw [List.getElem_take]
                    exact (h7 y _).1
                  · exact hkn e' h
                have hol : (es.take n ++ news).length = n + news.length := by simp; omega
                have hnr := hkill.newRow (w' := w.drew.alloc (.cells (ol.toArray ++ nl.toArray ++ Builtin.zeroCells zv.cells (grownCap w (n + news.length) cap e - (n + news.length))) e)) (beside_drew _) (ol ++ nl)
                  (Builtin.zeroCells zv.cells (grownCap w (n + news.length) cap e - (n + news.length))) e (by show w.heap.push _ = w.heap.push _; simp) (es.take n ++ news) hkn2 (by rw [List.length_append, holen, hnl, hol, Nat.add_mul]) hrep2
                rw [List.length_set] at hnr
                refine ⟨_, _, imm, _, _, _, hr, .refl _, .upd (hs.dom _ (Nat.le_refl _)) _, hnr, ?_, hB⟩
                refine .own _ _ _ _ _ _ w.heap.size _ _ (by simp [upd]; rfl) (Nat.le_refl _) hg (by simp) ?_
                rw [holen, hnl, size_zeroCells', hzsz, ← hcells, ← Nat.add_mul, ← Nat.add_mul, Nat.zero_add]
                exact Nat.mul_le_mul_right _ (by omega)
        · cases holds
      · cases holds
    · obtain ⟨h1, h2⟩ := h
      cases hrs with
      | emp p => exact hempty _ p rfl h1 h2 (.emp p)
    · rename_i u
      obtain ⟨h1, h2⟩ := h
      obtain rfl := hrs.c_inv
      have : vs = .slice none 0 0 := by
        rw [elemsA_eq] at holds
        unfold elemsB at holds
        split at holds <;> first | (rename_i heq; cases heq; done) | skip
        · rename_i heq; cases heq; rfl
        · cases holds
      exact hempty _ none this h1 h2 hrs
    · exact h.elim
  · exact h.elim

/-- What a copy does. -/
def copyA (P : Program) (d : Option TypeDesc) (x s : AV) (σ : Store) (K : AV → Store → Prop) : Prop :=
  match d with
  | some (.slice e) => (P.info? e).isSome = true ∧ 0 < P.cellsOf e ∧ on (elemsA σ s) fun news => (∀ e', e' ∈ news → e'.length = P.cellsOf e) ∧ (∀ e', e' ∈ news → e'.all oneA = true) ∧
    match x with
    | .own b k i n _ => k = P.cellsOf e ∧ on σ[b]? fun ob => match ob with
      | .cells k' es => k' = k ∧ i + n ≤ es.length ∧ K (.c (.int .i64 (min news.length n : Nat))) (σ.set b (.cells k (es.take i ++ news.take (min news.length n) ++ es.drop (i + min news.length n))))
      | _ => False
    | _ => False
  | _ => False

theorem copy_run (hs : Sim K imm m w σ) {t t' ty : TypeId} {x s : AV} {vx vs : Value} (hrx : Rep imm m vx x) (hrs : Rep imm m vs s) {Kont : AV → Store → Prop} (h : copyA P (P.underlying t) x s σ Kont) :
    ∃ v w' av σ', (Builtin.copy_ #[t, t'] ty #[vx, vs]).run P w = .ok v w' ∧ Sim K imm m w' σ' ∧ Rep imm m v av ∧ Kont av σ' := by
  unfold copyA at h
  split at h
  · rename_i e ht
    obtain ⟨hi, hk0, h⟩ := h
    replace h := on_elim h; obtain ⟨news, hnews, h⟩ := h
    obtain ⟨hkn, hone, h⟩ := h
    split at h
    · rename_i b k i n c
      obtain ⟨rfl, h⟩ := h
      replace h := on_elim h; obtain ⟨ob, hob, h⟩ := h
      split at h
      · rename_i k' es
        obtain ⟨rfl, hle, hK⟩ := h
        obtain ⟨hlt, hob'⟩ := List.getElem?_eq_some_iff.1 hob
        have h0 := hs.obs b hlt
        rw [hob'] at h0
        obtain ⟨blk, sz, h1, h2, cs, T', fr, h3, h4, h5, h6, h7⟩ := h0
        cases hrx with
        | own _ _ _ _ _ cap blk' sz' x hm hn hcc hx hc =>
          rw [h1] at hm
          cases hm
          subst hx
          rcases Nat.eq_zero_or_pos (min news.length n) with hz | hpos
          · obtain ⟨q, cap2, rfl, _, _⟩ := slice_at hs hrs hnews
            rw [hz] at hK
            have hset : σ.set b (.cells (P.cellsOf e) (es.take i ++ news.take 0 ++ es.drop (i + 0))) = σ := by
              have e1 : es.take i ++ news.take 0 ++ es.drop (i + 0) = es := by simp
              rw [e1, ← hob']
              exact List.set_getElem_self hlt
            rw [hset] at hK
            refine ⟨.int .i64 (0 : Nat), w, _, σ, ?_, hs, .c _, hK⟩
            have hz' : Nat.min news.length n = 0 := hz
            simp only [Builtin.copy_, List.getElem?_toArray, List.getElem?_cons_zero, List.getElem?_cons_succ, Builtin.lenOf, Sem.run_bind, Sem.run_pure, Result.andThen_ok, run_underlying ht, run_sizeOf hi, hz']
            cases q <;> simp [Builtin.firstCells, loadCells, loadCellsFrom, storeCells, goInt]
          · have hpn : 0 < news.length := by omega
            obtain ⟨b', o', cap', nl, rfl, hcap', hnl, hcell, hrep⟩ := slice_flat hs hrs hnews hpn hkn
            have hmm : i * P.cellsOf e + min news.length n * P.cellsOf e ≤ sz := by
              rw [← Nat.add_mul]
              exact Nat.le_trans (Nat.mul_le_mul_right _ (by omega)) h6
            have hnle : min news.length n * P.cellsOf e ≤ nl.length := by rw [hnl]; exact Nat.mul_le_mul_right _ (Nat.min_le_left _ _)
            have htl : (nl.take (min news.length n * P.cellsOf e)).length = (news.take (min news.length n)).length * P.cellsOf e := by
              rw [List.length_take, List.length_take, Nat.min_eq_left hnle, Nat.min_eq_left (Nat.min_le_left _ _)]
            have hload := loadCellsFrom_run (P := P) (w := w) ⟨b', o', none⟩ (min news.length n * P.cellsOf e) 0 #[] (fun j => nl.getD j undef) (fun j hj => by
              rw [Nat.zero_add]
              refine hcell j _ ?_
              rw [List.getD_eq_getElem?_getD, List.getElem?_eq_getElem (by omega)]
              rfl)
            have hon : ∀ u ∈ nl.take (min news.length n * P.cellsOf e), u.oneCell' = true := fun u hu => by
              have hu := List.mem_of_mem_take hu
              obtain ⟨y, hy, rfl⟩ := List.getElem_of_mem hu
              have hi : y / P.cellsOf e < news.length := Nat.div_lt_of_lt_mul (by rw [Nat.mul_comm, ← hnl]; exact hy)
              have hj : y % P.cellsOf e < news[y / P.cellsOf e].length := by rw [hkn _ (List.getElem_mem _)]; exact Nat.mod_lt _ hk0
              obtain ⟨u, e1, r⟩ := hrep _ hi _ hj
              rw [Nat.div_add_mod'] at e1
              obtain ⟨_, rfl⟩ := List.getElem?_eq_some_iff.1 e1
              exact oneA_rep r (List.all_eq_true.1 (hone _ (List.getElem_mem _)) _ (List.getElem_mem _))
            have hst := run_storeCells_cells (P := P) blk (i * P.cellsOf e) (nl.take (min news.length n * P.cellsOf e)) 0 w (fun j hj => by
                simp only [List.length_take] at hj
                have : i * P.cellsOf e + 0 + j < cs.size := by omega
                simp [World.cell?, h3, show i * P.cellsOf e + j < cs.size by omega]) (fun j hj => by
                simp only [List.length_take] at hj
                have := h5 (i * P.cellsOf e + 0 + j) (by omega)
                simp only [World.frozen?, h3]
                simp only [Nat.add_zero] at this ⊢
                simpa using this) hon
            have hn1 : (news.take (min news.length n)).length = min news.length n := by simp
            obtain ⟨cs', g1, g2, g5, g6, g7⟩ := inplace (p := i) (news := news.take (min news.length n)) (nl := nl.take (min news.length n * P.cellsOf e)) h3 h7 (by omega) (fun e' he' => hkn e' (List.mem_of_mem_take he')) htl (fun a ha j hj => by
                have ha' : a < news.length := by rw [List.length_take] at ha; omega
                simp only [List.getElem_take] at hj ⊢
                obtain ⟨u, e1, r⟩ := hrep a ha' j hj
                refine ⟨u, ?_, r⟩
                have hj' : j < P.cellsOf e := by rw [← hkn _ (List.getElem_mem ha')]; exact hj
                rw [List.getElem?_take_of_lt (flat_lt hj' (by omega)), e1]) (by rw [hn1, h4, Nat.add_mul]; exact hmm)
            rw [hn1] at g7
            refine ⟨.int .i64 (min news.length n : Nat), w.setCells blk (i * P.cellsOf e) (nl.take (min news.length n * P.cellsOf e)), _, _, ?_, hs.set g6 hlt h1 hob' g5 cs' T' fr g1 (by omega) h5 _ ?_ g7, .c _, hK⟩
            · have hmin : Nat.min news.length n = min news.length n := rfl
              have harr : (#[] ++ ((List.range (min news.length n * P.cellsOf e)).map fun j => nl.getD j undef).toArray : Array Value).toList = nl.take (min news.length n * P.cellsOf e) := by
                simp only [Array.toList_append, List.nil_append]
                apply List.ext_getElem?
                intro j
                rw [List.getElem?_map]
                rcases Nat.lt_or_ge j (min news.length n * P.cellsOf e) with hj | hj
                · rw [List.getElem?_take_of_lt hj, List.getElem?_range hj, Option.map_some, List.getD_eq_getElem?_getD, List.getElem?_eq_getElem (by omega)]
                  rfl
                · rw [List.getElem?_eq_none (by simpa using hj), List.getElem?_eq_none (by rw [List.length_take]; omega)]
                  rfl
              simp only [Nat.add_zero] at hst
              simp only [Builtin.copy_, List.getElem?_toArray, List.getElem?_cons_zero, List.getElem?_cons_succ, Builtin.lenOf, Sem.run_bind, Sem.run_pure, Result.andThen_ok, run_underlying ht, run_sizeOf hi, hmin, Builtin.firstCells, loadCells]
              rw [hload]
              simp only [Result.andThen_ok]
              rw [harr, hst]
              rfl
            · have : (es.take i ++ news.take (min news.length n) ++ es.drop (i + min news.length n)).length = es.length := by simp; omega
              rw [this]
              exact h6
      · exact h.elim
    · exact h.elim
  · exact h.elim
end
end Go.Proofs.Ytephecognbbaoaa
