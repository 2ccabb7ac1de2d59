/- The abstract logic: frames, contracts, and the rules for structured code. -/
import Derived.WalkKit
import Derived.WalkLawsBesides
import Derived.RangeFuncIn
namespace Go.Proofs.Ytephecognbbaoaa
open Go
set_option linter.all false

/-- Abstract values: what a Go value means, without addresses. -/
inductive AV where
  | c (v : Value)
  | emp
  | agg (l : List AV)
  | tup (l : List AV)
  | sl (es : List (List AV))
  | cp (e : List AV) (off : Nat)
  | own (b k s n c : Nat)
  | ptr (b k i off : Nat)
  | fn (f : FuncId) (first cap : List AV)
  | mp (b : Nat)
  | cm (es : List (Value × AV))

/-- An abstract frame: the slots of which something is known; the first entry counts. -/
abbrev AF := List (Nat × AV)

def look : AF → Nat → Option AV
  | [], _ => none
  | (k, v) :: r, t => if k = t then some v else look r t

/-- Objects of the call's own. -/
inductive Ob where
  | res
  | dead
  | cells (k : Nat) (es : List (List AV))
  | map (es : List (Value × AV))
  | lp (l : Nat) (al : AF) (N : Nat) (r : Loop)

abbrev Imm := Nat → Option Obj
abbrev Own := Nat → Option (Nat × Nat)
abbrev Store := List Ob

def icell (imm : Imm) (b o : Nat) : Option Value :=
  match imm b with
  | some (.cells c _ _) => c[o]?
  | _ => none

inductive Rep (imm : Imm) (m : Own) : Value → AV → Prop
  | c (v : Value) : Rep imm m v (.c v)
  | emp (p : Option Addr) : Rep imm m (.slice p 0 0) .emp
  | agg (cs : List Value) (l : List AV) (hl : cs.length = l.length)
      (h : ∀ i (h1 : i < cs.length) (h2 : i < l.length), Rep imm m cs[i] l[i]) : Rep imm m (.agg cs.toArray) (.agg l)
  | tup (cs : List Value) (l : List AV) (hl : cs.length = l.length)
      (h : ∀ i (h1 : i < cs.length) (h2 : i < l.length), Rep imm m cs[i] l[i]) : Rep imm m (.tuple cs.toArray) (.tup l)
  | sl (p : Option Addr) (cap n : Nat) (es : List (List AV)) (k : Nat) (vals : Nat → Nat → Value) (hn : n = es.length) (hcap : n ≤ cap)
      (hk : ∀ i (hi : i < es.length), es[i].length = k)
      (hp : 0 < es.length → ∃ b o, p = some ⟨b, o, none⟩ ∧ ∀ i, i < es.length → ∀ j, j < k → icell imm b (o + (i * k + j)) = some (vals i j))
      (hr : ∀ i (hi : i < es.length) j (hj : j < es[i].length), Rep imm m (vals i j) es[i][j]) : Rep imm m (.slice p n cap) (.sl es)
  | cp (b o x : Nat) (e : List AV) (off : Nat) (vals : Nat → Value) (hx : x = o + off)
      (hc : ∀ j, j < e.length → icell imm b (o + j) = some (vals j))
      (hr : ∀ j (hj : j < e.length), Rep imm m (vals j) e[j]) : Rep imm m (.pointer (some ⟨b, x, none⟩)) (.cp e off)
  | own (b k s n c cap blk sz x : Nat) (hm : m b = some (blk, sz)) (hn : n ≤ c) (hcc : c ≤ cap) (hx : x = s * k) (hc : (s + cap) * k ≤ sz) :
      Rep imm m (.slice (some ⟨blk, x, none⟩) n cap) (.own b k s n c)
  | ptr (b k i off blk sz x : Nat) (hm : m b = some (blk, sz)) (hx : x = i * k + off) : Rep imm m (.pointer (some ⟨blk, x, none⟩)) (.ptr b k i off)
  | fn (f : FuncId) (fs cs : List Value) (first cap : List AV) (hf : fs.length = first.length) (hc : cs.length = cap.length)
      (h1 : ∀ i (h1 : i < fs.length) (h2 : i < first.length), Rep imm m fs[i] first[i])
      (h2 : ∀ i (h1 : i < cs.length) (h2 : i < cap.length), Rep imm m cs[i] cap[i]) :
      Rep imm m (.func (.func f) fs.toArray cs.toArray) (.fn f first cap)
  | mp (b blk sz : Nat) (hm : m b = some (blk, sz)) : Rep imm m (.map (some blk)) (.mp b)
  | cm (blk : Nat) (es : List (Value × AV)) (ents : Array MapEntry) (clock : Nat) (hi : imm blk = some (.map ents clock)) (hl : ents.size = es.length) (hk : ents.toList.map (·.key) = es.map (·.1))
      (hr : ∀ i (h1 : i < es.length) (h2 : i < ents.size), Rep imm m ents[i].val es[i].2) : Rep imm m (.map (some blk)) (.cm es)

def ILe (imm imm' : Imm) : Prop := ∀ b o, imm b = some o → imm' b = some o
def OLe (m m' : Own) : Prop := ∀ b o, m b = some o → m' b = some o

theorem ILe.refl (imm : Imm) : ILe imm imm := fun _ _ h => h
theorem OLe.refl (m : Own) : OLe m m := fun _ _ h => h
theorem ILe.trans {a b c : Imm} (h : ILe a b) (h' : ILe b c) : ILe a c := fun _ _ x => h' _ _ (h _ _ x)
theorem OLe.trans {a b c : Own} (h : OLe a b) (h' : OLe b c) : OLe a c := fun _ _ x => h' _ _ (h _ _ x)

theorem icell_mono {imm imm' : Imm} (h : ILe imm imm') {b o : Nat} {v : Value} (hc : icell imm b o = some v) : icell imm' b o = some v := by
  unfold icell at *
  cases hb : imm b with
  | none => simp [hb] at hc
  | some ob => rw [h _ _ hb]; simpa [hb] using hc

theorem Rep.mono {imm imm' : Imm} {m m' : Own} (hi : ILe imm imm') (hm : OLe m m') {v : Value} {a : AV} (h : Rep imm m v a) : Rep imm' m' v a := by
  induction h with
  | c v => exact .c v
  | emp p => exact .emp p
  | agg cs l hl _ ih => exact .agg cs l hl ih
  | tup cs l hl _ ih => exact .tup cs l hl ih
  | sl p cap n es k vals hn hcap hk hp _ ih =>
    refine .sl p cap n es k vals hn hcap hk (fun h0 => ?_) ih
    obtain ⟨b, o, e, hc⟩ := hp h0
    exact ⟨b, o, e, fun i hi' j hj => icell_mono hi (hc i hi' j hj)⟩
  | cp b o x e off vals hx hc _ ih => exact .cp b o x e off vals hx (fun j hj => icell_mono hi (hc j hj)) ih
  | own b k s n c cap blk sz x h hn hcc hx hc => exact .own b k s n c cap blk sz x (hm _ _ h) hn hcc hx hc
  | ptr b k i off blk sz x h hx => exact .ptr b k i off blk sz x (hm _ _ h) hx
  | fn f fs cs first cap hf hc _ _ ih1 ih2 => exact .fn f fs cs first cap hf hc ih1 ih2
  | mp b blk sz h => exact .mp b blk sz (hm _ _ h)
  | cm blk es ents clock h hl hk _ ih => exact .cm blk es ents clock (hi _ _ h) hl hk ih

/-- The owner's map, cut off at n. -/
def cut (m : Own) (n : Nat) : Own := fun b => if b < n then m b else none

/-- All names of own objects in an abstract value are below n. -/
inductive Bd (n : Nat) : AV → Prop
  | c (v : Value) : Bd n (.c v)
  | emp : Bd n .emp
  | agg (l : List AV) (h : ∀ i (h2 : i < l.length), Bd n l[i]) : Bd n (.agg l)
  | tup (l : List AV) (h : ∀ i (h2 : i < l.length), Bd n l[i]) : Bd n (.tup l)
  | sl (es : List (List AV)) (h : ∀ i (hi : i < es.length) j (hj : j < es[i].length), Bd n es[i][j]) : Bd n (.sl es)
  | cp (e : List AV) (off : Nat) (h : ∀ i (h2 : i < e.length), Bd n e[i]) : Bd n (.cp e off)
  | own (b k s l c : Nat) (h : b < n) : Bd n (.own b k s l c)
  | ptr (b k i off : Nat) (h : b < n) : Bd n (.ptr b k i off)
  | fn (f : FuncId) (first cap : List AV) (h1 : ∀ i (h2 : i < first.length), Bd n first[i]) (h2 : ∀ i (h2 : i < cap.length), Bd n cap[i]) : Bd n (.fn f first cap)
  | mp (b : Nat) (h : b < n) : Bd n (.mp b)
  | cm (es : List (Value × AV)) (h : ∀ i (h2 : i < es.length), Bd n es[i].2) : Bd n (.cm es)

theorem Bd.up {n n' : Nat} (hn : n ≤ n') {a : AV} (h : Bd n a) : Bd n' a := by
  induction h with
  | c v => exact .c v
  | emp => exact .emp
  | agg l _ ih => exact .agg l ih
  | tup l _ ih => exact .tup l ih
  | sl es _ ih => exact .sl es ih
  | cp e off _ ih => exact .cp e off ih
  | own b k s l c h => exact .own b k s l c (by omega)
  | ptr b k i off h => exact .ptr b k i off (by omega)
  | fn f a b _ _ h1 h2 => exact .fn f a b h1 h2
  | mp b h => exact .mp b (by omega)
  | cm es _ ih => exact .cm es ih

theorem Rep.bd {imm : Imm} {m : Own} {n : Nat} (hd : ∀ b, n ≤ b → m b = none) {v : Value} {a : AV} (h : Rep imm m v a) : Bd n a := by
  have key : ∀ b blk sz, m b = some (blk, sz) → b < n := fun b blk sz h => by
    rcases Nat.lt_or_ge b n with h' | h'
    · exact h'
    · rw [hd b h'] at h; cases h
  induction h with
  | c v => exact .c v
  | emp p => exact .emp
  | agg cs l hl _ ih => exact .agg l fun i h2 => ih i (by omega) h2
  | tup cs l hl _ ih => exact .tup l fun i h2 => ih i (by omega) h2
  | sl p cap n es k vals hn hcap hk hp _ ih => exact .sl es ih
  | cp b o x e off vals hx hc _ ih => exact .cp e off ih
  | own b k s n c cap blk sz x h hn hcc hx hc => exact .own b k s n c (key _ _ _ h)
  | ptr b k i off blk sz x h hx => exact .ptr b k i off (key _ _ _ h)
  | fn f fs cs first cap hf hc _ _ ih1 ih2 => exact .fn f first cap (fun i h2 => ih1 i (by omega) h2) (fun i h2 => ih2 i (by omega) h2)
  | mp b blk sz h => exact .mp b (key _ _ _ h)
  | cm blk es ents clock h hl hk _ ih => exact .cm es fun i h2 => ih i h2 (by omega)

theorem Rep.cut {imm : Imm} {m : Own} {n : Nat} {v : Value} {a : AV} (h : Rep imm m v a) : Bd n a → Rep imm (cut m n) v a := by
  induction h with
  | c v => exact fun _ => .c v
  | emp p => exact fun _ => .emp p
  | agg cs l hl _ ih => intro hb; cases hb with | agg _ hb => exact .agg cs l hl fun i h1 h2 => ih i h1 h2 (hb i h2)
  | tup cs l hl _ ih => intro hb; cases hb with | tup _ hb => exact .tup cs l hl fun i h1 h2 => ih i h1 h2 (hb i h2)
  | sl p cap n es k vals hn hcap hk hp _ ih => intro hb; cases hb with | sl _ hb => exact .sl p cap n es k vals hn hcap hk hp fun i hi j hj => ih i hi j hj (hb i hi j hj)
  | cp b o x e off vals hx hc _ ih => intro hb; cases hb with | cp _ _ hb => exact .cp b o x e off vals hx hc fun j hj => ih j hj (hb j hj)
  | own b k s n c cap blk sz x h hn hcc hx hc => intro hb; cases hb with | own _ _ _ _ _ hb => exact .own b k s n c cap blk sz x (by simp [Proofs.Ytephecognbbaoaa.cut, hb, h]) hn hcc hx hc
  | ptr b k i off blk sz x h hx => intro hb; cases hb with | ptr _ _ _ _ hb => exact .ptr b k i off blk sz x (by simp [Proofs.Ytephecognbbaoaa.cut, hb, h]) hx
  | fn f fs cs first cap hf hc _ _ ih1 ih2 => intro hb; cases hb with | fn _ _ _ hb1 hb2 => exact .fn f fs cs first cap hf hc (fun i h1 h2 => ih1 i h1 h2 (hb1 i h2)) (fun i h1 h2 => ih2 i h1 h2 (hb2 i h2))
  | mp b blk sz h => intro hb; cases hb with | mp _ hb => exact .mp b blk sz (by simp [Proofs.Ytephecognbbaoaa.cut, hb, h])
  | cm blk es ents clock h hl hk _ ih => intro hb; cases hb with | cm _ hb => exact .cm blk es ents clock h hl hk fun i h1 h2 => ih i h1 h2 (hb i h1)

def RepL (imm : Imm) (m : Own) (vs : List Value) (as : List AV) : Prop :=
  vs.length = as.length ∧ ∀ i (h1 : i < vs.length) (h2 : i < as.length), Rep imm m vs[i] as[i]

theorem RepL.mono {imm imm' : Imm} {m m' : Own} (hi : ILe imm imm') (hm : OLe m m') {v : List Value} {a : List AV} (h : RepL imm m v a) : RepL imm' m' v a :=
  ⟨h.1, fun i h1 h2 => (h.2 i h1 h2).mono hi hm⟩

def Ob.live : Ob → Bool
  | .cells .. => true
  | .map .. => true
  | .lp .. => true
  | _ => false

/-- An own object as it lies in memory. -/
def ObOk (imm : Imm) (m : Own) (w : World) (id : Nat) : Ob → Prop
  | .res => m id = none
  | .dead => True
  | .cells k es => ∃ blk sz, m id = some (blk, sz) ∧ imm blk = none ∧ ∃ cs T fr, w.heap[blk]? = some (.cells cs T fr) ∧ cs.size = sz ∧
      (∀ o, o < sz → ¬ (fr.1 ≤ o ∧ o < fr.2)) ∧ es.length * k ≤ sz ∧
      ∀ i (hi : i < es.length), es[i].length = k ∧ ∀ j (hj : j < es[i].length), ∃ v, cs[i * k + j]? = some v ∧ Rep imm m v es[i][j]
  | .map es => ∃ blk sz, m id = some (blk, sz) ∧ imm blk = none ∧ ∃ ents clock, w.heap[blk]? = some (.map ents clock) ∧ ents.size = es.length ∧
      ents.toList.map (·.key) = es.map (·.1) ∧ ∀ i (hi : i < es.length) (hj : i < ents.size), Rep imm m ents[i].val es[i].2
  | .lp l al N r => ∃ blk sz, m id = some (blk, sz) ∧ imm blk = none ∧ blk = l ∧ w.heap[blk]? = some (.loop r) ∧ r.tmps.size = N ∧
      (∀ t av, look al t = some av → ∃ v, r.tmps[t]? = some v ∧ Rep imm m v av) ∧ ∀ t av, look al t = some av → Bd id av

structure Sim (K : World) (imm : Imm) (m : Own) (w : World) (σ : Store) : Prop where
  os : w.os = K.os
  tape : w.tape = K.tape
  output : w.output = K.output
  size : K.heap.size ≤ w.heap.size
  imm_ok : ∀ b o, imm b = some o → w.heap[b]? = some o
  dom : ∀ id, σ.length ≤ id → m id = none
  obs : ∀ id (h : id < σ.length), ObOk imm m w id σ[id]
  inj : ∀ i j (hi : i < σ.length) (hj : j < σ.length), σ[i].live = true → σ[j].live = true → (m i).map (·.1) = (m j).map (·.1) → i = j

end Go.Proofs.Ytephecognbbaoaa
namespace Go.Proofs.Ytephecognbbaoaa
open Go
set_option linter.all false

/-- The mark that a range over a function leaves among the deferred calls. -/
def mark (r : Nat) : Deferred := { target := .collected r, args := #[] }

/-- Nothing is deferred but such marks; their blocks hold no call. -/
def Marks (K : World) (imm : Imm) (ds : List Deferred) : Prop :=
  ∃ rs : List Nat, rs.Nodup ∧ ds = rs.map mark ∧ ∀ r ∈ rs, K.heap.size ≤ r ∧ imm r = some (.deferred (some []))

theorem Marks.nil (K : World) (imm : Imm) : Marks K imm [] := ⟨[], .nil, rfl, fun _ h => by cases h⟩
theorem Marks.mono {K : World} {imm imm' : Imm} {ds : List Deferred} (hi : ILe imm imm') (h : Marks K imm ds) : Marks K imm' ds :=
  let ⟨rs, h1, h2, h3⟩ := h; ⟨rs, h1, h2, fun r hr => ⟨(h3 r hr).1, hi _ _ (h3 r hr).2⟩⟩

structure FOk (K : World) (imm : Imm) (m : Own) (N : Nat) (a : Act) (α : AF) : Prop where
  defers : Marks K imm a.defers
  size : a.tmps.size = N
  slot : ∀ t av, look α t = some av → ∃ v, a.tmps[t]? = some v ∧ Rep imm m v av

theorem FOk.mono {K : World} {imm imm' : Imm} {m m' : Own} {N : Nat} {a : Act} {α : AF} (hi : ILe imm imm') (hm : OLe m m') (h : FOk K imm m N a α) : FOk K imm' m' N a α :=
  ⟨h.defers.mono hi, h.size, fun t av ht => let ⟨v, e, r⟩ := h.slot t av ht; ⟨v, e, r.mono hi hm⟩⟩

/-- The frame knows at least what β says. -/
def ALe (α β : AF) : Prop := ∀ t av, look β t = some av → look α t = some av

theorem FOk.weak {K : World} {imm : Imm} {m : Own} {N : Nat} {a : Act} {α β : AF} (h : FOk K imm m N a α) (hl : ALe α β) : FOk K imm m N a β :=
  ⟨h.defers, h.size, fun t av ht => h.slot t av (hl t av ht)⟩

theorem FOk.put {K : World} {imm : Imm} {m : Own} {N : Nat} {a : Act} {α : AF} (h : FOk K imm m N a α) {d : Nat} (hd : d < N) {v : Value} {av : AV} (hr : Rep imm m v av) : FOk K imm m N (a.put (some d) v) ((d, av) :: α) := by
  refine ⟨h.defers, by simp [Act.put, h.size], fun t av' ht => ?_⟩
  have hs := h.size
  simp only [look] at ht
  by_cases hdt : d = t
  · rw [if_pos hdt] at ht
    cases ht
    subst hdt
    exact ⟨v, by simp [Act.put, hs, hd], hr⟩
  · rw [if_neg hdt] at ht
    obtain ⟨u, e, r⟩ := h.slot t av' ht
    exact ⟨u, by simp [Act.put, Array.getElem?_setIfInBounds, hdt, e], r⟩

/-- A slot that is written but of which nothing is to be known. -/
theorem FOk.none {K : World} {imm : Imm} {m : Own} {N : Nat} {a : Act} {α : AF} (h : FOk K imm m N a α) (v : Value) : FOk K imm m N (a.put none v) α := h

abbrev Post := Exit → AF → Store → Prop

def lift (K : World) (N : Nat) (imm0 : Imm) (m0 : Own) (Q : Post) : Exit → Act → World → Prop := fun e a w =>
  ∃ imm m α σ, ILe imm0 imm ∧ OLe m0 m ∧ Sim K imm m w σ ∧ FOk K imm m N a α ∧ Q e α σ

/-- The frames of which is spoken: plain ones; those of a round of loop l. -/
def Rnd : Option Nat → Fence
  | none => Fence.wide
  | some l => Fence.wide.inRound l

theorem Rnd_fn (rd : Option Nat) (f : FuncId) : (Rnd rd).fn f := by cases rd <;> trivial
theorem Rnd_depth (rd : Option Nat) : (Rnd rd).depth = none := by cases rd <;> rfl
theorem Rnd_round (rd : Option Nat) : (Rnd rd).round = rd := by cases rd <;> rfl

def AWPr (rd : Option Nat) (P : Program) (N : Nat) (c : Code) (Q : Post) (α : AF) (σ : Store) : Prop :=
  ∀ K imm m w a, Sim K imm m w σ → FOk K imm m N a α → Code.wpIn (Rnd rd) 0 P c (lift K N imm m Q) a w

abbrev AWP (P : Program) (N : Nat) (c : Code) (Q : Post) (α : AF) (σ : Store) : Prop := AWPr none P N c Q α σ

theorem AWP_of_wp {P : Program} {N : Nat} {c : Code} {Q : Post} {α : AF} {σ : Store} (h : ∀ K imm m w a, Sim K imm m w σ → FOk K imm m N a α → Code.wp P c (lift K N imm m Q) a w) : AWP P N c Q α σ :=
  fun K imm m w a hs hf => wpIn_wide.2 (h K imm m w a hs hf)

/-- The contract of a call: from abstract arguments and store to an abstract result and store. -/
def ACalls (P : Program) (f : FuncId) (args : List AV) (σ : Store) (R : AV → Store → Prop) : Prop :=
  ∀ K imm m w vs, Sim K imm m w σ → RepL imm m vs args → Calls P f vs.toArray w fun e w' =>
    ∃ imm' m' v r σ', e = .returned v ∧ ILe imm imm' ∧ OLe m m' ∧ Sim K imm' m' w' σ' ∧ Rep imm' m' v r ∧ R r σ'

theorem ACalls.mono {P : Program} {f : FuncId} {args : List AV} {σ : Store} {R R' : AV → Store → Prop} (h : ACalls P f args σ R) (hr : ∀ r σ', R r σ' → R' r σ') : ACalls P f args σ R' :=
  fun K imm m w vs hs hv => (h K imm m w vs hs hv).mono fun _ _ ⟨i, m', v, r, s, a, b, c, d, e, f⟩ => ⟨i, m', v, r, s, a, b, c, d, e, hr _ _ f⟩

section
variable {rd : Option Nat} {P : Program} {N : Nat} {Q : Post} {α : AF} {σ : Store}

theorem lift_mono {K : World} {imm imm' : Imm} {m m' : Own} {Q : Post} {e : Exit} {a : Act} {w : World} (hi : ILe imm imm') (hm : OLe m m') (h : lift K N imm' m' Q e a w) : lift K N imm m Q e a w :=
  let ⟨i, o, α, σ, a, b, c⟩ := h; ⟨i, o, α, σ, hi.trans a, hm.trans b, c⟩

theorem AWPr.mono {c : Code} {Q' : Post} (h : AWPr rd P N c Q α σ) (hq : ∀ e α σ, Q e α σ → Q' e α σ) : AWPr rd P N c Q' α σ :=
  fun K imm m w a hs hf => Code.wpIn_mono (fun _ _ _ ⟨i, o, α, σ, a, b, c, d, e⟩ => ⟨i, o, α, σ, a, b, c, d, hq _ _ _ e⟩) (h K imm m w a hs hf)

theorem AWPr.weak {c : Code} {β : AF} (hl : ALe α β) (h : AWPr rd P N c Q β σ) : AWPr rd P N c Q α σ :=
  fun K imm m w a hs hf => h K imm m w a hs (hf.weak hl)

/-- What is asked where a piece of code comes to its end, to an exit. -/
def thenQ (R : AF → Store → Prop) (Q : Post) : Post := fun e α σ =>
  match e with
  | .normal => R α σ
  | e => Q e α σ

def blockQ (id : Nat) (Q : Post) : Post := fun e α σ =>
  match e with
  | .exit id' => if id' = id then Q .normal α σ else Q (.exit id') α σ
  | e => Q e α σ

theorem AWP_seq {x y : Code} (h : AWPr rd P N x (thenQ (fun α σ => AWPr rd P N y Q α σ) Q) α σ) : AWPr rd P N (.seq x y) Q α σ := by
  intro K imm m w a hs hf
  refine wpIn_seq (Code.wpIn_mono ?_ (h K imm m w a hs hf))
  rintro e a' w' ⟨i, o, α', σ', hi, ho, hs', hf', hq⟩
  cases e with
  | normal => exact Code.wpIn_mono (fun _ _ _ hh => lift_mono hi ho hh) (hq K i o w' a' hs' hf')
  | _ => exact ⟨i, o, α', σ', hi, ho, hs', hf', hq⟩

theorem AWP_seq_k {x y : Code} (h : ∀ K : AF → Store → Prop, (∀ α σ, AWPr rd P N y Q α σ → K α σ) → AWPr rd P N x (thenQ K Q) α σ) : AWPr rd P N (.seq x y) Q α σ :=
  AWP_seq (h _ fun _ _ h => h)

theorem AWP_block {id : Nat} {c : Code} (h : AWPr rd P N c (blockQ id Q) α σ) : AWPr rd P N (.block id c) Q α σ := by
  intro K imm m w a hs hf
  refine wpIn_block (Code.wpIn_mono ?_ (h K imm m w a hs hf))
  rintro e a' w' ⟨i, o, α', σ', hi, ho, hs', hf', hq⟩
  cases e with
  | exit id' =>
    simp only [Exit.inBlock]
    simp only [blockQ] at hq
    split
    · rename_i he; rw [if_pos he] at hq; exact ⟨i, o, α', σ', hi, ho, hs', hf', hq⟩
    · rename_i he; rw [if_neg he] at hq; exact ⟨i, o, α', σ', hi, ho, hs', hf', hq⟩
  | _ => exact ⟨i, o, α', σ', hi, ho, hs', hf', hq⟩

theorem AWP_skip (h : Q .normal α σ) : AWPr rd P N .skip Q α σ := fun K imm m w a hs hf =>
  wpIn_skip ⟨imm, m, α, σ, .refl _, .refl _, hs, hf, h⟩

theorem AWP_exit {id : Nat} (h : Q (.exit id) α σ) : AWPr rd P N (.exit id) Q α σ := fun K imm m w a hs hf =>
  wpIn_exit ⟨imm, m, α, σ, .refl _, .refl _, hs, hf, h⟩

theorem AWP_ret (h : Q .ret α σ) : AWPr rd P N .ret Q α σ := fun K imm m w a hs hf =>
  wpIn_ret ⟨imm, m, α, σ, .refl _, .refl _, hs, hf, h⟩

theorem FOk.eval {K : World} {imm : Imm} {m : Own} {a : Act} {t : Nat} {av : AV} (h : FOk K imm m N a α) (hl : look α t = some av) : ∃ v, a.eval (.tmp t) = v ∧ Rep imm m v av := by
  obtain ⟨v, e, r⟩ := h.slot t av hl
  exact ⟨v, by simp [Act.eval, e], r⟩

theorem AWP_cond {t : Nat} {x y : Code} {b : Bool} (hl : look α t = some (.c (.bool b))) (h1 : b = true → AWPr rd P N x Q α σ) (h2 : b = false → AWPr rd P N y Q α σ) : AWPr rd P N (.cond (.tmp t) x y) Q α σ := by
  intro K imm m w a hs hf
  obtain ⟨v, e, r⟩ := hf.eval hl
  cases r
  exact wpIn_cond_split e (fun hb => h1 hb K imm m w a hs hf) (fun hb => h2 hb K imm m w a hs hf)

theorem least {p : Nat → Prop} : ∀ n, p n → ∃ n, p n ∧ ∀ k, p k → n ≤ k := by
  intro n
  induction n using Nat.strongRecOn with
  | _ n ih =>
    intro hn
    by_cases h : ∃ k, k < n ∧ p k
    · obtain ⟨k, hk, hp⟩ := h
      exact ih k hk hp
    · exact ⟨n, hn, fun k hk => by
        rcases Nat.lt_or_ge k n with h' | h'
        · exact absurd ⟨k, h', hk⟩ h
        · exact h'⟩

theorem wpIn_loop_nat {F : Fence} {n' : Nat} {c : Code} {Q : Exit → Act → World → Prop} (Inv : Nat → Act → World → Prop) {a : Act} {w : World} (n : Nat) (h0 : Inv n a w)
    (round : ∀ n a w, Inv n a w → c.wpIn F n' P (Exit.then (fun a' w' => ∃ n', n' < n ∧ Inv n' a' w') Q) a w) : (Code.loop c).wpIn F n' P Q a w := by
  classical
  let μ : Act → World → Nat := fun a w => if h : ∃ n, Inv n a w then Classical.choose (least (p := fun n => Inv n a w) h.choose h.choose_spec) else 0
  have hμ : ∀ a w n, Inv n a w → Inv (μ a w) a w ∧ μ a w ≤ n := by
    intro a w n h
    have hex : ∃ n, Inv n a w := ⟨n, h⟩
    have hs := Classical.choose_spec (least (p := fun n => Inv n a w) hex.choose hex.choose_spec)
    have e : μ a w = Classical.choose (least (p := fun n => Inv n a w) hex.choose hex.choose_spec) := dif_pos hex
    rw [e]
    exact ⟨hs.1, hs.2 n h⟩
  refine wpIn_loop (fun a w => ∃ n, Inv n a w) μ ⟨n, h0⟩ ?_
  rintro a w ⟨n, h⟩
  refine Code.wpIn_mono ?_ (round (μ a w) a w (hμ a w n h).1)
  intro e a' w' hq
  cases e with
  | normal =>
    obtain ⟨n', hlt, hI⟩ := hq
    exact ⟨⟨n', hI⟩, Nat.lt_of_le_of_lt (hμ a' w' n' hI).2 hlt⟩
  | _ => exact hq

/-- A loop: at each round's head one of the states 'x' with 'H x' is known; a round lowers the measure. -/
theorem AWP_loop {c : Code} {ι : Type} (H : ι → Prop) (A : ι → AF) (S : ι → Store) (μ : ι → Nat) (x : ι) (h0 : H x) (ha : ALe α (A x)) (hs : S x = σ)
    (round : ∀ x, H x → AWPr rd P N c (thenQ (fun α' σ' => ∃ y, H y ∧ μ y < μ x ∧ ALe α' (A y) ∧ S y = σ') Q) (A x) (S x)) : AWPr rd P N (.loop c) Q α σ := by
  intro K imm m w a hsim hf
  subst hs
  refine wpIn_loop_nat (fun n a w => ∃ imm' m' y, ILe imm imm' ∧ OLe m m' ∧ Sim K imm' m' w (S y) ∧ FOk K imm' m' N a (A y) ∧ H y ∧ μ y = n) (μ x)
    ⟨imm, m, x, .refl _, .refl _, hsim, hf.weak ha, h0, rfl⟩ ?_
  rintro n a w ⟨imm', m', y, hi, ho, hs', hf', hy, rfl⟩
  refine Code.wpIn_mono ?_ (round y hy K imm' m' w a hs' hf')
  rintro e a' w' ⟨i, o, α', σ', hi', ho', hs'', hf'', hq⟩
  cases e with
  | normal =>
    obtain ⟨z, hz, hlt, hal, hst⟩ := hq
    subst hst
    exact ⟨μ z, hlt, i, o, z, hi.trans hi', ho.trans ho', hs'', hf''.weak hal, hz, rfl⟩
  | _ => exact ⟨i, o, α', σ', hi.trans hi', ho.trans ho', hs'', hf'', hq⟩
end
end Go.Proofs.Ytephecognbbaoaa
