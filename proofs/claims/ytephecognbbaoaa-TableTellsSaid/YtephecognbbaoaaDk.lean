/- Regions that draw their order, walked in the text's order. -/
import Derived.Test.YtephecognbbaoaaLo
namespace Go.Proofs.Ytephecognbbaoaa
open Go
set_option linter.all false

def callQ (P : Program) (f : FuncId) (args : List AV) (σ : Store) (K : AV → Prop) : Prop := ∃ v, (∀ τ, ACalls P f args (σ ++ τ) fun r σ' => σ' = σ ++ τ ∧ r = v) ∧ K v
theorem callQ_use {P : Program} {f : FuncId} {args : List AV} {σ : Store} {X : AV} {K : AV → Prop} (h : ∀ τ, ACalls P f args (σ ++ τ) fun r σ' => σ' = σ ++ τ ∧ r = X) (hk : K X) : callQ P f args σ K := ⟨X, h, hk⟩
@[congr] theorem callQ_cg {P : Program} {f : FuncId} {args args' : List AV} {σ : Store} {K : AV → Prop} (h : pass args = args') : callQ P f args σ K = callQ P f args' σ K := by rw [← h, pass_eq]

/-- An operation of the quiet part. -/
def AOpK (P : Program) (op : Op) (ev : Operand → Option AV) (σ : Store) (K : AV → Prop) : Prop :=
  match op with
  | .buildSlice T n parts => on (elemSize P T) fun k => on (partsA ev parts.toList) fun ps => on (rowsA k 0 ps) fun es =>
    es.length = n ∧ n * k ≤ 16777216 ∧ (match P.underlying T with | some (.slice e) => (zeroA P e).map (·.length) = some k | _ => False) ∧ K (.sl es)
  | .load T a => on (ev a) fun p => on (loadA P σ T p) K
  | .build T parts => on (zeroA P T) fun z => on (placesA P T) fun pl => on (partsA ev parts.toList) fun ps => on (fillA (fun i => pl[i]?) z ps) fun l => K (.agg l)
  | .move x => on (ev x) K
  | .assign x => on (ev x) K
  | .pick c a b => on (ev c) fun c => on (ev a) fun a => on (ev b) fun b => match c with
    | .c (.bool t) => splitB t (K a) (K b)
    | _ => False
  | .binOp op T x y _ => on (ev x) fun a => on (ev y) fun b => binT P T op a b fun v => K (.c v)
  | .unOp op T x => AOpA P (.unOp op T x) ev K
  | .extract t ix => AOpA P (.extract t ix) ev K
  | .nilCheck x => AOpA P (.nilCheck x) ev K
  | .fieldAddr T x f => AOpA P (.fieldAddr T x f) ev K
  | .indexAddr T x i => AOpA P (.indexAddr T x i) ev K
  | .index T x i => AOpA P (.index T x i) ev K
  | .field T x f => AOpA P (.field T x f) ev K
  | .convert s d x => on (ev x) fun x => convA P (P.underlying s) (P.underlying d) x σ fun v σ' => σ' = σ ∧ K v
  | .makeFunc fn first captured => AOpA P (.makeFunc fn first captured) ev K
  | .slice T x lo hi mx => on (ev x) fun x => on (bound ev lo 0) fun l => on (lenA x) fun len => on (bound ev hi len) fun h => on (bound ev mx 0) fun mz => sliceA P (P.underlying T) x mx hi.isSome l h len mz K
  | .lookup T m k ok => on (ev m) fun m => on (ev k) fun k => lookupA P T m k ok σ K
  | .call { callee := .builtin .len, args := args, argTypes := ts } => on (evL ev args.toList) fun l => match l, ts.toList with
    | [x], t :: _ => on (lenA x) fun n => lenTy P t x = true ∧ K (.c (.int .i64 n))
    | _, _ => False
  | .call { callee := .builtin .max, args := args, argTypes := ts } => AOpA P (.call { callee := .builtin .max, args := args, argTypes := ts }) ev K
  | .call { callee := .builtin .min, args := args, argTypes := ts } => AOpA P (.call { callee := .builtin .min, args := args, argTypes := ts }) ev K
  | .call { callee := .value f, args := args, argTypes := _ } => on (ev f) fun f => on (evL ev args.toList) fun as => match f with
    | .fn g first cap => callOk P g = true ∧ callQ P g (first ++ as ++ cap) σ K
    | _ => False
  | _ => False

theorem on_eq {α : Type} {o : Option α} {a : α} {k : α → Prop} (h : o = some a) : on o k = k a := by rw [h]; rfl

theorem binI_ex {op : BinOp} {k : IntKind} {x y : Int} {K : Value → Prop} (h : binI op k x y K) : ∃ v, binI op k x y (fun u => u = v) ∧ K v := by
  unfold binI at h ⊢
  split at h <;> (try (split at h)) <;> first | exact h.elim | exact ⟨_, rfl, h⟩ | exact ⟨_, ⟨h.1, h.2.1, rfl⟩, h.2.2⟩ | exact ⟨_, ⟨h.1, rfl⟩, h.2⟩

theorem binA_ex {op : BinOp} {a b : AV} {K : Value → Prop} (h : binA op a b K) : ∃ v, binA op a b (fun u => u = v) ∧ K v := by
  unfold binA at h ⊢
  split at h
  · split at h
    · exact ⟨_, ⟨h.1, rfl⟩, h.2⟩
    · exact ⟨_, ⟨h.1, rfl⟩, h.2⟩
    · obtain ⟨v, h1, h2⟩ := binI_ex h.2
      exact ⟨v, ⟨h.1, h1⟩, h2⟩
  · split at h
    · exact ⟨_, ⟨h.1, rfl⟩, h.2⟩
    · exact ⟨_, rfl, h⟩
    · exact ⟨_, rfl, h⟩
    · exact h.elim
  · exact h.elim

theorem binT_ex {P : Program} {T : TypeId} {op : BinOp} {a b : AV} {K : Value → Prop} (h : binT P T op a b K) : ∃ v, binT P T op a b (fun u => u = v) ∧ K v := by
  unfold binT at h ⊢
  split at h
  · obtain ⟨pl, hpl, h⟩ := on_elim h
    obtain ⟨r, hr, h⟩ := on_elim h
    simp only [hpl, hr, on_some, pass_eq]
    split at h
    · exact ⟨_, rfl, h⟩
    · exact ⟨_, rfl, h⟩
    · exact h.elim
  · obtain ⟨hT, h⟩ := h
    split at h
    · exact ⟨_, ⟨hT, rfl⟩, h⟩
    · exact ⟨_, ⟨hT, rfl⟩, h⟩
    · exact h.elim
  · exact binA_ex h

theorem binN_of {P : Program} {T : TypeId} {op : BinOp} {a b : AV} {K : Value → Prop} (h : binT P T op a b K) : binN P T op a b K := by
  unfold binN
  split
  · exfalso
    unfold binT at h
    split at h
    · simp_all
    · simp_all
    · unfold binA at h
      split at h
      · simp_all
      · simp_all
      · exact h
  · exact h

theorem AOpA_ex {P : Program} {ev : Operand → Option AV} {K : AV → Prop} : ∀ (op : Op), (match op with | .unOp .. => True | .extract .. => True | .nilCheck .. => True | .fieldAddr .. => True | .indexAddr .. => True | .index .. => True | .field .. => True | .makeFunc .. => True | _ => False) →
    AOpA P op ev K → ∃ v, AOpA P op ev (fun u => u = v) ∧ K v := by
  intro op hop h
  cases op <;> (try exact hop.elim)
  case unOp op T x =>
    obtain ⟨a, ha, h⟩ := on_elim h
    simp only [AOpA, ha, on_some, pass_eq]
    split at h
    · exact ⟨_, rfl, h⟩
    · exact ⟨_, ⟨h.1, rfl⟩, h.2⟩
    · exact h.elim
  case extract t ix =>
    obtain ⟨a, ha, h⟩ := on_elim h
    simp only [AOpA, ha, on_some, pass_eq]
    split at h
    · obtain ⟨b, hb, h⟩ := on_elim h
      simp only [hb, on_some, pass_eq]
      exact ⟨_, rfl, h⟩
    · exact h.elim
  case nilCheck x =>
    obtain ⟨a, ha, h⟩ := on_elim h
    simp only [AOpA, ha, on_some, pass_eq]
    split at h
    · exact ⟨_, rfl, h⟩
    · exact ⟨_, rfl, h⟩
    · exact ⟨_, rfl, h⟩
    · exact h.elim
  case fieldAddr T x f =>
    obtain ⟨a, ha, h⟩ := on_elim h
    obtain ⟨d, hd, h⟩ := on_elim h
    simp only [AOpA, ha, hd, on_some, pass_eq]
    split at h
    · exact ⟨_, rfl, h⟩
    · exact ⟨_, rfl, h⟩
    · exact h.elim
  case indexAddr T x i =>
    obtain ⟨a, ha, h⟩ := on_elim h
    obtain ⟨b, hb, h⟩ := on_elim h
    simp only [AOpA, ha, hb, on_some, pass_eq]
    split at h
    · obtain ⟨k, hk, h⟩ := on_elim h
      simp only [hk, on_some, pass_eq]
      split at h
      · exact ⟨_, ⟨h.1, h.2.1, rfl⟩, h.2.2⟩
      · exact h.elim
    obtain ⟨k, hk, h⟩ := on_elim h
    simp only [hk, on_some, pass_eq]
    split at h
    · obtain ⟨h0, h⟩ := h
      obtain ⟨e, he, h1, h2⟩ := on_elim h
      simp only [he, on_some, pass_eq]
      exact ⟨_, ⟨h0, h1, rfl⟩, h2⟩
    · exact ⟨_, ⟨h.1, h.2.1, h.2.2.1, rfl⟩, h.2.2.2⟩
    · exact h.elim
  case index T x i =>
    obtain ⟨a, ha, h⟩ := on_elim h
    obtain ⟨b, hb, h⟩ := on_elim h
    simp only [AOpA, ha, hb, on_some, pass_eq]
    split at h
    · obtain ⟨h0, h1, h⟩ := h
      obtain ⟨e, he, h2⟩ := on_elim h
      simp only [he, on_some, pass_eq]
      exact ⟨_, ⟨h0, h1, rfl⟩, h2⟩
    · exact h.elim
  case field T x f =>
    obtain ⟨a, ha, h⟩ := on_elim h
    obtain ⟨d, hd, h⟩ := on_elim h
    simp only [AOpA, ha, hd, on_some, pass_eq]
    split at h
    · obtain ⟨e, he, h⟩ := on_elim h
      simp only [he, on_some, pass_eq]
      exact ⟨_, rfl, h⟩
    · exact h.elim
  case makeFunc fn first captured =>
    obtain ⟨a, ha, h⟩ := on_elim h
    obtain ⟨b, hb, h⟩ := on_elim h
    simp only [AOpA, ha, hb, on_some, pass_eq]
    split at h
    · exact ⟨_, rfl, h⟩
    · exact h.elim

theorem convA_ex {P : Program} {d d' : Option TypeDesc} {x : AV} {σ : Store} {K : AV → Prop} (h : convA P d d' x σ fun v σ' => σ' = σ ∧ K v) : ∃ v, (convA P d d' x σ fun v' σ' => v' = v ∧ σ' = σ) ∧ K v := by
  unfold convA at h ⊢
  split at h
  · exact ⟨_, ⟨h.1, rfl, rfl⟩, h.2.2⟩
  · exact ⟨_, ⟨rfl, rfl⟩, h.2⟩
  · exact absurd h.2.1 (by simp)
  · obtain ⟨he, h⟩ := h
    obtain ⟨es, hes, h⟩ := on_elim h
    obtain ⟨ns, hns, h⟩ := on_elim h
    simp only [hes, hns, on_some, pass_eq]
    exact ⟨_, ⟨he, rfl, trivial⟩, h.2⟩
  · exact h.elim

theorem sliceA_ex {P : Program} {d : Option TypeDesc} {x : AV} {mx : Option Operand} {hi : Bool} {l h : Int} {len : Nat} {mz : Int} {K : AV → Prop} (hk : sliceA P d x mx hi l h len mz K) : ∃ v, (sliceA P d x mx hi l h len mz fun u => u = v) ∧ K v := by
  unfold sliceA at hk ⊢
  split at hk
  · exact ⟨_, ⟨hk.1, hk.2.1, hk.2.2.1, rfl⟩, hk.2.2.2⟩
  · exact ⟨_, ⟨hk.1, hk.2.1, hk.2.2.1, hk.2.2.2.1, hk.2.2.2.2.1, rfl⟩, hk.2.2.2.2.2⟩
  · obtain ⟨h1, h2, h3, h4, h5, h6, h7⟩ := hk
    by_cases hc : l = 0 ∨ l < len
    · exact ⟨_, ⟨h1, h2, h3, h4, h5, fun _ => rfl, fun ha hb => absurd hc (by omega)⟩, h6 hc⟩
    · exact ⟨_, ⟨h1, h2, h3, h4, h5, fun ha => absurd ha hc, fun ha hb => rfl⟩, h7 (by omega) (by omega)⟩
  · exact ⟨_, ⟨hk.1, hk.2.1, hk.2.2.1, hk.2.2.2.1, hk.2.2.2.2.1, hk.2.2.2.2.2.1, rfl⟩, hk.2.2.2.2.2.2⟩
  · exact hk.elim

theorem lookupA_ex {P : Program} {T : TypeId} {m k : AV} {ok : Bool} {σ : Store} {K : AV → Prop} (h : lookupA P T m k ok σ K) : ∃ v, (lookupA P T m k ok σ fun u => u = v) ∧ K v := by
  unfold lookupA at h ⊢
  obtain ⟨t, ht, h⟩ := on_elim h
  obtain ⟨kv, hk, h⟩ := on_elim h
  obtain ⟨z, hz, h⟩ := on_elim h
  obtain ⟨es, hes, h⟩ := on_elim h
  refine ⟨_, ?_, h.2.2.2.2⟩
  rw [on_eq ht, on_eq hk, on_eq hz, on_eq hes]
  exact ⟨h.1, h.2.1, h.2.2.1, h.2.2.2.1, rfl⟩

theorem mapA_app {σ : Store} {m : AV} {es : List (Value × AV)} (τ : Store) (h : mapA σ m = some es) : mapA (σ ++ τ) m = some es := by
  unfold mapA at h ⊢
  split at h
  · rename_i b
    obtain ⟨hlt, hob⟩ := isMap_inv h
    have : (σ ++ τ)[b]? = some (.map es) := by rw [List.getElem?_append_left hlt, List.getElem?_eq_getElem hlt, hob]
    rw [this]
    rfl
  · exact h
  · cases h

theorem lookupA_app {P : Program} {T : TypeId} {m k : AV} {ok : Bool} {σ : Store} {K : AV → Prop} (τ : Store) (h : lookupA P T m k ok σ K) : lookupA P T m k ok (σ ++ τ) K := by
  unfold lookupA at h ⊢
  obtain ⟨t, ht, h⟩ := on_elim h
  obtain ⟨kv, hk, h⟩ := on_elim h
  obtain ⟨z, hz, h⟩ := on_elim h
  obtain ⟨es, hes, h⟩ := on_elim h
  rw [on_eq ht, on_eq hk, on_eq hz, on_eq (mapA_app τ hes)]
  exact h

theorem AOpK_ex {P : Program} {ev : Operand → Option AV} {σ : Store} {K : AV → Prop} (op : Op) (h : AOpK P op ev σ K) : ∃ v, AOpQ P op ev σ v ∧ K v := by
  cases op <;> (try exact h.elim)
  case buildSlice T n parts =>
    obtain ⟨k, hk, h⟩ := on_elim h
    obtain ⟨ps, hps, h⟩ := on_elim h
    obtain ⟨es, hes, h⟩ := on_elim h
    simp only [AOpQ, hk, hps, hes, on_some, pass_eq, and_true]
    exact ⟨_, ⟨h.1, h.2.1, h.2.2.1, rfl⟩, h.2.2.2⟩
  case load T a =>
    obtain ⟨p, hp, h⟩ := on_elim h
    obtain ⟨v, hv, h⟩ := on_elim h
    simp only [AOpQ, AOp, hp, hv, on_some, pass_eq, and_true]
    exact ⟨_, rfl, h⟩
  case build T parts =>
    obtain ⟨z, hz, h⟩ := on_elim h
    obtain ⟨pl, hpl, h⟩ := on_elim h
    obtain ⟨ps, hps, h⟩ := on_elim h
    obtain ⟨l, hl, h⟩ := on_elim h
    simp only [AOpQ, AOp, hz, hpl, hps, hl, on_some, pass_eq, and_true]
    exact ⟨_, rfl, h⟩
  case move x =>
    obtain ⟨a, ha, h⟩ := on_elim h
    simp only [AOpQ, AOp, AOpA, ha, on_some, pass_eq, and_true]
    exact ⟨_, rfl, h⟩
  case assign x =>
    obtain ⟨a, ha, h⟩ := on_elim h
    simp only [AOpQ, AOp, AOpA, ha, on_some, pass_eq, and_true]
    exact ⟨_, rfl, h⟩
  case pick c a b =>
    obtain ⟨cv, hc, h⟩ := on_elim h
    obtain ⟨av, ha, h⟩ := on_elim h
    obtain ⟨bv, hb, h⟩ := on_elim h
    simp only [AOpQ, AOp, AOpA, hc, ha, hb, on_some, pass_eq, and_true]
    split at h
    · rename_i t _ _
      cases t
      · exact ⟨_, ⟨(fun h => by cases h), (fun _ => ⟨rfl, rfl⟩)⟩, h.2 rfl⟩
      · exact ⟨_, ⟨(fun _ => ⟨rfl, rfl⟩), (fun h => by cases h)⟩, h.1 rfl⟩
    · exact h.elim
  case binOp op T x y U =>
    obtain ⟨a, ha, h⟩ := on_elim h
    obtain ⟨b, hb, h⟩ := on_elim h
    simp only [AOpQ, AOp, AOpA, ha, hb, on_some, pass_eq, and_true]
    obtain ⟨v, h1, h2⟩ := binT_ex h
    refine ⟨.c v, ?_, h2⟩
    have h1 := binN_of h1
    simpa using h1
  case unOp op T x =>
    obtain ⟨v, h1, h2⟩ := AOpA_ex (P := P) (ev := ev) (K := K) (.unOp op T x) trivial h
    exact ⟨v, by simp only [AOpQ, AOp]; simpa using h1, h2⟩
  case extract t ix =>
    obtain ⟨v, h1, h2⟩ := AOpA_ex (P := P) (ev := ev) (K := K) (.extract t ix) trivial h
    exact ⟨v, by simp only [AOpQ, AOp]; simpa using h1, h2⟩
  case nilCheck x =>
    obtain ⟨v, h1, h2⟩ := AOpA_ex (P := P) (ev := ev) (K := K) (.nilCheck x) trivial h
    exact ⟨v, by simp only [AOpQ, AOp]; simpa using h1, h2⟩
  case fieldAddr T x f =>
    obtain ⟨v, h1, h2⟩ := AOpA_ex (P := P) (ev := ev) (K := K) (.fieldAddr T x f) trivial h
    exact ⟨v, by simp only [AOpQ, AOp]; simpa using h1, h2⟩
  case indexAddr T x i =>
    obtain ⟨v, h1, h2⟩ := AOpA_ex (P := P) (ev := ev) (K := K) (.indexAddr T x i) trivial h
    exact ⟨v, by simp only [AOpQ, AOp]; simpa using h1, h2⟩
  case index T x i =>
    obtain ⟨v, h1, h2⟩ := AOpA_ex (P := P) (ev := ev) (K := K) (.index T x i) trivial h
    exact ⟨v, by simp only [AOpQ, AOp]; simpa using h1, h2⟩
  case field T x f =>
    obtain ⟨v, h1, h2⟩ := AOpA_ex (P := P) (ev := ev) (K := K) (.field T x f) trivial h
    exact ⟨v, by simp only [AOpQ, AOp]; simpa using h1, h2⟩
  case makeFunc fn first captured =>
    obtain ⟨v, h1, h2⟩ := AOpA_ex (P := P) (ev := ev) (K := K) (.makeFunc fn first captured) trivial h
    exact ⟨v, by simp only [AOpQ, AOp]; simpa using h1, h2⟩
  case convert s d x =>
    obtain ⟨a, ha, h⟩ := on_elim h
    simp only [AOpQ, AOp, ha, on_some, pass_eq]
    exact convA_ex h
  case slice T x lo hi mx =>
    obtain ⟨a, ha, h⟩ := on_elim h
    obtain ⟨l, hl, h⟩ := on_elim h
    obtain ⟨len, hlen, h⟩ := on_elim h
    obtain ⟨hh, hhh, h⟩ := on_elim h
    obtain ⟨mz, hmz, h⟩ := on_elim h
    simp only [AOpQ, AOp, AOpA, ha, hl, hlen, hhh, hmz, on_some, pass_eq, and_true]
    obtain ⟨v, h1, h2⟩ := sliceA_ex h
    refine ⟨v, ?_, h2⟩
    have e : (fun u => u = v) = (fun u => u = v ∧ σ = σ) := by funext u; simp
    exact e ▸ h1
  case lookup T m k ok =>
    obtain ⟨a, ha, h⟩ := on_elim h
    obtain ⟨b, hb, h⟩ := on_elim h
    obtain ⟨v, h1, h2⟩ := lookupA_ex h
    refine ⟨v, ?_, h2⟩
    simp only [AOpQ, AOp, ha, hb, on_some, pass_eq, and_true]
    exact h1
  case call c =>
    obtain ⟨callee, args, ts⟩ := c
    cases callee with
    | value f =>
      obtain ⟨fv, hf, h⟩ := on_elim h
      obtain ⟨as, has, h⟩ := on_elim h
      simp only [AOpQ, AOp, hf, has, on_some, pass_eq, and_true]
      split at h
      · obtain ⟨hok, v, hc, hk⟩ := h
        have hc := hc []
        simp only [List.append_nil] at hc
        exact ⟨v, ⟨hok, hc.mono fun _ _ ⟨h1, h2⟩ => ⟨h2, h1⟩⟩, hk⟩
      · exact h.elim
    | builtin b =>
      cases b <;> (try exact h.elim)
      case len =>
        obtain ⟨as, has, h⟩ := on_elim h
        split at h
        · rename_i x t tr hts
          obtain ⟨n, hn, h1, h2⟩ := on_elim h
          refine ⟨_, ?_, h2⟩
          simp only [AOpQ, AOp, has, on_some, pass_eq, and_true]
          cases x <;> first | (cases hn; done) | (simp only [AOpA, has, hts, on_some, pass_eq, and_true]; first | (rw [on_eq hn]; exact ⟨h1, rfl⟩) | (cases hn; exact ⟨h1, rfl⟩))
        · exact h.elim
      case max =>
        obtain ⟨as, has, h⟩ := on_elim h
        split at h
        · refine ⟨_, ?_, h⟩
          simp only [AOpQ, AOp, AOpA, has, on_some, pass_eq, and_true]
        · exact h.elim
      case min =>
        obtain ⟨as, has, h⟩ := on_elim h
        split at h
        · refine ⟨_, ?_, h⟩
          simp only [AOpQ, AOp, AOpA, has, on_some, pass_eq, and_true]
        · exact h.elim
    | _ => exact h.elim

theorem elemsA_app {σ : Store} {x : AV} {es : List (List AV)} (τ : Store) (h : elemsA σ x = some es) : elemsA (σ ++ τ) x = some es := by
  rw [elemsA_eq] at h ⊢
  unfold elemsB at *
  split at h
  · exact h
  · exact h
  · exact h
  · rename_i b k s n c
    cases hb : σ[b]? with
    | none => rw [hb] at h; cases h
    | some ob =>
      rw [hb] at h
      obtain ⟨hlt, e⟩ := List.getElem?_eq_some_iff.1 hb
      have : (σ ++ τ)[b]? = some ob := by rw [List.getElem?_append_left hlt]; exact hb
      rw [this]
      exact h
  · cases h

theorem loadA_app {P : Program} {σ : Store} {T : TypeId} {p v : AV} (τ : Store) (h : loadA P σ T p = some v) : loadA P (σ ++ τ) T p = some v := by
  unfold loadA at *
  split at h
  · rename_i b k i off
    obtain ⟨e, he, h2⟩ := Option.bind_eq_some_iff.1 h
    refine Option.bind_eq_some_iff.2 ⟨e, ?_, h2⟩
    unfold cellsOb at *
    cases hb : σ[b]? with
    | none => rw [hb] at he; cases he
    | some ob =>
      rw [hb] at he
      obtain ⟨hlt, e⟩ := List.getElem?_eq_some_iff.1 hb
      have : (σ ++ τ)[b]? = some ob := by rw [List.getElem?_append_left hlt]; exact hb
      rw [this]
      exact he
  · exact h
  · cases h

/-- What holds at a store holds where more lies behind. -/
theorem AOpK_ext {P : Program} {ev : Operand → Option AV} {σ : Store} {K : AV → Prop} (op : Op) (h : AOpK P op ev σ K) : ∃ v, (∀ τ, AOpQ P op ev (σ ++ τ) v) ∧ K v := by
  by_cases hcall : ∃ f args ts, op = .call { callee := .value f, args := args, argTypes := ts }
  · obtain ⟨f, args, ts, rfl⟩ := hcall
    obtain ⟨fv, hf, h⟩ := on_elim h
    obtain ⟨as, has, h⟩ := on_elim h
    split at h
    · obtain ⟨hok, v, hc, hk⟩ := h
      refine ⟨v, fun τ => ?_, hk⟩
      simp only [AOpQ, AOp, hf, has, on_some, pass_eq, and_true]
      exact ⟨hok, (hc τ).mono fun _ _ ⟨h1, h2⟩ => ⟨h2, h1⟩⟩
    · exact h.elim
  · obtain ⟨v, hq, hk⟩ := AOpK_ex op h
    refine ⟨v, fun τ => ?_, hk⟩
    clear hk
    cases op <;> (try exact h.elim)
    case buildSlice T n parts => exact hq
    case load T a =>
      obtain ⟨p, hp, hq⟩ := on_elim hq
      obtain ⟨x, hx, hq⟩ := on_elim hq
      simp only [AOpQ, AOp, hp, loadA_app τ hx, on_some, pass_eq, and_true]
      exact hq.1
    case lookup T m k ok =>
      simp only [AOpQ, AOp, and_true] at hq ⊢
      obtain ⟨a, ha, hq⟩ := on_elim hq
      obtain ⟨b, hb, hq⟩ := on_elim hq
      rw [on_eq ha, on_eq hb]
      exact lookupA_app τ hq
    case convert s d x =>
      obtain ⟨a, ha, hq⟩ := on_elim hq
      simp only [AOpQ, AOp, ha, on_some, pass_eq]
      unfold convA at hq ⊢
      split at hq
      · exact ⟨hq.1, hq.2.1, rfl⟩
      · exact ⟨hq.1, rfl⟩
      · exact absurd hq.2.2 (by simp)
      · obtain ⟨he, hq⟩ := hq
        obtain ⟨es, hes, hq⟩ := on_elim hq
        obtain ⟨ns, hns, hq⟩ := on_elim hq
        simp only [elemsA_app τ hes, hns, on_some, pass_eq]
        exact ⟨he, hq.1, trivial⟩
      · exact hq.elim
    case call c =>
      obtain ⟨callee, args, ts⟩ := c
      cases callee with
      | value f => exact absurd ⟨f, args, ts, rfl⟩ hcall
      | builtin b =>
        cases b <;> (try exact h.elim)
        case max => simp only [AOpQ, AOp, and_true] at hq ⊢; exact hq
        case min => simp only [AOpQ, AOp, and_true] at hq ⊢; exact hq
        simp only [AOpQ, AOp, and_true] at hq ⊢
        obtain ⟨l, hl, hq⟩ := on_elim hq
        rw [on_eq hl]
        obtain ⟨l2, hl2, h⟩ := on_elim h
        rw [hl] at hl2
        cases hl2
        split at h
        · rename_i x t tr hts
          obtain ⟨n, hn, h1, h2⟩ := on_elim h
          cases x <;> first | (cases hn; done) | exact hq | (
            obtain ⟨es, hes, hq⟩ := on_elim hq
            rw [on_eq (elemsA_app τ hes)]
            exact hq)
        · exact h.elim
      | _ => exact h.elim
    all_goals (simp only [AOpQ, AOp, and_true] at hq ⊢; exact hq)

/-- The quiet part. -/
def kreg (P : Program) (N : Nat) (ops : List Oper) (σ : Store) (K : AF → Prop) : List Oper → AF → Prop
  | [], α => K α
  | o :: r, α => splitA ops o.guard α fun α => guardA ops o.guard α
      (fun α => AOpK P o.op (evF α) σ fun v => putA N o.dst v α fun α' => kreg P N ops σ K r α')
      (fun α => putA N o.dst (.c undef) α fun α' => kreg P N ops σ K r α')

/-- An operation of the quiet part, or the one that makes an object. -/
def AOpM (P : Program) (o : Oper) (ev : Operand → Option AV) (σ : Store) (z : List AV) (K : AV → Prop) : Prop :=
  match o.op with
  | .alloc _ => o.guard = none ∧ K (.ptr σ.length z.length 0 0)
  | op => AOpK P op ev σ K

/-- The quiet part with one object that is made in it. -/
def mreg (P : Program) (N : Nat) (ops : List Oper) (σ : Store) (z : List AV) (K : AF → Prop) : List Oper → AF → Prop
  | [], α => K α
  | o :: r, α => splitA ops o.guard α fun α => guardA ops o.guard α
      (fun α => AOpM P o (evF α) σ z fun v => putA N o.dst v α fun α' => mreg P N ops σ z K r α')
      (fun α => putA N o.dst (.c undef) α fun α' => mreg P N ops σ z K r α')

section
variable {P : Program} {N : Nat} {ops : List Oper} {σ : Store} {z : List AV} {K : AF → Prop} {α : AF} {r : List Oper} {dst : Option Tmp} {op : Op} {ty : TypeId} {pos : String} {after : Array Edge} {g : Option (Nat × Bool)}
theorem mreg_nil : mreg P N ops σ z K [] α = K α := rfl
theorem mreg_cons : mreg P N ops σ z K ({ dst := dst, op := op, type := ty, pos := pos, after := after, guard := g } :: r) α = gateA ops g α
      (fun α => AOpM P { dst := dst, op := op, type := ty, pos := pos, after := after, guard := g } (evF α) σ z fun av => putA N dst av α fun α' => mreg P N ops σ z K r α') (fun α => putA N dst (.c undef) α fun α' => mreg P N ops σ z K r α') := rfl
end

theorem kreg_nil {P : Program} {N : Nat} {ops : List Oper} {σ : Store} {K : AF → Prop} {α : AF} : kreg P N ops σ K [] α = K α := rfl
theorem kreg_cons {P : Program} {N : Nat} {ops : List Oper} {σ : Store} {K : AF → Prop} {α : AF} {r : List Oper} {dst : Option Tmp} {op : Op} {ty : TypeId} {pos : String} {after : Array Edge} {g : Option (Nat × Bool)} :
    kreg P N ops σ K ({ dst := dst, op := op, type := ty, pos := pos, after := after, guard := g } :: r) α = gateA ops g α
      (fun α => AOpK P op (evF α) σ fun av => putA N dst av α fun α' => kreg P N ops σ K r α') (fun α => putA N dst (.c undef) α fun α' => kreg P N ops σ K r α') := rfl

theorem splitA_mono {ops : List Oper} {g : Option (Nat × Bool)} {α : AF} {K K' : AF → Prop} (hk : ∀ α, K α → K' α) (h : splitA ops g α K) : splitA ops g α K' := by
  unfold splitA at h ⊢
  split at h
  · exact hk _ h
  · obtain ⟨d, hd, h⟩ := on_elim h
    obtain ⟨v, hv, h⟩ := on_elim h
    simp only [hd, hv, on_some, pass_eq]
    split at h
    · exact ⟨fun hb => hk _ (h.1 hb), fun hb => hk _ (h.2 hb)⟩
    · exact hk _ h

theorem guardA_mono {ops : List Oper} {g : Option (Nat × Bool)} {α : AF} {s t s' t' : AF → Prop} (hs : ∀ α, s α → s' α) (ht : ∀ α, t α → t' α) (h : guardA ops g α s t) : guardA ops g α s' t' := by
  unfold guardA at h ⊢
  split at h
  · exact hs _ h
  · rename_i j want
    obtain ⟨d, hd, h⟩ := on_elim h
    obtain ⟨v, hv, h⟩ := on_elim h
    simp only [hd, hv, on_some, pass_eq]
    split at h
    · cases want
      · exact ht _ h
      · exact hs _ h
    · cases want
      · exact hs _ h
      · exact ht _ h
    · exact ht _ h
    · exact h.elim

theorem putA_mono {N : Nat} {d : Option Tmp} {v : AV} {α : AF} {K K' : AF → Prop} (hk : ∀ α, K α → K' α) (h : putA N d v α K) : putA N d v α K' := by
  unfold putA at h ⊢
  split at h
  · exact ⟨h.1, hk _ h.2⟩
  · exact hk _ h

theorem qreg_of_kreg {P : Program} {N : Nat} {ops : List Oper} {σ : Store} {mk : Option (TypeId × List AV)} {K : AF → Prop} : ∀ (l : List Oper) (α : AF), kreg P N ops σ K l α → qreg P N ops σ mk K l α := by
  intro l
  induction l with
  | nil => intro α h; exact h
  | cons o r ih =>
    intro α h
    refine splitA_mono (fun α h => guardA_mono (fun α h => ?_) (fun α h => putA_mono (fun α h => ih α h) h) h) h
    obtain ⟨v, h1, h2⟩ := AOpK_ext _ h
    exact ⟨v, .inl h1, putA_mono (fun α h => ih α h) h2⟩

/-- Where the first operation stands that is not quiet. -/
def loud : Op → Bool
  | .store .. => true
  | .alloc .. => true
  | .box .. => true
  | .insert .. => true
  | .mapUpdate .. => true
  | .makeMap .. => true
  | .makeSlice .. => true
  | .call { callee := .builtin .append, args := _, argTypes := _ } => true
  | .call { callee := .builtin .copy, args := _, argTypes := _ } => true
  | _ => false

def upto : List Oper → Nat
  | [] => 0
  | o :: r => match loud o.op with
    | true => 0
    | false => upto r + 1

theorem AWP_drawK {rd : Option Nat} {P : Program} {N : Nat} {ops : List Oper} {α0 : AF} {σ : Store} {Q : Post} {id : Nat} (p : Nat) (hm : P.follows .mixedOrders = true) (hB : (drawB ops p && edgesBack ops && noSelect ops && decide (p ≤ ops.length)) = true)
    (h : kreg P N ops σ (fun α => areg P N ops (fun α σ => Q .normal α σ) (ops.drop p) α σ) (ops.take p) α0) : AWPr rd P N (.region id ops.toArray true) Q α0 σ :=
  AWP_draw p hm hB (qreg_of_kreg _ _ h)

theorem AWP_drawU {rd : Option Nat} {P : Program} {N : Nat} {ops : List Oper} {α0 : AF} {σ : Store} {Q : Post} {id : Nat} (hm : P.follows .mixedOrders = true) (hB : (drawB ops (upto ops) && edgesBack ops && noSelect ops && decide (upto ops ≤ ops.length)) = true)
    (h : kreg P N ops σ (fun α => areg P N ops (fun α σ => Q .normal α σ) (ops.drop (upto ops)) α σ) (ops.take (upto ops)) α0) : AWPr rd P N (.region id ops.toArray true) Q α0 σ :=
  AWP_drawK _ hm hB h

def isAlloc : Op → Bool
  | .alloc _ => true
  | _ => false

/-- How many operations stand ahead of the second one that is not quiet. -/
def uptoA : List Oper → Bool → Nat
  | [], _ => 0
  | o :: r, b => match isAlloc o.op && b with
    | true => uptoA r false + 1
    | false => match loud o.op with
      | true => 0
      | false => uptoA r b + 1

def allocT : List Oper → Option TypeId
  | [] => none
  | o :: r => match o.op with
    | .alloc T => some T
    | _ => allocT r

def oneAlloc (ops : List Oper) (p : Nat) : Bool := (List.range p).any fun q => (List.range p).all fun j => match ops[j]? with | some o => (isAlloc o.op == (j == q)) && (!isAlloc o.op || o.guard.isNone) | none => false

theorem allocT_some : ∀ (ops : List Oper) (q p : Nat) (o : Oper), q < p → ops[q]? = some o → (∀ j, j < p → ∀ o, ops[j]? = some o → (isAlloc o.op = true ↔ j = q)) → ∀ T, allocT ops = some T → o.op = .alloc T
  | [], q, p, o, _, h, _, T, _ => by simp at h
  | x :: r, 0, p, o, hp, h, hj, T, hT => by
    simp only [List.getElem?_cons_zero, Option.some.injEq] at h
    subst h
    have := (hj 0 hp x rfl).2 rfl
    unfold allocT at hT
    cases hx : x.op <;> rw [hx] at this hT <;> first | (cases this; done) | (cases hT; rfl)
  | x :: r, q + 1, p, o, hp, h, hj, T, hT => by
    have hx : isAlloc x.op = false := by
      cases hb : isAlloc x.op with
      | false => rfl
      | true => have := (hj 0 (by omega) x rfl).1 hb; omega
    refine allocT_some r q (p - 1) o (by omega) (by simpa using h) (fun j hj' o' ho' => ?_) T ?_
    · have := hj (j + 1) (by omega) o' (by simpa using ho')
      rw [this]
      omega
    · unfold allocT at hT
      cases hxo : x.op <;> rw [hxo] at hT hx <;> first | (cases hx; done) | exact hT

theorem qreg_of_mreg {P : Program} {N : Nat} {ops : List Oper} {σ : Store} {T : TypeId} {z : List AV} {K : AF → Prop} : ∀ (l : List Oper) (α : AF), (∀ o ∈ l, ∀ T', o.op = .alloc T' → T' = T) → mreg P N ops σ z K l α → qreg P N ops σ (some (T, z)) K l α := by
  intro l
  induction l with
  | nil => intro α _ h; exact h
  | cons o r ih =>
    intro α hl h
    have ih' := fun α h => ih α (fun o ho => hl o (by simp [ho])) h
    refine splitA_mono (fun α h => guardA_mono (fun α h => ?_) (fun α h => putA_mono (fun α h => ih' α h) h) h) h
    by_cases ha : ∃ T', o.op = .alloc T'
    · obtain ⟨T', ha⟩ := ha
      have hT := hl o (by simp) T' ha
      subst hT
      unfold AOpM at h
      rw [ha] at h
      exact ⟨_, .inr ⟨h.1, T', z, rfl, ha, rfl⟩, putA_mono (fun α h => ih' α h) h.2⟩
    · have h' : AOpK P o.op (evF α) σ fun v => putA N o.dst v α fun α' => mreg P N ops σ z K r α' := by
        unfold AOpM at h
        cases ho : o.op <;> rw [ho] at h <;> first | exact h | exact absurd ⟨_, ho⟩ ha
      obtain ⟨v, h1, h2⟩ := AOpK_ext _ h'
      exact ⟨v, .inl h1, putA_mono (fun α h => ih' α h) h2⟩

/-- A region that draws its order; one object is made in the quiet part. -/
theorem AWP_drawA {rd : Option Nat} {P : Program} {N : Nat} {ops : List Oper} {α0 : AF} {σ : Store} {Q : Post} {id : Nat} {T : TypeId} (hm : P.follows .mixedOrders = true) (hB : (drawB ops (uptoA ops true) && edgesBack ops && noSelect ops && decide (uptoA ops true ≤ ops.length) && oneAlloc ops (uptoA ops true)) = true) (hT : allocT ops = some T)
    (h : on (zeroA P T) fun z => mreg P N ops σ z (fun α => areg P N ops (fun α σ => Q .normal α σ) (ops.drop (uptoA ops true)) α (σ ++ [.cells z.length [z]])) (ops.take (uptoA ops true)) α0) : AWPr rd P N (.region id ops.toArray true) Q α0 σ := by
  generalize hp : uptoA ops true = p at hB h
  obtain ⟨z, hz, h⟩ := on_elim h
  intro K imm m w a hs hf
  simp only [Bool.and_eq_true, decide_eq_true_eq] at hB
  obtain ⟨⟨⟨⟨hB1, hB2⟩, hB3⟩, hB4⟩, hB5⟩ := hB
  obtain ⟨q, hq⟩ := List.any_eq_true.1 hB5
  simp only [List.mem_range, List.all_eq_true] at hq
  obtain ⟨hqp, hone⟩ := hq
  have hone' : ∀ j, j < p → ∀ o, ops[j]? = some o → (isAlloc o.op = true ↔ j = q) := fun j hj o ho => by
    have := hone j hj
    rw [ho] at this
    simp only [Bool.and_eq_true, beq_iff_eq] at this
    rw [this.1]
    simp
  have hqo : ops[q]? = some ops[q] := List.getElem?_eq_getElem (by omega)
  have hqT := allocT_some ops q p _ hqp hqo hone' T hT
  have hqg : ops[q].guard = none := by
    have := hone q hqp
    rw [hqo] at this
    simp only [Bool.and_eq_true, beq_iff_eq, (hone' q hqp _ hqo).2 rfl, Bool.not_true, Bool.false_or, Option.isNone_iff_eq_none] at this
    exact this.2
  have hall : ∀ j, j < p → ∀ o, ops[j]? = some o → ∀ T', o.op = .alloc T' → j = q := fun j hj o ho T' e => (hone' j hj o ho).1 (by rw [e]; rfl)
  have hc : Conf ops p := fun i j x y hij hx hy h => drawB_spec hB1 hij hx hy h
  have h' := qreg_of_mreg (T := T) _ _ (fun o ho T' e => by
    obtain ⟨j, hj, rfl⟩ := List.getElem_of_mem ho
    simp only [List.length_take] at hj
    have hjo : ops[j]? = some (ops.take p)[j] := by rw [List.getElem_take]; exact List.getElem?_eq_getElem (by omega)
    have := hall j (by omega) _ hjo T' e
    subst this
    have e2 := Option.some.inj (hqo.symm.trans hjo)
    rw [← e2, hqT] at e
    cases e
    rfl) h
  obtain ⟨vs, bs, _, h2, γ, hγ, h3⟩ := trace_of_qreg (ops := ops) (α0 := α0) (ops.take p) 0 (fun _ => .emp) (fun _ => true) α0 (fun _ => rfl) (fun j hj => by
    simp only [List.length_take] at hj
    rw [List.getElem?_take_of_lt (by omega), Nat.zero_add]) h'
  simp only [Nat.zero_add, List.length_take, Nat.min_eq_left hB4] at h2 hγ
  refine wpIn_region_any hm ?_
  have hst : ∀ j, j < p → ∀ o, ops[j]? = some o → stepOk P N ops σ (some (T, z)) (frL ops α0 vs j) o (bs j) (vs j) := fun j hj o ho => by
    have := h2 j hj
    rw [List.getElem_take] at this
    obtain ⟨hj', rfl⟩ := List.getElem?_eq_some_iff.1 ho
    exact this
  have hrep : ∀ i, (Array.replicate ops.toArray.size false).getD i true = true → ¬ i < ops.length := fun i h hi => by
    simp [Array.getD_eq_getD_getElem?, hi] at h
  obtain ⟨sg, sg1, sg0⟩ : ∃ sg : (Nat → Prop) → Store, (∀ S, S q → sg S = σ ++ [.cells z.length [z]]) ∧ (∀ S, ¬ S q → sg S = σ ++ [.res]) := by
    classical
    exact ⟨fun S => if S q then σ ++ [.cells z.length [z]] else σ ++ [.res], fun S h => if_pos h, fun S h => if_neg h⟩
  refine quiet_any (σ := σ ++ [.cells z.length [z]]) sg hB2 hc hB3 hB4 (fun S h => sg1 S (h q hqp)) (fun j o S imm m a w next Q' hj ho hsl hs hI hcl hnS hanc hn => ?_) hγ h3 _ _ a _ imm m ?_ (by simp) (fun i hi => absurd hi.1 (hrep i hi.2)) (fun i hi h => absurd hi (hrep i h)) ?_
    ⟨hf.defers, hf.size, fun t i h => absurd h.1.1 (hrep i h.1.2), fun t av _ h => hf.slot t av h⟩
  · by_cases hjq : j = q
    · subst hjq
      rw [hqo] at ho
      cases ho
      rw [sg0 S hnS] at hs
      have hs0 := hs.unres
      obtain ⟨hdN, hk⟩ := hst j hj _ hqo
      have hv : vs j = .ptr σ.length z.length 0 0 := by
        rcases hk with ⟨_, hk, _⟩ | ⟨_, _, g, want, d, hg, _⟩
        · rcases hk with hk | ⟨hg, T', z', e1, _, e3⟩
          · have := hk []
            rw [hqT] at this
            simp only [AOpQ, AOp, hz, on_some, List.append_nil] at this
            have h9 := congrArg List.length this.2
            simp at h9
          · cases e1
            exact e3
        · rw [hqg] at hg
          cases hg
      have hup := AOp_sound (P := P) (dst := ops[j].dst) (type := ops[j].type) (pos := ops[j].pos) (after := ops[j].after) (guard := ops[j].guard) ops[j].op hs0 (ev := fun _ => none) (ρ := a.eval) (fun x av h => by cases h)
        (Kont := fun v' σ' => v' = .ptr σ.length z.length 0 0 ∧ σ' = σ ++ [.cells z.length [z]]) (by rw [hqT]; simp only [AOp, hz, on_some]; exact ⟨rfl, rfl⟩)
      have hoa : ops.toArray[j]? = some ops[j] := by simpa using hqo
      unfold wpOpIn
      simp only [hoa]
      rw [if_pos (by simp [Region.wanted, hqg])]
      refine wpIn_of_up (fun c e => by rw [hqT] at e; cases e) hup fun imm' m' v av σ' w' h1 h2 hs' hr hk' => ?_
      obtain ⟨rfl, rfl⟩ := hk'
      exact hn imm' m' v w' h1 h2 (by rw [sg1 _ (.inr rfl)]; exact hs') ((hI.mono h1 h2).step hc hcl hqo hnS hdN (by rw [hv]; exact hr))
    · have hnm : ∀ T', o.op ≠ .alloc T' := fun T' e => hjq (hall j hj o ho T' e)
      by_cases hSq : S q
      · rw [sg1 S hSq] at hs
        exact quiet_step hs hI hc hcl ho hnS hanc hsl (.inr hnm) (hst j hj o ho) fun imm' m' v w' h1 h2 h3 h4 => hn imm' m' v w' h1 h2 (by rw [sg1 _ (.inl hSq)]; exact h3) h4
      · rw [sg0 S hSq] at hs
        exact quiet_step hs hI hc hcl ho hnS hanc hsl (.inr hnm) (hst j hj o ho) fun imm' m' v w' h1 h2 h3 h4 => hn imm' m' v w' h1 h2 (by rw [sg0 _ (by rintro (h | h); exact hSq h; exact hjq h.symm)]; exact h3) h4
  · simp [left]
  · rw [sg0 _ (fun h => hrep q h.2 h.1)]
    exact hs.drew.res
end Go.Proofs.Ytephecognbbaoaa
