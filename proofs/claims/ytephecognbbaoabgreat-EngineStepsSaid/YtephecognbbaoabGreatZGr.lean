/- Regions that draw their order and make objects meanwhile. -/
import Derived.Test.YtephecognbbaoabGreatZLo
/- Regions that draw their order, walked in the text's order. -/
namespace Go.Proofs.YtephecognbbaoabGreat
open Go
set_option linter.all false
def callQ (P : Program) (f : FuncId) (args : List AV) (σ : Store) (K : AV → Prop) : Prop := ∃ v, (∀ τ, ACalls P f args (σ ++ τ) fun r σ' => σ' = σ ++ τ ∧ r = v) ∧ K v
theorem callQ_use {P : Program} {f : FuncId} {args : List AV} {σ : Store} {X : AV} {K : AV → Prop} (h : ∀ τ, ACalls P f args (σ ++ τ) fun r σ' => σ' = σ ++ τ ∧ r = X) (hk : K X) : callQ P f args σ K := ⟨X, h, hk⟩
@[congr] theorem callQ_cg {P : Program} {f : FuncId} {args args' : List AV} {σ : Store} {K : AV → Prop} (h : pass args = args') : callQ P f args σ K = callQ P f args' σ K := by rw [← h, pass_eq]
/-- An operation of the quiet part. -/
def AOpK (P : Program) (op : Op) (ev : Operand → Option AV) (σ : Store) (K : AV → Prop) : Prop :=
  match op with
  | .buildSlice T n parts => on (elemSize P T) fun k => on (partsA ev parts.toList) fun ps => on (rowsA k 0 ps) fun es =>
    es.length = n ∧ n * k ≤ 16777216 ∧ (match P.underlying T with | some (.slice e) => (zeroA P e).map (·.length) = some k | _ => False) ∧ K (.sl es)
  | .load T a => on (ev a) fun p => on (loadA P σ T p) K
  | .build T parts => on (zeroA P T) fun z => on (placesA P T) fun pl => on (partsA ev parts.toList) fun ps => on (fillA (fun i => pl[i]?) z ps) fun l => K (.agg l)
  | .move x => on (ev x) K
  | .assign x => on (ev x) K
  | .pick c a b => on (ev c) fun c => on (ev a) fun a => on (ev b) fun b => match c with
    | .c (.bool t) => splitB t (K a) (K b)
    | _ => False
  | .binOp op T x y _ => on (ev x) fun a => on (ev y) fun b => binT P T op a b fun v => K (.c v)
  | .unOp op T x => AOpA P (.unOp op T x) ev K
  | .extract t ix => AOpA P (.extract t ix) ev K
  | .nilCheck x => AOpA P (.nilCheck x) ev K
  | .fieldAddr T x f => AOpA P (.fieldAddr T x f) ev K
  | .indexAddr T x i => AOpA P (.indexAddr T x i) ev K
  | .index T x i => AOpA P (.index T x i) ev K
  | .field T x f => AOpA P (.field T x f) ev K
  | .convert s d x => on (ev x) fun x => convA P (P.underlying s) (P.underlying d) x σ fun v σ' => σ' = σ ∧ K v
  | .makeFunc fn first captured => AOpA P (.makeFunc fn first captured) ev K
  | .slice T x lo hi mx => on (ev x) fun x => on (bound ev lo 0) fun l => on (lenA x) fun len => on (bound ev hi len) fun h => on (bound ev mx 0) fun mz => sliceA P (P.underlying T) x mx hi.isSome l h len mz K
  | .lookup T m k ok => on (ev m) fun m => on (ev k) fun k => lookupA P T m k ok σ K
  | .call { callee := .builtin .len, args := args, argTypes := ts } => on (evL ev args.toList) fun l => match l, ts.toList with
    | [x], t :: _ => on (lenA x) fun n => lenTy P t x = true ∧ K (.c (.int .i64 n))
    | _, _ => False
  | .call { callee := .builtin .max, args := args, argTypes := ts } => AOpA P (.call { callee := .builtin .max, args := args, argTypes := ts }) ev K
  | .call { callee := .builtin .min, args := args, argTypes := ts } => AOpA P (.call { callee := .builtin .min, args := args, argTypes := ts }) ev K
  | .call { callee := .value f, args := args, argTypes := _ } => on (ev f) fun f => on (evL ev args.toList) fun as' => match f with
    | .fn g first cap => callOk P g = true ∧ callQ P g (first ++ as' ++ cap) σ K
    | _ => False
  | _ => False
theorem on_eq {α : Type} {o : Option α} {a : α} {k : α → Prop} (h : o = some a) : on o k = k a := by rw [h]; rfl
theorem binI_ex {op : BinOp} {k : IntKind} {x y : Int} {K : Value → Prop} (h : binI op k x y K) : ∃ v, binI op k x y (fun u => u = v) ∧ K v := by
  unfold binI at h ⊢
  split at h <;> (try (split at h)) <;> first | exact h.elim | exact ⟨_, rfl, h⟩ | exact ⟨_, ⟨h.1, h.2.1, rfl⟩, h.2.2⟩ | exact ⟨_, ⟨h.1, rfl⟩, h.2⟩
theorem binA_ex {op : BinOp} {a b : AV} {K : Value → Prop} (h : binA op a b K) : ∃ v, binA op a b (fun u => u = v) ∧ K v := by
  unfold binA at h ⊢
  split at h
  · split at h
    · exact ⟨_, ⟨h.1, rfl⟩, h.2⟩
    · exact ⟨_, ⟨h.1, rfl⟩, h.2⟩
    · obtain ⟨v, h1, h2⟩ := binI_ex h.2
      exact ⟨v, ⟨h.1, h1⟩, h2⟩
  · split at h
    · exact ⟨_, ⟨h.1, rfl⟩, h.2⟩
    · exact ⟨_, rfl, h⟩
    · exact ⟨_, rfl, h⟩
    · exact h.elim
  · exact h.elim
theorem binT_ex {P : Program} {T : TypeId} {op : BinOp} {a b : AV} {K : Value → Prop} (h : binT P T op a b K) : ∃ v, binT P T op a b (fun u => u = v) ∧ K v := by
  unfold binT at h ⊢
  split at h
  · obtain ⟨pl, hpl, h⟩ := on_elim h
    obtain ⟨r, hr, h⟩ := on_elim h
    simp only [hpl, hr, on_some, pass_eq]
    split at h
    · exact ⟨_, rfl, h⟩
    · exact ⟨_, rfl, h⟩
    · exact h.elim
  · obtain ⟨hT, h⟩ := h
    split at h
    · exact ⟨_, ⟨hT, rfl⟩, h⟩
    · exact ⟨_, ⟨hT, rfl⟩, h⟩
    · exact h.elim
  · exact binA_ex h
theorem binN_of {P : Program} {T : TypeId} {op : BinOp} {a b : AV} {K : Value → Prop} (h : binT P T op a b K) : binN P T op a b K := by
  unfold binN
  split
  · exfalso
    unfold binT at h
    split at h
    · simp_all
    · simp_all
    · unfold binA at h
      split at h
      · simp_all
      · simp_all
      · exact h
  · exact h
theorem AOpA_ex {P : Program} {ev : Operand → Option AV} {K : AV → Prop} : ∀ (op : Op), (match op with | .unOp .. => True | .extract .. => True | .nilCheck .. => True | .fieldAddr .. => True | .indexAddr .. => True | .index .. => True | .field .. => True | .makeFunc .. => True | _ => False) →
    AOpA P op ev K → ∃ v, AOpA P op ev (fun u => u = v) ∧ K v := by
  intro op hop h
  cases op <;> (try exact hop.elim)
  case unOp op T x =>
    obtain ⟨a, ha, h⟩ := on_elim h
    simp only [AOpA, ha, on_some, pass_eq]
    split at h
    · exact ⟨_, rfl, h⟩
    · exact ⟨_, ⟨h.1, rfl⟩, h.2⟩
    · exact h.elim
  case extract t ix =>
    obtain ⟨a, ha, h⟩ := on_elim h
    simp only [AOpA, ha, on_some, pass_eq]
    split at h
    · obtain ⟨b, hb, h⟩ := on_elim h
      simp only [hb, on_some, pass_eq]
      exact ⟨_, rfl, h⟩
    · exact h.elim
  case nilCheck x =>
    obtain ⟨a, ha, h⟩ := on_elim h
    simp only [AOpA, ha, on_some, pass_eq]
    split at h
    · exact ⟨_, rfl, h⟩
    · exact ⟨_, rfl, h⟩
    · exact ⟨_, rfl, h⟩
    · exact h.elim
  case fieldAddr T x f =>
    obtain ⟨a, ha, h⟩ := on_elim h
    obtain ⟨d, hd, h⟩ := on_elim h
    simp only [AOpA, ha, hd, on_some, pass_eq]
    split at h
    · exact ⟨_, rfl, h⟩
    · exact ⟨_, rfl, h⟩
    · exact h.elim
  case indexAddr T x i =>
    obtain ⟨a, ha, h⟩ := on_elim h
    obtain ⟨b, hb, h⟩ := on_elim h
    simp only [AOpA, ha, hb, on_some, pass_eq]
    split at h
    · obtain ⟨k, hk, h⟩ := on_elim h
      simp only [hk, on_some, pass_eq]
      split at h
      · exact ⟨_, ⟨h.1, h.2.1, rfl⟩, h.2.2⟩
      · exact h.elim
    obtain ⟨k, hk, h⟩ := on_elim h
    simp only [hk, on_some, pass_eq]
    split at h
    · obtain ⟨h0, h⟩ := h
      obtain ⟨e, he, h1, h2⟩ := on_elim h
      simp only [he, on_some, pass_eq]
      exact ⟨_, ⟨h0, h1, rfl⟩, h2⟩
    · exact ⟨_, ⟨h.1, h.2.1, h.2.2.1, rfl⟩, h.2.2.2⟩
    · exact h.elim
  case index T x i =>
    obtain ⟨a, ha, h⟩ := on_elim h
    obtain ⟨b, hb, h⟩ := on_elim h
    simp only [AOpA, ha, hb, on_some, pass_eq]
    split at h
    · obtain ⟨h0, h1, h⟩ := h
      obtain ⟨e, he, h2⟩ := on_elim h
      simp only [he, on_some, pass_eq]
      exact ⟨_, ⟨h0, h1, rfl⟩, h2⟩
    · exact h.elim
  case field T x f =>
    obtain ⟨a, ha, h⟩ := on_elim h
    obtain ⟨d, hd, h⟩ := on_elim h
    simp only [AOpA, ha, hd, on_some, pass_eq]
    split at h
    · obtain ⟨e, he, h⟩ := on_elim h
      simp only [he, on_some, pass_eq]
      exact ⟨_, rfl, h⟩
    · exact h.elim
  case makeFunc fn first captured =>
    obtain ⟨a, ha, h⟩ := on_elim h
    obtain ⟨b, hb, h⟩ := on_elim h
    simp only [AOpA, ha, hb, on_some, pass_eq]
    split at h
    · exact ⟨_, rfl, h⟩
    · exact h.elim
theorem convA_ex {P : Program} {d d' : Option TypeDesc} {x : AV} {σ : Store} {K : AV → Prop} (h : convA P d d' x σ fun v σ' => σ' = σ ∧ K v) : ∃ v, (convA P d d' x σ fun v' σ' => v' = v ∧ σ' = σ) ∧ K v := by
  unfold convA at h ⊢
  split at h
  · exact ⟨_, ⟨h.1, rfl, rfl⟩, h.2.2⟩
  · exact ⟨_, ⟨rfl, rfl⟩, h.2⟩
  · exact absurd h.2.1 (by simp)
  · obtain ⟨he, h⟩ := h
    obtain ⟨es, hes, h⟩ := on_elim h
    obtain ⟨ns, hns, h⟩ := on_elim h
    simp only [hes, hns, on_some, pass_eq]
    exact ⟨_, ⟨he, rfl, trivial⟩, h.2⟩
  · exact h.elim
theorem sliceA_ex {P : Program} {d : Option TypeDesc} {x : AV} {mx : Option Operand} {hi : Bool} {l h : Int} {len : Nat} {mz : Int} {K : AV → Prop} (hk : sliceA P d x mx hi l h len mz K) : ∃ v, (sliceA P d x mx hi l h len mz fun u => u = v) ∧ K v := by
  unfold sliceA at hk ⊢
  split at hk
  · exact ⟨_, ⟨hk.1, hk.2.1, hk.2.2.1, rfl⟩, hk.2.2.2⟩
  · exact ⟨_, ⟨hk.1, hk.2.1, hk.2.2.1, hk.2.2.2.1, hk.2.2.2.2.1, rfl⟩, hk.2.2.2.2.2⟩
  · obtain ⟨h1, h2, h3, h4, h5, h6, h7⟩ := hk
    by_cases hc : l = 0 ∨ l < len
    · exact ⟨_, ⟨h1, h2, h3, h4, h5, fun _ => rfl, fun ha hb => absurd hc (by omega)⟩, h6 hc⟩
    · exact ⟨_, ⟨h1, h2, h3, h4, h5, fun ha => absurd ha hc, fun ha hb => rfl⟩, h7 (by omega) (by omega)⟩
  · exact ⟨_, ⟨hk.1, hk.2.1, hk.2.2.1, hk.2.2.2.1, hk.2.2.2.2.1, hk.2.2.2.2.2.1, rfl⟩, hk.2.2.2.2.2.2⟩
  · exact hk.elim
theorem lookupA_ex {P : Program} {T : TypeId} {m k : AV} {ok : Bool} {σ : Store} {K : AV → Prop} (h : lookupA P T m k ok σ K) : ∃ v, (lookupA P T m k ok σ fun u => u = v) ∧ K v := by
  unfold lookupA at h ⊢
  obtain ⟨t, ht, h⟩ := on_elim h
  obtain ⟨kv, hk, h⟩ := on_elim h
  obtain ⟨z, hz, h⟩ := on_elim h
  obtain ⟨es, hes, h⟩ := on_elim h
  refine ⟨_, ?_, h.2.2.2.2⟩
  rw [on_eq ht, on_eq hk, on_eq hz, on_eq hes]
  exact ⟨h.1, h.2.1, h.2.2.1, h.2.2.2.1, rfl⟩
theorem mapA_app {σ : Store} {m : AV} {es : List (Value × AV)} (τ : Store) (h : mapA σ m = some es) : mapA (σ ++ τ) m = some es := by
  unfold mapA at h ⊢
  split at h
  · rename_i b
    obtain ⟨hlt, hob⟩ := isMap_inv h
    have : (σ ++ τ)[b]? = some (.map es) := by rw [List.getElem?_append_left hlt, List.getElem?_eq_getElem hlt, hob]
    rw [this]
    rfl
  · exact h
  · cases h
theorem lookupA_app {P : Program} {T : TypeId} {m k : AV} {ok : Bool} {σ : Store} {K : AV → Prop} (τ : Store) (h : lookupA P T m k ok σ K) : lookupA P T m k ok (σ ++ τ) K := by
  unfold lookupA at h ⊢
  obtain ⟨t, ht, h⟩ := on_elim h
  obtain ⟨kv, hk, h⟩ := on_elim h
  obtain ⟨z, hz, h⟩ := on_elim h
  obtain ⟨es, hes, h⟩ := on_elim h
  rw [on_eq ht, on_eq hk, on_eq hz, on_eq (mapA_app τ hes)]
  exact h
theorem AOpK_ex {P : Program} {ev : Operand → Option AV} {σ : Store} {K : AV → Prop} (op : Op) (h : AOpK P op ev σ K) : ∃ v, AOpQ P op ev σ v ∧ K v := by
  cases op <;> (try exact h.elim)
  case buildSlice T n parts =>
    obtain ⟨k, hk, h⟩ := on_elim h
    obtain ⟨ps, hps, h⟩ := on_elim h
    obtain ⟨es, hes, h⟩ := on_elim h
    simp only [AOpQ, hk, hps, hes, on_some, pass_eq, and_true]
    exact ⟨_, ⟨h.1, h.2.1, h.2.2.1, rfl⟩, h.2.2.2⟩
  case load T a =>
    obtain ⟨p, hp, h⟩ := on_elim h
    obtain ⟨v, hv, h⟩ := on_elim h
    simp only [AOpQ, AOp, hp, hv, on_some, pass_eq, and_true]
    exact ⟨_, rfl, h⟩
  case build T parts =>
    obtain ⟨z, hz, h⟩ := on_elim h
    obtain ⟨pl, hpl, h⟩ := on_elim h
    obtain ⟨ps, hps, h⟩ := on_elim h
    obtain ⟨l, hl, h⟩ := on_elim h
    simp only [AOpQ, AOp, hz, hpl, hps, hl, on_some, pass_eq, and_true]
    exact ⟨_, rfl, h⟩
  case move x =>
    obtain ⟨a, ha, h⟩ := on_elim h
    simp only [AOpQ, AOp, AOpA, ha, on_some, pass_eq, and_true]
    exact ⟨_, rfl, h⟩
  case assign x =>
    obtain ⟨a, ha, h⟩ := on_elim h
    simp only [AOpQ, AOp, AOpA, ha, on_some, pass_eq, and_true]
    exact ⟨_, rfl, h⟩
  case pick c a b =>
    obtain ⟨cv, hc, h⟩ := on_elim h
    obtain ⟨av, ha, h⟩ := on_elim h
    obtain ⟨bv, hb, h⟩ := on_elim h
    simp only [AOpQ, AOp, AOpA, hc, ha, hb, on_some, pass_eq, and_true]
    split at h
    · rename_i t _ _
      cases t
      · exact ⟨_, ⟨(fun h => by cases h), (fun _ => ⟨rfl, rfl⟩)⟩, h.2 rfl⟩
      · exact ⟨_, ⟨(fun _ => ⟨rfl, rfl⟩), (fun h => by cases h)⟩, h.1 rfl⟩
    · exact h.elim
  case binOp op T x y U =>
    obtain ⟨a, ha, h⟩ := on_elim h
    obtain ⟨b, hb, h⟩ := on_elim h
    simp only [AOpQ, AOp, AOpA, ha, hb, on_some, pass_eq, and_true]
    obtain ⟨v, h1, h2⟩ := binT_ex h
    refine ⟨.c v, ?_, h2⟩
    have h1 := binN_of h1
    simpa using h1
  case unOp op T x =>
    obtain ⟨v, h1, h2⟩ := AOpA_ex (P := P) (ev := ev) (K := K) (.unOp op T x) trivial h
    exact ⟨v, by simp only [AOpQ, AOp]; simpa using h1, h2⟩
  case extract t ix =>
    obtain ⟨v, h1, h2⟩ := AOpA_ex (P := P) (ev := ev) (K := K) (.extract t ix) trivial h
    exact ⟨v, by simp only [AOpQ, AOp]; simpa using h1, h2⟩
  case nilCheck x =>
    obtain ⟨v, h1, h2⟩ := AOpA_ex (P := P) (ev := ev) (K := K) (.nilCheck x) trivial h
    exact ⟨v, by simp only [AOpQ, AOp]; simpa using h1, h2⟩
  case fieldAddr T x f =>
    obtain ⟨v, h1, h2⟩ := AOpA_ex (P := P) (ev := ev) (K := K) (.fieldAddr T x f) trivial h
    exact ⟨v, by simp only [AOpQ, AOp]; simpa using h1, h2⟩
  case indexAddr T x i =>
    obtain ⟨v, h1, h2⟩ := AOpA_ex (P := P) (ev := ev) (K := K) (.indexAddr T x i) trivial h
    exact ⟨v, by simp only [AOpQ, AOp]; simpa using h1, h2⟩
  case index T x i =>
    obtain ⟨v, h1, h2⟩ := AOpA_ex (P := P) (ev := ev) (K := K) (.index T x i) trivial h
    exact ⟨v, by simp only [AOpQ, AOp]; simpa using h1, h2⟩
  case field T x f =>
    obtain ⟨v, h1, h2⟩ := AOpA_ex (P := P) (ev := ev) (K := K) (.field T x f) trivial h
    exact ⟨v, by simp only [AOpQ, AOp]; simpa using h1, h2⟩
  case makeFunc fn first captured =>
    obtain ⟨v, h1, h2⟩ := AOpA_ex (P := P) (ev := ev) (K := K) (.makeFunc fn first captured) trivial h
    exact ⟨v, by simp only [AOpQ, AOp]; simpa using h1, h2⟩
  case convert s d x =>
    obtain ⟨a, ha, h⟩ := on_elim h
    simp only [AOpQ, AOp, ha, on_some, pass_eq]
    exact convA_ex h
  case slice T x lo hi mx =>
    obtain ⟨a, ha, h⟩ := on_elim h
    obtain ⟨l, hl, h⟩ := on_elim h
    obtain ⟨len, hlen, h⟩ := on_elim h
    obtain ⟨hh, hhh, h⟩ := on_elim h
    obtain ⟨mz, hmz, h⟩ := on_elim h
    simp only [AOpQ, AOp, AOpA, ha, hl, hlen, hhh, hmz, on_some, pass_eq, and_true]
    obtain ⟨v, h1, h2⟩ := sliceA_ex h
    refine ⟨v, ?_, h2⟩
    have e : (fun u => u = v) = (fun u => u = v ∧ σ = σ) := by funext u; simp
    exact e ▸ h1
  case lookup T m k ok =>
    obtain ⟨a, ha, h⟩ := on_elim h
    obtain ⟨b, hb, h⟩ := on_elim h
    obtain ⟨v, h1, h2⟩ := lookupA_ex h
    refine ⟨v, ?_, h2⟩
    simp only [AOpQ, AOp, ha, hb, on_some, pass_eq, and_true]
    exact h1
  case call c =>
    obtain ⟨callee, args, ts⟩ := c
    cases callee with
    | value f =>
      obtain ⟨fv, hf, h⟩ := on_elim h
      obtain ⟨as', has, h⟩ := on_elim h
      simp only [AOpQ, AOp, hf, has, on_some, pass_eq, and_true]
      split at h
      · obtain ⟨hok, v, hc, hk⟩ := h
        have hc := hc []
        simp only [List.append_nil] at hc
        exact ⟨v, ⟨hok, hc.mono fun _ _ ⟨h1, h2⟩ => ⟨h2, h1⟩⟩, hk⟩
      · exact h.elim
    | builtin b =>
      cases b <;> (try exact h.elim)
      case len =>
        obtain ⟨as', has, h⟩ := on_elim h
        split at h
        · rename_i x t tr hts
          obtain ⟨n, hn, h1, h2⟩ := on_elim h
          refine ⟨_, ?_, h2⟩
          simp only [AOpQ, AOp, has, on_some, pass_eq, and_true]
          cases x <;> first | (cases hn; done) | (simp only [AOpA, has, hts, on_some, pass_eq, and_true]; first | (rw [on_eq hn]; exact ⟨h1, rfl⟩) | (cases hn; exact ⟨h1, rfl⟩))
        · exact h.elim
      case max =>
        obtain ⟨as', has, h⟩ := on_elim h
        split at h
        · refine ⟨_, ?_, h⟩
          simp only [AOpQ, AOp, AOpA, has, on_some, pass_eq, and_true]
        · exact h.elim
      case min =>
        obtain ⟨as', has, h⟩ := on_elim h
        split at h
        · refine ⟨_, ?_, h⟩
          simp only [AOpQ, AOp, AOpA, has, on_some, pass_eq, and_true]
        · exact h.elim
    | _ => exact h.elim
theorem elemsA_app {σ : Store} {x : AV} {es : List (List AV)} (τ : Store) (h : elemsA σ x = some es) : elemsA (σ ++ τ) x = some es := by
  rw [elemsA_eq] at h ⊢
  unfold elemsB at *
  split at h
  · exact h
  · exact h
  · exact h
  · rename_i b k s n c
    cases hb : σ[b]? with
    | none => rw [hb] at h; cases h
    | some ob =>
      rw [hb] at h
      obtain ⟨hlt, e⟩ := List.getElem?_eq_some_iff.1 hb
      have : (σ ++ τ)[b]? = some ob := by rw [List.getElem?_append_left hlt]; exact hb
      rw [this]
      exact h
  · cases h
theorem loadA_app {P : Program} {σ : Store} {T : TypeId} {p v : AV} (τ : Store) (h : loadA P σ T p = some v) : loadA P (σ ++ τ) T p = some v := by
  unfold loadA at *
  split at h
  · rename_i b k i off
    obtain ⟨e, he, h2⟩ := Option.bind_eq_some_iff.1 h
    refine Option.bind_eq_some_iff.2 ⟨e, ?_, h2⟩
    unfold cellsOb at *
    cases hb : σ[b]? with
    | none => rw [hb] at he; cases he
    | some ob =>
      rw [hb] at he
      obtain ⟨hlt, e⟩ := List.getElem?_eq_some_iff.1 hb
      have : (σ ++ τ)[b]? = some ob := by rw [List.getElem?_append_left hlt]; exact hb
      rw [this]
      exact he
  · exact h
  · cases h
/-- What holds at a store holds where more lies behind. -/
theorem AOpK_ext {P : Program} {ev : Operand → Option AV} {σ : Store} {K : AV → Prop} (op : Op) (h : AOpK P op ev σ K) : ∃ v, (∀ τ, AOpQ P op ev (σ ++ τ) v) ∧ K v := by
  by_cases hcall : ∃ f args ts, op = .call { callee := .value f, args := args, argTypes := ts }
  · obtain ⟨f, args, ts, rfl⟩ := hcall
    obtain ⟨fv, hf, h⟩ := on_elim h
    obtain ⟨as', has, h⟩ := on_elim h
    split at h
    · obtain ⟨hok, v, hc, hk⟩ := h
      refine ⟨v, fun τ => ?_, hk⟩
      simp only [AOpQ, AOp, hf, has, on_some, pass_eq, and_true]
      exact ⟨hok, (hc τ).mono fun _ _ ⟨h1, h2⟩ => ⟨h2, h1⟩⟩
    · exact h.elim
  · obtain ⟨v, hq, hk⟩ := AOpK_ex op h
    refine ⟨v, fun τ => ?_, hk⟩
    clear hk
    cases op <;> (try exact h.elim)
    case buildSlice T n parts => exact hq
    case load T a =>
      obtain ⟨p, hp, hq⟩ := on_elim hq
      obtain ⟨x, hx, hq⟩ := on_elim hq
      simp only [AOpQ, AOp, hp, loadA_app τ hx, on_some, pass_eq, and_true]
      exact hq.1
    case lookup T m k ok =>
      simp only [AOpQ, AOp, and_true] at hq ⊢
      obtain ⟨a, ha, hq⟩ := on_elim hq
      obtain ⟨b, hb, hq⟩ := on_elim hq
      rw [on_eq ha, on_eq hb]
      exact lookupA_app τ hq
    case convert s d x =>
      obtain ⟨a, ha, hq⟩ := on_elim hq
      simp only [AOpQ, AOp, ha, on_some, pass_eq]
      unfold convA at hq ⊢
      split at hq
      · exact ⟨hq.1, hq.2.1, rfl⟩
      · exact ⟨hq.1, rfl⟩
      · exact absurd hq.2.2 (by simp)
      · obtain ⟨he, hq⟩ := hq
        obtain ⟨es, hes, hq⟩ := on_elim hq
        obtain ⟨ns, hns, hq⟩ := on_elim hq
        simp only [elemsA_app τ hes, hns, on_some, pass_eq]
        exact ⟨he, hq.1, trivial⟩
      · exact hq.elim
    case call c =>
      obtain ⟨callee, args, ts⟩ := c
      cases callee with
      | value f => exact absurd ⟨f, args, ts, rfl⟩ hcall
      | builtin b =>
        cases b <;> (try exact h.elim)
        case max => simp only [AOpQ, AOp, and_true] at hq ⊢; exact hq
        case min => simp only [AOpQ, AOp, and_true] at hq ⊢; exact hq
        simp only [AOpQ, AOp, and_true] at hq ⊢
        obtain ⟨l, hl, hq⟩ := on_elim hq
        rw [on_eq hl]
        obtain ⟨l2, hl2, h⟩ := on_elim h
        rw [hl] at hl2
        cases hl2
        split at h
        · rename_i x t tr hts
          obtain ⟨n, hn, h1, h2⟩ := on_elim h
          cases x <;> first | (cases hn; done) | exact hq | (
            obtain ⟨es, hes, hq⟩ := on_elim hq
            rw [on_eq (elemsA_app τ hes)]
            exact hq)
        · exact h.elim
      | _ => exact h.elim
    all_goals (simp only [AOpQ, AOp, and_true] at hq ⊢; exact hq)
/-- The quiet part. -/
def kreg (P : Program) (N : Nat) (ops : List Oper) (σ : Store) (K : AF → Prop) : List Oper → AF → Prop
  | [], α => K α
  | o :: r, α => splitA ops o.guard α fun α => guardA ops o.guard α
      (fun α => AOpK P o.op (evF α) σ fun v => putA N o.dst v α fun α' => kreg P N ops σ K r α')
      (fun α => putA N o.dst (.c undef) α fun α' => kreg P N ops σ K r α')
/-- An operation of the quiet part, or the one that makes an object. -/
def AOpM (P : Program) (o : Oper) (ev : Operand → Option AV) (σ : Store) (z : List AV) (K : AV → Prop) : Prop :=
  match o.op with
  | .alloc _ => o.guard = none ∧ K (.ptr σ.length z.length 0 0)
  | op => AOpK P op ev σ K
/-- The quiet part with one object that is made in it. -/
def mreg (P : Program) (N : Nat) (ops : List Oper) (σ : Store) (z : List AV) (K : AF → Prop) : List Oper → AF → Prop
  | [], α => K α
  | o :: r, α => splitA ops o.guard α fun α => guardA ops o.guard α
      (fun α => AOpM P o (evF α) σ z fun v => putA N o.dst v α fun α' => mreg P N ops σ z K r α')
      (fun α => putA N o.dst (.c undef) α fun α' => mreg P N ops σ z K r α')
section
variable {P : Program} {N : Nat} {ops : List Oper} {σ : Store} {z : List AV} {K : AF → Prop} {α : AF} {r : List Oper} {dst : Option Tmp} {op : Op} {ty : TypeId} {pos : String} {after : Array Edge} {g : Option (Nat × Bool)}
theorem mreg_nil : mreg P N ops σ z K [] α = K α := rfl
theorem mreg_cons : mreg P N ops σ z K ({ dst := dst, op := op, type := ty, pos := pos, after := after, guard := g } :: r) α = gateA ops g α
      (fun α => AOpM P { dst := dst, op := op, type := ty, pos := pos, after := after, guard := g } (evF α) σ z fun av => putA N dst av α fun α' => mreg P N ops σ z K r α') (fun α => putA N dst (.c undef) α fun α' => mreg P N ops σ z K r α') := rfl
end
theorem kreg_nil {P : Program} {N : Nat} {ops : List Oper} {σ : Store} {K : AF → Prop} {α : AF} : kreg P N ops σ K [] α = K α := rfl
theorem kreg_cons {P : Program} {N : Nat} {ops : List Oper} {σ : Store} {K : AF → Prop} {α : AF} {r : List Oper} {dst : Option Tmp} {op : Op} {ty : TypeId} {pos : String} {after : Array Edge} {g : Option (Nat × Bool)} :
    kreg P N ops σ K ({ dst := dst, op := op, type := ty, pos := pos, after := after, guard := g } :: r) α = gateA ops g α
      (fun α => AOpK P op (evF α) σ fun av => putA N dst av α fun α' => kreg P N ops σ K r α') (fun α => putA N dst (.c undef) α fun α' => kreg P N ops σ K r α') := rfl
theorem splitA_mono {ops : List Oper} {g : Option (Nat × Bool)} {α : AF} {K K' : AF → Prop} (hk : ∀ α, K α → K' α) (h : splitA ops g α K) : splitA ops g α K' := by
  unfold splitA at h ⊢
  split at h
  · exact hk _ h
  · obtain ⟨d, hd, h⟩ := on_elim h
    obtain ⟨v, hv, h⟩ := on_elim h
    simp only [hd, hv, on_some, pass_eq]
    split at h
    · exact ⟨fun hb => hk _ (h.1 hb), fun hb => hk _ (h.2 hb)⟩
    · exact hk _ h
theorem guardA_mono {ops : List Oper} {g : Option (Nat × Bool)} {α : AF} {s t s' t' : AF → Prop} (hs : ∀ α, s α → s' α) (ht : ∀ α, t α → t' α) (h : guardA ops g α s t) : guardA ops g α s' t' := by
  unfold guardA at h ⊢
  split at h
  · exact hs _ h
  · rename_i j want
    obtain ⟨d, hd, h⟩ := on_elim h
    obtain ⟨v, hv, h⟩ := on_elim h
    simp only [hd, hv, on_some, pass_eq]
    split at h
    · cases want
      · exact ht _ h
      · exact hs _ h
    · cases want
      · exact hs _ h
      · exact ht _ h
    · exact ht _ h
    · exact h.elim
theorem putA_mono {N : Nat} {d : Option Tmp} {v : AV} {α : AF} {K K' : AF → Prop} (hk : ∀ α, K α → K' α) (h : putA N d v α K) : putA N d v α K' := by
  unfold putA at h ⊢
  split at h
  · exact ⟨h.1, hk _ h.2⟩
  · exact hk _ h
theorem qreg_of_kreg {P : Program} {N : Nat} {ops : List Oper} {σ : Store} {mk : Option (TypeId × List AV)} {K : AF → Prop} : ∀ (l : List Oper) (α : AF), kreg P N ops σ K l α → qreg P N ops σ mk K l α := by
  intro l
  induction l with
  | nil => intro α h; exact h
  | cons o r ih =>
    intro α h
    refine splitA_mono (fun α h => guardA_mono (fun α h => ?_) (fun α h => putA_mono (fun α h => ih α h) h) h) h
    obtain ⟨v, h1, h2⟩ := AOpK_ext _ h
    exact ⟨v, .inl h1, putA_mono (fun α h => ih α h) h2⟩
/-- Where the first operation stands that is not quiet. -/
def loud : Op → Bool
  | .store .. => true
  | .alloc .. => true
  | .box .. => true
  | .insert .. => true
  | .mapUpdate .. => true
  | .makeMap .. => true
  | .makeSlice .. => true
  | .call { callee := .builtin .append, args := _, argTypes := _ } => true
  | .call { callee := .builtin .copy, args := _, argTypes := _ } => true
  | _ => false
def upto : List Oper → Nat
  | [] => 0
  | o :: r => match loud o.op with
    | true => 0
    | false => upto r + 1
theorem AWP_drawK {rd : Option Nat} {P : Program} {N : Nat} {ops : List Oper} {α0 : AF} {σ : Store} {Q : Post} {id : Nat} (p : Nat) (hm : P.follows .mixedOrders = true) (hB : (drawB ops p && edgesBack ops && noSelect ops && decide (p ≤ ops.length)) = true)
    (h : kreg P N ops σ (fun α => areg P N ops (fun α σ => Q .normal α σ) (ops.drop p) α σ) (ops.take p) α0) : AWPr rd P N (.region id ops.toArray true) Q α0 σ :=
  AWP_draw p hm hB (qreg_of_kreg _ _ h)
theorem AWP_drawU {rd : Option Nat} {P : Program} {N : Nat} {ops : List Oper} {α0 : AF} {σ : Store} {Q : Post} {id : Nat} (hm : P.follows .mixedOrders = true) (hB : (drawB ops (upto ops) && edgesBack ops && noSelect ops && decide (upto ops ≤ ops.length)) = true)
    (h : kreg P N ops σ (fun α => areg P N ops (fun α σ => Q .normal α σ) (ops.drop (upto ops)) α σ) (ops.take (upto ops)) α0) : AWPr rd P N (.region id ops.toArray true) Q α0 σ :=
  AWP_drawK _ hm hB h
def isAlloc : Op → Bool
  | .alloc _ => true
  | _ => false
/-- How many operations stand ahead of the second one that is not quiet. -/
def uptoA : List Oper → Bool → Nat
  | [], _ => 0
  | o :: r, b => match isAlloc o.op && b with
    | true => uptoA r false + 1
    | false => match loud o.op with
      | true => 0
      | false => uptoA r b + 1
def allocT : List Oper → Option TypeId
  | [] => none
  | o :: r => match o.op with
    | .alloc T => some T
    | _ => allocT r
def oneAlloc (ops : List Oper) (p : Nat) : Bool := (List.range p).any fun q => (List.range p).all fun j => match ops[j]? with | some o => (isAlloc o.op == (j == q)) && (!isAlloc o.op || o.guard.isNone) | none => false
theorem allocT_some : ∀ (ops : List Oper) (q p : Nat) (o : Oper), q < p → ops[q]? = some o → (∀ j, j < p → ∀ o, ops[j]? = some o → (isAlloc o.op = true ↔ j = q)) → ∀ T, allocT ops = some T → o.op = .alloc T
  | [], q, p, o, _, h, _, T, _ => by simp at h
  | x :: r, 0, p, o, hp, h, hj, T, hT => by
    simp only [List.getElem?_cons_zero, Option.some.injEq] at h
    subst h
    have := (hj 0 hp x rfl).2 rfl
    unfold allocT at hT
    cases hx : x.op <;> rw [hx] at this hT <;> first | (cases this; done) | (cases hT; rfl)
  | x :: r, q + 1, p, o, hp, h, hj, T, hT => by
    have hx : isAlloc x.op = false := by
      cases hb : isAlloc x.op with
      | false => rfl
      | true => have := (hj 0 (by omega) x rfl).1 hb; omega
    refine allocT_some r q (p - 1) o (by omega) (by simpa using h) (fun j hj' o' ho' => ?_) T ?_
    · have := hj (j + 1) (by omega) o' (by simpa using ho')
      rw [this]
      omega
    · unfold allocT at hT
      cases hxo : x.op <;> rw [hxo] at hT hx <;> first | (cases hx; done) | exact hT
theorem qreg_of_mreg {P : Program} {N : Nat} {ops : List Oper} {σ : Store} {T : TypeId} {z : List AV} {K : AF → Prop} : ∀ (l : List Oper) (α : AF), (∀ o ∈ l, ∀ T', o.op = .alloc T' → T' = T) → mreg P N ops σ z K l α → qreg P N ops σ (some (T, z)) K l α := by
  intro l
  induction l with
  | nil => intro α _ h; exact h
  | cons o r ih =>
    intro α hl h
    have ih' := fun α h => ih α (fun o ho => hl o (by simp [ho])) h
    refine splitA_mono (fun α h => guardA_mono (fun α h => ?_) (fun α h => putA_mono (fun α h => ih' α h) h) h) h
    by_cases ha : ∃ T', o.op = .alloc T'
    · obtain ⟨T', ha⟩ := ha
      have hT := hl o (by simp) T' ha
      subst hT
      unfold AOpM at h
      rw [ha] at h
      exact ⟨_, .inr ⟨h.1, T', z, rfl, ha, rfl⟩, putA_mono (fun α h => ih' α h) h.2⟩
    · have h' : AOpK P o.op (evF α) σ fun v => putA N o.dst v α fun α' => mreg P N ops σ z K r α' := by
        unfold AOpM at h
        cases ho : o.op <;> rw [ho] at h <;> first | exact h | exact absurd ⟨_, ho⟩ ha
      obtain ⟨v, h1, h2⟩ := AOpK_ext _ h'
      exact ⟨v, .inl h1, putA_mono (fun α h => ih' α h) h2⟩
/-- A region that draws its order; one object is made in the quiet part. -/
theorem AWP_drawA {rd : Option Nat} {P : Program} {N : Nat} {ops : List Oper} {α0 : AF} {σ : Store} {Q : Post} {id : Nat} {T : TypeId} (hm : P.follows .mixedOrders = true) (hB : (drawB ops (uptoA ops true) && edgesBack ops && noSelect ops && decide (uptoA ops true ≤ ops.length) && oneAlloc ops (uptoA ops true)) = true) (hT : allocT ops = some T)
    (h : on (zeroA P T) fun z => mreg P N ops σ z (fun α => areg P N ops (fun α σ => Q .normal α σ) (ops.drop (uptoA ops true)) α (σ ++ [.cells z.length [z]])) (ops.take (uptoA ops true)) α0) : AWPr rd P N (.region id ops.toArray true) Q α0 σ := by
  generalize hp : uptoA ops true = p at hB h
  obtain ⟨z, hz, h⟩ := on_elim h
  intro K imm m w a hs hf
  simp only [Bool.and_eq_true, decide_eq_true_eq] at hB
  obtain ⟨⟨⟨⟨hB1, hB2⟩, hB3⟩, hB4⟩, hB5⟩ := hB
  obtain ⟨q, hq⟩ := List.any_eq_true.1 hB5
  simp only [List.mem_range, List.all_eq_true] at hq
  obtain ⟨hqp, hone⟩ := hq
  have hone' : ∀ j, j < p → ∀ o, ops[j]? = some o → (isAlloc o.op = true ↔ j = q) := fun j hj o ho => by
    have := hone j hj
    rw [ho] at this
    simp only [Bool.and_eq_true, beq_iff_eq] at this
    rw [this.1]
    simp
  have hqo : ops[q]? = some ops[q] := List.getElem?_eq_getElem (by omega)
  have hqT := allocT_some ops q p _ hqp hqo hone' T hT
  have hqg : ops[q].guard = none := by
    have := hone q hqp
    rw [hqo] at this
    simp only [Bool.and_eq_true, beq_iff_eq, (hone' q hqp _ hqo).2 rfl, Bool.not_true, Bool.false_or, Option.isNone_iff_eq_none] at this
    exact this.2
  have hall : ∀ j, j < p → ∀ o, ops[j]? = some o → ∀ T', o.op = .alloc T' → j = q := fun j hj o ho T' e => (hone' j hj o ho).1 (by rw [e]; rfl)
  have hc : Conf ops p := fun i j x y hij hx hy h => drawB_spec hB1 hij hx hy h
  have h' := qreg_of_mreg (T := T) _ _ (fun o ho T' e => by
    obtain ⟨j, hj, rfl⟩ := List.getElem_of_mem ho
    simp only [List.length_take] at hj
    have hjo : ops[j]? = some (ops.take p)[j] := by rw [List.getElem_take]; exact List.getElem?_eq_getElem (by omega)
    have := hall j (by omega) _ hjo T' e
    subst this
    have e2 := Option.some.inj (hqo.symm.trans hjo)
    rw [← e2, hqT] at e
    cases e
    rfl) h
  obtain ⟨vs, bs, _, h2, γ, hγ, h3⟩ := trace_of_qreg (ops := ops) (α0 := α0) (ops.take p) 0 (fun _ => .emp) (fun _ => true) α0 (fun _ => rfl) (fun j hj => by
    simp only [List.length_take] at hj
    rw [List.getElem?_take_of_lt (by omega), Nat.zero_add]) h'
  simp only [Nat.zero_add, List.length_take, Nat.min_eq_left hB4] at h2 hγ
  refine wpIn_region_any hm ?_
  have hst : ∀ j, j < p → ∀ o, ops[j]? = some o → stepOk P N ops σ (some (T, z)) (frL ops α0 vs j) o (bs j) (vs j) := fun j hj o ho => by
    have := h2 j hj
    rw [List.getElem_take] at this
    obtain ⟨hj', rfl⟩ := List.getElem?_eq_some_iff.1 ho
    exact this
  have hrep : ∀ i, (Array.replicate ops.toArray.size false).getD i true = true → ¬ i < ops.length := fun i h hi => by
    simp [Array.getD_eq_getD_getElem?, hi] at h
  obtain ⟨sg, sg1, sg0⟩ : ∃ sg : (Nat → Prop) → Store, (∀ S, S q → sg S = σ ++ [.cells z.length [z]]) ∧ (∀ S, ¬ S q → sg S = σ ++ [.res]) := by
    classical
    exact ⟨fun S => if S q then σ ++ [.cells z.length [z]] else σ ++ [.res], fun S h => if_pos h, fun S h => if_neg h⟩
  refine quiet_any (σ := σ ++ [.cells z.length [z]]) sg hB2 hc hB3 hB4 (fun S h => sg1 S (h q hqp)) (fun j o S imm m a w next Q' hj ho hsl hs hI hcl hnS hanc hn => ?_) hγ h3 _ _ a _ imm m ?_ (by simp) (fun i hi => absurd hi.1 (hrep i hi.2)) (fun i hi h => absurd hi (hrep i h)) ?_
    ⟨hf.defers, hf.size, fun t i h => absurd h.1.1 (hrep i h.1.2), fun t av _ h => hf.slot t av h⟩
  · by_cases hjq : j = q
    · subst hjq
      rw [hqo] at ho
      cases ho
      rw [sg0 S hnS] at hs
      have hs0 := hs.unres
      obtain ⟨hdN, hk⟩ := hst j hj _ hqo
      have hv : vs j = .ptr σ.length z.length 0 0 := by
        rcases hk with ⟨_, hk, _⟩ | ⟨_, _, g, want, d, hg, _⟩
        · rcases hk with hk | ⟨hg, T', z', e1, _, e3⟩
          · have := hk []
            rw [hqT] at this
            simp only [AOpQ, AOp, hz, on_some, List.append_nil] at this
            have h9 := congrArg List.length this.2
            simp at h9
          · cases e1
            exact e3
        · rw [hqg] at hg
          cases hg
      have hup := AOp_sound (P := P) (dst := ops[j].dst) (type := ops[j].type) (pos := ops[j].pos) (after := ops[j].after) (guard := ops[j].guard) ops[j].op hs0 (ev := fun _ => none) (ρ := a.eval) (fun x av h => by cases h)
        (Kont := fun v' σ' => v' = .ptr σ.length z.length 0 0 ∧ σ' = σ ++ [.cells z.length [z]]) (by rw [hqT]; simp only [AOp, hz, on_some]; exact ⟨rfl, rfl⟩)
      have hoa : ops.toArray[j]? = some ops[j] := by simpa using hqo
      unfold wpOpIn
      simp only [hoa]
      rw [if_pos (by simp [Region.wanted, hqg])]
      refine wpIn_of_up (fun c e => by rw [hqT] at e; cases e) hup fun imm' m' v av σ' w' h1 h2 hs' hr hk' => ?_
      obtain ⟨rfl, rfl⟩ := hk'
      exact hn imm' m' v w' h1 h2 (by rw [sg1 _ (.inr rfl)]; exact hs') ((hI.mono h1 h2).step hc hcl hqo hnS hdN (by rw [hv]; exact hr))
    · have hnm : ∀ T', o.op ≠ .alloc T' := fun T' e => hjq (hall j hj o ho T' e)
      by_cases hSq : S q
      · rw [sg1 S hSq] at hs
        exact quiet_step hs hI hc hcl ho hnS hanc hsl (.inr hnm) (hst j hj o ho) fun imm' m' v w' h1 h2 h3 h4 => hn imm' m' v w' h1 h2 (by rw [sg1 _ (.inl hSq)]; exact h3) h4
      · rw [sg0 S hSq] at hs
        exact quiet_step hs hI hc hcl ho hnS hanc hsl (.inr hnm) (hst j hj o ho) fun imm' m' v w' h1 h2 h3 h4 => hn imm' m' v w' h1 h2 (by rw [sg0 _ (by rintro (h | h); exact hSq h; exact hjq h.symm)]; exact h3) h4
  · simp [left]
  · rw [sg0 _ (fun h => hrep q h.2 h.1)]
    exact hs.drew.res
end Go.Proofs.YtephecognbbaoabGreat
/- Ranges over functions: rounds, the statement. -/
namespace Go.Proofs.YtephecognbbaoabGreat
open Go
set_option linter.all false
section
variable {rd : Option Nat} {P : Program} {N : Nat} {K0 : World} {imm : Imm} {m : Own} {w : World} {α : AF} {σ : Store} {a : Act} {Q : Post}
/-- A loop's record lies where its object says. -/
theorem Sim.loopAt (hs : Sim K0 imm m w σ) {b l n : Nat} {al : AF} {r : Loop} (hb : σ[b]? = some (.lp l al n r)) :
    ∃ (hlt : b < σ.length) (sz : Nat), σ[b] = .lp l al n r ∧ m b = some (l, sz) ∧ imm l = none ∧ w.heap[l]? = some (.loop r) ∧ r.tmps.size = n ∧
      (∀ t av, look al t = some av → ∃ v, r.tmps[t]? = some v ∧ Rep imm m v av) ∧ ∀ t av, look al t = some av → Bd b av := by
  obtain ⟨hlt, hob⟩ := List.getElem?_eq_some_iff.1 hb
  have h0 := hs.obs b hlt
  rw [hob] at h0
  obtain ⟨blk, sz, h1, h2, rfl, h4, h5, h6, h7⟩ := h0
  exact ⟨hlt, sz, hob, h1, h2, h4, h5, h6, h7⟩
theorem beside_put (l : Nat) (o : Obj) : Beside w (w.putObj l o) := ⟨rfl, rfl, rfl, by simp⟩
/-- The record turns. -/
theorem Sim.loopSet (hs : Sim K0 imm m w σ) {b l n : Nat} {al : AF} {r : Loop} (hb : σ[b]? = some (.lp l al n r)) (st : LoopState) (pe : Option Code) :
    Sim K0 imm m (w.putObj l (.loop { r with state := st, pending := pe })) (σ.set b (.lp l al n { r with state := st, pending := pe })) := by
  obtain ⟨hlt, sz, hob, h1, h2, h4, h5, h6, h7⟩ := hs.loopAt hb
  have hl : l < w.heap.size := (Array.getElem?_eq_some_iff.1 h4).1
  exact hs.setO (beside_put _ _) hlt h1 (by rw [hob]; rfl) (fun c hc => World.putObj_heap_other hc) _ ⟨l, sz, h1, h2, rfl, World.putObj_heap_same hl, h5, h6, h7⟩
/-- What is asked at a round's end. -/
def roundQ (l b : Nat) (al : AF) (n : Nat) (r : Loop) (R : AV → Store → Prop) : Post := fun e _ σ =>
  match e with
  | .normal => σ[b]? = some (.lp l al n { r with state := .busy }) ∧ R (.c (.bool true)) (σ.set b (.lp l al n { r with state := .ready, pending := none }))
  | .ret => σ[b]? = some (.lp l al n { r with state := .busy }) ∧ R (.c (.bool false)) (σ.set b (.lp l al n { r with state := .done, pending := some .ret }))
  | .exit id => σ[b]? = some (.lp l al n { r with state := .busy }) ∧ R (.c (.bool false)) (σ.set b (.lp l al n { r with state := .done, pending := some (.exit id) }))
  | _ => False
/-- One round. -/
theorem YCalls_of {l b p : Nat} {al : AF} {r : Loop} {x : AV} {R : AV → Store → Prop} (hb : σ[b]? = some (.lp l al N r)) (hst : r.state = .ready) (hp : r.params = #[p]) (hpN : p < N)
    (h : AWPr (some l) P N r.assign (thenQ (fun α σ => σ[b]? = some (.lp l al N r) ∧ AWPr (some l) P N r.body (roundQ l b al N r R) α (σ.set b (.lp l al N { r with state := .busy }))) (fun _ _ _ => False)) ((p, x) :: al) σ) :
    YCalls P l [x] σ R := by
  intro K imm m w vs hs hv
  obtain ⟨hlt, sz, hob, h1, h2, h4, h5, h6, h7⟩ := hs.loopAt hb
  obtain ⟨v, rfl⟩ : ∃ v, vs = [v] := by
    have := hv.1
    match vs, this with
    | [v], _ => exact ⟨v, rfl⟩
  have hx : Rep imm m v x := hv.2 0 (by simp) (by simp)
  refine ⟨r, h4, by rw [hp]; rfl, roundIn_of_wpIn (F := Fence.wide) (n := 0) trivial ?_⟩
  have hf : FOk K imm m N { tmps := (r.params.zip [v].toArray).foldl (fun tmps (t, a) => tmps.setIfInBounds t a) r.tmps, defers := [] } ((p, x) :: al) := by
    have e : (r.params.zip [v].toArray).foldl (fun tmps (t, a) => tmps.setIfInBounds t a) r.tmps = r.tmps.setIfInBounds p v := by rw [hp]; simp
    rw [e]
    refine ⟨Marks.nil _ _, by simp [h5], fun t av ht => ?_⟩
    simp only [look] at ht
    split at ht
    · rename_i e
      subst e
      cases ht
      exact ⟨v, by simp [h5, hpN], hx⟩
    · rename_i e
      obtain ⟨u, hu, q⟩ := h6 t av ht
      exact ⟨u, by simp [Array.getElem?_setIfInBounds, e, hu], q⟩
  refine Code.wpIn_mono ?_ (h K imm m w _ hs hf)
  rintro e a1 w1 ⟨i1, o1, α1, σ1, hi1, ho1, hs1, hf1, hq1⟩
  cases e with
  | normal =>
    obtain ⟨hb1, hbody⟩ := hq1
    obtain ⟨_, _, _, _, _, g4, _⟩ := hs1.loopAt hb1
    refine ⟨_, run_beginRound g4 hst, ?_⟩
    have hs2 := hs1.loopSet hb1 .busy r.pending
    refine Code.wpIn_mono ?_ (hbody K i1 o1 _ a1 hs2 hf1)
    have fin : ∀ (jump : Option Code) (w2 : World) (i2 : Imm) (o2 : Own) (σ2 : Store) (st : LoopState), ILe i1 i2 → OLe o1 o2 → Sim K i2 o2 w2 σ2 → σ2[b]? = some (.lp l al N { r with state := .busy }) → st = (if jump.isNone then .ready else .done) →
        R (.c (.bool jump.isNone)) (σ2.set b (.lp l al N { r with state := st, pending := jump })) →
        ∃ v w', (Instr.endRound l jump).run P w2 = .ok v w' ∧ ∃ imm' m' v' r' σ', Ending.returned v = .returned v' ∧ ILe imm imm' ∧ OLe m m' ∧ Sim K imm' m' w' σ' ∧ Rep imm' m' v' r' ∧ R r' σ' := by
      intro jump w2 i2 o2 σ2 st hi ho hs2 hb2 hst2 hR
      obtain ⟨_, _, _, _, _, k4, _⟩ := hs2.loopAt hb2
      subst hst2
      exact ⟨_, _, run_endRound jump k4, i2, o2, _, _, _, rfl, hi1.trans hi, ho1.trans ho, hs2.loopSet hb2 _ _, .c _, hR⟩
    rintro e a2 w2 ⟨i2, o2, α2, σ2, hi2, ho2, hs2, hf2, hq2⟩
    cases e with
    | normal => exact fin none w2 i2 o2 σ2 _ hi2 ho2 hs2 hq2.1 rfl hq2.2
    | ret => exact fin (some .ret) w2 i2 o2 σ2 _ hi2 ho2 hs2 hq2.1 rfl hq2.2
    | exit id => exact fin (some (.exit id)) w2 i2 o2 σ2 _ hi2 ho2 hs2 hq2.1 rfl hq2.2
    | _ => exact hq2.elim
  | _ => exact hq1.elim
theorem heap_alloc_lt (o : Obj) {b : Nat} (hb : b < w.heap.size) : (w.alloc o).heap[b]? = w.heap[b]? := by
  show (w.heap.push o)[b]? = _
  rw [Array.getElem?_push, if_neg (by omega)]
def addI (imm : Imm) (n : Nat) (o : Obj) : Imm := fun b => if b = n then some o else imm b
theorem addI_ne {imm : Imm} {n b : Nat} {o : Obj} (h : b ≠ n) : addI imm n o b = imm b := if_neg h
theorem addI_same {imm : Imm} {n : Nat} {o : Obj} : addI imm n o n = some o := if_pos rfl
/-- A new block that stays as it is. -/
theorem Sim.addImm (hs : Sim K0 imm m w σ) (o : Obj) : ∃ imm', ILe imm imm' ∧ imm' w.heap.size = some o ∧ Sim K0 imm' m (w.alloc o) σ := by
  have hk := hs.keep (beside_alloc o) (fun b hb => heap_alloc_lt o hb)
  have hnew : imm w.heap.size = none := by
    cases h : imm w.heap.size with
    | none => rfl
    | some o' => have := heap_lt (hs.imm_ok _ _ h); omega
  have hle : ILe imm (addI imm w.heap.size o) := fun b o' h => by
    rw [addI_ne (fun e => by rw [e, hnew] at h; cases h)]
    exact h
  refine ⟨addI imm w.heap.size o, hle, addI_same, hk.os, hk.tape, hk.output, hk.size, fun b o' h => ?_, hk.dom, fun id h => ?_, hk.inj⟩
  · by_cases e : b = w.heap.size
    · subst e
      rw [addI_same] at h
      cases h
      exact World.alloc_heap_new _ _
    · rw [addI_ne e] at h
      exact hk.imm_ok b o' h
  · refine (hs.obs id h).keep hle (.refl _) (fun h => h) (fun b h hlt => ?_) (fun hl blk sz e => ?_)
    · rw [addI_ne (by omega)]
      exact h
    · obtain ⟨blk', sz', e', hb, _⟩ := (hs.obs id h).lt hl
      rw [e] at e'
      cases e'
      exact heap_alloc_lt o hb
/-- The statement 'for x := range f'. -/
theorem AWP_range {t g : Nat} {cap : List AV} {ps : Array Tmp} {assign body : Code} (hl : look α t = some (.fn g [] cap)) (hok : callOk P g = true)
    (h : ∀ (l : Nat) (r : Loop), r.state = .ready → r.pending = none → r.params = ps → r.assign = assign → r.body = body →
      ACalls P g (.c (.func (.yield l) #[] #[]) :: cap) (σ ++ [.lp l α N r]) fun _ σ' => ∃ r', σ'[σ.length]? = some (.lp l α N r') ∧ r'.state ≠ .busy ∧
        (match r'.pending with | none => Q .normal α (σ'.set σ.length .dead) | some c => AWP P N c Q α (σ'.set σ.length .dead))) :
    AWP P N (.rangeFunc (.tmp t) ps assign body) Q α σ := by
  intro K imm m w a hs hf
  obtain ⟨v, hv, hr⟩ := hf.eval hl
  cases hr with
  | fn f' fs cs _ _ hfl hcl q1 q2 =>
    obtain rfl : fs = [] := List.eq_nil_of_length_eq_zero (by simpa using hfl)
    refine wpIn_rangeFunc fun fn _ => ?_
    obtain ⟨imm1, hi1, hd1, hs1⟩ := hs.addImm (.deferred (some []))
    obtain ⟨rc, hrc⟩ : ∃ rc : Loop, rc = { state := .ready, pending := none, fn, tmps := a.tmps, params := ps, assign, body, defers := w.heap.size } := ⟨_, rfl⟩
    have hs2 : Sim K imm1 (upd m σ.length ((w.alloc (.deferred (some []))).heap.size, 0)) ((w.alloc (.deferred (some []))).alloc (.loop rc)) (σ ++ [.lp (w.heap.size + 1) α N rc]) := by
      refine hs1.pushO (beside_alloc _) (.loop rc) rfl _ 0 ⟨(w.alloc (.deferred (some []))).heap.size, 0, by simp [upd], ?_, by simp, ?_, by rw [hrc]; exact hf.size, fun t av ht => ?_, fun t av ht => ?_⟩
      · cases hx : imm1 ((w.alloc (.deferred (some []))).heap.size) with
        | none => rfl
        | some o' => have := heap_lt (hs1.imm_ok _ _ hx); omega
      · exact World.alloc_heap_new _ _
      · obtain ⟨u, hu, q⟩ := hf.slot t av ht
        exact ⟨u, by rw [hrc]; exact hu, q.mono hi1 (.upd (hs1.dom _ (Nat.le_refl _)) _)⟩
      · obtain ⟨u, hu, q⟩ := hf.slot t av ht
        exact q.bd hs.dom
    have hlt : (w.alloc (.deferred (some []))).heap.size = w.heap.size + 1 := by simp
    have hom : OLe m (upd m σ.length ((w.alloc (.deferred (some []))).heap.size, 0)) := .upd (hs.dom _ (Nat.le_refl _)) _
    have hcall := h (w.heap.size + 1) rc (by rw [hrc]) (by rw [hrc]) (by rw [hrc]) (by rw [hrc]) (by rw [hrc]) K imm1 _ _ (.func (.yield (w.heap.size + 1)) #[] #[] :: cs) hs2
      ⟨by simp [hcl], fun i h1 h2 => by
        cases i with
        | zero => exact .c _
        | succ i => exact (q2 i (by simpa using h1) (by simpa using h2)).mono hi1 hom⟩
    refine ⟨w.heap.size + 1, [mark w.heap.size], (w.alloc (.deferred (some []))).alloc (.loop rc), { target := .fn (.func g) cs.toArray, args := #[.func (.yield (w.heap.size + 1)) #[] #[]] }, (w.alloc (.deferred (some []))).alloc (.loop rc), g,
      (Value.func (.yield (w.heap.size + 1)) #[] #[] :: cs).toArray, (w.alloc (.deferred (some []))).alloc (.loop rc), ?_, ?_, fun _ _ => trivial, ?_, fun h => (by cases h), ?_⟩
    · rw [hrc]
      exact run_enterLoop_outer _ _ _ _ _
    · simp only [resolve, hv]
      simp [go_sem]
    · have hce : ∀ args w, (callFunc g args).run P w = .ok (.enter g args) w := by
        intro args w
        unfold callOk at hok
        split at hok
        · rename_i fn hfn
          simp only [Bool.and_eq_true, Bool.not_eq_true'] at hok
          have hbody : fn.body ≠ none := by
            have := hok.1
            intro hb
            simp [hb] at this
          have hname : fn.name ≠ "runtime.NumGoroutine" := by simpa using hok.2
          simp only [callFunc, program, Sem.run_bind]
          simp [hfn, hname, hbody, Sem.run]
        · cases hok
      have e : (Value.func (.yield (w.heap.size + 1)) #[] #[] :: cs).toArray = #[Value.func (.yield (w.heap.size + 1)) #[] #[]] ++ cs.toArray := by simp
      simp only [invoke, e]
      exact hce _ _
    · refine CallsIn.mono (callsIn_wide.2 hcall) ?_
      rintro e w3 ⟨i3, o3, v3, r3, σ3, rfl, hi3, ho3, hs3, _, r', hb3, hbusy, hq⟩
      obtain ⟨_, _, _, _, _, g4, _⟩ := hs3.loopAt hb3
      refine ⟨_, _, run_endLoop g4 hbusy, ?_⟩
      have hs4 := (hs3.loopSet hb3 .exhausted r'.pending).kill σ.length
      rw [List.set_set] at hs4
      have hf4 : FOk K i3 o3 N { a with defers := [mark w.heap.size] ++ a.defers } α := by
        obtain ⟨rs, n1, n2, n3⟩ := hf.defers
        refine ⟨⟨w.heap.size :: rs, List.nodup_cons.2 ⟨fun hm => ?_, n1⟩, by simp [n2], fun r hr => ?_⟩, hf.size, fun t av ht => ?_⟩
        · have := heap_lt (hs.imm_ok _ _ (n3 _ hm).2)
          omega
        · rcases List.mem_cons.1 hr with rfl | hr
          · exact ⟨hs.size, hi3 _ _ hd1⟩
          · exact ⟨(n3 r hr).1, hi3 _ _ (hi1 _ _ (n3 r hr).2)⟩
        · obtain ⟨u, hu, q⟩ := hf.slot t av ht
          exact ⟨u, hu, q.mono (hi1.trans hi3) (hom.trans ho3)⟩
      cases hp : r'.pending with
      | none =>
        rw [hp] at hq hs4
        exact ⟨i3, o3, α, _, hi1.trans hi3, hom.trans ho3, hs4, hf4, hq⟩
      | some c =>
        rw [hp] at hq hs4
        exact Code.wpIn_mono (fun _ _ _ hh => lift_mono (hi1.trans hi3) (hom.trans ho3) hh) (hq K i3 o3 _ _ hs4 hf4)
end
end Go.Proofs.YtephecognbbaoabGreat
namespace Go.Proofs.YtephecognbbaoabGreat
open Go
set_option linter.all false
/-- Operations that change the store; bs: whether slices of constants count among them, and whether calls do. -/
def loudG (bs : Bool × Bool) : Op → Bool
  | .store .. => true
  | .alloc .. => true
  | .box .. => true
  | .insert .. => true
  | .mapUpdate .. => true
  | .makeMap _ none => true
  | .makeSlice .. => true
  | .buildSlice _ n _ => bs.1 || n == 0
  | .call { callee := .builtin .append, args := _, argTypes := _ } => true
  | .call { callee := .builtin .copy, args := _, argTypes := _ } => true
  | .call { callee := .value (.func _), args := _, argTypes := _ } => bs.2
  | _ => false
/-- Operations whose answer does not hang on the store. -/
def pureOp : Op → Bool
  | .move .. => true
  | .assign .. => true
  | .pick .. => true
  | .binOp .. => true
  | .unOp .. => true
  | .extract .. => true
  | .nilCheck .. => true
  | .fieldAddr .. => true
  | .indexAddr .. => true
  | .index .. => true
  | .field .. => true
  | .makeFunc .. => true
  | .build .. => true
  | .slice .. => true
  | _ => false
def allPure (bs : Bool × Bool) (ops : List Oper) : Bool := ops.all fun o => loudG bs o.op || pureOp o.op
def Pre (a b : Store) : Prop := ∃ τ, b = a ++ τ
/-- The stores that may lie there meanwhile. -/
def Grown (pu : Bool) (σ0 σ : Store) : Prop := pu = true ∨ ∃ τ, σ = σ0 ++ τ
theorem appendE_det {P : Program} {e : TypeId} {s x : AV} {σ : Store} {K : AV → Store → Prop} (h : appendE P e s x σ K) : ∃ v σ', appendE P e s x σ (fun v' σ'' => v' = v ∧ σ'' = σ') ∧ K v σ' := by
  unfold appendE at h
  obtain ⟨h1, h2, h3, h⟩ := h
  obtain ⟨olds, ho, h⟩ := on_elim h
  obtain ⟨news, hn, h4, h⟩ := on_elim h
  unfold appendE
  cases s with
  | own b k i n c =>
    obtain ⟨h5, h6, h7⟩ := h
    by_cases hc : n + news.length ≤ c ∧ n ≠ c
    · obtain ⟨h8, h9⟩ := h6 hc
      obtain ⟨ob, hob, h9⟩ := on_elim h9
      cases ob with
      | cells k' es => exact ⟨_, _, ⟨h1, h2, h3, by rw [ho, hn]; exact ⟨h4, h5, fun _ => ⟨h8, by rw [hob]; exact ⟨rfl, rfl⟩⟩, fun h => by omega⟩⟩, h9⟩
      | _ => exact h9.elim
    · obtain ⟨a1, a2, a3, a4, a5⟩ := h7 (by omega)
      exact ⟨_, _, ⟨h1, h2, h3, by rw [ho, hn]; exact ⟨h4, h5, fun h => absurd h hc, fun _ => ⟨a1, a2, a3, a4, rfl, rfl⟩⟩⟩, a5⟩
  | emp =>
    by_cases hc : news.length = 0
    · exact ⟨_, _, ⟨h1, h2, h3, by rw [ho, hn]; exact ⟨h4, fun _ => ⟨rfl, rfl⟩, fun h => by omega⟩⟩, h.1 hc⟩
    · obtain ⟨a1, a2, a3⟩ := h.2 (by omega)
      exact ⟨_, _, ⟨h1, h2, h3, by rw [ho, hn]; exact ⟨h4, fun h => absurd h hc, fun _ => ⟨a1, a2, rfl, rfl⟩⟩⟩, a3⟩
  | c v =>
    by_cases hc : news.length = 0
    · exact ⟨_, _, ⟨h1, h2, h3, by rw [ho, hn]; exact ⟨h4, fun _ => ⟨rfl, rfl⟩, fun h => by omega⟩⟩, h.1 hc⟩
    · obtain ⟨a1, a2, a3⟩ := h.2 (by omega)
      exact ⟨_, _, ⟨h1, h2, h3, by rw [ho, hn]; exact ⟨h4, fun h => absurd h hc, fun _ => ⟨a1, a2, rfl, rfl⟩⟩⟩, a3⟩
  | _ => exact h.elim
theorem insertA_det {P : Program} {T : TypeId} {m k x : AV} {σ : Store} {K : Store → Prop} (h : insertA P T m k x σ K) : ∃ σ', insertA P T m k x σ (fun σ'' => σ'' = σ') ∧ K σ' := by
  unfold insertA at h ⊢
  obtain ⟨t, ht, h⟩ := on_elim h
  obtain ⟨kv, hk, h⟩ := on_elim h
  simp only [ht, hk, on_some]
  split at h
  · obtain ⟨es, hes, h⟩ := on_elim h
    simp only [hes, on_some]
    exact ⟨_, ⟨h.1, h.2.1, h.2.2.1, h.2.2.2.1, rfl⟩, h.2.2.2.2⟩
  · exact h.elim
/-- A callee that changes nothing, with slices of the caller's own. -/
def callS (P : Program) (f : FuncId) (args : List AV) (σ : Store) (K : AV → Store → Prop) : Prop := ∃ v S, ACalls P f args σ (fun r σ' => r = v ∧ σ' = S) ∧ K v S
theorem callS_useO {P : Program} {f : FuncId} {args : List AV} {σ S : Store} {X : AV} {K : AV → Store → Prop} (h : ACalls P f args σ fun r σ' => σ' = S ∧ r = X) (hk : K X S) : callS P f args σ K := ⟨X, S, h.mono fun _ _ ⟨h1, h2⟩ => ⟨h2, h1⟩, hk⟩
theorem callS_use {P : Program} {f : FuncId} {args : List AV} {σ : Store} {X : AV} {K : AV → Store → Prop} (h : ACalls P f args σ fun r σ' => σ' = σ ∧ r = X) (hk : K X σ) : callS P f args σ K := callS_useO h hk
@[congr] theorem callS_cg {P : Program} {f : FuncId} {args args' : List AV} {σ : Store} {K : AV → Store → Prop} (h : pass args = args') : callS P f args σ K = callS P f args' σ K := by rw [← h, pass_eq]
def AOpD (P : Program) (op : Op) (ev : Operand → Option AV) (σ : Store) (K : AV → Store → Prop) : Prop :=
  match op with
  | .call { callee := .value f, args := args, argTypes := _ } => on (ev f) fun f => on (evL ev args.toList) fun as' => match f with
    | .fn g first cap => callOk P g = true ∧ callS P g (first ++ as' ++ cap) σ K
    | _ => False
  | op => AOp P op ev σ K
theorem AOp_det {bs : Bool × Bool} {P : Program} {op : Op} {ev : Operand → Option AV} {σ : Store} {K : AV → Store → Prop} (hl : loudG bs op = true) (h : AOpD P op ev σ K) : ∃ v σ', AOp P op ev σ (fun v' σ'' => v' = v ∧ σ'' = σ') ∧ K v σ' := by
  cases op <;> (try (cases hl; done))
  case alloc T =>
    obtain ⟨z, hz, h⟩ := on_elim h
    simp only [AOp, hz, on_some]
    exact ⟨_, _, ⟨rfl, rfl⟩, h⟩
  case box T x =>
    obtain ⟨a, ha, h⟩ := on_elim h
    simp only [AOp, ha, on_some]
    exact ⟨_, _, ⟨rfl, rfl⟩, h⟩
  case buildSlice T n ps =>
    obtain ⟨k, hk, h⟩ := on_elim h
    obtain ⟨qs, hqs, h⟩ := on_elim h
    obtain ⟨es, hes, h⟩ := on_elim h
    refine ⟨_, _, ?_, h.2.2.2⟩
    simp only [AOp]
    rw [on_eq hk, on_eq hqs, on_eq hes]
    exact ⟨h.1, h.2.1, h.2.2.1, rfl, rfl⟩
  case store T a x =>
    obtain ⟨p, hp, h⟩ := on_elim h
    obtain ⟨v, hv, h⟩ := on_elim h
    obtain ⟨σ', hσ, h⟩ := on_elim h
    refine ⟨_, _, ?_, h⟩
    simp only [AOp]
    rw [on_eq hp, on_eq hv, on_eq hσ]
    exact ⟨trivial, rfl⟩
  case makeSlice T l c =>
    obtain ⟨nl, hl, h⟩ := on_elim h
    obtain ⟨nc, hc, h⟩ := on_elim h
    simp only [AOp, hl, hc, on_some]
    unfold makeA at h ⊢
    split at h
    · obtain ⟨z, hz, h⟩ := on_elim h
      simp only [hz, on_some]
      exact ⟨_, _, ⟨h.1, h.2.1, h.2.2.1, h.2.2.2.1, h.2.2.2.2.1, rfl, rfl⟩, h.2.2.2.2.2⟩
    · exact h.elim
  case makeMap T r =>
    cases r with
    | none => exact ⟨_, _, ⟨rfl, rfl⟩, h⟩
    | some r => cases hl
  case insert T m k x =>
    obtain ⟨a, ha, h⟩ := on_elim h
    obtain ⟨b, hb, h⟩ := on_elim h
    obtain ⟨c, hc, h⟩ := on_elim h
    obtain ⟨σ', h1, h2⟩ := insertA_det h
    refine ⟨_, σ', ?_, h2⟩
    simp only [AOp]
    rw [on_eq ha, on_eq hb, on_eq hc]
    simpa only [true_and] using h1
  case mapUpdate T m k x =>
    obtain ⟨a, ha, h⟩ := on_elim h
    obtain ⟨b, hb, h⟩ := on_elim h
    obtain ⟨c, hc, h⟩ := on_elim h
    obtain ⟨σ', h1, h2⟩ := insertA_det h
    refine ⟨_, σ', ?_, h2⟩
    simp only [AOp]
    rw [on_eq ha, on_eq hb, on_eq hc]
    simpa only [true_and] using h1
  case call c =>
    obtain ⟨callee, args, ts⟩ := c
    cases callee with
    | value f =>
      obtain ⟨fv, hf, h⟩ := on_elim h
      obtain ⟨as', has, h⟩ := on_elim h
      split at h
      · obtain ⟨h1, v, S2, h2, h3⟩ := h
        refine ⟨v, S2, ?_, h3⟩
        simp only [AOp]
        rw [on_eq hf, on_eq has]
        exact ⟨h1, h2⟩
      · exact h.elim
    | builtin b =>
      cases b <;> (try (cases hl; done))
      case copy =>
        obtain ⟨as', has, h⟩ := on_elim h
        split at h
        · rename_i x s t t' hts
          unfold copyA at h
          split at h
          · rename_i e hT
            obtain ⟨h1, h2, h⟩ := h
            obtain ⟨news, hn, h3, h4, h⟩ := on_elim h
            split at h
            · rename_i b k i n c
              obtain ⟨h5, h⟩ := h
              obtain ⟨ob, hob, h⟩ := on_elim h
              split at h
              · rename_i k' es
                obtain ⟨h6, h7, h8⟩ := h
                refine ⟨_, _, ?_, h8⟩
                simp only [AOp]
                rw [on_eq has]
                simp only [hts, copyA, hT]
                refine ⟨h1, h2, ?_⟩
                rw [on_eq hn]
                refine ⟨h3, h4, h5, ?_⟩
                rw [on_eq hob]
                exact ⟨h6, h7, rfl, rfl⟩
              · exact h.elim
            · exact h.elim
          · exact h.elim
        · exact h.elim
      obtain ⟨as', has, h⟩ := on_elim h
      split at h
      · rename_i s x t t' hts
        obtain ⟨rfl, h⟩ := h
        unfold appendA appendD at h
        split at h
        · rename_i e hT
          obtain ⟨v, σ', h1, h2⟩ := appendE_det h
          refine ⟨v, σ', ?_, h2⟩
          simp only [AOp]
          rw [on_eq has]
          simp only [hts, appendA, hT]
          exact ⟨trivial, h1⟩
        · exact h.elim
      · exact h.elim
    | _ => cases hl
theorem AOpK_pure {P : Program} {ev : Operand → Option AV} {σ : Store} {K : AV → Prop} (op : Op) (hp : pureOp op = true) (h : AOpK P op ev σ K) : ∃ v, (∀ σ', AOpQ P op ev σ' v) ∧ K v := by
  obtain ⟨v, hq, hk⟩ := AOpK_ex op h
  refine ⟨v, fun σ' => ?_, hk⟩
  cases op <;> (try (cases hp; done)) <;> (simp only [AOpQ, AOp, and_true] at hq ⊢; exact hq)
/-- The part of a region in which objects are made, in the text's order. -/
def greg (P : Program) (N : Nat) (ops : List Oper) (bs : Bool × Bool) (pu : Bool) (σ0 : Store) (K : AF → Store → Prop) : List Oper → AF → Store → Prop
  | [], α, σ => K α σ
  | o :: r, α, σ => splitA ops o.guard α fun α => guardA ops o.guard α
      (fun α => match loudG bs o.op with
        | true => AOpD P o.op (evF α) σ fun v σ' => Grown pu σ0 σ' ∧ putA N o.dst v α fun α' => greg P N ops bs pu σ0 K r α' σ'
        | false => AOpK P o.op (evF α) σ0 fun v => putA N o.dst v α fun α' => greg P N ops bs pu σ0 K r α' σ)
      (fun α => putA N o.dst (.c undef) α fun α' => greg P N ops bs pu σ0 K r α' σ)
section
variable {rd : Option Nat} {P : Program} {N : Nat} {K0 : World} {ops : List Oper} {bs : Bool × Bool} {pu : Bool} {σ0 : Store} {α0 : AF}
def stepG (P : Program) (N : Nat) (ops : List Oper) (bs : Bool × Bool) (pu : Bool) (σ0 : Store) (α : AF) (σ : Store) (o : Oper) (b : Bool) (v : AV) (σ' : Store) : Prop :=
  (∀ d, o.dst = some d → d < N) ∧
  ((b = true ∧ ((loudG bs o.op = true ∧ AOp P o.op (evF α) σ (fun v' σ'' => v' = v ∧ σ'' = σ') ∧ Grown pu σ0 σ') ∨ (loudG bs o.op = false ∧ σ' = σ ∧ ∀ σ1, Grown pu σ0 σ1 → AOpQ P o.op (evF α) σ1 v)) ∧ (∀ g want, o.guard = some (g, want) → ∃ d, (ops[g]?).bind (·.dst) = some d ∧ look α d = some (.c (.bool want)))) ∨
   (b = false ∧ v = .c undef ∧ σ' = σ ∧ ∃ g want d, o.guard = some (g, want) ∧ (ops[g]?).bind (·.dst) = some d ∧ (look α d = some (.c (.bool (!want))) ∨ ∃ t, look α d = some (.c (.tuple t)))))
theorem frL_congr : ∀ (k : Nat) (vs vs' : Nat → AV), (∀ j, j < k → vs j = vs' j) → frL ops α0 vs k = frL ops α0 vs' k := by
  intro k
  induction k with
  | zero => intro vs vs' _; rfl
  | succ k ih =>
    intro vs vs' he
    simp only [frL, he k (by omega), ih vs vs' fun j hj => he j (by omega)]
theorem trace_of_greg {K : AF → Store → Prop} (hpu : pu = true → allPure bs ops = true) : ∀ (l : List Oper) (k : Nat) (vs0 : Nat → AV) (bs0 : Nat → Bool) (ss0 : Nat → Store) (β : AF), (∀ t, look β t = look (frL ops α0 vs0 k) t) → (∀ j, j < l.length → l[j]? = ops[k + j]?) → greg P N ops bs pu σ0 K l β (ss0 k) →
    ∃ (vs : Nat → AV) (bl : Nat → Bool) (ss : Nat → Store), (∀ j, j < k → vs j = vs0 j ∧ bl j = bs0 j) ∧ (∀ j, j ≤ k → ss j = ss0 j) ∧ (∀ j (h : j < l.length), stepG P N ops bs pu σ0 (frL ops α0 vs (k + j)) (ss (k + j)) l[j] (bl (k + j)) (vs (k + j)) (ss (k + j + 1))) ∧ ∃ γ, (∀ t, look γ t = look (frL ops α0 vs (k + l.length)) t) ∧ K γ (ss (k + l.length))
  | [], k, vs0, bs0, ss0, β, hβ, _, h => ⟨vs0, bs0, ss0, fun _ _ => ⟨rfl, rfl⟩, fun _ _ => rfl, fun j h => by simp at h, β, hβ, h⟩
  | o :: r, k, vs0, bs0, ss0, β, hβ, hl, h => by
    have ho : ops[k]? = some o := by have := hl 0 (by simp); simpa using this.symm
    have go : ∀ (b : Bool) (v : AV) (σ' : Store) (β : AF), (∀ t, look β t = look (frL ops α0 vs0 k) t) → stepG P N ops bs pu σ0 (frL ops α0 vs0 k) (ss0 k) o b v σ' → putA N o.dst v β (fun α' => greg P N ops bs pu σ0 K r α' σ') →
        ∃ (vs : Nat → AV) (bl : Nat → Bool) (ss : Nat → Store), (∀ j, j < k → vs j = vs0 j ∧ bl j = bs0 j) ∧ (∀ j, j ≤ k → ss j = ss0 j) ∧ (∀ j (h : j < (o :: r).length), stepG P N ops bs pu σ0 (frL ops α0 vs (k + j)) (ss (k + j)) (o :: r)[j] (bl (k + j)) (vs (k + j)) (ss (k + j + 1))) ∧ ∃ γ, (∀ t, look γ t = look (frL ops α0 vs (k + (o :: r).length)) t) ∧ K γ (ss (k + (o :: r).length)) := by
      intro b v σ' β hβ hst hput
      let vs1 : Nat → AV := fun j => if j = k then v else vs0 j
      let bs1 : Nat → Bool := fun j => if j = k then b else bs0 j
      let ss1 : Nat → Store := fun j => if j = k + 1 then σ' else ss0 j
      have hfr : frL ops α0 vs1 k = frL ops α0 vs0 k := frL_congr k _ _ fun j hj => by simp only [vs1]; rw [if_neg (by omega)]
      obtain ⟨β', hβ', hq⟩ : ∃ β', (∀ t, look β' t = look (frL ops α0 vs1 (k + 1)) t) ∧ greg P N ops bs pu σ0 K r β' σ' := by
        have hd : (ops[k]?).bind (·.dst) = o.dst := by rw [ho]; rfl
        unfold putA at hput
        cases hdst : o.dst with
        | none =>
          rw [hdst] at hput hd
          refine ⟨β, fun t => ?_, hput⟩
          simp only [frL, hd, hfr]
          exact hβ t
        | some d =>
          rw [hdst] at hput hd
          refine ⟨_, fun t => ?_, hput.2⟩
          simp only [frL, hd, hfr, look, vs1, if_true]
          split
          · rfl
          · exact hβ t
      obtain ⟨vs, bl, ss, h1, h1s, h2, γ, h3, h4⟩ := trace_of_greg hpu r (k + 1) vs1 bs1 ss1 β' hβ' (fun j hj => by
        have := hl (j + 1) (by simp; omega)
        rw [show k + 1 + j = k + (j + 1) by omega, ← this]
        rfl) (by simp only [ss1, if_true]; exact hq)
      refine ⟨vs, bl, ss, fun j hj => ?_, fun j hj => ?_, fun j hj => ?_, γ, by rw [show k + (o :: r).length = k + 1 + r.length by simp; omega]; exact h3, by rw [show k + (o :: r).length = k + 1 + r.length by simp; omega]; exact h4⟩
      · have := h1 j (by omega)
        simp only [vs1, bs1, if_neg (show ¬ j = k by omega)] at this
        exact this
      · have := h1s j (by omega)
        simp only [ss1, if_neg (show ¬ j = k + 1 by omega)] at this
        exact this
      · cases j with
        | zero =>
          have e1 := h1 k (by omega)
          have e2 := h1s k (by omega)
          have e3 := h1s (k + 1) (by omega)
          simp only [vs1, bs1, if_true] at e1
          simp only [ss1, if_true] at e3
          simp only [ss1, if_neg (show ¬ k = k + 1 by omega)] at e2
          simp only [Nat.add_zero, List.getElem_cons_zero, e1.1, e1.2, e2, e3]
          rw [frL_congr k vs vs0 fun j hj => by have := h1 j (by omega); simp only [vs1, if_neg (show ¬ j = k by omega)] at this; exact this.1]
          exact hst
        | succ j =>
          have := h2 j (by simpa using hj)
          rw [show k + 1 + j = k + (j + 1) by omega] at this
          exact this
    simp only [greg] at h
    obtain ⟨β1, hβ1, h⟩ := splitA_inv h
    have hb : ∀ t, look β1 t = look (frL ops α0 vs0 k) t := fun t => (hβ1 t).trans (hβ t)
    clear hβ1 hβ
    have act : (match loudG bs o.op with
        | true => AOpD P o.op (evF β1) (ss0 k) fun v σ' => Grown pu σ0 σ' ∧ putA N o.dst v β1 fun α' => greg P N ops bs pu σ0 K r α' σ'
        | false => AOpK P o.op (evF β1) σ0 fun v => putA N o.dst v β1 fun α' => greg P N ops bs pu σ0 K r α' (ss0 k)) →
        ∃ v σ', ((loudG bs o.op = true ∧ AOp P o.op (evF (frL ops α0 vs0 k)) (ss0 k) (fun v' σ'' => v' = v ∧ σ'' = σ') ∧ Grown pu σ0 σ') ∨ (loudG bs o.op = false ∧ σ' = ss0 k ∧ ∀ σ1, Grown pu σ0 σ1 → AOpQ P o.op (evF (frL ops α0 vs0 k)) σ1 v)) ∧ putA N o.dst v β1 fun α' => greg P N ops bs pu σ0 K r α' σ' := by
      intro h
      rw [evF_same hb] at h
      cases hlo : loudG bs o.op with
      | true =>
        rw [hlo] at h
        obtain ⟨v, σ', h1, h2, h3⟩ := AOp_det hlo h
        exact ⟨v, σ', .inl ⟨rfl, h1, h2⟩, h3⟩
      | false =>
        rw [hlo] at h
        cases hp : pu with
        | true =>
          have hpo : pureOp o.op = true := by
            have := List.all_eq_true.1 (hpu hp) o (List.mem_of_getElem? ho)
            rw [hlo] at this
            simpa using this
          obtain ⟨v, h1, h2⟩ := AOpK_pure o.op hpo h
          exact ⟨v, _, .inr ⟨rfl, rfl, fun σ1 _ => h1 σ1⟩, hp ▸ h2⟩
        | false =>
          obtain ⟨v, h1, h2⟩ := AOpK_ext o.op h
          refine ⟨v, _, .inr ⟨rfl, rfl, fun σ1 hg => ?_⟩, hp ▸ h2⟩
          rcases hg with hg | ⟨τ, rfl⟩
          · cases hg
          · exact h1 τ
    unfold guardA at h
    cases hg : o.guard with
    | none =>
      rw [hg] at h
      obtain ⟨v, σ', hv, hp⟩ := act h
      refine go true v σ' β1 hb ⟨fun d hd => ?_, .inl ⟨rfl, hv, fun g want h => by rw [hg] at h; cases h⟩⟩ hp
      rw [hd] at hp
      exact hp.1
    | some g =>
      obtain ⟨g, want⟩ := g
      rw [hg] at h
      replace h := on_elim h; obtain ⟨d, hd, h⟩ := h
      replace h := on_elim h; obtain ⟨u, hu, h⟩ := h
      rw [hb] at hu
      have skip : (look (frL ops α0 vs0 k) d = some (.c (.bool (!want))) ∨ ∃ t, look (frL ops α0 vs0 k) d = some (.c (.tuple t))) → putA N o.dst (.c undef) β1 (fun α' => greg P N ops bs pu σ0 K r α' (ss0 k)) → _ := fun hu hp =>
        go false (.c undef) (ss0 k) β1 hb ⟨fun d hd => by rw [hd] at hp; exact hp.1, .inr ⟨rfl, rfl, rfl, g, want, d, hg, hd, hu⟩⟩ hp
      split at h
      · cases want
        · exact skip (.inl hu) h
        · obtain ⟨v, σ', hv, hp⟩ := act h
          exact go true v σ' β1 hb ⟨fun d hd => by rw [hd] at hp; exact hp.1, .inl ⟨rfl, hv, fun g' want' h' => by
            rw [hg] at h'
            cases h'
            exact ⟨d, hd, hu⟩⟩⟩ hp
      · cases want
        · obtain ⟨v, σ', hv, hp⟩ := act h
          exact go true v σ' β1 hb ⟨fun d hd => by rw [hd] at hp; exact hp.1, .inl ⟨rfl, hv, fun g' want' h' => by
            rw [hg] at h'
            cases h'
            exact ⟨d, hd, hu⟩⟩⟩ hp
        · exact skip (.inl hu) h
      · rename_i t
        exact skip (.inr ⟨t, hu⟩) h
      · exact h.elim
/-- A test of a constant. -/
theorem AWP_condC {rd : Option Nat} {P : Program} {N : Nat} {Q : Post} {α : AF} {σ : Store} {b : Bool} {x y : Code} (h1 : b = true → AWPr rd P N x Q α σ) (h2 : b = false → AWPr rd P N y Q α σ) : AWPr rd P N (.cond (.const (.bool b)) x y) Q α σ := by
  intro K imm m w a hs hf
  exact wpIn_cond_split (show a.eval (.const (.bool b)) = .bool b from rfl) (fun hb => h1 hb K imm m w a hs hf) (fun hb => h2 hb K imm m w a hs hf)
/-- What changes the store comes in the text's order. -/
def loudOrd (bs : Bool × Bool) (ops : List Oper) (p : Nat) : Bool :=
  let b := befL ops []
  let l := (List.range p).filter fun j => match ops[j]? with | some o => loudG bs o.op | none => true
  l.all fun j => l.all fun i => !decide (i < j) || (b.getD j 0).testBit i
theorem loudOrd_spec {p i j : Nat} {x y : Oper} (h : loudOrd bs ops p = true) (hij : i < j) (hj : j < p) (hx : ops[i]? = some x) (hy : ops[j]? = some y) (h1 : loudG bs x.op = true) (h2 : loudG bs y.op = true) : Anc ops i j := by
  simp only [loudOrd, List.all_eq_true, List.mem_filter, List.mem_range] at h
  have := h j ⟨hj, by rw [hy]; exact h2⟩ i ⟨by omega, by rw [hx]; exact h1⟩
  simp only [hij, decide_true, Bool.not_true, Bool.false_or] at this
  exact befL_spec ops ops [] (fun j => by simp) (fun j i h => by simp at h) j i this
/-- **A region that draws its order, and makes objects.** -/
theorem AWP_drawG {Q : Post} {id : Nat} {σ : Store} (bs : Bool × Bool) (pu : Bool) (p : Nat) (hm : P.follows .mixedOrders = true) (hB : (drawB ops p && edgesBack ops && noSelect ops && decide (p ≤ ops.length) && loudOrd bs ops p && (!pu || allPure bs ops)) = true)
    (h : greg P N ops bs pu σ (fun α σ => areg P N ops (fun α σ => Q .normal α σ) (ops.drop p) α σ) (ops.take p) α0 σ) : AWPr rd P N (.region id ops.toArray true) Q α0 σ := by
  intro K imm m w a hs hf
  simp only [Bool.and_eq_true, decide_eq_true_eq] at hB
  obtain ⟨⟨⟨⟨⟨hB1, hB2⟩, hB3⟩, hB4⟩, hB5⟩, hB6⟩ := hB
  have hpu : pu = true → allPure bs ops = true := fun h => by simpa [h] using hB6
  have hc : Conf ops p := fun i j x y hij hx hy h => drawB_spec hB1 hij hx hy h
  obtain ⟨vs, bl, ss, _, hss0, h2, γ, hγ, h3⟩ := trace_of_greg (ops := ops) (α0 := α0) hpu (ops.take p) 0 (fun _ => .emp) (fun _ => true) (fun _ => σ) α0 (fun _ => rfl) (fun j hj => by
    simp only [List.length_take] at hj
    rw [List.getElem?_take_of_lt (by omega), Nat.zero_add]) h
  simp only [Nat.zero_add, List.length_take, Nat.min_eq_left hB4] at h2 hγ h3
  have hss0 : ss 0 = σ := hss0 0 (Nat.le_refl _)
  refine wpIn_region_any hm ?_
  have hst : ∀ j, j < p → ∀ o, ops[j]? = some o → stepG P N ops bs pu σ (frL ops α0 vs j) (ss j) o (bl j) (vs j) (ss (j + 1)) := fun j hj o ho => by
    have := h2 j hj
    rw [List.getElem_take] at this
    obtain ⟨hj', rfl⟩ := List.getElem?_eq_some_iff.1 ho
    exact this
  have hrep : ∀ i, (Array.replicate ops.toArray.size false).getD i true = true → ¬ i < ops.length := fun i h hi => by
    simp [Array.getD_eq_getD_getElem?, hi] at h
  -- which operations change the store
  let lo : Nat → Prop := fun j => ∃ o, ops[j]? = some o ∧ loudG bs o.op = true
  have same1 : ∀ j, j < p → ¬ lo j → ss (j + 1) = ss j := fun j hj hn => by
    have ho : ops[j]? = some ops[j] := List.getElem?_eq_getElem (by omega)
    rcases (hst j hj _ ho).2 with ⟨_, hk, _⟩ | ⟨_, _, hk, _⟩
    · rcases hk with ⟨hk, _⟩ | ⟨_, hk, _⟩
      · exact absurd ⟨_, ho, hk⟩ hn
      · exact hk
    · exact hk
  have same : ∀ d k, k + d ≤ p → (∀ i, k ≤ i → i < k + d → ¬ lo i) → ss (k + d) = ss k := by
    intro d
    induction d with
    | zero => intro k _ _; rfl
    | succ d ih =>
      intro k hk hn
      rw [← Nat.add_assoc, same1 (k + d) (by omega) (hn _ (by omega) (by omega))]
      exact ih k (by omega) fun i h1 h2 => hn i h1 (by omega)
  have hG : ∀ j, j ≤ p → Grown pu σ (ss j) := by
    intro j
    induction j with
    | zero => intro _; rw [hss0]; exact .inr ⟨[], by simp⟩
    | succ j ih =>
      intro hj
      have ho : ops[j]? = some ops[j] := List.getElem?_eq_getElem (by omega)
      rcases (hst j (by omega) _ ho).2 with ⟨_, hk, _⟩ | ⟨_, _, hk, _⟩
      · rcases hk with ⟨_, _, hk⟩ | ⟨_, hk, _⟩
        · exact hk
        · rw [hk]; exact ih (by omega)
      · rw [hk]; exact ih (by omega)
  obtain ⟨top, htop⟩ : ∃ top : (Nat → Prop) → Nat, ∀ S, (∀ j, j < p → S j → lo j → j < top S) ∧ ∀ k, (∀ j, j < p → S j → lo j → j < k) → top S ≤ k := by
    have hex : ∀ S : Nat → Prop, ∃ n, (∀ j, j < p → S j → lo j → j < n) ∧ ∀ k, (∀ j, j < p → S j → lo j → j < k) → n ≤ k := fun S =>
      least (p := fun n => ∀ j, j < p → S j → lo j → j < n) p fun j hj _ _ => hj
    exact ⟨fun S => Classical.choose (hex S), fun S => Classical.choose_spec (hex S)⟩
  have topP : ∀ S, top S ≤ p := fun S => (htop S).2 p fun j hj _ _ => hj
  refine quiet_any (σ := ss p) (fun S => ss (top S)) hB2 hc hB3 hB4 (fun S h => ?_) (fun j o S imm m a w next Q' hj ho hsl hs hI hcl hnS hanc hn => ?_) hγ h3 _ _ a _ imm m ?_ (by simp) (fun i hi => absurd hi.1 (hrep i hi.2)) (fun i hi h => absurd hi (hrep i h)) ?_
    ⟨hf.defers, hf.size, fun t i h => absurd h.1.1 (hrep i h.1.2), fun t av _ h => hf.slot t av h⟩
  · have := same (p - top S) (top S) (by have := topP S; omega) fun i h1 h2 hl => by
      have := (htop S).1 i (by have := topP S; omega) (h i (by have := topP S; omega)) hl
      omega
    rw [show top S + (p - top S) = p by have := topP S; omega] at this
    exact this.symm
  · -- one operation, at whatever time it comes
    have hf := hI.names hc hcl ho hnS hanc
    have hlk : ∀ d av, d ∈ namesOf ops o → look (frL ops α0 vs j) d = some av → look (restr (namesOf ops o) (frL ops α0 vs j)) d = some av := fun d av hd h => by
      rw [look_restr, if_pos (by simpa using hd)]; exact h
    have hyield : ∀ (g d : Nat) (u : Value), (ops[g]?).bind (·.dst) = some d → look (frL ops α0 vs j) d = some (.c u) → d ∈ namesOf ops o → ((ops.toArray[g]?).bind (·.dst)).bind (a.tmps[·]?) = some u := fun g d u hgd hu hm => by
      obtain ⟨x, hx, r⟩ := hf.slot d _ (hlk d _ hm hu)
      simp only [List.getElem?_toArray, hgd, Option.bind_some, hx, r.c_inv]
    have hoa : ops.toArray[j]? = some o := by simpa using ho
    have hkeep : ¬ lo j → ss (top fun i => S i ∨ i = j) = ss (top S) := fun hn => by
      have h1 : top (fun i => S i ∨ i = j) ≤ top S := (htop _).2 _ fun i hi hS hl => by
        rcases hS with hS | rfl
        · exact (htop S).1 i hi hS hl
        · exact absurd hl hn
      have h2 : top S ≤ top (fun i => S i ∨ i = j) := (htop _).2 _ fun i hi hS hl => (htop _).1 i hi (.inl hS) hl
      rw [Nat.le_antisymm h1 h2]
    have hloud : lo j → ss (top S) = ss j ∧ ss (top fun i => S i ∨ i = j) = ss (j + 1) := fun hl => by
      obtain ⟨o', ho', hl'⟩ := hl
      rw [ho] at ho'
      cases ho'
      have hS : ∀ i, i < p → S i → lo i → i < j := fun i hi hS ⟨x, hx, hxl⟩ => by
        rcases Nat.lt_trichotomy i j with h | h | h
        · exact h
        · subst h; exact absurd hS hnS
        · exact absurd ((hcl i hS).2 j (loudOrd_spec hB5 h hi ho hx hl' hxl)) hnS
      have h1 : top S ≤ j := (htop S).2 j hS
      have h2 := same (j - top S) (top S) (by omega) fun i h1 h2 ⟨x, hx, hxl⟩ => by
        have hi : S i := hanc i (loudOrd_spec hB5 (by omega) hj hx ho hxl hl')
        have := (htop S).1 i (by omega) hi ⟨x, hx, hxl⟩
        omega
      rw [show top S + (j - top S) = j by omega] at h2
      refine ⟨h2.symm, ?_⟩
      have h3 : top (fun i => S i ∨ i = j) = j + 1 := Nat.le_antisymm ((htop _).2 _ fun i hi h9 hl => by
        rcases h9 with h9 | rfl
        · have := hS i hi h9 hl; omega
        · omega) ((htop _).1 j hj (.inr rfl) ⟨o, ho, hl'⟩)
      rw [h3]
    have hnolo : loudG bs o.op = false → ¬ lo j := fun h ⟨o', ho', hl'⟩ => by
      rw [ho] at ho'
      cases ho'
      rw [h] at hl'
      cases hl'
    have hcg : ∀ x ∈ o.op.operands, evF (frL ops α0 vs j) x = evF (restr (namesOf ops o) (frL ops α0 vs j)) x := fun x hx => by
      cases x with
      | tmp t => simp only [evF]; rw [look_restr, if_pos (by simpa using operand_names hx)]
      | _ => rfl
    unfold wpOpIn
    simp only [hoa]
    obtain ⟨hdN, ⟨hbt, hq, hg⟩ | ⟨hbf, hv, hσ, g, want, d, hg, hgd, hu⟩⟩ := hst j hj o ho
    · have hw : Region.wanted o (yielded ops.toArray a.tmps) = true := by
        cases hgo : o.guard with
        | none => simp [Region.wanted, hgo]
        | some gw =>
          obtain ⟨g, want⟩ := gw
          obtain ⟨d, hgd, hu⟩ := hg g want hgo
          have hy : yielded ops.toArray a.tmps g = some want := by simp only [yielded, hyield g d _ hgd hu (guard_names hgo hgd)]
          simp [Region.wanted, hgo, hy]
      rw [if_pos hw]
      rcases hq with ⟨hlo, hq, _⟩ | ⟨hlo, _, hq⟩
      · obtain ⟨e1, e2⟩ := hloud ⟨o, ho, hlo⟩
        rw [e1] at hs
        rw [AOp_congr o.op hsl hcg] at hq
        have hup := AOp_sound (dst := o.dst) (type := o.type) (pos := o.pos) (after := o.after) (guard := o.guard) o.op hs (evF_rep hf) hq
        refine wpIn_of_up (AOp_noDefer hq) hup fun imm' m' v av σ' w' hi hoo hs' hr hk => ?_
        obtain ⟨rfl, rfl⟩ := hk
        exact hn imm' m' v w' hi hoo (by rw [e2]; exact hs') ((hI.mono hi hoo).step hc hcl ho hnS hdN hr)
      · have e2 := hkeep (hnolo hlo)
        have hq' := hq _ (hG _ (topP S))
        rw [AOpQ_congr o.op hsl hcg] at hq'
        have hup := AOpQ_sound (dst := o.dst) (type := o.type) (pos := o.pos) (after := o.after) (guard := o.guard) o.op hs (evF_rep hf) hq'
        refine wpIn_of_up (AOpQ_noDefer hq') hup fun imm' m' v av σ' w' hi hoo hs' hr hk => ?_
        obtain ⟨rfl, rfl⟩ := hk
        exact hn imm' m' v w' hi hoo (by rw [e2]; exact hs') ((hI.mono hi hoo).step hc hcl ho hnS hdN hr)
    · have hw : Region.wanted o (yielded ops.toArray a.tmps) = false := by
        rcases hu with hu | ⟨t, hu⟩
        · have hy : yielded ops.toArray a.tmps g = some (!want) := by simp only [yielded, hyield g d _ hgd hu (guard_names hg hgd)]
          simp [Region.wanted, hg, hy]
        · have hy : yielded ops.toArray a.tmps g = none := by simp only [yielded, hyield g d _ hgd hu (guard_names hg hgd)]
          simp [Region.wanted, hg, hy]
      rw [if_neg (by rw [hw]; simp)]
      refine ⟨fun _ _ => Rnd_fn _ _, hn imm m undef w (.refl _) (.refl _) ?_ (hI.step hc hcl ho hnS hdN (by rw [hv]; exact .c _))⟩
      by_cases hl : lo j
      · obtain ⟨e1, e2⟩ := hloud hl
        rw [e2, hσ, ← e1]
        exact hs
      · rw [hkeep hl]
        exact hs
  · simp [left]
  · have h0 : top (fun i => i < ops.length ∧ (Array.replicate ops.toArray.size false).getD i true = true) = 0 := Nat.le_antisymm ((htop _).2 0 fun j _ h => absurd h.1 (hrep j h.2)) (Nat.zero_le _)
    show Sim K imm m { w with drawn := w.drawn + 1 } (ss (top _))
    rw [h0, hss0]
    exact hs.drew
end
/-- How many operations stand ahead of the first that writes what lies there. -/
def isWr : Op → Bool
  | .store .. => true
  | .insert .. => true
  | .mapUpdate .. => true
  | _ => false
def uptoW : List Oper → Nat
  | [] => 0
  | o :: r => match isWr o.op with
    | true => 0
    | false => uptoW r + 1
/-- Objects are made, what lies there is not written; from the first writing on all wait for all. -/
theorem AWP_drawW {rd : Option Nat} {P : Program} {N : Nat} {ops : List Oper} {α0 : AF} {σ : Store} {Q : Post} {id : Nat} (bs : Bool) (hm : P.follows .mixedOrders = true) (hB : (drawB ops (uptoW ops) && edgesBack ops && noSelect ops && decide (uptoW ops ≤ ops.length) && loudOrd (bs, false) ops (uptoW ops) && (!false || allPure (bs, false) ops)) = true)
    (h : greg P N ops (bs, false) false σ (fun α σ => areg P N ops (fun α σ => Q .normal α σ) (ops.drop (uptoW ops)) α σ) (ops.take (uptoW ops)) α0 σ) : AWPr rd P N (.region id ops.toArray true) Q α0 σ :=
  AWP_drawG (bs, false) false _ hm hB h
/-- One operation of such a part. -/
def gop (P : Program) (lo pu : Bool) (op : Op) (ev : Operand → Option AV) (σ0 σ : Store) (K : AV → Store → Prop) : Prop :=
  match lo with
  | true => AOpD P op ev σ fun v σ' => Grown pu σ0 σ' ∧ K v σ'
  | false => AOpK P op ev σ0 fun v => K v σ
section
variable {P : Program} {N : Nat} {ops : List Oper} {bs : Bool × Bool} {pu : Bool} {σ0 σ : Store} {K : AF → Store → Prop} {α : AF} {r : List Oper} {dst : Option Tmp} {op : Op} {ty : TypeId} {pos : String} {after : Array Edge} {g : Option (Nat × Bool)}
theorem greg_nil : greg P N ops bs pu σ0 K [] α σ = K α σ := rfl
theorem greg_cons : greg P N ops bs pu σ0 K ({ dst := dst, op := op, type := ty, pos := pos, after := after, guard := g } :: r) α σ = gateA ops g α
      (fun α => gop P (loudG bs op) pu op (evF α) σ0 σ fun av σ' => putA N dst av α fun α' => greg P N ops bs pu σ0 K r α' σ')
      (fun α => putA N dst (.c undef) α fun α' => greg P N ops bs pu σ0 K r α' σ) := rfl
theorem gop_t {ev : Operand → Option AV} {K : AV → Store → Prop} : gop P true pu op ev σ0 σ K = AOpD P op ev σ fun v σ' => Grown pu σ0 σ' ∧ K v σ' := rfl
theorem gop_f {ev : Operand → Option AV} {K : AV → Store → Prop} : gop P false pu op ev σ0 σ K = AOpK P op ev σ0 fun v => K v σ := rfl
@[congr] theorem gop_cg {lo lo' : Bool} {ev : Operand → Option AV} {K : AV → Store → Prop} (h : pass lo = lo') : gop P lo pu op ev σ0 σ K = gop P lo' pu op ev σ0 σ K := by rw [← h, pass_eq]
theorem Grown_self : Grown pu σ0 σ0 = True := by simp only [Grown, eq_iff_iff, iff_true]; exact .inr ⟨[], by simp⟩
theorem Grown_app {τ : Store} : Grown pu σ0 (σ0 ++ τ) = True := by simp only [Grown, eq_iff_iff, iff_true]; exact .inr ⟨τ, rfl⟩
theorem Grown_pu : Grown true σ0 σ = True := by simp [Grown]
theorem Grown_f : Grown false σ0 σ = Pre σ0 σ := by simp [Grown, Pre]
theorem Pre_app {l l' : Store} : Pre (σ ++ l) (σ ++ l') = Pre l l' := by simp [Pre]
theorem Pre_cons {x y : Ob} {l l' : Store} : Pre (x :: l) (y :: l') = (y = x ∧ Pre l l') := by simp [Pre]
theorem Pre_nil {l : Store} : Pre [] l = True := by simp [Pre]
theorem Pre_self : Pre σ σ = True := by simp [Pre]
theorem Pre_self2 {l : Store} : Pre σ (σ ++ l) = True := by simp [Pre]
end
/-- Every operation; a slice of constants is known by its content at once. -/
def AOpB (P : Program) (op : Op) (ev : Operand → Option AV) (σ : Store) (K : AV → Store → Prop) : Prop :=
  match op with
  | .buildSlice T n parts => on (elemSize P T) fun k => on (partsA ev parts.toList) fun ps => on (rowsA k 0 ps) fun es =>
    es.length = n ∧ n * k ≤ 16777216 ∧ (match P.underlying T with | some (.slice e) => (zeroA P e).map (·.length) = some k | _ => False) ∧ K (.sl es) σ
  | op => AOp P op ev σ K
theorem AOpB_sound {P : Program} {K0 : World} {imm : Imm} {m : Own} {w : World} {σ : Store} {ev : Operand → Option AV} {ρ : Operand → Value} (op : Op) (hs : Sim K0 imm m w σ) (hev : ∀ x av, ev x = some av → Rep imm m (ρ x) av) {Kont : AV → Store → Prop} (h : AOpB P op ev σ Kont)
    {dst : Option Tmp} {type : TypeId} {pos : String} {after : Array Edge} {guard : Option (Nat × Bool)} :
    Up P K0 imm m Kont ((execOp ρ { dst, op, type, pos, after, guard }).run P w) := by
  by_cases hb : ∃ T n parts, op = .buildSlice T n parts
  · obtain ⟨T, n, parts, rfl⟩ := hb
    obtain ⟨k, hk, h⟩ := on_elim h
    obtain ⟨ps, hps, h⟩ := on_elim h
    obtain ⟨es, hes, h1, h2, h3, h4⟩ := on_elim h
    have hq : AOpQ P (.buildSlice T n parts) ev σ (.sl es) := by
      simp only [AOpQ]
      rw [on_eq hk, on_eq hps, on_eq hes]
      exact ⟨h1, h2, h3, rfl⟩
    have hup := AOpQ_sound (dst := dst) (type := type) (pos := pos) (after := after) (guard := guard) _ hs hev hq
    generalize (execOp ρ { dst, op := .buildSlice T n parts, type, pos, after, guard }).run P w = r at hup
    cases r with
    | halt x w' => exact hup.elim
    | ok nx w' =>
      cases nx with
      | value u => obtain ⟨i, m', av, σ', a1, a2, a3, a4, rfl, rfl⟩ := hup; exact ⟨i, m', _, _, a1, a2, a3, a4, h4⟩
      | skip => obtain ⟨i, m', av, σ', a1, a2, a3, a4, rfl, rfl⟩ := hup; exact ⟨i, m', _, _, a1, a2, a3, a4, h4⟩
      | enter f args => exact Calls.mono hup fun e w'' ⟨i, m', u, av, σ', he, a1, a2, a3, a4, e1, e2⟩ => ⟨i, m', u, av, σ', he, a1, a2, a3, a4, by rw [e1, e2]; exact h4⟩
      | round l f tmps assign body => exact RoundIn.mono hup fun e w'' ⟨i, m', u, av, σ', he, a1, a2, a3, a4, e1, e2⟩ => ⟨i, m', u, av, σ', he, a1, a2, a3, a4, by rw [e1, e2]; exact h4⟩
      | _ => exact hup.elim
  · have h' : AOp P op ev σ Kont := by
      unfold AOpB at h
      split at h
      · exact absurd ⟨_, _, _, rfl⟩ hb
      · exact h
    exact AOp_sound op hs hev h'
theorem AOpB_noDefer {P : Program} {op : Op} {σ : Store} {ev : Operand → Option AV} {K : AV → Store → Prop} (h : AOpB P op ev σ K) : ∀ c, op ≠ .defer c := by
  rintro c rfl
  exact h
def breg (P : Program) (N : Nat) (ops : List Oper) (K : AF → Store → Prop) : List Oper → AF → Store → Prop
  | [], α, σ => K α σ
  | o :: r, α, σ => splitA ops o.guard α fun α => guardA ops o.guard α
      (fun α => AOpB P o.op (evF α) σ fun av σ' => putA N o.dst av α fun α' => breg P N ops K r α' σ')
      (fun α => putA N o.dst (.c undef) α fun α' => breg P N ops K r α' σ)
theorem breg_sound {rd : Option Nat} {P : Program} {N : Nat} {K0 : World} {ops : List Oper} {Q : Post} : ∀ (l : List Oper) (α : AF) (σ : Store) (imm : Imm) (m : Own) (w : World) (a : Act), Sim K0 imm m w σ → FOk K0 imm m N a α →
    breg P N ops (fun α σ => Q .normal α σ) l α σ → wpListIn (Rnd rd) 0 P ops.toArray (lift K0 N imm m Q) l a w := by
  intro l
  induction l with
  | nil => intro α σ imm m w a hs hf h; exact ⟨imm, m, α, σ, .refl _, .refl _, hs, hf, h⟩
  | cons o r ih =>
    intro α σ imm m w a hs hf h
    have mono : ∀ (imm' : Imm) (m' : Own), ILe imm imm' → OLe m m' → ∀ a' w', wpListIn (Rnd rd) 0 P ops.toArray (lift K0 N imm' m' Q) r a' w' → wpListIn (Rnd rd) 0 P ops.toArray (lift K0 N imm m Q) r a' w' := by
      intro imm' m' hi ho
      have hq : ∀ e a w, lift K0 N imm' m' Q e a w → lift K0 N imm m Q e a w := fun e a w h => lift_mono hi ho h
      exact wpListIn_mono hq r
    simp only [breg] at h
    unfold wpListIn
    rcases guardA_sound hf h with ⟨hw, β, hfb, h⟩ | ⟨hw, β, hfb, h⟩
    · rw [if_pos hw]
      have hup := AOpB_sound (dst := o.dst) (type := o.type) (pos := o.pos) (after := o.after) (guard := o.guard) o.op hs (evF_rep hfb) h
      refine wpIn_of_up (AOpB_noDefer h) hup fun imm' m' v av σ' w' hi ho hs' hr hk => ?_
      obtain ⟨α', hf', hk'⟩ := putA_sound (hfb.mono hi ho) hr hk
      exact mono imm' m' hi ho _ _ (ih α' σ' imm' m' w' _ hs' hf' hk')
    · rw [if_neg (by rw [hw]; simp)]
      obtain ⟨α', hf', hk'⟩ := putA_sound hfb (.c undef) h
      exact ⟨fun f _ => Rnd_fn _ _, ih α' σ imm m w _ hs hf' hk'⟩
/-- A region whose slices of constants are known by their content. -/
theorem AWP_regionB {rd : Option Nat} {P : Program} {N : Nat} {α : AF} {σ : Store} {id : Nat} {ops : List Oper} {Q : Post} (h : breg P N ops (fun α σ => Q .normal α σ) ops α σ) : AWPr rd P N (.region id ops.toArray false) Q α σ :=
  fun _ imm m w a hs hf => wpIn_region_lit (breg_sound ops α σ imm m w a hs hf h)
section
variable {P : Program} {N : Nat} {ops : List Oper} {σ : Store} {K : AF → Store → Prop} {α : AF} {r : List Oper} {dst : Option Tmp} {op : Op} {ty : TypeId} {pos : String} {after : Array Edge} {g : Option (Nat × Bool)}
theorem breg_nil : breg P N ops K [] α σ = K α σ := rfl
theorem breg_cons : breg P N ops K ({ dst := dst, op := op, type := ty, pos := pos, after := after, guard := g } :: r) α σ = gateA ops g α
      (fun α => AOpB P op (evF α) σ fun av σ' => putA N dst av α fun α' => breg P N ops K r α' σ') (fun α => putA N dst (.c undef) α fun α' => breg P N ops K r α' σ) := rfl
end
end Go.Proofs.YtephecognbbaoabGreat
