/- More words of the walk's simplifier: places behind a grown part of the store. -/
import Derived.Test.YtephecognbbaoabZTab
import Derived.Test.YtephecognbbaoabZLo
open Go
set_option linter.all false
set_option maxRecDepth 100000
set_option maxHeartbeats 4000000
namespace Go.Proofs.Ytephecognbbaoab
open Go
set_option linter.all false
set_option maxRecDepth 100000
set_option maxHeartbeats 4000000
/-- Short names for the walk's steps. -/
theorem g_x {p : Prop} (h : p := by first | omega | (unfold I64; omega) | (unfold maxLen; omega) | assumption | (with_reducible rfl) | (simp; done) | (simp [oneA, Value.oneCell']; done) | fail) : p := h
theorem g_f {p : Prop} (h : False := by first | contradiction | omega) : p := h.elim
theorem g_q {P : Program} {f : FuncId} {args : List AV} {σ : Store} {X : AV} {K : AV → Prop} (h : ∀ τ, ACalls P f args (σ ++ τ) fun r σ' => σ' = σ ++ τ ∧ r = X) (hk : K X) : callQ P f args σ K := callQ_use h hk
section
variable {rd : Option Nat} {N : Nat} {Q : Post} {α : AF} {σ : Store}
theorem g_s {P : Program} {x y : Code} (h : ∀ K : AF → Store → Prop, (∀ α σ, AWPr rd P N y Q α σ → K α σ) → AWPr rd P N x (thenQ K Q) α σ) : AWPr rd P N (.seq x y) Q α σ := AWP_seq_k h
theorem g_b {P : Program} {id : Nat} {c : Code} (h : AWPr rd P N c (blockQ id Q) α σ) : AWPr rd P N (.block id c) Q α σ := AWP_block h
theorem g_r {P : Program} {c : Code} {n : Nat} (h : AWPr rd P N c (thenQ (ARounds rd P N c Q n) Q) α σ) : ARounds rd P N c Q (n + 1) α σ := ARounds_step h
theorem g_k {P : Program} (h : Q .normal α σ) : AWPr rd P N .skip Q α σ := AWP_skip h
theorem g_e {P : Program} {id : Nat} (h : Q (.exit id) α σ) : AWPr rd P N (.exit id) Q α σ := AWP_exit h
theorem g_t {P : Program} (h : Q .ret α σ) : AWPr rd P N .ret Q α σ := AWP_ret h
theorem g_c {P : Program} {t : Nat} {x y : Code} {b : Bool} (h1 : b = true → AWPr rd P N x Q α σ) (h2 : b = false → AWPr rd P N y Q α σ) (hl : look α t = some (.c (.bool b)) := by rfl) : AWPr rd P N (.cond (.tmp t) x y) Q α σ := AWP_cond hl h1 h2
theorem g_g {P : Program} {id : Nat} {ops : List Oper} (h : areg P N ops (fun α σ => Q .normal α σ) ops α σ) : AWPr rd P N (.region id ops.toArray false) Q α σ := AWP_region h
theorem g_G {P : Program} {id : Nat} {ops : List Oper} (h : breg P N ops (fun α σ => Q .normal α σ) ops α σ) : AWPr rd P N (.region id ops.toArray false) Q α σ := AWP_regionB h
theorem g_U {id : Nat} {ops : List Oper} (h : kreg Try.prog N ops σ (fun α => areg Try.prog N ops (fun α σ => Q .normal α σ) (ops.drop (upto ops)) α σ) (ops.take (upto ops)) α)
    (hB : (drawB ops (upto ops) && edgesBack ops && noSelect ops && decide (upto ops ≤ ops.length)) = true := by decide +kernel) : AWPr rd Try.prog N (.region id ops.toArray true) Q α σ := AWP_drawU tab_mixed hB h
theorem g_A {id : Nat} {ops : List Oper} {T : TypeId} (h : on (zeroA Try.prog T) fun z => mreg Try.prog N ops σ z (fun α => areg Try.prog N ops (fun α σ => Q .normal α σ) (ops.drop (uptoA ops true)) α (σ ++ [.cells z.length [z]])) (ops.take (uptoA ops true)) α)
    (hB : (drawB ops (uptoA ops true) && edgesBack ops && noSelect ops && decide (uptoA ops true ≤ ops.length) && oneAlloc ops (uptoA ops true)) = true := by decide +kernel) (hT : allocT ops = some T := by rfl) : AWPr rd Try.prog N (.region id ops.toArray true) Q α σ := AWP_drawA tab_mixed hB hT h
theorem g_W {id : Nat} {ops : List Oper} (h : greg Try.prog N ops (false, false) false σ (fun α σ => areg Try.prog N ops (fun α σ => Q .normal α σ) (ops.drop (uptoW ops)) α σ) (ops.take (uptoW ops)) α σ)
    (hB : (drawB ops (uptoW ops) && edgesBack ops && noSelect ops && decide (uptoW ops ≤ ops.length) && loudOrd (false, false) ops (uptoW ops) && (!false || allPure (false, false) ops)) = true := by decide +kernel) : AWPr rd Try.prog N (.region id ops.toArray true) Q α σ := AWP_drawW false tab_mixed hB h
end
def intA1 (n : Int) : AV := .c (.int .i64 n)
def boolA (b : Bool) : AV := .c (.bool b)
def intC (n : Int) : List AV := [.c (.int .i64 n)]
def byteC (n : Int) : List AV := [.c (.int .u8 n)]
def intsA (l : List Int) : AV := .sl (l.map intC)
def bytesA (l : List Int) : AV := .sl (l.map byteC)
attribute [go_sem] intA1 boolA intC byteC intsA bytesA
theorem len_map {X : Type} {f : X → List AV} {k : Nat} (h : ∀ x, (f x).length = k) (l : List X) : (∀ e', e' ∈ l.map f → e'.length = k) = True :=
  eq_true fun e' he => by obtain ⟨x, _, rfl⟩ := List.mem_map.1 he; exact h x
theorem one_map {X : Type} {f : X → List AV} (h : ∀ x, (f x).all oneA = true) (l : List X) : (∀ e', e' ∈ l.map f → e'.all oneA = true) = True :=
  eq_true fun e' he => by obtain ⟨x, _, rfl⟩ := List.mem_map.1 he; exact h x
theorem Bd.ints {n : Nat} (l : List Int) : Bd n (.sl (l.map intC)) := .slL (fun _ => .cons (.c _) .nil) l
theorem intC_len (l : List Int) : (∀ e', e' ∈ l.map intC → e'.length = 1) = True := len_map (f := intC) (fun _ => rfl) l
theorem intC_one (l : List Int) : (∀ e', e' ∈ l.map intC → e'.all oneA = true) = True := one_map (f := intC) (fun _ => rfl) l
theorem byteC_len (l : List Int) : (∀ e', e' ∈ l.map byteC → e'.length = 1) = True := len_map (f := byteC) (fun _ => rfl) l
theorem byteC_one (l : List Int) : (∀ e', e' ∈ l.map byteC → e'.all oneA = true) = True := one_map (f := byteC) (fun _ => rfl) l
attribute [go_sem] intC_len intC_one byteC_len byteC_one
/-- What an own slice at a known place holds, whole. -/
theorem elemsA_st (σ τ ρ : Store) {k : Nat} (es : List (List AV)) {n c : Nat} (hn : n = es.length) : elemsA (σ ++ (τ ++ .cells k es :: ρ)) (.own (σ.length + τ.length) k 0 n c) = some es := by
  subst hn
  have e : (σ ++ (τ ++ .cells k es :: ρ))[σ.length + τ.length]? = some (.cells k es) := by rw [st1, st0]; rfl
  rw [elemsA_eq]
  simp [elemsB, e]
/-- Where the first one is of which p says yes; -1: none. -/
def firstI {X : Type} (p : X → Bool) (k : Int) : List X → Int
  | [] => -1
  | x :: r => if p x then k else firstI p (k + 1) r
theorem firstI_ge {X : Type} (p : X → Bool) : ∀ (l : List X) (k : Int), 0 ≤ k → decide (firstI p k l ≥ 0) = l.any p
  | [], k, _ => rfl
  | x :: r, k, hk => by
    have ih := firstI_ge p r (k + 1) (by omega)
    simp only [firstI, List.any_cons]
    by_cases hp : p x = true
    · simp [hp, hk]
    · simp only [hp, Bool.false_or, ← ih, if_false, Bool.false_eq_true]
theorem indexFunc_int (l : List Int) (p : Int → Bool) (f : FuncId) (first cap : List AV) (σ : Store) (hl : l.length ≤ 1000000000000000000) (hok : callOk Try.prog f = true)
    (hf : ∀ x ∈ l, ACalls Try.prog f (first ++ intA1 x :: cap) σ fun r σ' => σ' = σ ∧ r = .c (.bool (p x))) :
    ACalls Try.prog 159 [intsA l, .fn f first cap] σ fun r σ' => σ' = σ ∧ r = intA1 (firstI p 0 l) := by
  refine ACalls_of_awp Try.func159 rfl Try.results159 ?_
  simp only [List.length_cons, List.length_nil, Try.ntmps159, Nat.reduceAdd, Nat.reduceSub, enterA]
  (repeat' (first|(refine g_s fun K hK=>?_)|(refine g_b ?_)|(refine g_r ?_)|(refine g_k ?_;simp only[thenQ,blockQ])|(refine g_e ?_;simp only[thenQ,blockQ,↓reduceIte,Nat.reduceEqDiff])|(refine g_c (fun h=>?_) (fun h=>?_)<;>(try simp only[go_sem] at h)<;>(try exact g_f))|((first|refine g_t ?_|refine g_g ?_|refine g_U ?_|refine g_A ?_|refine g_W ?_);(try simp -implicitDefEqProofs only[go_sem]))|(with_reducible refine hK _ _ ?_;clear hK K)|(clear hK K;first|(with_reducible refine hK _ _ ?_;clear hK K)|(clear hK K;with_reducible refine hK _ _ ?_;clear hK K)|(clear hK K;clear hK K;with_reducible refine hK _ _ ?_;clear hK K))|(with_reducible refine splitB_intro (fun h=>?_) (fun h=>?_)<;>(try simp only[go_sem] at h)<;>(try exact g_f)<;>(try simp -implicitDefEqProofs only[go_sem]))|(with_reducible refine And.intro (fun h=>?_) (fun h=>?_)<;>(try simp only[go_sem] at h)<;>(try exact g_f))|(with_reducible refine And.intro ?_ ?_;· exact g_x)|(with_reducible intro h;(try simp only[go_sem] at h);(try exact g_f))))
  refine AWP_each l (fun k r _ => firstI p 0 l = firstI p k r) (fun k _ _ => [(8, intA1 k)]) (fun _ _ _ => σ) () [] rfl rfl (ALe_of ?_) ?_ ?_
  · simp -implicitDefEqProofs only [go_sem]
  · rintro k r s τ hk0 hk1 h1 L hL
    have hc := hf _ (at0_mem l hk0 hk1)
    simp -implicitDefEqProofs only [go_sem]
    (repeat' (first|(refine g_s fun K hK=>?_)|(refine g_b ?_)|(refine g_r ?_)|(refine g_k ?_;simp only[thenQ,blockQ])|(refine g_e ?_;simp only[thenQ,blockQ,↓reduceIte,Nat.reduceEqDiff])|(refine g_c (fun h=>?_) (fun h=>?_)<;>(try simp only[go_sem] at h)<;>(try exact g_f))|((first|refine g_t ?_|refine g_g ?_|refine g_U ?_|refine g_A ?_|refine (hc).use ?_|refine g_q (fun τ=>hc) ?_|refine g_W ?_);(try simp -implicitDefEqProofs only[go_sem]))|(with_reducible refine hK _ _ ?_;clear hK K)|(clear hK K;first|(with_reducible refine hK _ _ ?_;clear hK K)|(clear hK K;with_reducible refine hK _ _ ?_;clear hK K)|(clear hK K;clear hK K;with_reducible refine hK _ _ ?_;clear hK K))|(with_reducible refine splitB_intro (fun h=>?_) (fun h=>?_)<;>(try simp only[go_sem] at h)<;>(try exact g_f)<;>(try simp -implicitDefEqProofs only[go_sem]))|(with_reducible refine And.intro (fun h=>?_) (fun h=>?_)<;>(try simp only[go_sem] at h)<;>(try exact g_f))|(with_reducible refine And.intro ?_ ?_;· exact g_x)|(with_reducible intro h;(try simp only[go_sem] at h);(try exact g_f))))
    · rw [h1, firstI, if_pos (by assumption)]
    · refine hL () [] _ _ ?_ (ALe_of ?_) rfl
      · rw [h1, firstI, if_neg (by simp [*])]
      · simp -implicitDefEqProofs only [go_sem]
  · intro k s τ hk h1 L
    simp -implicitDefEqProofs only [go_sem]
    (repeat' (first|(refine g_s fun K hK=>?_)|(refine g_b ?_)|(refine g_r ?_)|(refine g_k ?_;simp only[thenQ,blockQ])|(refine g_e ?_;simp only[thenQ,blockQ,↓reduceIte,Nat.reduceEqDiff])|(refine g_c (fun h=>?_) (fun h=>?_)<;>(try simp only[go_sem] at h)<;>(try exact g_f))|((first|refine g_t ?_|refine g_g ?_|refine g_U ?_|refine g_A ?_|refine g_W ?_);(try simp -implicitDefEqProofs only[go_sem]))|(with_reducible refine hK _ _ ?_;clear hK K)|(clear hK K;first|(with_reducible refine hK _ _ ?_;clear hK K)|(clear hK K;with_reducible refine hK _ _ ?_;clear hK K)|(clear hK K;clear hK K;with_reducible refine hK _ _ ?_;clear hK K))|(with_reducible refine splitB_intro (fun h=>?_) (fun h=>?_)<;>(try simp only[go_sem] at h)<;>(try exact g_f)<;>(try simp -implicitDefEqProofs only[go_sem]))|(with_reducible refine And.intro (fun h=>?_) (fun h=>?_)<;>(try simp only[go_sem] at h)<;>(try exact g_f))|(with_reducible refine And.intro ?_ ?_;· exact g_x)|(with_reducible intro h;(try simp only[go_sem] at h);(try exact g_f))))
    rw [h1, firstI]
theorem containsFunc_int (l : List Int) (p : Int → Bool) (f : FuncId) (first cap : List AV) (σ : Store) (hl : l.length ≤ 1000000000000000000) (hok : callOk Try.prog f = true)
    (hf : ∀ x ∈ l, ACalls Try.prog f (first ++ intA1 x :: cap) σ fun r σ' => σ' = σ ∧ r = .c (.bool (p x))) :
    ACalls Try.prog 114 [intsA l, .fn f first cap] σ fun r σ' => σ' = σ ∧ r = .c (.bool (l.any p)) := by
  have hc := indexFunc_int l p f first cap σ hl hok hf
  refine ACalls_of_awp Try.func114 rfl Try.results114 ?_
  simp only [List.length_cons, List.length_nil, Try.ntmps114, Nat.reduceAdd, Nat.reduceSub, enterA]
  (repeat' (first|(refine g_s fun K hK=>?_)|(refine g_b ?_)|(refine g_r ?_)|(refine g_k ?_;simp only[thenQ,blockQ])|(refine g_e ?_;simp only[thenQ,blockQ,↓reduceIte,Nat.reduceEqDiff])|(refine g_c (fun h=>?_) (fun h=>?_)<;>(try simp only[go_sem] at h)<;>(try exact g_f))|((first|refine g_t ?_|refine g_g ?_|refine g_U ?_|refine g_A ?_|refine (hc).use ?_|refine g_q (fun τ=>hc) ?_|refine g_W ?_);(try simp -implicitDefEqProofs only[go_sem]))|(with_reducible refine hK _ _ ?_;clear hK K)|(clear hK K;first|(with_reducible refine hK _ _ ?_;clear hK K)|(clear hK K;with_reducible refine hK _ _ ?_;clear hK K)|(clear hK K;clear hK K;with_reducible refine hK _ _ ?_;clear hK K))|(with_reducible refine splitB_intro (fun h=>?_) (fun h=>?_)<;>(try simp only[go_sem] at h)<;>(try exact g_f)<;>(try simp -implicitDefEqProofs only[go_sem]))|(with_reducible refine And.intro (fun h=>?_) (fun h=>?_)<;>(try simp only[go_sem] at h)<;>(try exact g_f))|(with_reducible refine And.intro ?_ ?_;· exact g_x)|(with_reducible intro h;(try simp only[go_sem] at h);(try exact g_f))))
  rw [← firstI_ge p l 0 (Int.le_refl _)]
theorem bd2 {n : Nat} (a b : Value) : Bd n (.tup [.c a, .c b]) := .tup _ fun i h => by
  match i, h with
  | 0, _ => exact .c _
  | 1, _ => exact .c _
theorem at0_eq {X : Type} [Inhabited X] {a b : List X} (hl : a.length = b.length) (h : ∀ k : Int, 0 ≤ k → k < a.length → at0 a k = at0 b k) : a = b := by
  apply List.ext_getElem hl
  intro i h1 h2
  have := h i (by omega) (by omega)
  simpa [at0, List.getD_eq_getElem?_getD, h1, h2] using this
theorem sameInts_calls (a b : List Int) (hl : a.length ≤ 1000000000000000000) (σ : Store) : ACalls Try.prog 91 [intsA a, intsA b] σ fun r σ' => σ' = σ ∧ r = .c (.bool (decide (a = b))) := by
  refine ACalls_of_awp Try.func91 rfl Try.results91 ?_
  simp only [List.length_cons, List.length_nil, Try.ntmps91, Nat.reduceAdd, Nat.reduceSub, enterA]
  (repeat' (first|(refine g_s fun K hK=>?_)|(refine g_b ?_)|(refine g_r ?_)|(refine g_k ?_;simp only[thenQ,blockQ])|(refine g_e ?_;simp only[thenQ,blockQ,↓reduceIte,Nat.reduceEqDiff])|(refine g_c (fun h=>?_) (fun h=>?_)<;>(try simp only[go_sem] at h)<;>(try exact g_f))|((first|refine g_t ?_|refine g_g ?_|refine g_U ?_|refine g_A ?_|refine g_W ?_);(try simp -implicitDefEqProofs only[go_sem]))|(with_reducible refine hK _ _ ?_;clear hK K)|(clear hK K;first|(with_reducible refine hK _ _ ?_;clear hK K)|(clear hK K;with_reducible refine hK _ _ ?_;clear hK K)|(clear hK K;clear hK K;with_reducible refine hK _ _ ?_;clear hK K))|(with_reducible refine splitB_intro (fun h=>?_) (fun h=>?_)<;>(try simp only[go_sem] at h)<;>(try exact g_f)<;>(try simp -implicitDefEqProofs only[go_sem]))|(with_reducible refine And.intro (fun h=>?_) (fun h=>?_)<;>(try simp only[go_sem] at h)<;>(try exact g_f))|(with_reducible refine And.intro ?_ ?_;· exact g_x)|(with_reducible intro h;(try simp only[go_sem] at h);(try exact g_f))))
  · rw [decide_eq_false (fun e : a = b => h (by rw [e]))]
  refine AWP_for (a.length : Int) (fun k _ => ∀ i : Int, 0 ≤ i → i < k → at0 a i = at0 b i) (fun k _ _ => [(5, intA1 k)]) (fun _ _ _ => σ) () [] (by omega) (fun i h1 h2 => by omega) rfl (ALe_of ?_) ?_
  · simp -implicitDefEqProofs only [go_sem]
  · rintro k _ τ hk0 hk1 hH L hL
    simp -implicitDefEqProofs only [go_sem]
    (repeat' (first|(refine g_s fun K hK=>?_)|(refine g_b ?_)|(refine g_r ?_)|(refine g_k ?_;simp only[thenQ,blockQ])|(refine g_e ?_;simp only[thenQ,blockQ,↓reduceIte,Nat.reduceEqDiff])|(refine g_c (fun h=>?_) (fun h=>?_)<;>(try simp only[go_sem] at h)<;>(try exact g_f))|((first|refine g_t ?_|refine g_g ?_|refine g_U ?_|refine g_A ?_|refine g_W ?_);(try simp -implicitDefEqProofs only[go_sem]))|(with_reducible refine hK _ _ ?_;clear hK K)|(clear hK K;first|(with_reducible refine hK _ _ ?_;clear hK K)|(clear hK K;with_reducible refine hK _ _ ?_;clear hK K)|(clear hK K;clear hK K;with_reducible refine hK _ _ ?_;clear hK K))|(with_reducible refine splitB_intro (fun h=>?_) (fun h=>?_)<;>(try simp only[go_sem] at h)<;>(try exact g_f)<;>(try simp -implicitDefEqProofs only[go_sem]))|(with_reducible refine And.intro (fun h=>?_) (fun h=>?_)<;>(try simp only[go_sem] at h)<;>(try exact g_f))|(with_reducible refine And.intro ?_ ?_;· exact g_x)|(with_reducible intro h;(try simp only[go_sem] at h);(try exact g_f))))
    · rw [decide_eq_false (fun e : a = b => h (by rw [e]))]
    · refine hL (by assumption) () [] _ _ ?_ (ALe_of ?_) rfl
      · intro i h1 h2
        rcases Int.lt_or_eq_of_le (Int.le_of_lt_add_one h2) with h3 | h3
        · exact hH i h1 h3
        · rw [h3]; assumption
      · simp -implicitDefEqProofs only [go_sem]
    · rw [decide_eq_true (at0_eq (by omega) fun i h1 h2 => hH i h1 (by omega) : a = b)]
end Go.Proofs.Ytephecognbbaoab
namespace Go.Proofs.Ytephecognbbaoab
open Go
set_option linter.all false
theorem keyed_int : Go.Maps.Keyed Try.prog 3 = True := eq_true (Go.Maps.int_keyed Try.underlying3)
theorem keyK_int (n : Int) : keyK Try.prog 3 (.int .i64 n) = I64 n := by
  have h : keyOf Try.prog 3 (.int .i64 n) = if (Lit.int IntKind.i64 n).wf = true then some (.int .i64 n) else none := by simp [keyOf, mapKey, Try.underlying3]
  have h2 : (Lit.int IntKind.i64 n).wf = true ↔ I64 n := by
    simp [Lit.wf, IntKind.min, IntKind.max, IntKind.bits, IntKind.signed, I64]
  unfold keyK
  rw [h]
  apply propext
  constructor
  · rintro ⟨l, hl⟩
    split at hl
    · exact h2.1 (by assumption)
    · cases hl
  · intro h3
    exact ⟨_, if_pos (h2.2 h3)⟩
attribute [go_sem] keyed_int keyK_int
theorem tab_map_shape : mapT Try.prog 171 = some (3, 169) := by kernel_rfl
theorem tab_zv_shape : zeroV Try.prog 169 = some (.agg #[.int .i64 0, .bool false]) := by kernel_rfl
attribute [go_sem] tab_map_shape tab_zv_shape
theorem tab_map_int : mapT Try.prog 191 = some (3, 3) := by kernel_rfl
theorem tab_map_bool : mapT Try.prog 184 = some (3, 4) := by kernel_rfl
theorem tab_zv_int : zeroV Try.prog 3 = some (.int .i64 0) := by kernel_rfl
theorem tab_zv_bool : zeroV Try.prog 4 = some (.bool false) := by kernel_rfl
attribute [go_sem] tab_map_int
attribute [go_sem] tab_map_bool
attribute [go_sem] tab_zv_int tab_zv_bool Option.getD_some Option.getD_none
end Go.Proofs.Ytephecognbbaoab
namespace Go.Proofs.Ytephecognbbaoab
open Go
set_option linter.all false
/-- Objects are made, and written, meanwhile; all of it. -/
theorem AWP_drawL {rd : Option Nat} {P : Program} {N : Nat} {ops : List Oper} {α0 : AF} {σ : Store} {Q : Post} {id : Nat} (bs pu : Bool) (hm : P.follows .mixedOrders = true) (hB : (drawB ops ops.length && edgesBack ops && noSelect ops && decide (ops.length ≤ ops.length) && loudOrd (bs, false) ops ops.length && (!pu || allPure (bs, false) ops)) = true)
    (h : greg P N ops (bs, false) pu σ (fun α σ => Q .normal α σ) ops α0 σ) : AWPr rd P N (.region id ops.toArray true) Q α0 σ :=
  AWP_drawG (bs, false) pu ops.length hm hB (by rw [List.take_length, List.drop_length]; exact h)
theorem sc1 (τ l : Store) (a : Ob) (k : Nat) : (a :: (τ ++ l))[τ.length + (k + 1)]? = l[k]? := by rw [← Nat.add_assoc, List.getElem?_cons_succ]; exact st1 τ l k
theorem sc2 (τ l : Store) (a b : Ob) (k : Nat) : (a :: b :: (τ ++ l))[τ.length + (k + 2)]? = l[k]? := by rw [← Nat.add_assoc, List.getElem?_cons_succ, ← sc1 τ l b k]; rfl
theorem sc3 (τ l : Store) (a b c : Ob) (k : Nat) : (a :: b :: c :: (τ ++ l))[τ.length + (k + 3)]? = l[k]? := by rw [← Nat.add_assoc, List.getElem?_cons_succ, ← sc2 τ l b c k]; rfl
theorem sc4 (τ l : Store) (a b c d : Ob) (k : Nat) : (a :: b :: c :: d :: (τ ++ l))[τ.length + (k + 4)]? = l[k]? := by rw [← Nat.add_assoc, List.getElem?_cons_succ, ← sc3 τ l b c d k]; rfl
theorem ss1c (τ l : Store) (a x : Ob) (k : Nat) : (a :: (τ ++ l)).set (τ.length + (k + 1)) x = a :: (τ ++ l.set k x) := by rw [← Nat.add_assoc, List.set_cons_succ, ss1]
theorem ss2c (τ l : Store) (a b x : Ob) (k : Nat) : (a :: b :: (τ ++ l)).set (τ.length + (k + 2)) x = a :: b :: (τ ++ l.set k x) := by rw [← Nat.add_assoc, List.set_cons_succ, ← ss1c τ l b x k]; rfl
theorem ss3c (τ l : Store) (a b c x : Ob) (k : Nat) : (a :: b :: c :: (τ ++ l)).set (τ.length + (k + 3)) x = a :: b :: c :: (τ ++ l.set k x) := by rw [← Nat.add_assoc, List.set_cons_succ, ← ss2c τ l b c x k]; rfl
theorem ss4c (τ l : Store) (a b c d x : Ob) (k : Nat) : (a :: b :: c :: d :: (τ ++ l)).set (τ.length + (k + 4)) x = a :: b :: c :: d :: (τ ++ l.set k x) := by rw [← Nat.add_assoc, List.set_cons_succ, ← ss3c τ l b c d x k]; rfl
attribute [go_sem] sc1 sc2 sc3 sc4 ss1c ss2c ss3c ss4c
theorem tab_elem_arr3 : arrSize Try.prog 211 = some (1, 3) := by kernel_rfl
attribute [go_sem] tab_elem_arr3
end Go.Proofs.Ytephecognbbaoab
/- Nets of nodes, in plain Lean: their form. -/
namespace Go.Proofs.Ytephecognbbaoab
structure Alg where
  size : Int
  best : List (List Int)
  edges : List (List Int)
deriving DecidableEq
structure Brk where
  law : Int
  a : Int
  b : Int
  c : Int
  edge : Int
deriving DecidableEq
def at2 (l : List (List Int)) (i j : Int) : Int := at0 (at0 l i) j
def inR (n lo hi : Int) : Bool := decide (lo ≤ n) && decide (n ≤ hi)
theorem inR_iff {n lo hi : Int} : inR n lo hi = true ↔ lo ≤ n ∧ n ≤ hi := by simp [inR]
theorem not_inR {n lo hi : Int} : (!inR n lo hi) = true ↔ n < lo ∨ hi < n := by simp only [Bool.not_eq_true', ← Bool.not_eq_true, inR_iff]; omega
def checkA (x : Alg) : Int :=
  if !inR x.size 2 24 then 3
  else if 8 < x.edges.length then 2
  else if (x.best.length : Int) ≠ x.size then 1
  else if (x.best ++ x.edges).any (fun r => decide ((r.length : Int) ≠ x.size)) then 1
  else if (x.best ++ x.edges).any (fun r => r.any fun n => !inR n 0 (x.size - 1)) then 5
  else 0
structure Right (x : Alg) : Prop where
  s2 : 2 ≤ x.size
  s24 : x.size ≤ 24
  e8 : x.edges.length ≤ 8
  bl : (x.best.length : Int) = x.size
  row : ∀ r ∈ x.best ++ x.edges, (r.length : Int) = x.size
  val : ∀ r ∈ x.best ++ x.edges, ∀ n ∈ r, 0 ≤ n ∧ n ≤ x.size - 1
theorem right_iff {x : Alg} : checkA x = 0 ↔ Right x := by
  unfold checkA
  constructor
  · intro h
    split at h
    · cases h
    split at h
    · cases h
    split at h
    · cases h
    split at h
    · cases h
    split at h
    · cases h
    rename_i h1 h2 h3 h4 h5
    have h1' : 2 ≤ x.size ∧ x.size ≤ 24 := inR_iff.1 (by simpa using h1)
    refine ⟨h1'.1, h1'.2, by omega, by omega, fun r hr => ?_, fun r hr n hn => ?_⟩
    · have h4' : ∀ r ∈ x.best ++ x.edges, ¬ ((r.length : Int) ≠ x.size) := by
        intro r hr hne
        exact h4 (List.any_eq_true.2 ⟨r, hr, by simpa using hne⟩)
      have := h4' r hr
      omega
    · apply Classical.byContradiction
      intro hc
      refine h5 (List.any_eq_true.2 ⟨r, hr, List.any_eq_true.2 ⟨n, hn, not_inR.2 (by omega)⟩⟩)
  · intro h
    have k1 : ¬ (!inR x.size 2 24) = true := by rw [not_inR]; have := h.s2; have := h.s24; omega
    have k4 : ¬ ((x.best ++ x.edges).any (fun r => decide ((r.length : Int) ≠ x.size))) = true := by
      intro hc
      obtain ⟨r, hr, hn⟩ := List.any_eq_true.1 hc
      exact (of_decide_eq_true hn) (h.row r hr)
    have k5 : ¬ ((x.best ++ x.edges).any (fun r => r.any fun n => !inR n 0 (x.size - 1))) = true := by
      intro hc
      obtain ⟨r, hr, hn⟩ := List.any_eq_true.1 hc
      obtain ⟨n, hn, hb⟩ := List.any_eq_true.1 hn
      have := h.val r hr n hn
      rw [not_inR] at hb
      omega
    rw [if_neg k1, if_neg (by have := h.e8; omega), if_neg (by have := h.bl; omega), if_neg k4, if_neg k5]
section
variable {x : Alg}
theorem Right.best_row (h : Right x) {i : Int} (h0 : 0 ≤ i) (h1 : i < x.size) : at0 x.best i ∈ x.best := at0_mem _ h0 (by have := h.bl; omega)
theorem Right.best_len (h : Right x) {i : Int} (h0 : 0 ≤ i) (h1 : i < x.size) : ((at0 x.best i).length : Int) = x.size := h.row _ (List.mem_append_left _ (h.best_row h0 h1))
theorem Right.best_in (h : Right x) {i j : Int} (h0 : 0 ≤ i) (h1 : i < x.size) (h2 : 0 ≤ j) (h3 : j < x.size) : 0 ≤ at2 x.best i j ∧ at2 x.best i j < x.size := by
  have := h.val _ (List.mem_append_left _ (h.best_row h0 h1)) (at2 x.best i j) (at0_mem _ h2 (by have := h.best_len h0 h1; omega))
  omega
theorem Right.edge_row (h : Right x) {i : Int} (h0 : 0 ≤ i) (h1 : i < x.edges.length) : at0 x.edges i ∈ x.edges := at0_mem _ h0 h1
theorem Right.edge_len (h : Right x) {i : Int} (h0 : 0 ≤ i) (h1 : i < x.edges.length) : ((at0 x.edges i).length : Int) = x.size := h.row _ (List.mem_append_right _ (h.edge_row h0 h1))
theorem Right.edge_in (h : Right x) {i j : Int} (h0 : 0 ≤ i) (h1 : i < x.edges.length) (h2 : 0 ≤ j) (h3 : j < x.size) : 0 ≤ at2 x.edges i j ∧ at2 x.edges i j < x.size := by
  have := h.val _ (List.mem_append_right _ (h.edge_row h0 h1)) (at2 x.edges i j) (at0_mem _ h2 (by have := h.edge_len h0 h1; omega))
  omega
end
/-- How many routes a law names, and whether an edge. -/
def manyA (law : Int) : Int := if law = 1 ∨ law = 3 then 2 else if law = 2 then 3 else if law = 4 ∨ law = 5 then 1 else if law = 6 then 0 else if law = 7 ∨ law = 8 then 1 else 2
def edgeA (law : Int) : Bool := !(decide (law = 1) || decide (law = 2) || decide (law = 3) || decide (law = 4) || decide (law = 5))
theorem many_bd (law : Int) : 0 ≤ manyA law ∧ manyA law ≤ 3 := by
  unfold manyA
  repeat' split
  all_goals omega
def holdsA (x : Alg) (b : Brk) : Bool :=
  if b.law = 1 then decide (at2 x.best b.a b.b = at2 x.best b.b b.a)
  else if b.law = 2 then decide (at2 x.best b.a (at2 x.best b.b b.c) = at2 x.best (at2 x.best b.a b.b) b.c)
  else if b.law = 3 then decide (at2 x.best b.a b.b = b.a) || decide (at2 x.best b.a b.b = b.b)
  else if b.law = 4 then decide (at2 x.best 0 b.a = 0)
  else if b.law = 5 then decide (at2 x.best (x.size - 1) b.a = b.a)
  else if b.law = 6 then decide (at2 x.edges b.edge (x.size - 1) = x.size - 1)
  else if b.law = 7 then decide (at2 x.best b.a (at2 x.edges b.edge b.a) = b.a)
  else if b.law = 8 then decide (b.a = x.size - 1) || (decide (at2 x.best b.a (at2 x.edges b.edge b.a) = b.a) && !decide (at2 x.edges b.edge b.a = b.a))
  else decide (at2 x.edges b.edge (at2 x.best b.a b.b) = at2 x.best (at2 x.edges b.edge b.a) (at2 x.edges b.edge b.b))
def upN (named : Bool) (n : Int) : Int := if named then n else 1
/-- Does a number stand where it may: below n, if it is named; else it is 0. -/
def okAt (named : Bool) (v n : Int) : Bool := if named then inR v 0 (n - 1) else decide (v = 0)
theorem okAt_iff {named : Bool} {v n : Int} : okAt named v n = true ↔ 0 ≤ v ∧ v < upN named n := by
  cases named
  · simp [okAt, upN]; omega
  · simp only [okAt, upN, if_true, inR_iff]; omega
def checkB (x : Alg) (b : Brk) : Int :=
  if !inR b.law 1 9 then 7
  else if !(okAt (decide (0 < manyA b.law)) b.a x.size && okAt (decide (1 < manyA b.law)) b.b x.size && okAt (decide (2 < manyA b.law)) b.c x.size) then 3
  else if !okAt (edgeA b.law) b.edge x.edges.length then 3
  else 0
def ints (n : Int) : List Int := (List.range n.toNat).map fun (i : Nat) => (i : Int)
theorem mem_ints {n v : Int} : v ∈ ints n ↔ 0 ≤ v ∧ v < n := by
  simp only [ints, List.mem_map, List.mem_range]
  constructor
  · rintro ⟨i, hi, rfl⟩; omega
  · rintro ⟨h0, h1⟩; exact ⟨v.toNat, by omega, by omega⟩
theorem ints_length (n : Int) : (ints n).length = n.toNat := by simp [ints]
/-- All that a law is asked of, in order. -/
def casesA (x : Alg) (law : Int) : List Brk :=
  (ints (upN (decide (0 < manyA law)) x.size)).flatMap fun a => (ints (upN (decide (1 < manyA law)) x.size)).flatMap fun b => (ints (upN (decide (2 < manyA law)) x.size)).flatMap fun c =>
    (ints (upN (edgeA law) x.edges.length)).map fun e => ⟨law, a, b, c, e⟩
theorem mem_cases {x : Alg} {law : Int} {b : Brk} : b ∈ casesA x law ↔ b.law = law ∧ (0 ≤ b.a ∧ b.a < upN (decide (0 < manyA law)) x.size) ∧ (0 ≤ b.b ∧ b.b < upN (decide (1 < manyA law)) x.size) ∧
    (0 ≤ b.c ∧ b.c < upN (decide (2 < manyA law)) x.size) ∧ (0 ≤ b.edge ∧ b.edge < upN (edgeA law) x.edges.length) := by
  simp only [casesA, List.mem_flatMap, List.mem_map, mem_ints]
  constructor
  · rintro ⟨p, hp, q, hq, r, hr, e, he, rfl⟩
    exact ⟨rfl, hp, hq, hr, he⟩
  · rintro ⟨rfl, hp, hq, hr, he⟩
    exact ⟨_, hp, _, hq, _, hr, _, he, rfl⟩
theorem checkB_iff {x : Alg} {b : Brk} : checkB x b = 0 ↔ (1 ≤ b.law ∧ b.law ≤ 9) ∧ b ∈ casesA x b.law := by
  rw [mem_cases]
  unfold checkB
  by_cases h1 : inR b.law 1 9 = true
  · rw [if_neg (by simp [h1])]
    have h1' := inR_iff.1 h1
    by_cases h2 : (okAt (decide (0 < manyA b.law)) b.a x.size && okAt (decide (1 < manyA b.law)) b.b x.size && okAt (decide (2 < manyA b.law)) b.c x.size) = true
    · rw [if_neg (by simp [h2])]
      simp only [Bool.and_eq_true, okAt_iff] at h2
      by_cases h3 : okAt (edgeA b.law) b.edge x.edges.length = true
      · rw [if_neg (by simp [h3])]
        rw [okAt_iff] at h3
        exact ⟨fun _ => ⟨h1', rfl, h2.1.1, h2.1.2, h2.2, h3⟩, fun _ => rfl⟩
      · rw [if_pos (by simp [h3])]
        rw [okAt_iff] at h3
        exact ⟨fun h => (by cases h), fun h => absurd h.2.2.2.2.2 h3⟩
    · rw [if_pos (by rw [Bool.not_eq_true', ← Bool.not_eq_true]; exact h2)]
      simp only [Bool.and_eq_true, okAt_iff] at h2
      exact ⟨fun h => (by cases h), fun h => absurd ⟨⟨h.2.2.1, h.2.2.2.1⟩, h.2.2.2.2.1⟩ h2⟩
  · rw [if_pos (by simp [h1])]
    exact ⟨fun h => (by cases h), fun h => absurd (inR_iff.2 h.1) h1⟩
def zeroB : Brk := ⟨0, 0, 0, 0, 0⟩
def firstB (x : Alg) (l : List Brk) : Brk := (l.find? fun b => !holdsA x b).getD zeroB
def brokenA (x : Alg) (laws : List Int) : Brk := firstB x (laws.flatMap (casesA x))
theorem brokenA_none {x : Alg} {laws : List Int} (h0 : ∀ l ∈ laws, l ≠ 0) (h : (brokenA x laws).law = 0) : ∀ law ∈ laws, ∀ b ∈ casesA x law, holdsA x b = true := by
  unfold brokenA firstB at *
  cases hf : (laws.flatMap (casesA x)).find? fun b => !holdsA x b with
  | none =>
    intro law hl b hb
    have := List.find?_eq_none.1 hf b (List.mem_flatMap.2 ⟨law, hl, hb⟩)
    simpa using this
  | some b =>
    rw [hf] at h
    have h2 := List.mem_of_find?_eq_some hf
    obtain ⟨law, hl, hb⟩ := List.mem_flatMap.1 h2
    exact absurd ((mem_cases.1 hb).1.symm.trans h) (h0 law hl)
/-- What 'Laws' and its like answer. -/
def lawsA (x : Alg) (laws : List Int) : Brk × Int := if checkA x ≠ 0 then (zeroB, checkA x) else (brokenA x laws, 0)
/-- What 'Holds' answers. -/
def asksA (x : Alg) (b : Brk) : Bool × Int := if checkA x ≠ 0 then (false, checkA x) else if checkB x b ≠ 0 then (false, checkB x b) else (holdsA x b, 0)
end Go.Proofs.Ytephecognbbaoab
namespace Go.Proofs.Ytephecognbbaoab
/-- How many cases, by routes. -/
def pw (s m : Int) : Int := if m = 0 then 1 else if m = 1 then s else if m = 2 then s * s else s * s * s
def dg0 (s m n : Int) : Int := if m = 0 then 0 else if m = 1 then n % s else if m = 2 then n / s % s else n / s / s % s
def dg1 (s m n : Int) : Int := if m = 2 then n % s else if m = 3 then n / s % s else 0
def dg2 (s m n : Int) : Int := if m = 3 then n % s else 0
def digitC (x : Alg) (law n : Int) : List Brk := (ints (upN (edgeA law) x.edges.length)).map fun e => ⟨law, dg0 x.size (manyA law) n, dg1 x.size (manyA law) n, dg2 x.size (manyA law) n, e⟩
theorem flat_congr {α β : Type} {l : List α} {f g : α → List β} (h : ∀ a ∈ l, f a = g a) : l.flatMap f = l.flatMap g := by
  rw [List.flatMap_def, List.flatMap_def, List.map_congr_left h]
end Go.Proofs.Ytephecognbbaoab
namespace Go.Proofs.Ytephecognbbaoab
structure Lnk where
  fr : Int
  dst : Int
  edge : Int
deriving DecidableEq, Inhabited
structure Net where
  alg : Alg
  nodes : Int
  links : List Lnk
deriving DecidableEq
def seven : List Int := [1, 2, 3, 4, 5, 6, 7]
/-- Two links between the same nodes. -/
def Lnk.like (l l' : Lnk) : Bool := decide (l'.fr = l.fr) && decide (l'.dst = l.dst)
def lnkErr (n : Net) (pre : List Lnk) (l : Lnk) : Int :=
  if !(inR l.fr 0 (n.nodes - 1) && inR l.dst 0 (n.nodes - 1) && inR l.edge 0 (n.alg.edges.length - 1)) then 5
  else if l.fr = l.dst then 1
  else if pre.any l.like then 6
  else 0
/-- What is wrong with links, behind some that are right. -/
def linksErr (n : Net) : List Lnk → List Lnk → Int
  | _, [] => 0
  | pre, l :: r => if lnkErr n pre l ≠ 0 then lnkErr n pre l else linksErr n (pre ++ [l]) r
def checkN (n : Net) : Int :=
  if checkA n.alg ≠ 0 then checkA n.alg
  else if (brokenA n.alg seven).law ≠ 0 then 4
  else if !inR n.nodes 1 6 then 3
  else linksErr n [] n.links
theorem linksErr_bad {n : Net} {pre r : List Lnk} {l : Lnk} (h : lnkErr n pre l ≠ 0) : linksErr n pre (l :: r) = lnkErr n pre l := by rw [linksErr, if_pos h]
theorem linksErr_good {n : Net} {pre r : List Lnk} {l : Lnk} (h : lnkErr n pre l = 0) : linksErr n pre (l :: r) = linksErr n (pre ++ [l]) r := by rw [linksErr, if_neg (by omega)]
structure LnkIn (n : Net) (l : Lnk) : Prop where
  f0 : 0 ≤ l.fr
  f1 : l.fr < n.nodes
  d0 : 0 ≤ l.dst
  d1 : l.dst < n.nodes
  e0 : 0 ≤ l.edge
  e1 : l.edge < n.alg.edges.length
  ne : l.fr ≠ l.dst
theorem lnkIn_of {n : Net} {pre : List Lnk} {l : Lnk} (h : lnkErr n pre l = 0) : LnkIn n l ∧ pre.any l.like = false := by
  unfold lnkErr at h
  split at h
  · cases h
  · rename_i h1
    split at h
    · cases h
    · rename_i h2
      split at h
      · cases h
      · rename_i h3
        simp only [Bool.not_eq_true', Bool.not_eq_false, Bool.and_eq_true, inR_iff] at h1
        exact ⟨⟨h1.1.1.1, by omega, h1.1.2.1, by omega, h1.2.1, by omega, h2⟩, by simpa using h3⟩
theorem linksErr_in {n : Net} : ∀ (r pre : List Lnk), linksErr n pre r = 0 → ∀ l ∈ r, LnkIn n l
  | [], _, _, l, hl => by cases hl
  | x :: r, pre, h, l, hl => by
    rw [linksErr] at h
    split at h
    · rename_i h1; exact absurd h h1
    · rename_i h1
      rcases List.mem_cons.1 hl with rfl | hl
      · exact (lnkIn_of (Decidable.not_not.1 h1)).1
      · exact linksErr_in r _ h l hl
/-- A net that passes. -/
structure NetIn (n : Net) : Prop where
  alg : Right n.alg
  law : (brokenA n.alg seven).law = 0
  n1 : 1 ≤ n.nodes
  n6 : n.nodes ≤ 6
  lnk : ∀ l ∈ n.links, LnkIn n l
theorem netIn_of {n : Net} (h : checkN n = 0) : NetIn n := by
  unfold checkN at h
  split at h
  · rename_i h1; exact absurd h h1
  · rename_i h1
    split at h
    · cases h
    · rename_i h2
      split at h
      · cases h
      · rename_i h3
        have h3' := inR_iff.1 (show inR n.nodes 1 6 = true by simpa using h3)
        exact ⟨right_iff.1 (Decidable.not_not.1 h1), Decidable.not_not.1 h2, h3'.1, h3'.2, linksErr_in _ _ h⟩
theorem broken_zero {x : Alg} (h : (brokenA x seven).law = 0) : brokenA x seven = zeroB := by
  have := brokenA_none (laws := seven) (by decide) h
  unfold brokenA firstB
  rw [List.find?_eq_none.2]
  · rfl
  · intro b hb
    obtain ⟨law, hl, hb⟩ := List.mem_flatMap.1 hb
    simp [this law hl b hb]
/-- Rows of routes: are there as many of as many; are all routes. -/
def rowsErr (n : Net) (x : List (List Int)) : Int :=
  if (x.length : Int) ≠ n.nodes ∨ x.any (fun r => decide ((r.length : Int) ≠ n.nodes)) = true then 1
  else if x.any (fun r => r.any fun v => !inR v 0 (n.alg.size - 1)) then 5
  else 0
def fitA (n : Net) (x : List (List Int)) : Int := if checkN n ≠ 0 then checkN n else rowsErr n x
structure RowsIn (n : Net) (x : List (List Int)) : Prop where
  len : (x.length : Int) = n.nodes
  row : ∀ r ∈ x, (r.length : Int) = n.nodes
  val : ∀ r ∈ x, ∀ v ∈ r, 0 ≤ v ∧ v < n.alg.size
end Go.Proofs.Ytephecognbbaoab
namespace Go.Proofs.Ytephecognbbaoab
def edgeOf (n : Net) (i k : Int) : Int := ((n.links.find? fun l => decide (l.fr = i) && decide (l.dst = k)).map (·.edge)).getD (-1)
def bestA (n : Net) (a b : Int) : Int := at2 n.alg.best a b
def overA (n : Net) (e v : Int) : Int := at2 n.alg.edges e v
/-- By the nodes' order. -/
def routeR (n : Net) (i j : Int) (has : Int → Int) : Int :=
  (ints n.nodes).foldl (fun out k => if 0 ≤ edgeOf n i k then bestA n out (overA n (edgeOf n i k) (has k)) else out) (if i = j then 0 else n.alg.size - 1)
/-- By the links' order. -/
def routeL (n : Net) (i j : Int) (has : Int → Int) (ls : List Lnk) : Int :=
  ls.foldl (fun out l => if l.fr = i then bestA n out (overA n l.edge (has l.dst)) else out) (if i = j then 0 else n.alg.size - 1)
section
variable {n : Net}
theorem holds_seven (h : NetIn n) {b : Brk} (hb : b ∈ casesA n.alg b.law) (hl : b.law ∈ seven) : holdsA n.alg b = true :=
  brokenA_none (laws := seven) (by decide) h.law b.law hl b hb
theorem best_in (h : NetIn n) {a b : Int} (ha : 0 ≤ a ∧ a < n.alg.size) (hb : 0 ≤ b ∧ b < n.alg.size) : 0 ≤ bestA n a b ∧ bestA n a b < n.alg.size := h.alg.best_in ha.1 ha.2 hb.1 hb.2
theorem over_in (h : NetIn n) {e v : Int} (he : 0 ≤ e ∧ e < n.alg.edges.length) (hv : 0 ≤ v ∧ v < n.alg.size) : 0 ≤ overA n e v ∧ overA n e v < n.alg.size := h.alg.edge_in he.1 he.2 hv.1 hv.2
theorem best_comm (h : NetIn n) {a b : Int} (ha : 0 ≤ a ∧ a < n.alg.size) (hb : 0 ≤ b ∧ b < n.alg.size) : bestA n a b = bestA n b a := by
  have hm : (⟨1, a, b, 0, 0⟩ : Brk) ∈ casesA n.alg 1 := mem_cases.2 ⟨rfl, ha, hb, ⟨Int.le_refl _, show (0 : Int) < 1 by decide⟩, ⟨Int.le_refl _, show (0 : Int) < 1 by decide⟩⟩
  have := holds_seven h hm (show (1 : Int) ∈ seven by decide)
  exact of_decide_eq_true this
theorem best_assoc (h : NetIn n) {a b c : Int} (ha : 0 ≤ a ∧ a < n.alg.size) (hb : 0 ≤ b ∧ b < n.alg.size) (hc : 0 ≤ c ∧ c < n.alg.size) : bestA n a (bestA n b c) = bestA n (bestA n a b) c := by
  have hm : (⟨2, a, b, c, 0⟩ : Brk) ∈ casesA n.alg 2 := mem_cases.2 ⟨rfl, ha, hb, hc, ⟨Int.le_refl _, show (0 : Int) < 1 by decide⟩⟩
  have := holds_seven h hm (show (2 : Int) ∈ seven by decide)
  exact of_decide_eq_true this
/-- A list, sorted into classes. -/
theorem perm_classes (f : Lnk → Int) : ∀ (ks : List Int) (l : Lnk) (L : List Lnk), ks.Nodup → f l ∈ ks → (ks.flatMap fun k => (l :: L).filter fun x => decide (f x = k)).Perm (l :: ks.flatMap fun k => L.filter fun x => decide (f x = k))
  | [], l, L, _, h => by cases h
  | k :: ks, l, L, hd, h => by
    obtain ⟨hk, hd⟩ := List.nodup_cons.1 hd
    simp only [List.flatMap_cons]
    by_cases e : f l = k
    · have hrest : (ks.flatMap fun k' => (l :: L).filter fun x => decide (f x = k')) = ks.flatMap fun k' => L.filter fun x => decide (f x = k') := by
        refine flat_congr fun k' hk' => ?_
        rw [List.filter_cons_of_neg]
        simp only [decide_eq_true_eq]
        intro e2
        exact hk (by rw [← e, e2]; exact hk')
      rw [hrest, List.filter_cons_of_pos (by simpa using e)]
      exact List.Perm.refl _
    · rw [List.filter_cons_of_neg (by simpa using e)]
      have hmem : f l ∈ ks := by
        rcases List.mem_cons.1 h with h | h
        · exact absurd h e
        · exact h
      exact ((perm_classes f ks l L hd hmem).append_left _).trans List.perm_middle
theorem perm_all (f : Lnk → Int) (ks : List Int) (hd : ks.Nodup) : ∀ L : List Lnk, (∀ l ∈ L, f l ∈ ks) → (ks.flatMap fun k => L.filter fun x => decide (f x = k)).Perm L
  | [], _ => by
    have : (ks.flatMap fun k => ([] : List Lnk).filter fun x => decide (f x = k)) = [] := by simp
    rw [this]
  | l :: L, h => (perm_classes f ks l L hd (h l (by simp))).trans ((perm_all f ks hd L fun x hx => h x (by simp [hx])).cons l)
theorem ints_nodup (m : Int) : (ints m).Nodup := by
  unfold ints
  rw [List.nodup_iff_pairwise_ne, List.pairwise_map]
  exact List.nodup_range.imp fun h e => h (by omega)
/-- No two links between the same nodes. -/
def Apart : List Lnk → Prop
  | [] => True
  | l :: r => (∀ x ∈ r, x.like l = false) ∧ Apart r
theorem apart_snoc {l : Lnk} : ∀ {pre : List Lnk}, Apart pre → pre.any l.like = false → Apart (pre ++ [l])
  | [], _, _ => ⟨(fun _ h => by cases h), trivial⟩
  | x :: r, h, hn => by
    rw [List.any_cons, Bool.or_eq_false_iff] at hn
    refine ⟨fun y hy => ?_, apart_snoc h.2 hn.2⟩
    rcases List.mem_append.1 hy with hy | hy
    · exact h.1 y hy
    · rw [List.mem_singleton.1 hy]
      exact hn.1
theorem linksErr_apart : ∀ (r pre : List Lnk), linksErr n pre r = 0 → Apart pre → Apart (pre ++ r)
  | [], pre, _, h => by simpa using h
  | x :: r, pre, h, hp => by
    rw [linksErr] at h
    split at h
    · rename_i h1; exact absurd h h1
    · rename_i h1
      have h2 := lnkIn_of (Decidable.not_not.1 h1)
      have := linksErr_apart r (pre ++ [x]) h (apart_snoc hp h2.2)
      simpa using this
theorem apart_of (h : checkN n = 0) : Apart n.links := by
  unfold checkN at h
  split at h
  · rename_i h1; exact absurd h h1
  · split at h
    · cases h
    · split at h
      · cases h
      · exact linksErr_apart n.links [] h trivial
/-- The links from i to k: at most one. -/
theorem one_link : ∀ {L : List Lnk} (i k : Int), Apart L → (L.filter fun l => decide (l.fr = i) && decide (l.dst = k)) = ((L.find? fun l => decide (l.fr = i) && decide (l.dst = k)).toList)
  | [], _, _, _ => rfl
  | l :: r, i, k, h => by
    by_cases e : (decide (l.fr = i) && decide (l.dst = k)) = true
    · rw [List.filter_cons_of_pos (by simpa using e), List.find?_cons_of_pos (by simpa using e), List.filter_eq_nil_iff.2]
      · rfl
      · intro x hx hc
        have h1 := h.1 x hx
        simp only [Bool.and_eq_true, decide_eq_true_eq] at e hc
        have : x.like l = true := by simp [Lnk.like]; omega
        rw [this] at h1
        cases h1
    · rw [List.filter_cons_of_neg (by simpa using e), List.find?_cons_of_neg (by simpa using e)]
      exact one_link i k h.2
/-- A step that stays in range. -/
def stepA (n : Net) (has : Int → Int) (out : Int) (l : Lnk) : Int := if 0 ≤ out ∧ out < n.alg.size then bestA n out (overA n l.edge (has l.dst)) else out
theorem route_eq (hn : checkN n = 0) (i j : Int) (has : Int → Int) (hh : ∀ k, 0 ≤ k → k < n.nodes → 0 ≤ has k ∧ has k < n.alg.size) : routeL n i j has n.links = routeR n i j has := by
  have h := netIn_of hn
  have hap := apart_of hn
  have s2 := h.alg.s2
  have hval : ∀ l ∈ n.links, 0 ≤ overA n l.edge (has l.dst) ∧ overA n l.edge (has l.dst) < n.alg.size := fun l hl =>
    let g := h.lnk l hl
    over_in h ⟨g.e0, g.e1⟩ (hh _ g.d0 g.d1)
  have h0 : 0 ≤ (if i = j then 0 else n.alg.size - 1 : Int) ∧ (if i = j then 0 else n.alg.size - 1 : Int) < n.alg.size := by split <;> omega
  -- by the links' order: those of i
  have e1 : ∀ (L : List Lnk) (out : Int), (∀ l ∈ L, l ∈ n.links) → 0 ≤ out ∧ out < n.alg.size →
      L.foldl (fun out l => if l.fr = i then bestA n out (overA n l.edge (has l.dst)) else out) out = (L.filter fun l => decide (l.fr = i)).foldl (stepA n has) out := by
    intro L
    induction L with
    | nil => intro out _ _; rfl
    | cons l r ih =>
      intro out hL ho
      by_cases e : l.fr = i
      · rw [List.foldl_cons, if_pos e, List.filter_cons_of_pos (by simpa using e), List.foldl_cons]
        rw [ih _ (fun x hx => hL x (by simp [hx])) (best_in h ho (hval l (hL l (by simp))))]
        congr 1
        exact (if_pos ho).symm
      · rw [List.foldl_cons, if_neg e, List.filter_cons_of_neg (by simpa using e)]
        exact ih out (fun x hx => hL x (by simp [hx])) ho
  -- by the nodes' order
  have e2 : ∀ (K : List Int) (out : Int), 0 ≤ out ∧ out < n.alg.size →
      K.foldl (fun out k => if 0 ≤ edgeOf n i k then bestA n out (overA n (edgeOf n i k) (has k)) else out) out = (K.flatMap fun k => (n.links.filter fun l => decide (l.fr = i)).filter fun l => decide (l.dst = k)).foldl (stepA n has) out := by
    intro K
    induction K with
    | nil => intro out _; rfl
    | cons k r ih =>
      intro out ho
      rw [List.foldl_cons, List.flatMap_cons, List.foldl_append]
      have hf : ((n.links.filter fun l => decide (l.fr = i)).filter fun l => decide (l.dst = k)) = (n.links.find? fun l => decide (l.fr = i) && decide (l.dst = k)).toList := by
        rw [List.filter_filter, ← one_link i k hap]
        congr 1
        funext x
        rw [Bool.and_comm]
      rw [hf]
      unfold edgeOf
      cases hfd : n.links.find? fun l => decide (l.fr = i) && decide (l.dst = k) with
      | none =>
        simp only [Option.map_none, Option.getD_none, Option.toList_none, List.foldl_nil]
        rw [if_neg (by omega)]
        have := ih out ho
        unfold edgeOf at this
        exact this
      | some l =>
        have hl := List.mem_of_find?_eq_some hfd
        have hp := List.find?_some hfd
        simp only [Bool.and_eq_true, decide_eq_true_eq] at hp
        have g := h.lnk l hl
        simp only [Option.map_some, Option.getD_some, Option.toList_some, List.foldl_cons, List.foldl_nil]
        rw [if_pos g.e0]
        have hst : stepA n has out l = bestA n out (overA n l.edge (has k)) := by rw [stepA, if_pos ho, hp.2]
        rw [hst]
        have hv := hval l hl
        rw [hp.2] at hv
        have := ih _ (best_in h ho hv)
        unfold edgeOf at this
        exact this
  unfold routeL routeR
  rw [e1 n.links _ (fun l hl => hl) h0, e2 _ _ h0]
  have hp : ((ints n.nodes).flatMap fun k => (n.links.filter fun l => decide (l.fr = i)).filter fun l => decide (l.dst = k)).Perm (n.links.filter fun l => decide (l.fr = i)) :=
    perm_all (·.dst) (ints n.nodes) (ints_nodup _) _ fun l hl => by
      have g := h.lnk l (List.mem_filter.1 hl).1
      exact mem_ints.2 ⟨g.d0, g.d1⟩
  refine (List.Perm.foldl_eq' hp (fun x hx y hy z => ?_) _).symm
  have hx' : x ∈ n.links := (List.mem_filter.1 (hp.mem_iff.1 hx)).1
  have hy' : y ∈ n.links := (List.mem_filter.1 (hp.mem_iff.1 hy)).1
  unfold stepA
  by_cases hz : 0 ≤ z ∧ z < n.alg.size
  · have vx := hval x hx'
    have vy := hval y hy'
    rw [if_pos hz, if_pos hz, if_pos (best_in h hz vx), if_pos (best_in h hz vy), ← best_assoc h hz vx vy, ← best_assoc h hz vy vx, best_comm h vx vy]
  · rw [if_neg hz, if_neg hz, if_neg hz]
theorem routeR_in (h : NetIn n) (i j : Int) (has : Int → Int) (hh : ∀ k, 0 ≤ k → k < n.nodes → 0 ≤ has k ∧ has k < n.alg.size) : 0 ≤ routeR n i j has ∧ routeR n i j has < n.alg.size := by
  have s2 := h.alg.s2
  have key : ∀ (K : List Int) (out : Int), (∀ k ∈ K, 0 ≤ k ∧ k < n.nodes) → 0 ≤ out ∧ out < n.alg.size →
      0 ≤ K.foldl (fun out k => if 0 ≤ edgeOf n i k then bestA n out (overA n (edgeOf n i k) (has k)) else out) out ∧ K.foldl (fun out k => if 0 ≤ edgeOf n i k then bestA n out (overA n (edgeOf n i k) (has k)) else out) out < n.alg.size := by
    intro K
    induction K with
    | nil => intro out _ ho; exact ho
    | cons k r ih =>
      intro out hK ho
      rw [List.foldl_cons]
      refine ih _ (fun x hx => hK x (by simp [hx])) ?_
      split
      · rename_i he
        refine best_in h ho (over_in h ⟨he, ?_⟩ (hh k (hK k (by simp)).1 (hK k (by simp)).2))
        unfold edgeOf at he ⊢
        cases hfd : n.links.find? fun l => decide (l.fr = i) && decide (l.dst = k) with
        | none => rw [hfd] at he; simp at he
        | some l => exact (h.lnk l (List.mem_of_find?_eq_some hfd)).e1
      · exact ho
  exact key _ _ (fun k hk => mem_ints.1 hk) (by split <;> omega)
/-- The next state. -/
def roundA (n : Net) (x : List (List Int)) : List (List Int) := (ints n.nodes).map fun i => (ints n.nodes).map fun j => routeR n i j fun k => at2 x k j
def beginA (n : Net) : List (List Int) := (ints n.nodes).map fun i => (ints n.nodes).map fun j => if i = j then 0 else n.alg.size - 1
theorem at2_in {x : List (List Int)} (h : RowsIn n x) {i j : Int} (hi : 0 ≤ i ∧ i < n.nodes) (hj : 0 ≤ j ∧ j < n.nodes) : 0 ≤ at2 x i j ∧ at2 x i j < n.alg.size := by
  have hr := at0_mem x hi.1 (by rw [h.len]; exact hi.2)
  exact h.val _ hr _ (at0_mem _ hj.1 (by rw [h.row _ hr]; exact hj.2))
theorem round_in (hn : NetIn n) {x : List (List Int)} (h : RowsIn n x) : RowsIn n (roundA n x) := by
  have n1 := hn.n1
  refine ⟨?_, fun r hr => ?_, fun r hr v hv => ?_⟩
  · rw [roundA, List.length_map, ints_length]; omega
  · obtain ⟨i, _, rfl⟩ := List.mem_map.1 hr
    rw [List.length_map, ints_length]; omega
  · obtain ⟨i, hi, rfl⟩ := List.mem_map.1 hr
    obtain ⟨j, hj, rfl⟩ := List.mem_map.1 hv
    exact routeR_in hn i j _ fun k h0 h1 => at2_in h ⟨h0, h1⟩ (mem_ints.1 hj)
/-- Rounds until nothing changes. -/
def settleF (n : Net) : Nat → Int → List (List Int) → List (List Int) × Int
  | 0, k, x => (x, k)
  | f + 1, k, x => if x = roundA n x then (x, k) else settleF n f (k + 1) (roundA n x)
def settleA (n : Net) (x : List (List Int)) (most : Int) : (List (List Int) × Int) × Int :=
  if fitA n x ≠ 0 then (([], 0), fitA n x)
  else if !inR most 0 1000 then (([], 0), 3)
  else (settleF n most.toNat 0 x, 0)
end
end Go.Proofs.Ytephecognbbaoab
namespace Go.Proofs.Ytephecognbbaoab
def rowC (r : List Int) : List AV := [intsA r]
def rowsC (l : List (List Int)) : AV := .sl (l.map rowC)
def algC (x : Alg) : List AV := [intA1 x.size, rowsC x.best, rowsC x.edges]
def brkC (b : Brk) : List AV := [intA1 b.law, intA1 b.a, intA1 b.b, intA1 b.c, intA1 b.edge]
attribute [go_sem] rowC rowsC algC brkC
theorem rowC_len (l : List (List Int)) : (∀ e', e' ∈ l.map rowC → e'.length = 1) = True := len_map (f := rowC) (fun _ => rfl) l
theorem rowC_one (l : List (List Int)) : (∀ e', e' ∈ l.map rowC → e'.all oneA = true) = True := one_map (f := rowC) (fun _ => rfl) l
attribute [go_sem] rowC_len rowC_one
theorem Bd.rows {n : Nat} (l : List (List Int)) : Bd n (.sl (l.map rowC)) := .slL (fun r => .cons (Bd.ints r) .nil) l
theorem within_calls (n a b : Int) (σ : Store) : ACalls Try.prog 135 [intA1 n, intA1 a, intA1 b] σ fun r σ' => σ' = σ ∧ r = .c (.bool (inR n a b)) := by
  refine ACalls_of_awp Try.func135 rfl Try.results135 ?_
  simp only [List.length_cons, List.length_nil, Try.ntmps135, Nat.reduceAdd, Nat.reduceSub, enterA]
  (repeat' (first|(refine g_s fun K hK=>?_)|(refine g_b ?_)|(refine g_r ?_)|(refine g_k ?_;simp only[thenQ,blockQ])|(refine g_e ?_;simp only[thenQ,blockQ,↓reduceIte,Nat.reduceEqDiff])|(refine g_c (fun h=>?_) (fun h=>?_)<;>(try simp only[go_sem] at h)<;>(try exact g_f))|((first|refine g_t ?_|refine g_g ?_|refine g_U ?_|refine g_A ?_|refine g_W ?_);(try simp -implicitDefEqProofs only[go_sem]))|(with_reducible refine hK _ _ ?_;clear hK K)|(clear hK K;first|(with_reducible refine hK _ _ ?_;clear hK K)|(clear hK K;with_reducible refine hK _ _ ?_;clear hK K)|(clear hK K;clear hK K;with_reducible refine hK _ _ ?_;clear hK K))|(with_reducible refine splitB_intro (fun h=>?_) (fun h=>?_)<;>(try simp only[go_sem] at h)<;>(try exact g_f)<;>(try simp -implicitDefEqProofs only[go_sem]))|(with_reducible refine And.intro (fun h=>?_) (fun h=>?_)<;>(try simp only[go_sem] at h)<;>(try exact g_f))|(with_reducible refine And.intro ?_ ?_;· exact g_x)|(with_reducible intro h;(try simp only[go_sem] at h);(try exact g_f))))
  all_goals (simp [inR]; omega)
theorem is_calls (x : Alg) (n : Int) (hx : I64 (x.size - 1)) (σ : Store) : ACalls Try.prog 134 [.agg (algC x), intA1 n] σ fun r σ' => σ' = σ ∧ r = .c (.bool (inR n 0 (x.size - 1))) := by
  refine ACalls.cutX ?_
  refine ACalls_of_awp Try.func134 rfl Try.results134 ?_
  simp only [List.length_cons, List.length_nil, Try.ntmps134, Nat.reduceAdd, Nat.reduceSub, enterA]
  (repeat' (first|(refine g_s fun K hK=>?_)|(refine g_b ?_)|(refine g_r ?_)|(refine g_k ?_;simp only[thenQ,blockQ])|(refine g_e ?_;simp only[thenQ,blockQ,↓reduceIte,Nat.reduceEqDiff])|(refine g_c (fun h=>?_) (fun h=>?_)<;>(try simp only[go_sem] at h)<;>(try exact g_f))|((first|refine g_t ?_|refine g_g ?_|refine g_U ?_|refine g_A ?_|refine (within_calls _ _ _ _).use ?_|refine g_q (fun τ=>within_calls _ _ _ _) ?_|refine g_W ?_);(try simp -implicitDefEqProofs only[go_sem]))|(with_reducible refine hK _ _ ?_;clear hK K)|(clear hK K;first|(with_reducible refine hK _ _ ?_;clear hK K)|(clear hK K;with_reducible refine hK _ _ ?_;clear hK K)|(clear hK K;clear hK K;with_reducible refine hK _ _ ?_;clear hK K))|(with_reducible refine splitB_intro (fun h=>?_) (fun h=>?_)<;>(try simp only[go_sem] at h)<;>(try exact g_f)<;>(try simp -implicitDefEqProofs only[go_sem]))|(with_reducible refine And.intro (fun h=>?_) (fun h=>?_)<;>(try simp only[go_sem] at h)<;>(try exact g_f))|(with_reducible refine And.intro ?_ ?_;· exact g_x)|(with_reducible intro h;(try simp only[go_sem] at h);(try exact g_f))))
  exact CutQ_c rfl rfl
theorem invalid_calls (x : Alg) (hx : I64 (x.size - 1)) (σ : Store) : ACalls Try.prog 118 [.agg (algC x)] σ fun r σ' => σ' = σ ∧ r = intA1 (x.size - 1) := by
  refine ACalls.cutX ?_
  refine ACalls_of_awp Try.func118 rfl Try.results118 ?_
  simp only [List.length_cons, List.length_nil, Try.ntmps118, Nat.reduceAdd, Nat.reduceSub, enterA]
  (repeat' (first|(refine g_s fun K hK=>?_)|(refine g_b ?_)|(refine g_r ?_)|(refine g_k ?_;simp only[thenQ,blockQ])|(refine g_e ?_;simp only[thenQ,blockQ,↓reduceIte,Nat.reduceEqDiff])|(refine g_c (fun h=>?_) (fun h=>?_)<;>(try simp only[go_sem] at h)<;>(try exact g_f))|((first|refine g_t ?_|refine g_g ?_|refine g_U ?_|refine g_A ?_|refine g_W ?_);(try simp -implicitDefEqProofs only[go_sem]))|(with_reducible refine hK _ _ ?_;clear hK K)|(clear hK K;first|(with_reducible refine hK _ _ ?_;clear hK K)|(clear hK K;with_reducible refine hK _ _ ?_;clear hK K)|(clear hK K;clear hK K;with_reducible refine hK _ _ ?_;clear hK K))|(with_reducible refine splitB_intro (fun h=>?_) (fun h=>?_)<;>(try simp only[go_sem] at h)<;>(try exact g_f)<;>(try simp -implicitDefEqProofs only[go_sem]))|(with_reducible refine And.intro (fun h=>?_) (fun h=>?_)<;>(try simp only[go_sem] at h)<;>(try exact g_f))|(with_reducible refine And.intro ?_ ?_;· exact g_x)|(with_reducible intro h;(try simp only[go_sem] at h);(try exact g_f))))
  exact CutQ_c rfl rfl
theorem upTo_calls (b : Bool) (n : Int) (σ : Store) : ACalls Try.prog 200 [.c (.bool b), intA1 n] σ fun r σ' => σ' = σ ∧ r = intA1 (upN b n) := by
  refine ACalls_of_awp Try.func200 rfl Try.results200 ?_
  simp only [List.length_cons, List.length_nil, Try.ntmps200, Nat.reduceAdd, Nat.reduceSub, enterA]
  (repeat' (first|(refine g_s fun K hK=>?_)|(refine g_b ?_)|(refine g_r ?_)|(refine g_k ?_;simp only[thenQ,blockQ])|(refine g_e ?_;simp only[thenQ,blockQ,↓reduceIte,Nat.reduceEqDiff])|(refine g_c (fun h=>?_) (fun h=>?_)<;>(try simp only[go_sem] at h)<;>(try exact g_f))|((first|refine g_t ?_|refine g_g ?_|refine g_U ?_|refine g_A ?_|refine g_W ?_);(try simp -implicitDefEqProofs only[go_sem]))|(with_reducible refine hK _ _ ?_;clear hK K)|(clear hK K;first|(with_reducible refine hK _ _ ?_;clear hK K)|(clear hK K;with_reducible refine hK _ _ ?_;clear hK K)|(clear hK K;clear hK K;with_reducible refine hK _ _ ?_;clear hK K))|(with_reducible refine splitB_intro (fun h=>?_) (fun h=>?_)<;>(try simp only[go_sem] at h)<;>(try exact g_f)<;>(try simp -implicitDefEqProofs only[go_sem]))|(with_reducible refine And.intro (fun h=>?_) (fun h=>?_)<;>(try simp only[go_sem] at h)<;>(try exact g_f))|(with_reducible refine And.intro ?_ ?_;· exact g_x)|(with_reducible intro h;(try simp only[go_sem] at h);(try exact g_f))))
  all_goals (simp [upN, *])
/-- What stands in range, of what a law is asked of. -/
structure InR (x : Alg) (b : Brk) : Prop where
  pl : 1 ≤ b.law ∧ b.law ≤ 9
  pa : 0 ≤ b.a ∧ b.a < x.size
  pb : 0 ≤ b.b ∧ b.b < x.size
  pc : 0 ≤ b.c ∧ b.c < x.size
  pe : (b.law = 1 ∨ b.law = 2 ∨ b.law = 3 ∨ b.law = 4 ∨ b.law = 5) ∨ (0 ≤ b.edge ∧ b.edge < x.edges.length)
theorem inR_of {x : Alg} {b : Brk} (hr : Right x) (h : checkB x b = 0) : InR x b := by
  rw [checkB_iff, mem_cases] at h
  have := hr.s2
  have up : ∀ n, upN n x.size ≤ x.size := fun n => by unfold upN; split <;> omega
  have u1 := up (decide (0 < manyA b.law))
  have u2 := up (decide (1 < manyA b.law))
  have u3 := up (decide (2 < manyA b.law))
  refine ⟨h.1, by omega, by omega, by omega, ?_⟩
  by_cases he : edgeA b.law = true
  · have := h.2.2.2.2.2
    rw [upN, if_pos he] at this
    exact .inr this
  · left
    simp [edgeA] at he
    omega
theorem holds1_calls (x : Alg) (p q : Int) (hr : Right x) (h1 : 0 ≤ p) (h2 : p < x.size) (h3 : 0 ≤ q) (h4 : q < x.size) (σ : Store) :
    ACalls Try.prog 176 [intA1 p, intA1 q, .cp (algC x) 0] σ fun r σ' => σ' = σ ∧ r = intA1 (at2 x.best p q) := by
  have e1 := hr.bl
  have e2 := hr.best_len h1 h2
  refine ACalls_of_awp Try.func176 rfl Try.results176 ?_
  simp only [List.length_cons, List.length_nil, Try.ntmps176, Nat.reduceAdd, Nat.reduceSub, enterA]
  (repeat' (first|(refine g_s fun K hK=>?_)|(refine g_b ?_)|(refine g_r ?_)|(refine g_k ?_;simp only[thenQ,blockQ])|(refine g_e ?_;simp only[thenQ,blockQ,↓reduceIte,Nat.reduceEqDiff])|(refine g_c (fun h=>?_) (fun h=>?_)<;>(try simp only[go_sem] at h)<;>(try exact g_f))|((first|refine g_t ?_|refine g_g ?_|refine g_U ?_|refine g_A ?_|refine g_W ?_);(try simp -implicitDefEqProofs only[go_sem]))|(with_reducible refine hK _ _ ?_;clear hK K)|(clear hK K;first|(with_reducible refine hK _ _ ?_;clear hK K)|(clear hK K;with_reducible refine hK _ _ ?_;clear hK K)|(clear hK K;clear hK K;with_reducible refine hK _ _ ?_;clear hK K))|(with_reducible refine splitB_intro (fun h=>?_) (fun h=>?_)<;>(try simp only[go_sem] at h)<;>(try exact g_f)<;>(try simp -implicitDefEqProofs only[go_sem]))|(with_reducible refine And.intro (fun h=>?_) (fun h=>?_)<;>(try simp only[go_sem] at h)<;>(try exact g_f))|(with_reducible refine And.intro ?_ ?_;· exact g_x)|(with_reducible intro h;(try simp only[go_sem] at h);(try exact g_f))))
  rfl
attribute [go_sem] at2
theorem holds_calls (x : Alg) (b : Brk) (hr : Right x) (hb : InR x b) (σ : Store) : ACalls Try.prog 136 [.agg (algC x), .agg (brkC b)] σ fun r σ' => σ' = σ ∧ r = .c (.bool (holdsA x b)) := by
  have ha := hb.pa
  have hbb := hb.pb
  have hc := hb.pc
  have hl := hb.pl
  have s2 := hr.s2
  have s24 := hr.s24
  have b1 := hr.best_in ha.1 ha.2 hbb.1 hbb.2
  have b2 := hr.best_in hbb.1 hbb.2 hc.1 hc.2
  have hE : (b.law = 1 ∨ b.law = 2 ∨ b.law = 3 ∨ b.law = 4 ∨ b.law = 5) ∨ (0 ≤ b.edge ∧ b.edge < x.edges.length ∧ ((at0 x.edges b.edge).length : Int) = x.size ∧ 0 ≤ at2 x.edges b.edge b.a ∧ at2 x.edges b.edge b.a < x.size ∧ 0 ≤ at2 x.edges b.edge b.b ∧ at2 x.edges b.edge b.b < x.size) := by
    rcases hb.pe with h | h
    · exact .inl h
    · have f1 := hr.edge_in h.1 h.2 ha.1 ha.2
      have f2 := hr.edge_in h.1 h.2 hbb.1 hbb.2
      exact .inr ⟨h.1, h.2, hr.edge_len h.1 h.2, f1.1, f1.2, f2.1, f2.2⟩
  simp only [at2] at b1 b2 hE
  refine ACalls.cutX ?_
  refine ACalls_of_awp Try.func136 rfl Try.results136 ?_
  simp only [List.length_cons, List.length_nil, Try.ntmps136, Nat.reduceAdd, Nat.reduceSub, enterA]
  refine AWP_seq_k fun K hK => ?_
  (refine AWP_region ?_; simp -implicitDefEqProofs only [go_sem])
  refine hK _ _ ?_; clear hK K
  refine AWP_freezeP 2 rfl (by simp only [st0]; rfl) ?_
  simp only [ss0, List.set_cons_zero]
  refine AWP_freezeP 3 rfl (by simp only [st1]; rfl) ?_
  simp only [ss1, List.set_cons_zero, List.set_cons_succ]
  (repeat' (first|(refine g_s fun K hK=>?_)|(refine g_b ?_)|(refine g_r ?_)|(refine g_k ?_;simp only[thenQ,blockQ])|(refine g_e ?_;simp only[thenQ,blockQ,↓reduceIte,Nat.reduceEqDiff])|(refine g_c (fun h=>?_) (fun h=>?_)<;>(try simp only[go_sem] at h)<;>(try exact g_f))|((first|refine g_t ?_|refine g_g ?_|refine g_U ?_|refine g_A ?_|refine (invalid_calls x (by unfold I64; omega) _).use ?_|refine g_q (fun τ=>invalid_calls x (by unfold I64; omega) _) ?_|refine (holds1_calls x _ _ hr (by omega) (by omega) (by omega) (by omega) _).use ?_|refine g_q (fun τ=>holds1_calls x _ _ hr (by omega) (by omega) (by omega) (by omega) _) ?_|refine g_W ?_);(try simp -implicitDefEqProofs only[go_sem]))|(with_reducible refine hK _ _ ?_;clear hK K)|(clear hK K;first|(with_reducible refine hK _ _ ?_;clear hK K)|(clear hK K;with_reducible refine hK _ _ ?_;clear hK K)|(clear hK K;clear hK K;with_reducible refine hK _ _ ?_;clear hK K))|(with_reducible refine splitB_intro (fun h=>?_) (fun h=>?_)<;>(try simp only[go_sem] at h)<;>(try exact g_f)<;>(try simp -implicitDefEqProofs only[go_sem]))|(with_reducible refine And.intro (fun h=>?_) (fun h=>?_)<;>(try simp only[go_sem] at h)<;>(try exact g_f))|(with_reducible refine And.intro ?_ ?_;· exact g_x)|(with_reducible intro h;(try simp only[go_sem] at h);(try exact g_f))))
  all_goals clear hE hr hb b1 b2 hl ha hbb hc
  all_goals (refine CutQ_c rfl ?_; try simp [holdsA, at2, Bool.beq_eq_decide_eq, bne, *])
  all_goals exact decide_eq_decide.2 Iff.rfl
end Go.Proofs.Ytephecognbbaoab
namespace Go.Proofs.Ytephecognbbaoab
end Go.Proofs.Ytephecognbbaoab
