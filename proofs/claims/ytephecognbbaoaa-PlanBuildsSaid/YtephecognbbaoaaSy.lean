/- More words of the walk's simplifier: places behind a grown part of the store. -/
import Derived.Test.YtephecognbbaoaaTab
namespace Go.Proofs.Ytephecognbbaoaa
open Go
set_option linter.all false
set_option maxRecDepth 100000
set_option maxHeartbeats 4000000

/-- Short names for the walk's steps. -/
theorem g_x {p : Prop} (h : p := by first | omega | (unfold I64; omega) | (unfold maxLen; omega) | assumption | (with_reducible rfl) | (simp; done) | (simp [oneA, Value.oneCell']; done) | fail) : p := h
theorem g_f {p : Prop} (h : False := by first | contradiction | omega) : p := h.elim
theorem g_q {P : Program} {f : FuncId} {args : List AV} {σ : Store} {X : AV} {K : AV → Prop} (h : ∀ τ, ACalls P f args (σ ++ τ) fun r σ' => σ' = σ ++ τ ∧ r = X) (hk : K X) : callQ P f args σ K := callQ_use h hk
section
variable {rd : Option Nat} {N : Nat} {Q : Post} {α : AF} {σ : Store}
theorem g_s {P : Program} {x y : Code} (h : ∀ K : AF → Store → Prop, (∀ α σ, AWPr rd P N y Q α σ → K α σ) → AWPr rd P N x (thenQ K Q) α σ) : AWPr rd P N (.seq x y) Q α σ := AWP_seq_k h
theorem g_b {P : Program} {id : Nat} {c : Code} (h : AWPr rd P N c (blockQ id Q) α σ) : AWPr rd P N (.block id c) Q α σ := AWP_block h
theorem g_r {P : Program} {c : Code} {n : Nat} (h : AWPr rd P N c (thenQ (ARounds rd P N c Q n) Q) α σ) : ARounds rd P N c Q (n + 1) α σ := ARounds_step h
theorem g_k {P : Program} (h : Q .normal α σ) : AWPr rd P N .skip Q α σ := AWP_skip h
theorem g_e {P : Program} {id : Nat} (h : Q (.exit id) α σ) : AWPr rd P N (.exit id) Q α σ := AWP_exit h
theorem g_t {P : Program} (h : Q .ret α σ) : AWPr rd P N .ret Q α σ := AWP_ret h
theorem g_c {P : Program} {t : Nat} {x y : Code} {b : Bool} (h1 : b = true → AWPr rd P N x Q α σ) (h2 : b = false → AWPr rd P N y Q α σ) (hl : look α t = some (.c (.bool b)) := by rfl) : AWPr rd P N (.cond (.tmp t) x y) Q α σ := AWP_cond hl h1 h2
theorem g_g {P : Program} {id : Nat} {ops : List Oper} (h : areg P N ops (fun α σ => Q .normal α σ) ops α σ) : AWPr rd P N (.region id ops.toArray false) Q α σ := AWP_region h
theorem g_G {P : Program} {id : Nat} {ops : List Oper} (h : breg P N ops (fun α σ => Q .normal α σ) ops α σ) : AWPr rd P N (.region id ops.toArray false) Q α σ := AWP_regionB h
theorem g_U {id : Nat} {ops : List Oper} (h : kreg Try.prog N ops σ (fun α => areg Try.prog N ops (fun α σ => Q .normal α σ) (ops.drop (upto ops)) α σ) (ops.take (upto ops)) α)
    (hB : (drawB ops (upto ops) && edgesBack ops && noSelect ops && decide (upto ops ≤ ops.length)) = true := by decide +kernel) : AWPr rd Try.prog N (.region id ops.toArray true) Q α σ := AWP_drawU tab_mixed hB h
theorem g_A {id : Nat} {ops : List Oper} {T : TypeId} (h : on (zeroA Try.prog T) fun z => mreg Try.prog N ops σ z (fun α => areg Try.prog N ops (fun α σ => Q .normal α σ) (ops.drop (uptoA ops true)) α (σ ++ [.cells z.length [z]])) (ops.take (uptoA ops true)) α)
    (hB : (drawB ops (uptoA ops true) && edgesBack ops && noSelect ops && decide (uptoA ops true ≤ ops.length) && oneAlloc ops (uptoA ops true)) = true := by decide +kernel) (hT : allocT ops = some T := by rfl) : AWPr rd Try.prog N (.region id ops.toArray true) Q α σ := AWP_drawA tab_mixed hB hT h
theorem g_W {id : Nat} {ops : List Oper} (h : greg Try.prog N ops (false, false) false σ (fun α σ => areg Try.prog N ops (fun α σ => Q .normal α σ) (ops.drop (uptoW ops)) α σ) (ops.take (uptoW ops)) α σ)
    (hB : (drawB ops (uptoW ops) && edgesBack ops && noSelect ops && decide (uptoW ops ≤ ops.length) && loudOrd (false, false) ops (uptoW ops) && (!false || allPure (false, false) ops)) = true := by decide +kernel) : AWPr rd Try.prog N (.region id ops.toArray true) Q α σ := AWP_drawW false tab_mixed hB h
end

def intA1 (n : Int) : AV := .c (.int .i64 n)
def boolA (b : Bool) : AV := .c (.bool b)
def intC (n : Int) : List AV := [.c (.int .i64 n)]
def byteC (n : Int) : List AV := [.c (.int .u8 n)]
def intsA (l : List Int) : AV := .sl (l.map intC)
def bytesA (l : List Int) : AV := .sl (l.map byteC)

attribute [go_sem] intA1 boolA intC byteC intsA bytesA

theorem len_map {X : Type} {f : X → List AV} {k : Nat} (h : ∀ x, (f x).length = k) (l : List X) : (∀ e', e' ∈ l.map f → e'.length = k) = True :=
  eq_true fun e' he => by obtain ⟨x, _, rfl⟩ := List.mem_map.1 he; exact h x
theorem one_map {X : Type} {f : X → List AV} (h : ∀ x, (f x).all oneA = true) (l : List X) : (∀ e', e' ∈ l.map f → e'.all oneA = true) = True :=
  eq_true fun e' he => by obtain ⟨x, _, rfl⟩ := List.mem_map.1 he; exact h x
theorem Bd.ints {n : Nat} (l : List Int) : Bd n (.sl (l.map intC)) := .slL (fun _ => .cons (.c _) .nil) l
theorem intC_len (l : List Int) : (∀ e', e' ∈ l.map intC → e'.length = 1) = True := len_map (f := intC) (fun _ => rfl) l
theorem intC_one (l : List Int) : (∀ e', e' ∈ l.map intC → e'.all oneA = true) = True := one_map (f := intC) (fun _ => rfl) l
theorem byteC_len (l : List Int) : (∀ e', e' ∈ l.map byteC → e'.length = 1) = True := len_map (f := byteC) (fun _ => rfl) l
theorem byteC_one (l : List Int) : (∀ e', e' ∈ l.map byteC → e'.all oneA = true) = True := one_map (f := byteC) (fun _ => rfl) l
attribute [go_sem] intC_len intC_one byteC_len byteC_one

/-- What an own slice at a known place holds, whole. -/
theorem elemsA_st (σ τ ρ : Store) {k : Nat} (es : List (List AV)) {n c : Nat} (hn : n = es.length) : elemsA (σ ++ (τ ++ .cells k es :: ρ)) (.own (σ.length + τ.length) k 0 n c) = some es := by
  subst hn
  have e : (σ ++ (τ ++ .cells k es :: ρ))[σ.length + τ.length]? = some (.cells k es) := by rw [st1, st0]; rfl
  rw [elemsA_eq]
  simp [elemsB, e]

/-- Where the first one is of which p says yes; -1: none. -/
def firstI {X : Type} (p : X → Bool) (k : Int) : List X → Int
  | [] => -1
  | x :: r => if p x then k else firstI p (k + 1) r

theorem firstI_ge {X : Type} (p : X → Bool) : ∀ (l : List X) (k : Int), 0 ≤ k → decide (firstI p k l ≥ 0) = l.any p
  | [], k, _ => rfl
  | x :: r, k, hk => by
    have ih := firstI_ge p r (k + 1) (by omega)
    simp only [firstI, List.any_cons]
    by_cases hp : p x = true
    · simp [hp, hk]
    · simp only [hp, Bool.false_or, ← ih, if_false, Bool.false_eq_true]

theorem indexFunc_int (l : List Int) (p : Int → Bool) (f : FuncId) (first cap : List AV) (σ : Store) (hl : l.length ≤ 1000000000000000000) (hok : callOk Try.prog f = true)
    (hf : ∀ x ∈ l, ACalls Try.prog f (first ++ intA1 x :: cap) σ fun r σ' => σ' = σ ∧ r = .c (.bool (p x))) :
    ACalls Try.prog 98 [intsA l, .fn f first cap] σ fun r σ' => σ' = σ ∧ r = intA1 (firstI p 0 l) := by
  refine ACalls_of_awp Try.func98 rfl Try.results98 ?_
  simp only [List.length_cons, List.length_nil, Try.ntmps98, Nat.reduceAdd, Nat.reduceSub, enterA]
  (repeat' (first|(refine g_s fun K hK=>?_)|(refine g_b ?_)|(refine g_r ?_)|(refine g_k ?_;simp only[thenQ,blockQ])|(refine g_e ?_;simp only[thenQ,blockQ,↓reduceIte,Nat.reduceEqDiff])|(refine g_c (fun h=>?_) (fun h=>?_)<;>(try simp only[go_sem] at h)<;>(try exact g_f))|((first|refine g_t ?_|refine g_g ?_|refine g_U ?_|refine g_A ?_|refine g_W ?_);(try simp -implicitDefEqProofs only[go_sem]))|(with_reducible refine hK _ _ ?_;clear hK K)|(clear hK K;first|(with_reducible refine hK _ _ ?_;clear hK K)|(clear hK K;with_reducible refine hK _ _ ?_;clear hK K)|(clear hK K;clear hK K;with_reducible refine hK _ _ ?_;clear hK K))|(with_reducible refine splitB_intro (fun h=>?_) (fun h=>?_)<;>(try simp only[go_sem] at h)<;>(try exact g_f)<;>(try simp -implicitDefEqProofs only[go_sem]))|(with_reducible refine And.intro (fun h=>?_) (fun h=>?_)<;>(try simp only[go_sem] at h)<;>(try exact g_f))|(with_reducible refine And.intro ?_ ?_;· exact g_x)|(with_reducible intro h;(try simp only[go_sem] at h);(try exact g_f))))
  refine AWP_each l (fun k r _ => firstI p 0 l = firstI p k r) (fun k _ _ => [(8, intA1 k)]) (fun _ _ _ => σ) () [] rfl rfl (ALe_of ?_) ?_ ?_
  · simp -implicitDefEqProofs only [go_sem]
  · rintro k r s τ hk0 hk1 h1 L hL
    have hc := hf _ (at0_mem l hk0 hk1)
    simp -implicitDefEqProofs only [go_sem]
    (repeat' (first|(refine g_s fun K hK=>?_)|(refine g_b ?_)|(refine g_r ?_)|(refine g_k ?_;simp only[thenQ,blockQ])|(refine g_e ?_;simp only[thenQ,blockQ,↓reduceIte,Nat.reduceEqDiff])|(refine g_c (fun h=>?_) (fun h=>?_)<;>(try simp only[go_sem] at h)<;>(try exact g_f))|((first|refine g_t ?_|refine g_g ?_|refine g_U ?_|refine g_A ?_|refine (hc).use ?_|refine g_q (fun τ=>hc) ?_|refine g_W ?_);(try simp -implicitDefEqProofs only[go_sem]))|(with_reducible refine hK _ _ ?_;clear hK K)|(clear hK K;first|(with_reducible refine hK _ _ ?_;clear hK K)|(clear hK K;with_reducible refine hK _ _ ?_;clear hK K)|(clear hK K;clear hK K;with_reducible refine hK _ _ ?_;clear hK K))|(with_reducible refine splitB_intro (fun h=>?_) (fun h=>?_)<;>(try simp only[go_sem] at h)<;>(try exact g_f)<;>(try simp -implicitDefEqProofs only[go_sem]))|(with_reducible refine And.intro (fun h=>?_) (fun h=>?_)<;>(try simp only[go_sem] at h)<;>(try exact g_f))|(with_reducible refine And.intro ?_ ?_;· exact g_x)|(with_reducible intro h;(try simp only[go_sem] at h);(try exact g_f))))
    · rw [h1, firstI, if_pos (by assumption)]
    · refine hL () [] _ _ ?_ (ALe_of ?_) rfl
      · rw [h1, firstI, if_neg (by simp [*])]
      · simp -implicitDefEqProofs only [go_sem]
  · intro k s τ hk h1 L
    simp -implicitDefEqProofs only [go_sem]
    (repeat' (first|(refine g_s fun K hK=>?_)|(refine g_b ?_)|(refine g_r ?_)|(refine g_k ?_;simp only[thenQ,blockQ])|(refine g_e ?_;simp only[thenQ,blockQ,↓reduceIte,Nat.reduceEqDiff])|(refine g_c (fun h=>?_) (fun h=>?_)<;>(try simp only[go_sem] at h)<;>(try exact g_f))|((first|refine g_t ?_|refine g_g ?_|refine g_U ?_|refine g_A ?_|refine g_W ?_);(try simp -implicitDefEqProofs only[go_sem]))|(with_reducible refine hK _ _ ?_;clear hK K)|(clear hK K;first|(with_reducible refine hK _ _ ?_;clear hK K)|(clear hK K;with_reducible refine hK _ _ ?_;clear hK K)|(clear hK K;clear hK K;with_reducible refine hK _ _ ?_;clear hK K))|(with_reducible refine splitB_intro (fun h=>?_) (fun h=>?_)<;>(try simp only[go_sem] at h)<;>(try exact g_f)<;>(try simp -implicitDefEqProofs only[go_sem]))|(with_reducible refine And.intro (fun h=>?_) (fun h=>?_)<;>(try simp only[go_sem] at h)<;>(try exact g_f))|(with_reducible refine And.intro ?_ ?_;· exact g_x)|(with_reducible intro h;(try simp only[go_sem] at h);(try exact g_f))))
    rw [h1, firstI]

theorem containsFunc_int (l : List Int) (p : Int → Bool) (f : FuncId) (first cap : List AV) (σ : Store) (hl : l.length ≤ 1000000000000000000) (hok : callOk Try.prog f = true)
    (hf : ∀ x ∈ l, ACalls Try.prog f (first ++ intA1 x :: cap) σ fun r σ' => σ' = σ ∧ r = .c (.bool (p x))) :
    ACalls Try.prog 54 [intsA l, .fn f first cap] σ fun r σ' => σ' = σ ∧ r = .c (.bool (l.any p)) := by
  have hc := indexFunc_int l p f first cap σ hl hok hf
  refine ACalls_of_awp Try.func54 rfl Try.results54 ?_
  simp only [List.length_cons, List.length_nil, Try.ntmps54, Nat.reduceAdd, Nat.reduceSub, enterA]
  (repeat' (first|(refine g_s fun K hK=>?_)|(refine g_b ?_)|(refine g_r ?_)|(refine g_k ?_;simp only[thenQ,blockQ])|(refine g_e ?_;simp only[thenQ,blockQ,↓reduceIte,Nat.reduceEqDiff])|(refine g_c (fun h=>?_) (fun h=>?_)<;>(try simp only[go_sem] at h)<;>(try exact g_f))|((first|refine g_t ?_|refine g_g ?_|refine g_U ?_|refine g_A ?_|refine (hc).use ?_|refine g_q (fun τ=>hc) ?_|refine g_W ?_);(try simp -implicitDefEqProofs only[go_sem]))|(with_reducible refine hK _ _ ?_;clear hK K)|(clear hK K;first|(with_reducible refine hK _ _ ?_;clear hK K)|(clear hK K;with_reducible refine hK _ _ ?_;clear hK K)|(clear hK K;clear hK K;with_reducible refine hK _ _ ?_;clear hK K))|(with_reducible refine splitB_intro (fun h=>?_) (fun h=>?_)<;>(try simp only[go_sem] at h)<;>(try exact g_f)<;>(try simp -implicitDefEqProofs only[go_sem]))|(with_reducible refine And.intro (fun h=>?_) (fun h=>?_)<;>(try simp only[go_sem] at h)<;>(try exact g_f))|(with_reducible refine And.intro ?_ ?_;· exact g_x)|(with_reducible intro h;(try simp only[go_sem] at h);(try exact g_f))))
  rw [← firstI_ge p l 0 (Int.le_refl _)]

theorem bd2 {n : Nat} (a b : Value) : Bd n (.tup [.c a, .c b]) := .tup _ fun i h => by
  match i, h with
  | 0, _ => exact .c _
  | 1, _ => exact .c _

theorem between_calls (n a b : Int) (σ : Store) : ACalls Try.prog 58 [intA1 n, intA1 a, intA1 b] σ fun r σ' => σ' = σ ∧ r = .c (.bool (decide (a ≤ n) && decide (n ≤ b))) := by
  refine ACalls_of_awp Try.func58 rfl Try.results58 ?_
  simp only [List.length_cons, List.length_nil, Try.ntmps58, Nat.reduceAdd, Nat.reduceSub, enterA]
  (repeat' (first|(refine g_s fun K hK=>?_)|(refine g_b ?_)|(refine g_r ?_)|(refine g_k ?_;simp only[thenQ,blockQ])|(refine g_e ?_;simp only[thenQ,blockQ,↓reduceIte,Nat.reduceEqDiff])|(refine g_c (fun h=>?_) (fun h=>?_)<;>(try simp only[go_sem] at h)<;>(try exact g_f))|((first|refine g_t ?_|refine g_g ?_|refine g_U ?_|refine g_A ?_|refine g_W ?_);(try simp -implicitDefEqProofs only[go_sem]))|(with_reducible refine hK _ _ ?_;clear hK K)|(clear hK K;first|(with_reducible refine hK _ _ ?_;clear hK K)|(clear hK K;with_reducible refine hK _ _ ?_;clear hK K)|(clear hK K;clear hK K;with_reducible refine hK _ _ ?_;clear hK K))|(with_reducible refine splitB_intro (fun h=>?_) (fun h=>?_)<;>(try simp only[go_sem] at h)<;>(try exact g_f)<;>(try simp -implicitDefEqProofs only[go_sem]))|(with_reducible refine And.intro (fun h=>?_) (fun h=>?_)<;>(try simp only[go_sem] at h)<;>(try exact g_f))|(with_reducible refine And.intro ?_ ?_;· exact g_x)|(with_reducible intro h;(try simp only[go_sem] at h);(try exact g_f))))
  all_goals (simp; omega)

theorem at0_eq {X : Type} [Inhabited X] {a b : List X} (hl : a.length = b.length) (h : ∀ k : Int, 0 ≤ k → k < a.length → at0 a k = at0 b k) : a = b := by
  apply List.ext_getElem hl
  intro i h1 h2
  have := h i (by omega) (by omega)
  simpa [at0, List.getD_eq_getElem?_getD, h1, h2] using this

theorem sameInts_calls (a b : List Int) (hl : a.length ≤ 1000000000000000000) (σ : Store) : ACalls Try.prog 45 [intsA a, intsA b] σ fun r σ' => σ' = σ ∧ r = .c (.bool (decide (a = b))) := by
  refine ACalls_of_awp Try.func45 rfl Try.results45 ?_
  simp only [List.length_cons, List.length_nil, Try.ntmps45, Nat.reduceAdd, Nat.reduceSub, enterA]
  (repeat' (first|(refine g_s fun K hK=>?_)|(refine g_b ?_)|(refine g_r ?_)|(refine g_k ?_;simp only[thenQ,blockQ])|(refine g_e ?_;simp only[thenQ,blockQ,↓reduceIte,Nat.reduceEqDiff])|(refine g_c (fun h=>?_) (fun h=>?_)<;>(try simp only[go_sem] at h)<;>(try exact g_f))|((first|refine g_t ?_|refine g_g ?_|refine g_U ?_|refine g_A ?_|refine g_W ?_);(try simp -implicitDefEqProofs only[go_sem]))|(with_reducible refine hK _ _ ?_;clear hK K)|(clear hK K;first|(with_reducible refine hK _ _ ?_;clear hK K)|(clear hK K;with_reducible refine hK _ _ ?_;clear hK K)|(clear hK K;clear hK K;with_reducible refine hK _ _ ?_;clear hK K))|(with_reducible refine splitB_intro (fun h=>?_) (fun h=>?_)<;>(try simp only[go_sem] at h)<;>(try exact g_f)<;>(try simp -implicitDefEqProofs only[go_sem]))|(with_reducible refine And.intro (fun h=>?_) (fun h=>?_)<;>(try simp only[go_sem] at h)<;>(try exact g_f))|(with_reducible refine And.intro ?_ ?_;· exact g_x)|(with_reducible intro h;(try simp only[go_sem] at h);(try exact g_f))))
  · rw [decide_eq_false (fun e : a = b => h (by rw [e]))]
  refine AWP_for (a.length : Int) (fun k _ => ∀ i : Int, 0 ≤ i → i < k → at0 a i = at0 b i) (fun k _ _ => [(5, intA1 k)]) (fun _ _ _ => σ) () [] (by omega) (fun i h1 h2 => by omega) rfl (ALe_of ?_) ?_
  · simp -implicitDefEqProofs only [go_sem]
  · rintro k _ τ hk0 hk1 hH L hL
    simp -implicitDefEqProofs only [go_sem]
    (repeat' (first|(refine g_s fun K hK=>?_)|(refine g_b ?_)|(refine g_r ?_)|(refine g_k ?_;simp only[thenQ,blockQ])|(refine g_e ?_;simp only[thenQ,blockQ,↓reduceIte,Nat.reduceEqDiff])|(refine g_c (fun h=>?_) (fun h=>?_)<;>(try simp only[go_sem] at h)<;>(try exact g_f))|((first|refine g_t ?_|refine g_g ?_|refine g_U ?_|refine g_A ?_|refine g_W ?_);(try simp -implicitDefEqProofs only[go_sem]))|(with_reducible refine hK _ _ ?_;clear hK K)|(clear hK K;first|(with_reducible refine hK _ _ ?_;clear hK K)|(clear hK K;with_reducible refine hK _ _ ?_;clear hK K)|(clear hK K;clear hK K;with_reducible refine hK _ _ ?_;clear hK K))|(with_reducible refine splitB_intro (fun h=>?_) (fun h=>?_)<;>(try simp only[go_sem] at h)<;>(try exact g_f)<;>(try simp -implicitDefEqProofs only[go_sem]))|(with_reducible refine And.intro (fun h=>?_) (fun h=>?_)<;>(try simp only[go_sem] at h)<;>(try exact g_f))|(with_reducible refine And.intro ?_ ?_;· exact g_x)|(with_reducible intro h;(try simp only[go_sem] at h);(try exact g_f))))
    · rw [decide_eq_false (fun e : a = b => h (by rw [e]))]
    · refine hL (by assumption) () [] _ _ ?_ (ALe_of ?_) rfl
      · intro i h1 h2
        rcases Int.lt_or_eq_of_le (Int.le_of_lt_add_one h2) with h3 | h3
        · exact hH i h1 h3
        · rw [h3]; assumption
      · simp -implicitDefEqProofs only [go_sem]
    · rw [decide_eq_true (at0_eq (by omega) fun i h1 h2 => hH i h1 (by omega) : a = b)]

end Go.Proofs.Ytephecognbbaoaa
namespace Go.Proofs.Ytephecognbbaoaa
open Go
set_option linter.all false

theorem keyed_int : Go.Maps.Keyed Try.prog 3 = True := eq_true (Go.Maps.int_keyed Try.underlying3)
theorem keyK_int (n : Int) : keyK Try.prog 3 (.int .i64 n) = I64 n := by
  have h : keyOf Try.prog 3 (.int .i64 n) = if (Lit.int IntKind.i64 n).wf = true then some (.int .i64 n) else none := by simp [keyOf, mapKey, Try.underlying3]
  have h2 : (Lit.int IntKind.i64 n).wf = true ↔ I64 n := by
    simp [Lit.wf, IntKind.min, IntKind.max, IntKind.bits, IntKind.signed, I64]
  unfold keyK
  rw [h]
  apply propext
  constructor
  · rintro ⟨l, hl⟩
    split at hl
    · exact h2.1 (by assumption)
    · cases hl
  · intro h3
    exact ⟨_, if_pos (h2.2 h3)⟩
attribute [go_sem] keyed_int keyK_int
theorem tab_map_shape : mapT Try.prog 97 = some (3, 95) := by kernel_rfl
theorem tab_zv_shape : zeroV Try.prog 95 = some (.agg #[.int .i64 0, .bool false]) := by kernel_rfl
attribute [go_sem] tab_map_shape tab_zv_shape
theorem tab_map_int : mapT Try.prog 129 = some (3, 3) := by kernel_rfl
theorem tab_zv_int : zeroV Try.prog 3 = some (.int .i64 0) := by kernel_rfl
theorem tab_zv_bool : zeroV Try.prog 4 = some (.bool false) := by kernel_rfl
attribute [go_sem] tab_map_int
attribute [go_sem] tab_zv_int tab_zv_bool Option.getD_some Option.getD_none
end Go.Proofs.Ytephecognbbaoaa
namespace Go.Proofs.Ytephecognbbaoaa
open Go
set_option linter.all false
/-- Objects are made, and written, meanwhile; all of it. -/
theorem AWP_drawL {rd : Option Nat} {P : Program} {N : Nat} {ops : List Oper} {α0 : AF} {σ : Store} {Q : Post} {id : Nat} (bs pu : Bool) (hm : P.follows .mixedOrders = true) (hB : (drawB ops ops.length && edgesBack ops && noSelect ops && decide (ops.length ≤ ops.length) && loudOrd (bs, false) ops ops.length && (!pu || allPure (bs, false) ops)) = true)
    (h : greg P N ops (bs, false) pu σ (fun α σ => Q .normal α σ) ops α0 σ) : AWPr rd P N (.region id ops.toArray true) Q α0 σ :=
  AWP_drawG (bs, false) pu ops.length hm hB (by rw [List.take_length, List.drop_length]; exact h)
/-- Objects are made, and callees that change nothing see them. -/
theorem AWP_drawS {rd : Option Nat} {P : Program} {N : Nat} {ops : List Oper} {α0 : AF} {σ : Store} {Q : Post} {id : Nat} (bs : Bool) (hm : P.follows .mixedOrders = true) (hB : (drawB ops ops.length && edgesBack ops && noSelect ops && decide (ops.length ≤ ops.length) && loudOrd (bs, true) ops ops.length && (!false || allPure (bs, true) ops)) = true)
    (h : greg P N ops (bs, true) false σ (fun α σ => Q .normal α σ) ops α0 σ) : AWPr rd P N (.region id ops.toArray true) Q α0 σ :=
  AWP_drawG (bs, true) false ops.length hm hB (by rw [List.take_length, List.drop_length]; exact h)
theorem sc1 (τ l : Store) (a : Ob) (k : Nat) : (a :: (τ ++ l))[τ.length + (k + 1)]? = l[k]? := by rw [← Nat.add_assoc, List.getElem?_cons_succ]; exact st1 τ l k
theorem sc2 (τ l : Store) (a b : Ob) (k : Nat) : (a :: b :: (τ ++ l))[τ.length + (k + 2)]? = l[k]? := by rw [← Nat.add_assoc, List.getElem?_cons_succ, ← sc1 τ l b k]; rfl
theorem sc3 (τ l : Store) (a b c : Ob) (k : Nat) : (a :: b :: c :: (τ ++ l))[τ.length + (k + 3)]? = l[k]? := by rw [← Nat.add_assoc, List.getElem?_cons_succ, ← sc2 τ l b c k]; rfl
theorem sc4 (τ l : Store) (a b c d : Ob) (k : Nat) : (a :: b :: c :: d :: (τ ++ l))[τ.length + (k + 4)]? = l[k]? := by rw [← Nat.add_assoc, List.getElem?_cons_succ, ← sc3 τ l b c d k]; rfl
theorem ss1c (τ l : Store) (a x : Ob) (k : Nat) : (a :: (τ ++ l)).set (τ.length + (k + 1)) x = a :: (τ ++ l.set k x) := by rw [← Nat.add_assoc, List.set_cons_succ, ss1]
theorem ss2c (τ l : Store) (a b x : Ob) (k : Nat) : (a :: b :: (τ ++ l)).set (τ.length + (k + 2)) x = a :: b :: (τ ++ l.set k x) := by rw [← Nat.add_assoc, List.set_cons_succ, ← ss1c τ l b x k]; rfl
theorem ss3c (τ l : Store) (a b c x : Ob) (k : Nat) : (a :: b :: c :: (τ ++ l)).set (τ.length + (k + 3)) x = a :: b :: c :: (τ ++ l.set k x) := by rw [← Nat.add_assoc, List.set_cons_succ, ← ss2c τ l b c x k]; rfl
theorem ss4c (τ l : Store) (a b c d x : Ob) (k : Nat) : (a :: b :: c :: d :: (τ ++ l)).set (τ.length + (k + 4)) x = a :: b :: c :: d :: (τ ++ l.set k x) := by rw [← Nat.add_assoc, List.set_cons_succ, ← ss3c τ l b c d x k]; rfl
attribute [go_sem] sc1 sc2 sc3 sc4 ss1c ss2c ss3c ss4c
theorem tab_elem_arr3 : arrSize Try.prog 103 = some (1, 3) := by kernel_rfl
attribute [go_sem] tab_elem_arr3
end Go.Proofs.Ytephecognbbaoaa
