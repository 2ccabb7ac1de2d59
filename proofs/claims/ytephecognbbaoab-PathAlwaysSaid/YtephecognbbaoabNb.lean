/- Nets: links. -/
import Derived.Test.YtephecognbbaoabAl
import Derived.Test.YtephecognbbaoabAk
import Derived.Test.YtephecognbbaoabAj
import Derived.DeepKeys5
namespace Go.Proofs.Ytephecognbbaoab
open Go
set_option linter.all false
set_option maxRecDepth 100000
set_option maxHeartbeats 4000000

def lnkC (l : Lnk) : List AV := [intA1 l.fr, intA1 l.dst, intA1 l.edge]
def linksV (l : List Lnk) : AV := .sl (l.map lnkC)
def netC (n : Net) : List AV := [intA1 n.alg.size, rowsC n.alg.best, rowsC n.alg.edges, intA1 n.nodes, linksV n.links]
attribute [go_sem] lnkC linksV netC

/-- What is known of a net that came in. -/
structure NetOk (n : Net) : Prop where
  alg : AlgOk n.alg
  nodes : I64 n.nodes
  len : n.links.length ≤ 5864062014634
  lnk : ∀ l ∈ n.links, I64 l.fr ∧ I64 l.dst ∧ I64 l.edge

/- Keys that are pairs of numbers. -/
theorem wf_I64 (n : Int) : (Lit.int IntKind.i64 n).wf = true ↔ I64 n := by simp [Lit.wf, IntKind.min, IntKind.max, IntKind.bits, IntKind.signed, I64]
theorem keyLits_pair (d : Nat) (a b : Int) (ha : I64 a) (hb : I64 b) : Try.prog.keyLits (d + 2) 182 [.int .i64 a, .int .i64 b] = some [.int .i64 a, .int .i64 b] := by
  have hc : Try.prog.cellsOf 182 = 2 := by kernel_rfl
  have hi : Try.prog.cellsOf 3 = 1 := by kernel_rfl
  simp [Program.keyLits, Try.underlying182, Try.underlying3, hc, hi, List.range_succ, (wf_I64 a).2 ha, (wf_I64 b).2 hb]
theorem keyK_pair {a b : Int} (ha : I64 a) (hb : I64 b) : keyK Try.prog 182 (.agg #[.int .i64 a, .int .i64 b]) = True := by
  refine eq_true ?_
  have hk : Try.prog.keyType 182 = true := by kernel_rfl
  have hc : Try.prog.cellsOf 182 = 2 := by kernel_rfl
  have hf : (Value.agg #[.int .i64 a, .int .i64 b]).formed Try.prog 182 = true := by simp [Value.formed, Try.underlying182, hc]
  have hd : Try.prog.types.size + 1 = (Try.prog.types.size - 1) + 2 := by kernel_rfl
  have hl := keyLits_pair (Try.prog.types.size - 1) a b ha hb
  rw [← hd] at hl
  refine ⟨.string (keyBytes [.int .i64 a, .int .i64 b]), ?_⟩
  simp only [keyOf, Try.underlying182, hk, hf, Bool.and_self, if_true]
  rw [show (Value.agg #[.int .i64 a, .int .i64 b]).cells.toList = [.int .i64 a, .int .i64 b] from rfl, hl]
  rfl
theorem laidOutT : laidOutB Try.prog = true := by kernel_rfl
theorem keyed_pair : Go.Maps.Keyed Try.prog 182 = True :=
  eq_true (Go.Maps.Keyed.of_law (deep_law_gate laidOutT (by decide +kernel) (by decide +kernel) (by kernel_rfl) (by kernel_rfl)))
theorem tab_map_pair : mapT Try.prog 181 = some (182, 4) := by kernel_rfl
theorem tab_places_pair : placesA Try.prog 182 = some [(0, 1), (1, 1)] := by kernel_rfl
attribute [go_sem] keyed_pair tab_map_pair tab_places_pair
theorem tab_fone_Broken : fieldOne Try.prog 34 0 = some 0 := by kernel_rfl
theorem tab_eq_Broken : eqPlan Try.prog 34 = some [(0, false), (1, false), (2, false), (3, false), (4, false)] := by kernel_rfl
attribute [go_sem] tab_fone_Broken tab_eq_Broken

theorem lawful_calls (x : Alg) (hr : Right x) (σ : Store) : ACalls Try.prog 82 [.agg (algC x)] σ fun r σ' => σ' = σ ∧ r = .c (.bool (decide ((brokenA x seven).law = 0))) := by
  refine ACalls.cutX ?_
  refine ACalls_of_awp Try.func82 rfl Try.results82 ?_
  simp only [List.length_cons, List.length_nil, Try.ntmps82, Nat.reduceAdd, Nat.reduceSub, enterA]
  (repeat' (first|(refine g_s fun K hK=>?_)|(refine g_b ?_)|(refine g_r ?_)|(refine g_k ?_;simp only[thenQ,blockQ])|(refine g_e ?_;simp only[thenQ,blockQ,↓reduceIte,Nat.reduceEqDiff])|(refine g_c (fun h=>?_) (fun h=>?_)<;>(try simp only[go_sem] at h)<;>(try exact g_f))|((first|refine g_t ?_|refine g_G ?_|refine g_U ?_|refine g_A ?_|refine (broken_calls x seven hr (by decide) (by decide) _).use ?_|refine g_q (fun τ=>broken_calls x seven hr (by decide) (by decide) _) ?_|refine g_W ?_);(try simp -implicitDefEqProofs only[go_sem]))|(with_reducible refine hK _ _ ?_;clear hK K)|(clear hK K;first|(with_reducible refine hK _ _ ?_;clear hK K)|(clear hK K;with_reducible refine hK _ _ ?_;clear hK K)|(clear hK K;clear hK K;with_reducible refine hK _ _ ?_;clear hK K))|(with_reducible refine splitB_intro (fun h=>?_) (fun h=>?_)<;>(try simp only[go_sem] at h)<;>(try exact g_f)<;>(try simp -implicitDefEqProofs only[go_sem]))|(with_reducible refine And.intro (fun h=>?_) (fun h=>?_)<;>(try simp only[go_sem] at h)<;>(try exact g_f))|(with_reducible refine And.intro ?_ ?_;· exact g_x)|(with_reducible intro h;(try simp only[go_sem] at h);(try exact g_f))))
  refine CutQ_c rfl ?_
  by_cases h : (brokenA x seven).law = 0
  · rw [broken_zero h]
    rfl
  · simp [h]

theorem isLawful_calls (x : Alg) (hr : Right x) (σ : Store) : ACalls Try.prog 76 [.agg (algC x)] σ fun r σ' => σ' = σ ∧ r = .c (.bool (decide ((brokenA x seven).law = 0))) := by
  refine ACalls.cutX ?_
  refine ACalls_of_awp Try.func76 rfl Try.results76 ?_
  simp only [List.length_cons, List.length_nil, Try.ntmps76, Nat.reduceAdd, Nat.reduceSub, enterA]
  (repeat' (first|(refine g_s fun K hK=>?_)|(refine g_b ?_)|(refine g_r ?_)|(refine g_k ?_;simp only[thenQ,blockQ])|(refine g_e ?_;simp only[thenQ,blockQ,↓reduceIte,Nat.reduceEqDiff])|(refine g_c (fun h=>?_) (fun h=>?_)<;>(try simp only[go_sem] at h)<;>(try exact g_f))|((first|refine g_t ?_|refine g_g ?_|refine g_U ?_|refine g_A ?_|refine (brokenOf_calls x seven hr (by decide) (by decide) _).use ?_|refine g_q (fun τ=>brokenOf_calls x seven hr (by decide) (by decide) _) ?_|refine (allLaws_calls _).use ?_|refine g_q (fun τ=>allLaws_calls _) ?_|refine g_W ?_);(try simp -implicitDefEqProofs only[go_sem]))|(with_reducible refine hK _ _ ?_;clear hK K)|(clear hK K;first|(with_reducible refine hK _ _ ?_;clear hK K)|(clear hK K;with_reducible refine hK _ _ ?_;clear hK K)|(clear hK K;clear hK K;with_reducible refine hK _ _ ?_;clear hK K))|(with_reducible refine splitB_intro (fun h=>?_) (fun h=>?_)<;>(try simp only[go_sem] at h)<;>(try exact g_f)<;>(try simp -implicitDefEqProofs only[go_sem]))|(with_reducible refine And.intro (fun h=>?_) (fun h=>?_)<;>(try simp only[go_sem] at h)<;>(try exact g_f))|(with_reducible refine And.intro ?_ ?_;· exact g_x)|(with_reducible intro h;(try simp only[go_sem] at h);(try exact g_f))))
  refine CutQ_c rfl ?_
  rfl

theorem nwithin_calls (n a b : Int) (σ : Store) : ACalls Try.prog 83 [intA1 n, intA1 a, intA1 b] σ fun r σ' => σ' = σ ∧ r = .c (.bool (inR n a b)) := by
  refine ACalls_of_awp Try.func83 rfl Try.results83 ?_
  simp only [List.length_cons, List.length_nil, Try.ntmps83, Nat.reduceAdd, Nat.reduceSub, enterA]
  (repeat' (first|(refine g_s fun K hK=>?_)|(refine g_b ?_)|(refine g_r ?_)|(refine g_k ?_;simp only[thenQ,blockQ])|(refine g_e ?_;simp only[thenQ,blockQ,↓reduceIte,Nat.reduceEqDiff])|(refine g_c (fun h=>?_) (fun h=>?_)<;>(try simp only[go_sem] at h)<;>(try exact g_f))|((first|refine g_t ?_|refine g_g ?_|refine g_U ?_|refine g_A ?_|refine g_W ?_);(try simp -implicitDefEqProofs only[go_sem]))|(with_reducible refine hK _ _ ?_;clear hK K)|(clear hK K;first|(with_reducible refine hK _ _ ?_;clear hK K)|(clear hK K;with_reducible refine hK _ _ ?_;clear hK K)|(clear hK K;clear hK K;with_reducible refine hK _ _ ?_;clear hK K))|(with_reducible refine splitB_intro (fun h=>?_) (fun h=>?_)<;>(try simp only[go_sem] at h)<;>(try exact g_f)<;>(try simp -implicitDefEqProofs only[go_sem]))|(with_reducible refine And.intro (fun h=>?_) (fun h=>?_)<;>(try simp only[go_sem] at h)<;>(try exact g_f))|(with_reducible refine And.intro ?_ ?_;· exact g_x)|(with_reducible intro h;(try simp only[go_sem] at h);(try exact g_f))))
  all_goals (simp [inR]; omega)

theorem isNode_calls (n : Net) (i : Int) (hn : I64 (n.nodes - 1)) (σ : Store) : ACalls Try.prog 78 [.agg (netC n), intA1 i] σ fun r σ' => σ' = σ ∧ r = .c (.bool (inR i 0 (n.nodes - 1))) := by
  refine ACalls.cutX ?_
  refine ACalls_of_awp Try.func78 rfl Try.results78 ?_
  simp only [List.length_cons, List.length_nil, Try.ntmps78, Nat.reduceAdd, Nat.reduceSub, enterA]
  (repeat' (first|(refine g_s fun K hK=>?_)|(refine g_b ?_)|(refine g_r ?_)|(refine g_k ?_;simp only[thenQ,blockQ])|(refine g_e ?_;simp only[thenQ,blockQ,↓reduceIte,Nat.reduceEqDiff])|(refine g_c (fun h=>?_) (fun h=>?_)<;>(try simp only[go_sem] at h)<;>(try exact g_f))|((first|refine g_t ?_|refine g_g ?_|refine g_U ?_|refine g_A ?_|refine (between_calls _ _ _ _).use ?_|refine g_q (fun τ=>between_calls _ _ _ _) ?_|refine g_W ?_);(try simp -implicitDefEqProofs only[go_sem]))|(with_reducible refine hK _ _ ?_;clear hK K)|(clear hK K;first|(with_reducible refine hK _ _ ?_;clear hK K)|(clear hK K;with_reducible refine hK _ _ ?_;clear hK K)|(clear hK K;clear hK K;with_reducible refine hK _ _ ?_;clear hK K))|(with_reducible refine splitB_intro (fun h=>?_) (fun h=>?_)<;>(try simp only[go_sem] at h)<;>(try exact g_f)<;>(try simp -implicitDefEqProofs only[go_sem]))|(with_reducible refine And.intro (fun h=>?_) (fun h=>?_)<;>(try simp only[go_sem] at h)<;>(try exact g_f))|(with_reducible refine And.intro ?_ ?_;· exact g_x)|(with_reducible intro h;(try simp only[go_sem] at h);(try exact g_f))))
  exact CutQ_c rfl rfl
end Go.Proofs.Ytephecognbbaoab
namespace Go.Proofs.Ytephecognbbaoab
open Go
set_option linter.all false
set_option maxRecDepth 100000
set_option maxHeartbeats 4000000

def keyP (l : Lnk) : Value := .agg #[.int .i64 l.fr, .int .i64 l.dst]
def metE (pre : List Lnk) : List (Value × AV) := pre.map fun l => (keyP l, .c (.bool true))

theorem keyP_like (l x : Lnk) : keyP x = keyP l ↔ l.like x = true := by simp [keyP, Lnk.like]

theorem met_find (l : Lnk) : ∀ pre : List Lnk, (findK (metE pre) (keyP l)).getD (.c (.bool false)) = .c (.bool (pre.any l.like))
  | [] => rfl
  | x :: r => by
    have ih := met_find l r
    simp only [metE, List.map_cons, findK, List.any_cons] at ih ⊢
    by_cases h : keyP x = keyP l
    · rw [if_pos h, (keyP_like l x).1 h]
      rfl
    · rw [if_neg h, Bool.eq_false_iff.2 (fun e => h ((keyP_like l x).2 e)), ih]
      rfl

theorem met_new {l : Lnk} {pre : List Lnk} (h : pre.any l.like = false) : ∀ e ∈ metE pre, e.1 ≠ keyP l := by
  intro e he
  obtain ⟨x, hx, rfl⟩ := List.mem_map.1 he
  intro hc
  have := List.any_eq_false.1 h x hx
  exact this ((keyP_like l x).1 hc)

theorem met_put {l : Lnk} {pre : List Lnk} (h : pre.any l.like = false) : putK (metE pre) (keyP l) (.c (.bool true)) = metE (pre ++ [l]) := by
  rw [putK_none (met_new h)]
  simp [metE]

theorem DK_snoc {e : Value × AV} : ∀ {es : List (Value × AV)}, DK es → (∀ f ∈ es, f.1 ≠ e.1) → DK (es ++ [e])
  | [], _, _ => ⟨trivial, trivial⟩
  | f :: r, h, hn => by
    refine ⟨NK_iff.2 fun g hg => ?_, DK_snoc h.2 fun g hg => hn g (by simp [hg])⟩
    rcases List.mem_append.1 hg with hg | hg
    · exact NK_iff.1 h.1 g hg
    · rw [List.mem_singleton.1 hg]
      exact (hn f (by simp)).symm

theorem met_DK {l : Lnk} {pre : List Lnk} (h : pre.any l.like = false) (hd : DK (metE pre)) : DK (metE (pre ++ [l])) := by
  have : metE (pre ++ [l]) = metE pre ++ [(keyP l, .c (.bool true))] := by simp [metE]
  rw [this]
  exact DK_snoc hd (met_new h)

theorem met_KK {pre : List Lnk} (h : ∀ l ∈ pre, I64 l.fr ∧ I64 l.dst) : KK Try.prog 182 (metE pre) = True :=
  eq_true (KK_iff.2 fun e he => by
    obtain ⟨x, hx, rfl⟩ := List.mem_map.1 he
    exact of_eq_true (keyK_pair (h x hx).1 (h x hx).2))

theorem links_calls (n : Net) (ok : NetOk n) (h1 : 1 ≤ n.nodes) (h6 : n.nodes ≤ 6) (h8 : n.alg.edges.length ≤ 8) (σ : Store) :
    ACalls Try.prog 84 [.agg (netC n)] σ fun r σ' => σ' = σ ∧ r = intA1 (linksErr n [] n.links) := by
  have hlen := ok.len
  refine ACalls.cutX ?_
  refine ACalls_of_awp Try.func84 rfl Try.results84 ?_
  simp only [List.length_cons, List.length_nil, Try.ntmps84, Nat.reduceAdd, Nat.reduceSub, enterA]
  refine AWP_seq_k fun K hK => ?_
  (refine AWP_region ?_; simp -implicitDefEqProofs only [go_sem])
  refine hK _ _ ?_; clear hK K
  refine AWP_freezeP 1 rfl (by simp only [st0]; rfl) ?_
  simp only [ss0, List.set_cons_zero]
  (repeat' (first|(refine g_s fun K hK=>?_)|(refine g_b ?_)|(refine g_r ?_)|(refine g_k ?_;simp only[thenQ,blockQ])|(refine g_e ?_;simp only[thenQ,blockQ,↓reduceIte,Nat.reduceEqDiff])|(refine g_c (fun h=>?_) (fun h=>?_)<;>(try simp only[go_sem] at h)<;>(try exact g_f))|((first|refine g_t ?_|refine g_g ?_|refine g_U ?_|refine g_A ?_|refine g_W ?_);(try simp -implicitDefEqProofs only[go_sem]))|(with_reducible refine hK _ _ ?_;clear hK K)|(clear hK K;first|(with_reducible refine hK _ _ ?_;clear hK K)|(clear hK K;with_reducible refine hK _ _ ?_;clear hK K)|(clear hK K;clear hK K;with_reducible refine hK _ _ ?_;clear hK K))|(with_reducible refine splitB_intro (fun h=>?_) (fun h=>?_)<;>(try simp only[go_sem] at h)<;>(try exact g_f)<;>(try simp -implicitDefEqProofs only[go_sem]))|(with_reducible refine And.intro (fun h=>?_) (fun h=>?_)<;>(try simp only[go_sem] at h)<;>(try exact g_f))|(with_reducible refine And.intro ?_ ?_;· exact g_x)|(with_reducible intro h;(try simp only[go_sem] at h);(try exact g_f))))
  have hJ := hK
  clear hK
  refine AWP_each n.links (fun k r pre => n.links = pre ++ r ∧ linksErr n [] n.links = linksErr n pre r ∧ DK (metE pre)) (fun k _ _ => [(11, intA1 k)]) (fun _ pre τ => σ ++ (.dead :: .map (metE pre) :: τ)) [] [] ⟨rfl, rfl, trivial⟩ rfl (ALe_of ?_) ?_ ?_
  · simp -implicitDefEqProofs only [go_sem]
  · rintro k r pre τ hk0 hk1 ⟨hP, hE, hD⟩ L hL
    have hmem := at0_mem n.links hk0 hk1
    obtain ⟨l, hl⟩ : ∃ l, at0 n.links k = l := ⟨_, rfl⟩
    rw [hl] at hP hE hmem
    have hi := ok.lnk l hmem
    have hkk := keyK_pair hi.1 hi.2.1
    have hKK := met_KK (pre := pre) fun x hx => let h := ok.lnk x (by rw [hP]; simp [hx]); ⟨h.1, h.2.1⟩
    have hDK := eq_true hD
    have hfind := met_find l pre
    unfold keyP at hfind
    simp -implicitDefEqProofs only [go_sem]
    (repeat' (first|(refine g_s fun K hK=>?_)|(refine g_b ?_)|(refine g_r ?_)|(refine g_k ?_;simp only[thenQ,blockQ])|(refine g_e ?_;simp only[thenQ,blockQ,↓reduceIte,Nat.reduceEqDiff])|(refine g_c (fun h=>?_) (fun h=>?_)<;>(try simp only[go_sem] at h)<;>(try exact g_f))|((first|refine g_t ?_|refine g_g ?_|refine g_U ?_|refine g_A ?_|refine (nwithin_calls _ _ _ _).use ?_|refine g_q (fun τ=>nwithin_calls _ _ _ _) ?_|refine g_W ?_);(try simp -implicitDefEqProofs only[go_sem,hl, hkk, hKK, hDK, hfind]))|(with_reducible refine hK _ _ ?_;clear hK K)|(clear hK K;first|(with_reducible refine hK _ _ ?_;clear hK K)|(clear hK K;with_reducible refine hK _ _ ?_;clear hK K)|(clear hK K;clear hK K;with_reducible refine hK _ _ ?_;clear hK K))|(with_reducible refine splitB_intro (fun h=>?_) (fun h=>?_)<;>(try simp only[go_sem] at h)<;>(try exact g_f)<;>(try simp -implicitDefEqProofs only[go_sem,hl, hkk, hKK, hDK, hfind]))|(with_reducible refine And.intro (fun h=>?_) (fun h=>?_)<;>(try simp only[go_sem] at h)<;>(try exact g_f))|(with_reducible refine And.intro ?_ ?_;· exact g_x)|(with_reducible intro h;(try simp only[go_sem] at h);(try exact g_f))))
    all_goals first
      | (have e : lnkErr n pre l = 5 := by clear hL hJ hfind hkk hKK hDK; simp [lnkErr, *]
         refine CutQ_c rfl ?_
         rw [hE, linksErr_bad (by rw [e]; decide), e]
         done)
      | (have e : lnkErr n pre l = 1 := by clear hL hJ hfind hkk hKK hDK; simp [lnkErr, *]
         refine CutQ_c rfl ?_
         rw [hE, linksErr_bad (by rw [e]; decide), e]
         done)
      | (have e : lnkErr n pre l = 6 := by clear hL hJ hfind hkk hKK hDK; simp [lnkErr, *]
         refine CutQ_c rfl ?_
         rw [hE, linksErr_bad (by rw [e]; decide), e]
         done)
      | skip
    all_goals
      have e : lnkErr n pre l = 0 := by clear hL hJ hfind hkk hKK hDK; simp [lnkErr, *]
      have hn := (lnkIn_of e).2
      have hput := met_put hn
      unfold keyP at hput
      rw [hput]
      refine hL (pre ++ [l]) _ _ _ ⟨by rw [hP]; simp, by rw [hE, linksErr_good e], met_DK hn hD⟩ (ALe_of ?_) rfl
      simp -implicitDefEqProofs only [go_sem]
  · rintro k pre τ hk ⟨hP, hE, hD⟩ L
    simp -implicitDefEqProofs only [go_sem]
    (repeat' (first|(refine g_s fun K hK=>?_)|(refine g_b ?_)|(refine g_r ?_)|(refine g_k ?_;simp only[thenQ,blockQ])|(refine g_e ?_;simp only[thenQ,blockQ,↓reduceIte,Nat.reduceEqDiff])|(refine g_c (fun h=>?_) (fun h=>?_)<;>(try simp only[go_sem] at h)<;>(try exact g_f))|((first|refine g_t ?_|refine g_g ?_|refine g_U ?_|refine g_A ?_|refine g_W ?_);(try simp -implicitDefEqProofs only[go_sem]))|(with_reducible refine hK _ _ ?_;clear hK K)|(clear hK K;first|(with_reducible refine hK _ _ ?_;clear hK K)|(clear hK K;with_reducible refine hK _ _ ?_;clear hK K)|(clear hK K;clear hK K;with_reducible refine hK _ _ ?_;clear hK K))|(with_reducible refine splitB_intro (fun h=>?_) (fun h=>?_)<;>(try simp only[go_sem] at h)<;>(try exact g_f)<;>(try simp -implicitDefEqProofs only[go_sem]))|(with_reducible refine And.intro (fun h=>?_) (fun h=>?_)<;>(try simp only[go_sem] at h)<;>(try exact g_f))|(with_reducible refine And.intro ?_ ?_;· exact g_x)|(with_reducible intro h;(try simp only[go_sem] at h);(try exact g_f))))
    refine hJ _ _ ?_
    clear hJ
    (repeat' (first|(refine g_s fun K hK=>?_)|(refine g_b ?_)|(refine g_r ?_)|(refine g_k ?_;simp only[thenQ,blockQ])|(refine g_e ?_;simp only[thenQ,blockQ,↓reduceIte,Nat.reduceEqDiff])|(refine g_c (fun h=>?_) (fun h=>?_)<;>(try simp only[go_sem] at h)<;>(try exact g_f))|((first|refine g_t ?_|refine g_g ?_|refine g_U ?_|refine g_A ?_|refine g_W ?_);(try simp -implicitDefEqProofs only[go_sem]))|(with_reducible refine hK _ _ ?_;clear hK K)|(clear hK K;first|(with_reducible refine hK _ _ ?_;clear hK K)|(clear hK K;with_reducible refine hK _ _ ?_;clear hK K)|(clear hK K;clear hK K;with_reducible refine hK _ _ ?_;clear hK K))|(with_reducible refine splitB_intro (fun h=>?_) (fun h=>?_)<;>(try simp only[go_sem] at h)<;>(try exact g_f)<;>(try simp -implicitDefEqProofs only[go_sem]))|(with_reducible refine And.intro (fun h=>?_) (fun h=>?_)<;>(try simp only[go_sem] at h)<;>(try exact g_f))|(with_reducible refine And.intro ?_ ?_;· exact g_x)|(with_reducible intro h;(try simp only[go_sem] at h);(try exact g_f))))
    refine CutQ_c rfl ?_
    rw [hE]
    rfl
end Go.Proofs.Ytephecognbbaoab
