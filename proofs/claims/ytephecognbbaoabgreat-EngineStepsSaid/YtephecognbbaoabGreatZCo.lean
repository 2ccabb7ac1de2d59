/- Engines, as content; Check, as the program does it. -/
import Derived.Test.YtephecognbbaoabGreatZNt
import Derived.Test.YtephecognbbaoabGreatZEq
import Derived.Test.YtephecognbbaoabGreatZGr
import Derived.Test.YtephecognbbaoabGreatZSy
import Derived.Test.YtephecognbbaoabGreatZLo
open Go
set_option linter.all false
set_option maxRecDepth 100000
set_option maxHeartbeats 4000000
namespace Go.Proofs.YtephecognbbaoabGreat
open Go
set_option linter.all false
set_option maxRecDepth 100000
set_option maxHeartbeats 4000000
def rtrC (r : Rtr) : List AV := [intsA r.routes, rowsC r.told]
def mailC (m : Mail) : List AV := [intA1 m.fr, intA1 m.dst, .c (.string (strOfNums m.bytes))]
def engC (e : Eng) : List AV := [.sl (e.routers.map rtrC), .sl (e.bag.map mailC)]
attribute [go_sem] rtrC mailC engC
theorem rtrC_len (l : List Rtr) : (∀ e', e' ∈ l.map rtrC → e'.length = 2) = True := len_map (f := rtrC) (fun _ => rfl) l
theorem rtrC_one (l : List Rtr) : (∀ e', e' ∈ l.map rtrC → e'.all oneA = true) = True := one_map (f := rtrC) (fun _ => rfl) l
theorem mailC_len (l : List Mail) : (∀ e', e' ∈ l.map mailC → e'.length = 3) = True := len_map (f := mailC) (fun _ => rfl) l
theorem mailC_one (l : List Mail) : (∀ e', e' ∈ l.map mailC → e'.all oneA = true) = True := one_map (f := mailC) (fun _ => rfl) l
attribute [go_sem] rtrC_len rtrC_one mailC_len mailC_one
/-- What is known of an engine that came in. -/
structure RtrOk (r : Rtr) : Prop where
  rl : r.routes.length ≤ 17592186044000
  tl : r.told.length ≤ 5864062014634
  tr : ∀ l ∈ r.told, l.length ≤ 17592186044000
structure MailOk (m : Mail) : Prop where
  fr : I64 m.fr
  dst : I64 m.dst
  len : m.bytes.length ≤ 140737488351232
  rng : ∀ c ∈ m.bytes, 0 ≤ c ∧ c ≤ 255
structure EngOk (e : Eng) : Prop where
  rl : e.routers.length ≤ 2932031007317
  rtr : ∀ r ∈ e.routers, RtrOk r
  bl : e.bag.length ≤ 4398046510980
  mail : ∀ m ∈ e.bag, MailOk m
theorem row1_calls (n : Net) (v : Int) (hx : I64 (n.alg.size - 1)) (σ : Store) : ACalls Tryz.prog 80 [intA1 v, .cp (netC n) 0] σ fun r σ' => σ' = σ ∧ r = .c (.bool (!inR v 0 (n.alg.size - 1))) := by
  have hI := is_calls n.alg v hx
  refine ACalls_of_awp Tryz.func80 rfl Tryz.results80 ?_
  simp only [List.length_cons, List.length_nil, Tryz.ntmps80, Nat.reduceAdd, Nat.reduceSub, enterA]
  (repeat' (first|(refine g_s fun K hK=>?_)|((first|refine g_t ?_|refine g_g ?_|refine (hI _).use ?_);(try simp -implicitDefEqProofs only[go_sem]))|(with_reducible refine hK _ _ ?_;clear hK K)|fail))
theorem row_calls (n : Net) (l : List Int) (hx : I64 (n.alg.size - 1)) (hl : l.length ≤ 1000000000000000000) (σ : Store) : ACalls Tryz.prog 60 [.agg (netC n), intsA l] σ fun r σ' => σ' = σ ∧ r = intA1 (rowErr n l) := by
  have hC := fun S => containsFunc_int l (fun v => !inR v 0 (n.alg.size - 1)) 80 [] [.cp (netC n) 0] S hl (by kernel_rfl) (fun v _ => row1_calls n v hx S)
  refine ACalls.cutX ?_
  refine ACalls_of_awp Tryz.func60 rfl Tryz.results60 ?_
  simp only [List.length_cons, List.length_nil, Tryz.ntmps60, Nat.reduceAdd, Nat.reduceSub, enterA]
  refine AWP_seq_k fun K hK => ?_
  (refine AWP_region ?_; simp -implicitDefEqProofs only [go_sem])
  refine hK _ _ ?_; clear hK K
  refine AWP_freezeP 2 rfl (by simp only [st0]; rfl) ?_
  simp only [ss0, List.set_cons_zero]
  by_cases h1 : (l.length : Int) = n.nodes
  · cases h2 : l.any fun v => !inR v 0 (n.alg.size - 1)
    · rw [h2] at hC
      (repeat' (first|(refine g_s fun K hK=>?_)|(refine g_k ?_;simp only[thenQ,blockQ])|(refine g_c (fun h=>?_) (fun h=>?_)<;>(try simp only[go_sem] at h)<;>(try exact g_f))|((first|refine g_t ?_|refine g_g ?_|refine (hC _).use ?_);(try simp -implicitDefEqProofs only[go_sem]))|(with_reducible refine hK _ _ ?_;clear hK K)|fail))
      refine CutQ_c rfl ?_
      rw [rowErr, if_neg (not_not_intro h1), h2, if_neg (by decide)]
    · rw [h2] at hC
      (repeat' (first|(refine g_s fun K hK=>?_)|(refine g_k ?_;simp only[thenQ,blockQ])|(refine g_c (fun h=>?_) (fun h=>?_)<;>(try simp only[go_sem] at h)<;>(try exact g_f))|((first|refine g_t ?_|refine g_g ?_|refine (hC _).use ?_);(try simp -implicitDefEqProofs only[go_sem]))|(with_reducible refine hK _ _ ?_;clear hK K)|fail))
      refine CutQ_c rfl ?_
      rw [rowErr, if_neg (not_not_intro h1), h2, if_pos rfl]
  · (repeat' (first|(refine g_s fun K hK=>?_)|(refine g_c (fun h=>?_) (fun h=>?_)<;>(try simp only[go_sem] at h)<;>(try exact g_f))|((first|refine g_t ?_|refine g_g ?_);(try simp -implicitDefEqProofs only[go_sem]))|(with_reducible refine hK _ _ ?_;clear hK K)|fail))
    refine CutQ_c rfl ?_
    rw [rowErr, if_pos h1]
def rowsE (r : Rtr) : List (List Int) := r.routes :: r.told.filter fun l => decide (l ≠ [])
theorem rowsE_len (r : Rtr) : (rowsE r).length ≤ r.told.length + 1 := by
  have := List.length_filter_le (fun l => decide (l ≠ [])) r.told
  simp only [rowsE, List.length_cons]
  omega
theorem erows_calls (r : Rtr) (ok : RtrOk r) (σ : Store) : ACalls Tryz.prog 58 [.agg (rtrC r)] σ fun r' σ' => σ' = σ ∧ r' = rowsC (rowsE r) := by
  have htl := ok.tl
  refine ACalls.cutX ?_
  refine ACalls_of_awp Tryz.func58 rfl Tryz.results58 ?_
  simp only [List.length_cons, List.length_nil, Tryz.ntmps58, Nat.reduceAdd, Nat.reduceSub, enterA]
  refine AWP_seq_k fun K hK => ?_
  (refine AWP_region ?_; simp -implicitDefEqProofs only [go_sem])
  refine hK _ _ ?_; clear hK K
  refine AWP_freezeP 1 rfl (by simp only [st0]; rfl) ?_
  simp only [ss0, List.set_cons_zero]
  (repeat' (first|(refine g_s fun K hK=>?_)|(refine g_b ?_)|(refine g_g ?_;(try simp -implicitDefEqProofs only[go_sem]))|(with_reducible refine hK _ _ ?_;clear hK K)|fail))
  have hJ := hK
  clear hK
  refine AWP_each r.told (fun _ t acc => acc ++ t.filter (fun l => decide (l ≠ [])) = r.told.filter fun l => decide (l ≠ [])) (fun k acc τ => [(12, intA1 k), (3, accV 1 (σ.length + (τ.length + 1)) (r.routes :: acc))]) (fun _ acc τ => σ ++ (.dead :: (τ ++ [accO rowC 1 (r.routes :: acc)]))) [] [] rfl ?_ (ALe_of ?_) ?_ ?_
  · simp [accO, rowC, intsA]
  · simp -implicitDefEqProofs only [go_sem, accV, accO]
  · rintro k t acc τ hk0 hk1 h3 L hL
    obtain ⟨w, hw⟩ : ∃ w, at0 r.told k = w := ⟨_, rfl⟩
    rw [hw] at h3
    have hal : acc.length ≤ r.told.length := by
      have := congrArg List.length h3
      have h5 := List.length_filter_le (fun l => decide (l ≠ [])) r.told
      rw [List.length_append] at this
      omega
    by_cases he : w = []
    · rw [List.filter_cons_of_neg (by simpa using he)] at h3
      subst he
      simp -implicitDefEqProofs only [go_sem, accV, accO]
      (repeat' (first|(refine g_s fun K hK=>?_)|(refine g_b ?_)|(refine g_k ?_;simp only[thenQ,blockQ])|(refine g_c (fun h=>?_) (fun h=>?_)<;>(try simp only[go_sem] at h)<;>(try exact g_f))|(refine g_g ?_;(try simp -implicitDefEqProofs only[go_sem,hw]))|(with_reducible refine hK _ _ ?_;clear hK K)|(with_reducible refine And.intro ?_ ?_;· exact g_x)|fail))
      refine hL acc τ _ _ h3 (ALe_of ?_) (by simp [accO])
      simp -implicitDefEqProofs only [go_sem, accV]
    · rw [List.filter_cons_of_pos (by simpa using he)] at h3
      have hwl : 0 < w.length := List.length_pos_iff.2 he
      simp -implicitDefEqProofs only [go_sem, accV, accO]
      (repeat' (first|(refine g_s fun K hK=>?_)|(refine g_b ?_)|(refine g_k ?_;simp only[thenQ,blockQ])|(refine g_c (fun h=>?_) (fun h=>?_)<;>(try simp only[go_sem] at h)<;>(try exact g_f))|(refine g_G ?_;(try simp -implicitDefEqProofs only[go_sem,hw]))|(with_reducible refine hK _ _ ?_;clear hK K)|(with_reducible refine And.intro ?_ ?_;· exact g_x)|fail))
      refine hL (acc ++ [w]) (τ ++ [.dead]) _ _ (by simpa using h3) (ALe_of ?_) ?_
      · simp -implicitDefEqProofs only [go_sem, accV]
      · simp [accO, rowC, intsA]
  · rintro k acc τ hk h3 L
    rw [List.filter_nil, List.append_nil] at h3
    simp -implicitDefEqProofs only [go_sem]
    (repeat' (first|(refine g_s fun K hK=>?_)|(refine g_e ?_;simp only[thenQ,blockQ,↓reduceIte,Nat.reduceEqDiff])|(refine g_c (fun h=>?_) (fun h=>?_)<;>(try simp only[go_sem] at h)<;>(try exact g_f))|(refine g_g ?_;(try simp -implicitDefEqProofs only[go_sem]))|(with_reducible refine hK _ _ ?_;clear hK K)|fail))
    refine hJ _ _ ?_
    clear hJ
    have est : σ ++ (.dead :: (τ ++ [accO rowC 1 (r.routes :: acc)])) = σ ++ ((.dead :: τ) ++ accO rowC 1 (r.routes :: acc) :: []) := by simp
    rw [est]
    refine AWP_freezeAcc 3 rowC 1 (r.routes :: acc) σ (.dead :: τ) [] (by simp [look, Nat.add_assoc]) ?_
    (repeat' (first|(refine g_s fun K hK=>?_)|((first|refine g_t ?_|refine g_G ?_);(try simp -implicitDefEqProofs only[go_sem]))|(with_reducible refine hK _ _ ?_;clear hK K)|fail))
    rw [h3]
    exact CutQ_w rfl (Bd.rows _) (.eq rfl)
theorem all11_calls (n : Net) (why : Int) (l : List Int) (hx : I64 (n.alg.size - 1)) (hl : l.length ≤ 1000000000000000000) (σ : Store) : ACalls Tryz.prog 59 [intsA l, .cp (netC n) 0, .cp [intA1 why] 0] σ fun r σ' => σ' = σ ∧ r = .c (.bool (decide (rowErr n l = why))) := by
  have hR := row_calls n l hx hl
  refine ACalls_of_awp Tryz.func59 rfl Tryz.results59 ?_
  simp only [List.length_cons, List.length_nil, Tryz.ntmps59, Nat.reduceAdd, Nat.reduceSub, enterA]
  (repeat' (first|(refine g_s fun K hK=>?_)|((first|refine g_t ?_|refine g_g ?_|refine g_U ?_|refine g_q (fun τ=>hR _) ?_);(try simp -implicitDefEqProofs only[go_sem]))|(with_reducible refine hK _ _ ?_;clear hK K)|fail))
  rfl
def allP (n : Net) (why : Int) (r : Rtr) : Bool := (decide (why = 1) && decide ((r.told.length : Int) ≠ n.nodes)) || (rowsE r).any fun l => decide (rowErr n l = why)
theorem all1_calls (n : Net) (why : Int) (r : Rtr) (ok : RtrOk r) (hx : I64 (n.alg.size - 1)) (σ : Store) : ACalls Tryz.prog 56 [.agg (rtrC r), .cp [intA1 why] 0, .cp (netC n) 0] σ fun r' σ' => σ' = σ ∧ r' = .c (.bool (allP n why r)) := by
  have hR := erows_calls r ok
  have htl := ok.tl
  have hrl := rowsE_len r
  have hC := fun S => containsFunc_rows (rowsE r) (fun l => decide (rowErr n l = why)) 59 [] [.cp (netC n) 0, .cp [intA1 why] 0] S (by omega) (by kernel_rfl) (fun l hl => all11_calls n why l hx (by
    rcases List.mem_cons.1 hl with rfl | hl
    · have := ok.rl; omega
    · have := ok.tr l (List.mem_filter.1 hl).1; omega) S)
  rw [allP]
  obtain ⟨B, hB⟩ : ∃ B, ((rowsE r).any fun l => decide (rowErr n l = why)) = B := ⟨_, rfl⟩
  simp only [hB] at hC ⊢
  refine ACalls.cutX ?_
  by_cases h1 : why = 1 ∧ (r.told.length : Int) ≠ n.nodes
  · obtain ⟨rfl, h2⟩ := h1
    refine ACalls_of_awp Tryz.func56 rfl Tryz.results56 ?_
    simp only [List.length_cons, List.length_nil, Tryz.ntmps56, Nat.reduceAdd, Nat.reduceSub, enterA]
    refine AWP_seq_k fun K hK => ?_
    (refine AWP_region ?_; simp -implicitDefEqProofs only [go_sem])
    refine hK _ _ ?_; clear hK K
    refine AWP_freezeP 3 rfl (by simp only [st0]; rfl) ?_
    simp only [ss0, List.set_cons_zero]
    (repeat' (first|(refine g_s fun K hK=>?_)|((first|refine g_t ?_|refine g_g ?_);(try simp -implicitDefEqProofs only[go_sem]))|(with_reducible refine hK _ _ ?_;clear hK K)|(with_reducible refine splitB_intro (fun h=>?_) (fun h=>?_)<;>(try simp only[go_sem] at h)<;>(try exact g_f)<;>(try simp -implicitDefEqProofs only[go_sem]))|fail))
    refine CutQ_c rfl ?_
    simp [h2]
  · have hz : (decide (why = 1) && decide ((r.told.length : Int) ≠ n.nodes)) = false := by
      rw [← Bool.not_eq_true, Bool.and_eq_true, decide_eq_true_eq, decide_eq_true_eq]
      exact h1
    rw [hz, Bool.false_or]
    refine ACalls_of_awp Tryz.func56 rfl Tryz.results56 ?_
    simp only [List.length_cons, List.length_nil, Tryz.ntmps56, Nat.reduceAdd, Nat.reduceSub, enterA]
    refine AWP_seq_k fun K hK => ?_
    (refine AWP_region ?_; simp -implicitDefEqProofs only [go_sem])
    refine hK _ _ ?_; clear hK K
    refine AWP_freezeP 3 rfl (by simp only [st0]; rfl) ?_
    simp only [ss0, List.set_cons_zero]
    (repeat' (first|(refine g_s fun K hK=>?_)|((first|refine g_t ?_|refine g_g ?_|refine (hR _).use ?_|refine (hC _).use ?_);(try simp -implicitDefEqProofs only[go_sem]))|(with_reducible refine hK _ _ ?_;clear hK K)|(with_reducible refine splitB_intro (fun h=>?_) (fun h=>?_)<;>(try simp only[go_sem] at h)<;>(try exact g_f)<;>(try simp -implicitDefEqProofs only[go_sem]))|fail))
    all_goals exact CutQ_c rfl rfl
theorem indexFunc_rtr (l : List Rtr) (p : Rtr → Bool) (f : FuncId) (first cap : List AV) (σ : Store) (hl : l.length ≤ 1000000000000000000) (hok : callOk Tryz.prog f = true)
    (hf : ∀ x ∈ l, ∀ S, ACalls Tryz.prog f (first ++ .agg (rtrC x) :: cap) S fun r σ' => σ' = S ∧ r = .c (.bool (p x))) :
    ACalls Tryz.prog 77 [.sl (l.map rtrC), .fn f first cap] σ fun r σ' => σ' = σ ∧ r = intA1 (firstI p 0 l) := by
  refine ACalls_of_awp Tryz.func77 rfl Tryz.results77 ?_
  simp only [List.length_cons, List.length_nil, Tryz.ntmps77, Nat.reduceAdd, Nat.reduceSub, enterA]
  (repeat' (first|(refine g_s fun K hK=>?_)|(refine g_b ?_)|(refine g_g ?_;(try simp -implicitDefEqProofs only[go_sem]))|(with_reducible refine hK _ _ ?_;clear hK K)|fail))
  refine AWP_each l (fun k r _ => firstI p 0 l = firstI p k r) (fun k _ _ => [(8, intA1 k)]) (fun _ _ _ => σ) () [] rfl rfl (ALe_of ?_) ?_ ?_
  · simp -implicitDefEqProofs only [go_sem]
  · rintro k r s τ hk0 hk1 h1 L hL
    obtain ⟨u, hu⟩ : ∃ u, at0 l k = u := ⟨_, rfl⟩
    have hm := at0_mem l hk0 hk1
    rw [hu] at h1 hm
    have hc := hf _ hm
    simp -implicitDefEqProofs only [go_sem]
    (repeat' (first|(refine g_s fun K hK=>?_)|(refine g_b ?_)|(refine g_k ?_;simp only[thenQ,blockQ])|(refine g_c (fun h=>?_) (fun h=>?_)<;>(try simp only[go_sem] at h)<;>(try exact g_f))|((first|refine g_t ?_|refine g_g ?_|refine (hc _).use ?_);(try simp -implicitDefEqProofs only[go_sem,hu]))|(with_reducible refine hK _ _ ?_;clear hK K)|(with_reducible refine And.intro ?_ ?_;· exact g_x)|fail))
    · rw [h1, firstI, if_pos (by assumption)]
    · refine hL () [] _ _ ?_ (ALe_of ?_) rfl
      · rw [h1, firstI, if_neg (by simp [*])]
      · simp -implicitDefEqProofs only [go_sem]
  · intro k s τ hk h1 L
    simp -implicitDefEqProofs only [go_sem]
    (repeat' (first|(refine g_s fun K hK=>?_)|(refine g_e ?_;simp only[thenQ,blockQ,↓reduceIte,Nat.reduceEqDiff])|(refine g_c (fun h=>?_) (fun h=>?_)<;>(try simp only[go_sem] at h)<;>(try exact g_f))|((first|refine g_t ?_|refine g_g ?_);(try simp -implicitDefEqProofs only[go_sem]))|(with_reducible refine hK _ _ ?_;clear hK K)|(clear hK K;first|(with_reducible refine hK _ _ ?_;clear hK K)|(clear hK K;with_reducible refine hK _ _ ?_;clear hK K)|(clear hK K;clear hK K;with_reducible refine hK _ _ ?_;clear hK K))|fail))
    rw [h1, firstI]
theorem containsFunc_rtr (l : List Rtr) (p : Rtr → Bool) (f : FuncId) (first cap : List AV) (σ : Store) (hl : l.length ≤ 1000000000000000000) (hok : callOk Tryz.prog f = true)
    (hf : ∀ x ∈ l, ∀ S, ACalls Tryz.prog f (first ++ .agg (rtrC x) :: cap) S fun r σ' => σ' = S ∧ r = .c (.bool (p x))) :
    ACalls Tryz.prog 55 [.sl (l.map rtrC), .fn f first cap] σ fun r σ' => σ' = σ ∧ r = .c (.bool (l.any p)) := by
  have hc := indexFunc_rtr l p f first cap σ hl hok hf
  refine ACalls_of_awp Tryz.func55 rfl Tryz.results55 ?_
  simp only [List.length_cons, List.length_nil, Tryz.ntmps55, Nat.reduceAdd, Nat.reduceSub, enterA]
  (repeat' (first|(refine g_s fun K hK=>?_)|((first|refine g_t ?_|refine g_g ?_|refine (hc).use ?_);(try simp -implicitDefEqProofs only[go_sem]))|(with_reducible refine hK _ _ ?_;clear hK K)|fail))
  rw [← firstI_ge p l 0 (Int.le_refl _)]
theorem indexFunc_mail (l : List Mail) (p : Mail → Bool) (f : FuncId) (first cap : List AV) (σ : Store) (hl : l.length ≤ 1000000000000000000) (hok : callOk Tryz.prog f = true)
    (hf : ∀ x ∈ l, ∀ S, ACalls Tryz.prog f (first ++ .agg (mailC x) :: cap) S fun r σ' => σ' = S ∧ r = .c (.bool (p x))) :
    ACalls Tryz.prog 61 [.sl (l.map mailC), .fn f first cap] σ fun r σ' => σ' = σ ∧ r = intA1 (firstI p 0 l) := by
  refine ACalls_of_awp Tryz.func61 rfl Tryz.results61 ?_
  simp only [List.length_cons, List.length_nil, Tryz.ntmps61, Nat.reduceAdd, Nat.reduceSub, enterA]
  (repeat' (first|(refine g_s fun K hK=>?_)|(refine g_b ?_)|(refine g_g ?_;(try simp -implicitDefEqProofs only[go_sem]))|(with_reducible refine hK _ _ ?_;clear hK K)|fail))
  refine AWP_each l (fun k r _ => firstI p 0 l = firstI p k r) (fun k _ _ => [(8, intA1 k)]) (fun _ _ _ => σ) () [] rfl rfl (ALe_of ?_) ?_ ?_
  · simp -implicitDefEqProofs only [go_sem]
  · rintro k r s τ hk0 hk1 h1 L hL
    obtain ⟨u, hu⟩ : ∃ u, at0 l k = u := ⟨_, rfl⟩
    have hm := at0_mem l hk0 hk1
    rw [hu] at h1 hm
    have hc := hf _ hm
    simp -implicitDefEqProofs only [go_sem]
    (repeat' (first|(refine g_s fun K hK=>?_)|(refine g_b ?_)|(refine g_k ?_;simp only[thenQ,blockQ])|(refine g_c (fun h=>?_) (fun h=>?_)<;>(try simp only[go_sem] at h)<;>(try exact g_f))|((first|refine g_t ?_|refine g_g ?_|refine (hc _).use ?_);(try simp -implicitDefEqProofs only[go_sem,hu]))|(with_reducible refine hK _ _ ?_;clear hK K)|(with_reducible refine And.intro ?_ ?_;· exact g_x)|fail))
    · rw [h1, firstI, if_pos (by assumption)]
    · refine hL () [] _ _ ?_ (ALe_of ?_) rfl
      · rw [h1, firstI, if_neg (by simp [*])]
      · simp -implicitDefEqProofs only [go_sem]
  · intro k s τ hk h1 L
    simp -implicitDefEqProofs only [go_sem]
    (repeat' (first|(refine g_s fun K hK=>?_)|(refine g_e ?_;simp only[thenQ,blockQ,↓reduceIte,Nat.reduceEqDiff])|(refine g_c (fun h=>?_) (fun h=>?_)<;>(try simp only[go_sem] at h)<;>(try exact g_f))|((first|refine g_t ?_|refine g_g ?_);(try simp -implicitDefEqProofs only[go_sem]))|(with_reducible refine hK _ _ ?_;clear hK K)|(clear hK K;first|(with_reducible refine hK _ _ ?_;clear hK K)|(clear hK K;with_reducible refine hK _ _ ?_;clear hK K)|(clear hK K;clear hK K;with_reducible refine hK _ _ ?_;clear hK K))|fail))
    rw [h1, firstI]
theorem containsFunc_mail (l : List Mail) (p : Mail → Bool) (f : FuncId) (first cap : List AV) (σ : Store) (hl : l.length ≤ 1000000000000000000) (hok : callOk Tryz.prog f = true)
    (hf : ∀ x ∈ l, ∀ S, ACalls Tryz.prog f (first ++ .agg (mailC x) :: cap) S fun r σ' => σ' = S ∧ r = .c (.bool (p x))) :
    ACalls Tryz.prog 23 [.sl (l.map mailC), .fn f first cap] σ fun r σ' => σ' = σ ∧ r = .c (.bool (l.any p)) := by
  have hc := indexFunc_mail l p f first cap σ hl hok hf
  refine ACalls_of_awp Tryz.func23 rfl Tryz.results23 ?_
  simp only [List.length_cons, List.length_nil, Tryz.ntmps23, Nat.reduceAdd, Nat.reduceSub, enterA]
  (repeat' (first|(refine g_s fun K hK=>?_)|((first|refine g_t ?_|refine g_g ?_|refine (hc).use ?_);(try simp -implicitDefEqProofs only[go_sem]))|(with_reducible refine hK _ _ ?_;clear hK K)|fail))
  rw [← firstI_ge p l 0 (Int.le_refl _)]
theorem all_calls (n : Net) (e : Eng) (why : Int) (ok : EngOk e) (hx : I64 (n.alg.size - 1)) (σ : Store) : ACalls Tryz.prog 22 [.agg (netC n), .agg (engC e), intA1 why] σ fun r σ' => σ' = σ ∧ r = .c (.bool (e.routers.any (allP n why))) := by
  have hC := fun S => containsFunc_rtr e.routers (allP n why) 56 [] [.cp [intA1 why] 0, .cp (netC n) 0] S (by have := ok.rl; omega) (by kernel_rfl) (fun r hr S => all1_calls n why r (ok.rtr r hr) hx S)
  refine ACalls.cutX ?_
  refine ACalls_of_awp Tryz.func22 rfl Tryz.results22 ?_
  simp only [List.length_cons, List.length_nil, Tryz.ntmps22, Nat.reduceAdd, Nat.reduceSub, enterA]
  refine AWP_seq_k fun K hK => ?_
  (refine AWP_region ?_; simp -implicitDefEqProofs only [go_sem])
  refine hK _ _ ?_; clear hK K
  refine AWP_freezeP 3 rfl (by simp only [st0]; rfl) ?_
  simp only [ss0, List.set_cons_zero]
  refine AWP_freezeP 4 rfl (by simp only [st1]; rfl) ?_
  simp only [ss1, List.set_cons_zero, List.set_cons_succ]
  refine AWP_freezeP 5 rfl (by simp only [st1]; rfl) ?_
  simp only [ss1, List.set_cons_zero, List.set_cons_succ]
  (repeat' (first|(refine g_s fun K hK=>?_)|((first|refine g_t ?_|refine g_g ?_|refine (hC _).use ?_);(try simp -implicitDefEqProofs only[go_sem]))|(with_reducible refine hK _ _ ?_;clear hK K)|fail))
  exact CutQ_c rfl rfl
theorem enode_calls (n : Net) (i : Int) (σ : Store) : ACalls Tryz.prog 25 [.agg (netC n), intA1 i] σ fun r σ' => σ' = σ ∧ r = .c (.bool (inR i 0 (n.nodes - 1))) := by
  refine ACalls.cutX ?_
  refine ACalls_of_awp Tryz.func25 rfl Tryz.results25 ?_
  simp only [List.length_cons, List.length_nil, Tryz.ntmps25, Nat.reduceAdd, Nat.reduceSub, enterA]
  refine AWP_seq_k fun K hK => ?_
  (refine AWP_region ?_; simp -implicitDefEqProofs only [go_sem])
  refine hK _ _ ?_; clear hK K
  refine AWP_freezeP 2 rfl (by simp only [st0]; rfl) ?_
  simp only [ss0, List.set_cons_zero]
  (repeat' (first|(refine g_s fun K hK=>?_)|((first|refine g_t ?_|refine g_g ?_);(try simp -implicitDefEqProofs only[go_sem]))|(with_reducible refine hK _ _ ?_;clear hK K)|(with_reducible refine splitB_intro (fun h=>?_) (fun h=>?_)<;>(try simp only[go_sem] at h)<;>(try exact g_f)<;>(try simp -implicitDefEqProofs only[go_sem]))|fail))
  all_goals (refine CutQ_c rfl ?_; congr 2; rw [Bool.eq_iff_iff]; simp [inR]; omega)
theorem check1_calls (n : Net) (m : Mail) (σ : Store) : ACalls Tryz.prog 24 [.agg (mailC m), .cp (netC n) 0] σ fun r σ' => σ' = σ ∧ r = .c (.bool (!inR m.fr 0 (n.nodes - 1) || !inR m.dst 0 (n.nodes - 1))) := by
  have h1 := enode_calls n m.fr
  have h2 := enode_calls n m.dst
  refine ACalls.cutX ?_
  refine ACalls_of_awp Tryz.func24 rfl Tryz.results24 ?_
  simp only [List.length_cons, List.length_nil, Tryz.ntmps24, Nat.reduceAdd, Nat.reduceSub, enterA]
  refine AWP_seq_k fun K hK => ?_
  (refine AWP_region ?_; simp -implicitDefEqProofs only [go_sem])
  refine hK _ _ ?_; clear hK K
  refine AWP_freezeP 2 rfl (by simp only [st0]; rfl) ?_
  simp only [ss0, List.set_cons_zero]
  cases hf : inR m.fr 0 (n.nodes - 1)
  · rw [hf] at h1
    (repeat' (first|(refine g_s fun K hK=>?_)|((first|refine g_t ?_|refine g_g ?_|refine (h1 _).use ?_);(try simp -implicitDefEqProofs only[go_sem]))|(with_reducible refine hK _ _ ?_;clear hK K)|fail))
    exact CutQ_c rfl rfl
  · rw [hf] at h1
    (repeat' (first|(refine g_s fun K hK=>?_)|((first|refine g_t ?_|refine g_g ?_|refine (h1 _).use ?_|refine (h2 _).use ?_);(try simp -implicitDefEqProofs only[go_sem]))|(with_reducible refine hK _ _ ?_;clear hK K)|fail))
    exact CutQ_c rfl rfl
theorem check2_calls (m : Mail) (hl : m.bytes.length ≤ 140737488351232) (σ : Store) : ACalls Tryz.prog 26 [.agg (mailC m)] σ fun r σ' => σ' = σ ∧ r = .c (.bool (decide (60 < m.bytes.length))) := by
  refine ACalls.cutX ?_
  refine ACalls_of_awp Tryz.func26 rfl Tryz.results26 ?_
  simp only [List.length_cons, List.length_nil, Tryz.ntmps26, Nat.reduceAdd, Nat.reduceSub, enterA]
  refine AWP_seq_k fun K hK => ?_
  (refine AWP_region ?_; simp -implicitDefEqProofs only [go_sem])
  refine hK _ _ ?_; clear hK K
  refine AWP_freezeP 1 rfl (by simp only [st0]; rfl) ?_
  simp only [ss0, List.set_cons_zero]
  (repeat' (first|(refine g_s fun K hK=>?_)|((first|refine g_t ?_|refine g_g ?_);(try simp -implicitDefEqProofs only[go_sem]))|(with_reducible refine hK _ _ ?_;clear hK K)|fail))
  refine CutQ_c rfl ?_
  have e : (60 < m.bytes.length) = ((60 : Int) < m.bytes.length) := propext (by omega)
  simp only [e]
theorem allP_one (n : Net) (r : Rtr) : allP n 1 r = formBad n r := by
  have h : ∀ l : List Int, decide (rowErr n l = 1) = decide ((l.length : Int) ≠ n.nodes) := fun l => decide_eq_decide.2 rowErr_len.symm
  rw [allP, formBad, rowsE, List.any_cons, List.any_filter, h, decide_eq_true rfl, Bool.true_and]
  simp only [h]
theorem allP_five (n : Net) (r : Rtr) : allP n 5 r = noneBad n r := by
  have h5 : (decide ((5 : Int) = 1)) = false := by decide
  rw [allP, noneBad, rowsE, List.any_cons, List.any_filter, h5, Bool.false_and, Bool.false_or]
theorem checkE_calls (n : Net) (e : Eng) (okn : NetOk n) (ok : EngOk e) (σ : Store) : ACalls Tryz.prog 8 [.agg (netC n), .agg (engC e)] σ fun r σ' => σ' = σ ∧ r = intA1 (checkE n e) := by
  have hC := netCheck_calls n okn
  have hrl := ok.rl
  have hbl := ok.bl
  refine ACalls.cutX ?_
  by_cases h0 : checkN n = 0
  · have hn := netIn_of h0
    have n1 := hn.n1
    have n6 := hn.n6
    have s2 := hn.alg.s2
    have s24 := hn.alg.s24
    have hx : I64 (n.alg.size - 1) := by unfold I64; omega
    have hA1 := all_calls n e 1 ok hx
    have hA5 := all_calls n e 5 ok hx
    have e1 : allP n 1 = formBad n := funext (allP_one n)
    have e5 : allP n 5 = noneBad n := funext (allP_five n)
    have hM1 := fun S => containsFunc_mail e.bag (fun m => !inR m.fr 0 (n.nodes - 1) || !inR m.dst 0 (n.nodes - 1)) 24 [] [.cp (netC n) 0] S (by omega) (by kernel_rfl) (fun m _ S => check1_calls n m S)
    have hM2 := fun S => containsFunc_mail e.bag (fun m => decide (60 < m.bytes.length)) 26 [] [] S (by omega) (by kernel_rfl) (fun m hm S => check2_calls m (ok.mail m hm).len S)
    rw [e1] at hA1
    rw [e5] at hA5
    rw [h0] at hC
    rw [checkE, if_neg (not_not_intro h0)]
    refine ACalls_of_awp Tryz.func8 rfl Tryz.results8 ?_
    simp only [List.length_cons, List.length_nil, Tryz.ntmps8, Nat.reduceAdd, Nat.reduceSub, enterA]
    refine AWP_seq_k fun K hK => ?_
    (refine AWP_region ?_; simp -implicitDefEqProofs only [go_sem])
    refine hK _ _ ?_; clear hK K
    refine AWP_freezeP 2 rfl (by simp only [st0]; rfl) ?_
    simp only [ss0, List.set_cons_zero]
    refine AWP_freezeP 3 rfl (by simp only [st1]; rfl) ?_
    simp only [ss1, List.set_cons_zero, List.set_cons_succ]
    by_cases hl : (e.routers.length : Int) = n.nodes
    · cases h1 : e.routers.any (formBad n)
      · rw [h1] at hA1
        rw [if_neg (by rw [not_or]; exact ⟨not_not_intro hl, by decide⟩)]
        cases h5 : e.routers.any (noneBad n)
        · rw [h5] at hA5
          rw [if_neg (by decide)]
          by_cases hb : 120 < e.bag.length
          · rw [if_pos hb]
            (repeat' (first|(refine g_s fun K hK=>?_)|(refine g_b ?_)|(refine g_k ?_;simp only[thenQ,blockQ])|(refine g_c (fun h=>?_) (fun h=>?_)<;>(try simp only[go_sem] at h)<;>(try exact g_f))|((first|refine g_t ?_|refine g_g ?_|refine (hC _).use ?_|refine (hA1 _).use ?_|refine (hA5 _).use ?_);(try simp -implicitDefEqProofs only[go_sem]))|(with_reducible refine hK _ _ ?_;clear hK K)|(with_reducible refine splitB_intro (fun h=>?_) (fun h=>?_)<;>(try simp only[go_sem] at h)<;>(try exact g_f)<;>(try simp -implicitDefEqProofs only[go_sem]))|fail))
            exact CutQ_c rfl rfl
          · rw [if_neg hb]
            cases hm1 : e.bag.any fun m => !inR m.fr 0 (n.nodes - 1) || !inR m.dst 0 (n.nodes - 1)
            · rw [hm1] at hM1
              rw [if_neg (by decide)]
              cases hm2 : e.bag.any fun m => decide (60 < m.bytes.length)
              · rw [hm2] at hM2
                rw [if_neg (by decide)]
                (repeat' (first|(refine g_s fun K hK=>?_)|(refine g_b ?_)|(refine g_k ?_;simp only[thenQ,blockQ])|(refine g_c (fun h=>?_) (fun h=>?_)<;>(try simp only[go_sem] at h)<;>(try exact g_f))|((first|refine g_t ?_|refine g_g ?_|refine (hC _).use ?_|refine (hA1 _).use ?_|refine (hA5 _).use ?_|refine (hM1 _).use ?_|refine (hM2 _).use ?_);(try simp -implicitDefEqProofs only[go_sem]))|(with_reducible refine hK _ _ ?_;clear hK K)|(with_reducible refine splitB_intro (fun h=>?_) (fun h=>?_)<;>(try simp only[go_sem] at h)<;>(try exact g_f)<;>(try simp -implicitDefEqProofs only[go_sem]))|fail))
                exact CutQ_c rfl rfl
              · rw [hm2] at hM2
                rw [if_pos rfl]
                (repeat' (first|(refine g_s fun K hK=>?_)|(refine g_b ?_)|(refine g_k ?_;simp only[thenQ,blockQ])|(refine g_c (fun h=>?_) (fun h=>?_)<;>(try simp only[go_sem] at h)<;>(try exact g_f))|((first|refine g_t ?_|refine g_g ?_|refine (hC _).use ?_|refine (hA1 _).use ?_|refine (hA5 _).use ?_|refine (hM1 _).use ?_|refine (hM2 _).use ?_);(try simp -implicitDefEqProofs only[go_sem]))|(with_reducible refine hK _ _ ?_;clear hK K)|(with_reducible refine splitB_intro (fun h=>?_) (fun h=>?_)<;>(try simp only[go_sem] at h)<;>(try exact g_f)<;>(try simp -implicitDefEqProofs only[go_sem]))|fail))
                exact CutQ_c rfl rfl
            · rw [hm1] at hM1
              rw [if_pos rfl]
              (repeat' (first|(refine g_s fun K hK=>?_)|(refine g_b ?_)|(refine g_k ?_;simp only[thenQ,blockQ])|(refine g_c (fun h=>?_) (fun h=>?_)<;>(try simp only[go_sem] at h)<;>(try exact g_f))|((first|refine g_t ?_|refine g_g ?_|refine (hC _).use ?_|refine (hA1 _).use ?_|refine (hA5 _).use ?_|refine (hM1 _).use ?_);(try simp -implicitDefEqProofs only[go_sem]))|(with_reducible refine hK _ _ ?_;clear hK K)|(with_reducible refine splitB_intro (fun h=>?_) (fun h=>?_)<;>(try simp only[go_sem] at h)<;>(try exact g_f)<;>(try simp -implicitDefEqProofs only[go_sem]))|fail))
              exact CutQ_c rfl rfl
        · rw [h5] at hA5
          rw [if_pos rfl]
          (repeat' (first|(refine g_s fun K hK=>?_)|(refine g_b ?_)|(refine g_k ?_;simp only[thenQ,blockQ])|(refine g_c (fun h=>?_) (fun h=>?_)<;>(try simp only[go_sem] at h)<;>(try exact g_f))|((first|refine g_t ?_|refine g_g ?_|refine (hC _).use ?_|refine (hA1 _).use ?_|refine (hA5 _).use ?_);(try simp -implicitDefEqProofs only[go_sem]))|(with_reducible refine hK _ _ ?_;clear hK K)|(with_reducible refine splitB_intro (fun h=>?_) (fun h=>?_)<;>(try simp only[go_sem] at h)<;>(try exact g_f)<;>(try simp -implicitDefEqProofs only[go_sem]))|fail))
          exact CutQ_c rfl rfl
      · rw [h1] at hA1
        rw [if_pos (.inr rfl)]
        (repeat' (first|(refine g_s fun K hK=>?_)|(refine g_b ?_)|(refine g_k ?_;simp only[thenQ,blockQ])|(refine g_c (fun h=>?_) (fun h=>?_)<;>(try simp only[go_sem] at h)<;>(try exact g_f))|((first|refine g_t ?_|refine g_g ?_|refine (hC _).use ?_|refine (hA1 _).use ?_);(try simp -implicitDefEqProofs only[go_sem]))|(with_reducible refine hK _ _ ?_;clear hK K)|(with_reducible refine splitB_intro (fun h=>?_) (fun h=>?_)<;>(try simp only[go_sem] at h)<;>(try exact g_f)<;>(try simp -implicitDefEqProofs only[go_sem]))|fail))
        exact CutQ_c rfl rfl
    · rw [if_pos (.inl hl)]
      (repeat' (first|(refine g_s fun K hK=>?_)|(refine g_b ?_)|(refine g_k ?_;simp only[thenQ,blockQ])|(refine g_c (fun h=>?_) (fun h=>?_)<;>(try simp only[go_sem] at h)<;>(try exact g_f))|((first|refine g_t ?_|refine g_g ?_|refine (hC _).use ?_);(try simp -implicitDefEqProofs only[go_sem]))|(with_reducible refine hK _ _ ?_;clear hK K)|(with_reducible refine splitB_intro (fun h=>?_) (fun h=>?_)<;>(try simp only[go_sem] at h)<;>(try exact g_f)<;>(try simp -implicitDefEqProofs only[go_sem]))|fail))
      exact CutQ_c rfl rfl
  · rw [checkE, if_pos h0]
    refine ACalls_of_awp Tryz.func8 rfl Tryz.results8 ?_
    simp only [List.length_cons, List.length_nil, Tryz.ntmps8, Nat.reduceAdd, Nat.reduceSub, enterA]
    (repeat' (first|(refine g_s fun K hK=>?_)|(refine g_c (fun h=>?_) (fun h=>?_)<;>(try simp only[go_sem] at h)<;>(try exact g_f))|((first|refine g_t ?_|refine g_g ?_|refine (hC _).use ?_);(try simp -implicitDefEqProofs only[go_sem]))|(with_reducible refine hK _ _ ?_;clear hK K)|fail))
    exact CutQ_c (τ := [.cells 5 [netC n], .cells 2 [engC e]]) (by simp [netC, engC, intA1, rowsC, linksV]) rfl
end Go.Proofs.YtephecognbbaoabGreat
namespace Go.Proofs.YtephecognbbaoabGreat
section
variable {P : Program} {K : World} {imm : Imm} {m : Own} {w : World} {σ : Store}
/-- What a clearing does: of a slice of one element at least. -/
def clearA (P : Program) (d : Option TypeDesc) (x : AV) (σ : Store) (K : AV → Store → Prop) : Prop :=
  match d with
  | some (.slice e) => (P.info? e).isSome = true ∧ 0 < P.cellsOf e ∧ on (zeroA P e) fun z => z.length = P.cellsOf e ∧ z.all oneA = true ∧
    match x with
    | .own b k i n _ => k = P.cellsOf e ∧ 0 < n ∧ on σ[b]? fun ob => match ob with
      | .cells k' es => k' = k ∧ i + n ≤ es.length ∧ K (.tup []) (σ.set b (.cells k (es.take i ++ List.replicate n z ++ es.drop (i + n))))
      | _ => False
    | _ => False
  | _ => False
theorem clear_run (hs : Sim K imm m w σ) {t ty : TypeId} {x : AV} {vx : Value} (hrx : Rep imm m vx x) {Kont : AV → Store → Prop} (h : clearA P (P.underlying t) x σ Kont) :
    ∃ v w' av σ', (Builtin.clear_ #[t] ty #[vx]).run P w = .ok v w' ∧ Sim K imm m w' σ' ∧ Rep imm m v av ∧ Kont av σ' := by
  unfold clearA at h
  split at h
  · rename_i e ht
    obtain ⟨hi, hk0, h⟩ := h
    replace h := on_elim h; obtain ⟨z, hz, h⟩ := h
    obtain ⟨hzl, hz1, h⟩ := h
    split at h
    · rename_i b k i n c
      obtain ⟨rfl, hn0, h⟩ := h
      replace h := on_elim h; obtain ⟨ob, hob, h⟩ := h
      split at h
      · rename_i k' es
        obtain ⟨rfl, hle, hK⟩ := h
        obtain ⟨hlt, hob'⟩ := List.getElem?_eq_some_iff.1 hob
        have h0 := hs.obs b hlt
        rw [hob'] at h0
        obtain ⟨blk, sz, h1, h2, cs, T', fr, h3, h4, h5, h6, h7⟩ := h0
        cases hrx with
        | own _ _ _ _ _ cap blk' sz' x hm hn hcc hx hc =>
          rw [h1] at hm
          cases hm
          subst hx
          obtain ⟨v, hr, hrep0, hzv, hzi⟩ := zeroA_run (P := P) (imm := imm) (m := m) (w := w) hz
          have hvs : v.cells.size = P.cellsOf e := by rw [← hzl, hzv]; simp
          obtain ⟨nl, hnl⟩ : ∃ nl, (Builtin.zeroCells v.cells n).toList = nl := ⟨_, rfl⟩
          have hnll : nl.length = n * P.cellsOf e := by rw [← hnl]; simp [Builtin.zeroCells, hvs]
          have hget : ∀ a, a < n → ∀ j, j < P.cellsOf e → ∃ u, nl[a * P.cellsOf e + j]? = some u ∧ v.cells.toList[j]? = some u := fun a ha j hj => by
            have hlt2 : a * P.cellsOf e + j < n * P.cellsOf e := flat_lt hj ha
            have hmod : (a * P.cellsOf e + j) % v.cells.size = j := by
              rw [hvs, Nat.mul_comm, Nat.mul_add_mod]
              exact Nat.mod_eq_of_lt hj
            have hjv : j < v.cells.size := by omega
            refine ⟨v.cells[j], ?_, by rw [Array.getElem?_toList, Array.getElem?_eq_getElem hjv]⟩
            rw [← hnl, Array.getElem?_toList]
            simp only [Builtin.zeroCells, Array.getElem?_map, hvs]
            rw [Array.getElem?_eq_getElem (by simpa using hlt2)]
            simp only [Array.getElem_range, Option.map_some]
            rw [hvs] at hmod
            rw [hmod]
            simp [hjv]
          have hrn : ∀ a (ha : a < (List.replicate n z).length) j (hj : j < (List.replicate n z)[a].length), ∃ u, nl[a * P.cellsOf e + j]? = some u ∧ Rep imm m u (List.replicate n z)[a][j] := fun a ha j hj => by
            simp only [List.length_replicate] at ha
            simp only [List.getElem_replicate] at hj ⊢
            obtain ⟨u, hu1, hu2⟩ := hget a ha j (by omega)
            obtain ⟨_, hu3⟩ := List.getElem?_eq_some_iff.1 hu2
            have := hrep0.2 j (by omega) hj
            rw [hu3] at this
            exact ⟨u, hu1, this⟩
          have hmm : (i + n) * P.cellsOf e ≤ sz := Nat.le_trans (Nat.mul_le_mul_right _ hle) h6
          have hmm2 : i * P.cellsOf e + n * P.cellsOf e ≤ sz := by rw [← Nat.add_mul]; exact hmm
          have hon : ∀ u ∈ nl, u.oneCell' = true := fun u hu => by
            obtain ⟨y, hy, rfl⟩ := List.getElem_of_mem hu
            have hyi : y / P.cellsOf e < n := Nat.div_lt_of_lt_mul (by rw [Nat.mul_comm, ← hnll]; exact hy)
            have hyj : y % P.cellsOf e < P.cellsOf e := Nat.mod_lt _ hk0
            obtain ⟨u, e1, r⟩ := hrn (y / P.cellsOf e) (by simpa using hyi) (y % P.cellsOf e) (by simp only [List.getElem_replicate]; omega)
            rw [Nat.div_add_mod'] at e1
            obtain ⟨_, rfl⟩ := List.getElem?_eq_some_iff.1 e1
            simp only [List.getElem_replicate] at r
            exact oneA_rep r (List.all_eq_true.1 hz1 _ (List.getElem_mem _))
          have hst := run_storeCells_cells (P := P) blk (i * P.cellsOf e) nl 0 w (fun j hj => by
              have : i * P.cellsOf e + 0 + j < cs.size := by omega
              simp [World.cell?, h3, show i * P.cellsOf e + j < cs.size by omega]) (fun j hj => by
              have := h5 (i * P.cellsOf e + 0 + j) (by omega)
              simp only [World.frozen?, h3]
              simp only [Nat.add_zero] at this ⊢
              simpa using this) hon
          have hl2 : (List.replicate n z).length = n := by simp
          obtain ⟨cs', g1, g2, g5, g6, g7⟩ := inplace (p := i) (news := List.replicate n z) (nl := nl) h3 h7 (by omega) (fun e' he' => by rw [List.eq_of_mem_replicate he', hzl]) (by rw [hl2]; exact hnll) hrn (by rw [hl2, h4]; exact hmm)
          rw [hl2] at g7
          refine ⟨.tuple #[], w.setCells blk (i * P.cellsOf e) nl, _, _, ?_, hs.set g6 hlt h1 hob' g5 cs' T' fr g1 (by omega) h5 _ ?_ g7, ?_, hK⟩
          · simp only [Nat.add_zero] at hst
            have hn9 : n ≠ 0 := by omega
            obtain ⟨n', rfl⟩ : ∃ n', n = n' + 1 := ⟨n - 1, by omega⟩
            simp only [Builtin.clear_, List.getElem?_toArray, List.getElem?_cons_zero, Sem.run_bind, Sem.run_pure, Result.andThen_ok, run_underlying ht, hr, hnl]
            rw [hst]
            rfl
          · have : (es.take i ++ List.replicate n z ++ es.drop (i + n)).length = es.length := by simp; omega
            rw [this]
            exact h6
          · exact .tup [] [] rfl (fun i h => by simp at h)
      · exact h.elim
    · exact h.elim
  · exact h.elim
end
/-- Operations more: a clearing, and a slice with three bounds. -/
def AOpC (P : Program) (op : Op) (ev : Operand → Option AV) (σ : Store) (K : AV → Store → Prop) : Prop :=
  match op with
  | .call { callee := .builtin .clear, args := args, argTypes := ts } => on (evL ev args.toList) fun as' => match as', ts.toList with
    | [x], [t] => clearA P (P.underlying t) x σ K
    | _, _ => False
  | .slice T x (some lo) (some hi) (some mx) => on (ev x) fun a => on ((ev lo).bind intA) fun l => on ((ev hi).bind intA) fun h => on ((ev mx).bind intA) fun z => match P.underlying T, a with
    | some (.slice e), .own b k s _ c => (P.info? e).isSome = true ∧ P.cellsOf e = k ∧ 0 ≤ l ∧ l ≤ h ∧ h ≤ z ∧ l < z ∧ z ≤ c ∧ K (.own b k (s + l.toNat) (h.toNat - l.toNat) (z.toNat - l.toNat)) σ
    | _, _ => False
  | .slice T x (some lo) (some hi) none => on (ev x) fun a => on ((ev lo).bind intA) fun l => on ((ev hi).bind intA) fun h => match P.underlying T, a with
    | some (.slice e), .own b k s _ c => (P.info? e).isSome = true ∧ P.cellsOf e = k ∧ 0 ≤ l ∧ l ≤ h ∧ h ≤ c ∧ l < c ∧ K (.own b k (s + l.toNat) (h.toNat - l.toNat) (c - l.toNat)) σ
    | _, _ => False
  | op => AOpB P op ev σ K
theorem AOpC_sound {P : Program} {K0 : World} {imm : Imm} {m : Own} {w : World} {σ : Store} {ev : Operand → Option AV} {ρ : Operand → Value} (op : Op) (hs : Sim K0 imm m w σ) (hev : ∀ x av, ev x = some av → Rep imm m (ρ x) av) {Kont : AV → Store → Prop} (h : AOpC P op ev σ Kont)
    {dst : Option Tmp} {type : TypeId} {pos : String} {after : Array Edge} {guard : Option (Nat × Bool)} :
    Up P K0 imm m Kont ((execOp ρ { dst, op, type, pos, after, guard }).run P w) := by
  by_cases hb : ∃ args ts, op = .call { callee := .builtin .clear, args := args, argTypes := ts }
  · obtain ⟨args, ts, rfl⟩ := hb
    replace h := on_elim h; obtain ⟨as', has, h⟩ := h
    have hra := evL_rep hev _ _ has
    split at h
    · rename_i x t hts
      obtain ⟨o1, ho⟩ : ∃ o1, args.toList = [o1] := by
        have := hra.1
        simp only [List.length_map] at this
        exact List.length_eq_one_iff.1 this
      have ha : args = #[o1] := by cases args; simp_all
      subst ha
      have ht' : ts = #[t] := by cases ts; simp_all
      subst ht'
      have hr1 : Rep imm m (ρ o1) x := by simpa using hra.2 0 (by simp) (by simp)
      obtain ⟨v, w', av, σ', hrun, hs', hr, hk⟩ := clear_run (ty := type) hs hr1 h
      refine up_value ?_ (.refl _) (.refl _) hs' hr hk
      simp only [execOp, resolve, Sem.run_bind, Sem.run_pure, Result.andThen_ok, invoke, builtin, List.map_toArray, List.map_cons, List.map_nil, hrun]
    · exact h.elim
  · by_cases hb2 : ∃ T x lo hi mx, op = .slice T x (some lo) (some hi) (some mx)
    · obtain ⟨T, x, lo, hi, mx, rfl⟩ := hb2
      replace h := on_elim h; obtain ⟨a, ha, h⟩ := h
      replace h := on_elim h; obtain ⟨l, hl, h⟩ := h
      replace h := on_elim h; obtain ⟨hh, hhi, h⟩ := h
      replace h := on_elim h; obtain ⟨z, hz, h⟩ := h
      have hr := hev _ _ ha
      split at h
      · rename_i e b k s n c hT
        obtain ⟨hi', hce, h0, h1, h2, h3, h4, hK⟩ := h
        generalize hv : ρ x = v at hr
        cases hr with
        | own _ _ _ _ _ cap blk sz x0 hm hn hcc hx hc =>
          have sb : ∀ (o : Operand) (q : Int) (y : Nat) code, bound ev (some o) 0 = some q → 0 ≤ q → q ≤ y → (Instr.sliceBound (ρ o) y code).run P w = .ok q.toNat w := by
            intro o q y code hb h0 h1
            obtain ⟨k, hk⟩ := bound_sound hev hb
            simp only [Instr.sliceBound, hk, asIntOf, Sem.run_bind, Sem.run_pure, Result.andThen_ok]
            rw [if_pos ⟨by omega, by omega⟩]
            rfl
          have b1 := sb mx z cap .slice3Acap hz (by omega) (by omega)
          have b2 := sb hi hh z.toNat .slice3B hhi (by omega) (by omega)
          have b3 := sb lo l hh.toNat .slice3C hl (by omega) (by omega)
          have sl1 : (Instr.sliceAt T (.slice (some ⟨blk, x0, none⟩) n cap) (some (ρ lo)) (some (ρ hi)) (some (ρ mx))).run P w = (Instr.slice T (.slice (some ⟨blk, x0, none⟩) n cap) (some (ρ lo)) (some (ρ hi)) (some (ρ mx))).run P w := by
            simp only [Instr.sliceAt, Sem.run_bind, run_underlying hT, Result.andThen_ok]
          have hrun : (Instr.slice T (.slice (some ⟨blk, x0, none⟩) n cap) (some (ρ lo)) (some (ρ hi)) (some (ρ mx))).run P w = .ok (.slice (if z.toNat = l.toNat then some ⟨blk, x0, none⟩ else (some (⟨blk, x0, none⟩ : Addr)).map (·.add (l.toNat * P.cellsOf e))) (hh.toNat - l.toNat) (z.toNat - l.toNat)) w := by
            simp [Instr.slice, Sem.run_bind, run_underlying hT, Result.andThen_ok, run_sizeOf hi', Sem.run_pure, Instr.sliceBounds, b1, b2, b3]
          have e1 : (if z.toNat = l.toNat then some (⟨blk, x0, none⟩ : Addr) else (some (⟨blk, x0, none⟩ : Addr)).map (·.add (l.toNat * P.cellsOf e))) = some ⟨blk, x0 + l.toNat * k, none⟩ := by
            rw [hce, if_neg (by omega)]
            simp only [Option.map_some, Addr.add]
            split <;> simp_all
          rw [e1] at hrun
          refine up_value (v := .slice (some ⟨blk, x0 + l.toNat * k, none⟩) (hh.toNat - l.toNat) (z.toNat - l.toNat)) ?_ (.refl _) (.refl _) hs ?_ hK
          · simp only [execOp, hv, Sem.run_bind, Option.map_some, sl1, hrun, Result.andThen_ok, Sem.run_pure]
          · refine .own b k _ _ _ _ blk sz _ hm (by omega) (Nat.le_refl _) (by rw [hx, Nat.add_mul]) ?_
            have : (s + l.toNat + (z.toNat - l.toNat)) * k ≤ (s + cap) * k := Nat.mul_le_mul_right _ (by omega)
            omega
      · exact h.elim
    · by_cases hb3 : ∃ T x lo hi, op = .slice T x (some lo) (some hi) none
      · obtain ⟨T, x, lo, hi, rfl⟩ := hb3
        replace h := on_elim h; obtain ⟨a, ha, h⟩ := h
        replace h := on_elim h; obtain ⟨l, hl, h⟩ := h
        replace h := on_elim h; obtain ⟨hh, hhi, h⟩ := h
        have hr := hev _ _ ha
        split at h
        · rename_i e b k s n c hT
          obtain ⟨hi', hce, h0, h1, h2, h3, hK⟩ := h
          generalize hv : ρ x = v at hr
          cases hr with
          | own _ _ _ _ _ cap blk sz x0 hm hn hcc hx hc =>
            have sb : ∀ (o : Operand) (q : Int) (y : Nat) code, bound ev (some o) 0 = some q → 0 ≤ q → q ≤ y → (Instr.sliceBound (ρ o) y code).run P w = .ok q.toNat w := by
              intro o q y code hb h0 h1
              obtain ⟨k, hk⟩ := bound_sound hev hb
              simp only [Instr.sliceBound, hk, asIntOf, Sem.run_bind, Sem.run_pure, Result.andThen_ok]
              rw [if_pos ⟨by omega, by omega⟩]
              rfl
            have b2 := sb hi hh cap .sliceAcap hhi (by omega) (by omega)
            have b3 := sb lo l hh.toNat .sliceB hl (by omega) (by omega)
            have sl1 : (Instr.sliceAt T (.slice (some ⟨blk, x0, none⟩) n cap) (some (ρ lo)) (some (ρ hi)) none).run P w = (Instr.slice T (.slice (some ⟨blk, x0, none⟩) n cap) (some (ρ lo)) (some (ρ hi)) none).run P w := by
              simp only [Instr.sliceAt, Sem.run_bind, run_underlying hT, Result.andThen_ok]
            have hrun : (Instr.slice T (.slice (some ⟨blk, x0, none⟩) n cap) (some (ρ lo)) (some (ρ hi)) none).run P w = .ok (.slice (if cap = l.toNat then some ⟨blk, x0, none⟩ else (some (⟨blk, x0, none⟩ : Addr)).map (·.add (l.toNat * P.cellsOf e))) (hh.toNat - l.toNat) (cap - l.toNat)) w := by
              simp [Instr.slice, Sem.run_bind, run_underlying hT, Result.andThen_ok, run_sizeOf hi', Sem.run_pure, Instr.sliceBounds, b2, b3]
            have e1 : (if cap = l.toNat then some (⟨blk, x0, none⟩ : Addr) else (some (⟨blk, x0, none⟩ : Addr)).map (·.add (l.toNat * P.cellsOf e))) = some ⟨blk, x0 + l.toNat * k, none⟩ := by
              rw [hce, if_neg (by omega)]
              simp only [Option.map_some, Addr.add]
              split <;> simp_all
            rw [e1] at hrun
            refine up_value (v := .slice (some ⟨blk, x0 + l.toNat * k, none⟩) (hh.toNat - l.toNat) (cap - l.toNat)) ?_ (.refl _) (.refl _) hs ?_ hK
            · simp only [execOp, hv, Sem.run_bind, Option.map_some, Option.map_none, sl1, hrun, Result.andThen_ok, Sem.run_pure]
            · refine .own b k _ _ _ _ blk sz _ hm (by omega) (by omega) (by rw [hx, Nat.add_mul]) ?_
              have : s + l.toNat + (cap - l.toNat) = s + cap := by omega
              rw [this]
              exact hc
        · exact h.elim
      · have h' : AOpB P op ev σ Kont := by
          unfold AOpC at h
          split at h
          · exact absurd ⟨_, _, rfl⟩ hb
          · exact absurd ⟨_, _, _, _, _, rfl⟩ hb2
          · exact absurd ⟨_, _, _, _, rfl⟩ hb3
          · exact h
        exact AOpB_sound op hs hev h'
theorem AOpC_noDefer {P : Program} {op : Op} {σ : Store} {ev : Operand → Option AV} {K : AV → Store → Prop} (h : AOpC P op ev σ K) : ∀ c, op ≠ .defer c := by
  rintro c rfl
  exact AOpB_noDefer (show AOpB P (.defer c) ev σ K from h) c rfl
def creg (P : Program) (N : Nat) (ops : List Oper) (K : AF → Store → Prop) : List Oper → AF → Store → Prop
  | [], α, σ => K α σ
  | o :: r, α, σ => splitA ops o.guard α fun α => guardA ops o.guard α
      (fun α => AOpC P o.op (evF α) σ fun av σ' => putA N o.dst av α fun α' => creg P N ops K r α' σ')
      (fun α => putA N o.dst (.c undef) α fun α' => creg P N ops K r α' σ)
theorem creg_sound {rd : Option Nat} {P : Program} {N : Nat} {K0 : World} {ops : List Oper} {Q : Post} : ∀ (l : List Oper) (α : AF) (σ : Store) (imm : Imm) (m : Own) (w : World) (a : Act), Sim K0 imm m w σ → FOk K0 imm m N a α →
    creg P N ops (fun α σ => Q .normal α σ) l α σ → wpListIn (Rnd rd) 0 P ops.toArray (lift K0 N imm m Q) l a w := by
  intro l
  induction l with
  | nil => intro α σ imm m w a hs hf h; exact ⟨imm, m, α, σ, .refl _, .refl _, hs, hf, h⟩
  | cons o r ih =>
    intro α σ imm m w a hs hf h
    have mono : ∀ (imm' : Imm) (m' : Own), ILe imm imm' → OLe m m' → ∀ a' w', wpListIn (Rnd rd) 0 P ops.toArray (lift K0 N imm' m' Q) r a' w' → wpListIn (Rnd rd) 0 P ops.toArray (lift K0 N imm m Q) r a' w' := by
      intro imm' m' hi ho
      have hq : ∀ e a w, lift K0 N imm' m' Q e a w → lift K0 N imm m Q e a w := fun e a w h => lift_mono hi ho h
      exact wpListIn_mono hq r
    simp only [creg] at h
    unfold wpListIn
    rcases guardA_sound hf h with ⟨hw, β, hfb, h⟩ | ⟨hw, β, hfb, h⟩
    · rw [if_pos hw]
      have hup := AOpC_sound (dst := o.dst) (type := o.type) (pos := o.pos) (after := o.after) (guard := o.guard) o.op hs (evF_rep hfb) h
      refine wpIn_of_up (AOpC_noDefer h) hup fun imm' m' v av σ' w' hi ho hs' hr hk => ?_
      obtain ⟨α', hf', hk'⟩ := putA_sound (hfb.mono hi ho) hr hk
      exact mono imm' m' hi ho _ _ (ih α' σ' imm' m' w' _ hs' hf' hk')
    · rw [if_neg (by rw [hw]; simp)]
      obtain ⟨α', hf', hk'⟩ := putA_sound hfb (.c undef) h
      exact ⟨fun f _ => Rnd_fn _ _, ih α' σ imm m w _ hs hf' hk'⟩
/-- A region in which something is cleared. -/
theorem AWP_regionC {rd : Option Nat} {P : Program} {N : Nat} {α : AF} {σ : Store} {id : Nat} {ops : List Oper} {Q : Post} (h : creg P N ops (fun α σ => Q .normal α σ) ops α σ) : AWPr rd P N (.region id ops.toArray false) Q α σ :=
  fun _ imm m w a hs hf => wpIn_region_lit (creg_sound ops α σ imm m w a hs hf h)
section
variable {P : Program} {N : Nat} {ops : List Oper} {σ : Store} {K : AF → Store → Prop} {α : AF} {r : List Oper} {dst : Option Tmp} {op : Op} {ty : TypeId} {pos : String} {after : Array Edge} {g : Option (Nat × Bool)}
theorem creg_nil : creg P N ops K [] α σ = K α σ := rfl
theorem creg_cons : creg P N ops K ({ dst := dst, op := op, type := ty, pos := pos, after := after, guard := g } :: r) α σ = gateA ops g α
      (fun α => AOpC P op (evF α) σ fun av σ' => putA N dst av α fun α' => creg P N ops K r α' σ') (fun α => putA N dst (.c undef) α fun α' => creg P N ops K r α' σ) := rfl
end
end Go.Proofs.YtephecognbbaoabGreat
namespace Go.Proofs.YtephecognbbaoabGreat
attribute [go_sem ↓] creg_nil creg_cons
attribute [go_sem] AOpC clearA
def zeroM : List AV := mailC ⟨0, 0, []⟩
theorem delete_calls (S : Store) (gb : Nat) (bag : List Mail) (rest : List (List AV)) (a : Nat) (h1 : a < bag.length) (hb : S[gb]? = some (.cells 3 (bag.map mailC ++ rest))) (hr : ∀ e ∈ rest, e.length = 3 ∧ e.all oneA = true) (hl : bag.length ≤ 1000) (hl2 : rest.length ≤ 1000000) :
    ACalls Tryz.prog 43 [.own gb 3 0 bag.length (bag.length + rest.length), intA1 a, intA1 (a + 1)] S fun r S' => S' = S.set gb (.cells 3 ((bag.eraseIdx a).map mailC ++ (zeroM :: rest))) ∧ r = .own gb 3 0 (bag.length - 1) (bag.length + rest.length) := by
  have i1 : I64 ((a : Int) + 1) := by unfold I64; omega
  have ta : ((a : Int) + 1).toNat = a + 1 := by omega
  have hmL := mailC_len bag
  obtain ⟨es, hes⟩ : ∃ es, bag.map mailC ++ rest = es := ⟨_, rfl⟩
  have hesl : es.length = bag.length + rest.length := by rw [← hes]; simp
  rw [hes] at hb
  have he1 : elemsA S (.own gb 3 0 a (bag.length + rest.length)) = some (es.take a) := by
    rw [elemsA_eq]
    simp only [elemsB, hb]
    rw [if_pos (by simp; omega), List.drop_zero]
  have he2 : elemsA S (.own gb 3 (a + 1) (bag.length - (a + 1)) (bag.length + rest.length - (a + 1))) = some ((es.drop (a + 1)).take (bag.length - (a + 1))) := by
    rw [elemsA_eq]
    simp only [elemsB, hb]
    rw [if_pos (by simp; omega)]
  have hnew : (es.drop (a + 1)).take (bag.length - (a + 1)) = (bag.drop (a + 1)).map mailC := by
    rw [← hes, List.drop_append_of_le_length (by rw [List.length_map]; omega), List.take_append_of_le_length (by simp), ← List.map_drop, List.take_of_length_le (by simp)]
  have hnl : ((bag.drop (a + 1)).map mailC).length = bag.length - (a + 1) := by simp
  have hfin : es.take a ++ (bag.drop (a + 1)).map mailC ++ es.drop (bag.length - 1) = (bag.eraseIdx a).map mailC ++ es.drop (bag.length - 1) := by
    rw [← hes, List.take_append_of_le_length (by rw [List.length_map]; omega), ← List.map_take, List.eraseIdx_eq_take_drop_succ, List.map_append]
  rw [hnew] at he2
  refine ACalls_of_awp Tryz.func43 rfl Tryz.results43 ?_
  simp only [List.length_cons, List.length_nil, Tryz.ntmps43, Nat.reduceAdd, Nat.reduceSub, enterA]
  refine AWP_seq_k fun K hK => ?_
  (refine AWP_region ?_; simp -implicitDefEqProofs only [go_sem])
  refine hK _ _ ?_; clear hK K
  refine AWP_seq_k fun K hK => ?_
  refine AWP_regionC ?_
  simp -implicitDefEqProofs only [go_sem, hb, i1]
  refine ⟨by omega, by omega, by omega, by omega, by omega, ?_⟩
  refine hK _ _ ?_; clear hK K
  refine AWP_seq_k fun K hK => ?_
  refine AWP_seq_k fun K hK => ?_
  (refine AWP_region ?_; simp -implicitDefEqProofs only [go_sem])
  refine hK _ _ ?_; clear hK K
  refine AWP_cond rfl (fun h => ?_) (fun h => ?_)
  · simp only [go_sem] at h
    omega
  refine g_k ?_
  simp only [thenQ, blockQ]
  refine hK _ _ ?_
  clear hK K
  refine AWP_seq_k fun K hK => ?_
  (refine AWP_region ?_; simp -implicitDefEqProofs only [go_sem])
  refine hK _ _ ?_; clear hK K
  refine AWP_seq_k fun K hK => ?_
  have hfin2 : ∀ α, ALe α [(0, .own gb 3 0 (bag.length - 1) (bag.length + rest.length)), (7, intA1 bag.length)] → K α (S.set gb (.cells 3 ((bag.eraseIdx a).map mailC ++ es.drop (bag.length - 1)))) := by
    intro α ha
    refine hK _ _ (AWPr.weak ha ?_)
    clear ha hK
    have hlt : gb < S.length := (List.getElem?_eq_some_iff.1 hb).1
    have hgS : ∀ o, (S.set gb o)[gb]? = some o := fun o => List.getElem?_set_self hlt
    have hsS : ∀ o o', (S.set gb o).set gb o' = S.set gb o' := fun o o' => List.set_set ..
    refine AWP_seq_k fun K hK => ?_
    refine AWP_regionC ?_
    simp -implicitDefEqProofs only [go_sem, hgS, hsS]
    have hEl : ((bag.eraseIdx a).map mailC).length = bag.length - 1 := by rw [List.length_map, List.length_eraseIdx, if_pos h1]
    have hEl2 : (bag.eraseIdx a).length = bag.length - 1 := by rw [List.length_eraseIdx, if_pos h1]
    have hDl : (es.drop (bag.length - 1)).length = rest.length + 1 := by rw [List.length_drop]; omega
    have hn1 : bag.length - (bag.length - 1) = 1 := by omega
    have hn2 : bag.length - 1 + 1 = bag.length := by omega
    have hD : es.drop bag.length = rest := by rw [← hes, List.drop_left' (by simp)]
    have heq : List.take (bag.length - 1) ((bag.eraseIdx a).map mailC ++ es.drop (bag.length - 1)) ++ (List.replicate (bag.length - (bag.length - 1)) [.c (.int .i64 0), .c (.int .i64 0), .c (.string (strOfNums []))] ++
        List.drop (bag.length - 1 + (bag.length - (bag.length - 1))) ((bag.eraseIdx a).map mailC ++ es.drop (bag.length - 1))) = (bag.eraseIdx a).map mailC ++ (zeroM :: rest) := by
      rw [List.take_left' hEl, hn1, hn2, List.drop_append, hEl, hn1, List.drop_of_length_le (by omega), List.drop_drop, hn2, hD]
      rfl
    refine ⟨by omega, by omega, by omega, by omega, by omega, by rw [hEl2, hDl]; omega, ?_⟩
    rw [heq]
    refine hK _ _ ?_
    clear hK K
    (repeat' (first|(refine g_s fun K hK=>?_)|((first|refine g_t ?_|refine g_g ?_);(try simp -implicitDefEqProofs only[go_sem]))|(with_reducible refine hK _ _ ?_;clear hK K)|fail))
  refine g_U ?_
  simp -implicitDefEqProofs only [go_sem, ta]
  refine ⟨by omega, by omega, by omega, by omega, by omega, fun hc => ?_, fun hc1 hc2 => ?_⟩
  · have g1 : (a = es.length) = False := eq_false (by omega)
    have g2 : (a ≤ es.length) = True := eq_true (by omega)
    have g3 : (a + (1 + (bag.length - (a + 1))) ≤ es.length) = True := eq_true (by omega)
    have g4 : (a + (bag.length - (a + 1)) ≤ bag.length + rest.length) = True := eq_true (by omega)
    have g5 : (a = bag.length + rest.length) = False := eq_false (by omega)
    have g6 : (bag.length + rest.length < a + (bag.length - (a + 1))) = False := eq_false (by omega)
    simp -implicitDefEqProofs only [go_sem, hb, hnew, g1, g2, g3, g4, g5, g6, Nat.sub_zero, Nat.zero_add, List.length_drop, ta]
    have e9 : a + (bag.length - (a + 1)) = bag.length - 1 := by omega
    rw [e9, ← List.append_assoc, hfin]
    refine hfin2 _ (ALe_of ?_)
    simp -implicitDefEqProofs only [go_sem]
  · have hba : bag.length = a + 1 := by omega
    have g1 : (a = es.length) = False := eq_false (by omega)
    have g2 : (a ≤ es.length) = True := eq_true (by omega)
    have g4 : (a ≤ bag.length + rest.length) = True := eq_true (by omega)
    have g5 : (a = bag.length + rest.length) = False := eq_false (by omega)
    have g6 : (bag.length + rest.length < a) = False := eq_false (by omega)
    simp -implicitDefEqProofs only [go_sem, hb, hnew, g1, g2, g4, g5, g6, Nat.sub_zero, Nat.zero_add, Nat.add_zero, List.length_drop, ta]
    refine ⟨fun _ h => absurd h List.not_mem_nil, fun _ h => absurd h List.not_mem_nil, ?_⟩
    have e9 : bag.length - 1 = a := by omega
    have e8 : bag.drop (a + 1) = [] := List.drop_of_length_le (by omega)
    rw [e8, e9, List.map_nil, List.append_nil] at hfin
    rw [e9, ← hfin] at hfin2
    refine hfin2 _ (ALe_of ?_)
    simp -implicitDefEqProofs only [go_sem]
end Go.Proofs.YtephecognbbaoabGreat
namespace Go.Proofs.YtephecognbbaoabGreat
section
variable {rd : Option Nat} {P : Program} {N : Nat} {K0 : World} {ops : List Oper} {bs : Bool × Bool} {pu : Bool} {σ0 : Store} {α0 : AF}
/-- A region that draws its order, and makes objects; what is quiet sees an earlier part of the store, which stays. -/
theorem AWP_drawG0 {Q : Post} {id : Nat} {σ : Store} (σ0 : Store) (bs : Bool × Bool) (pu : Bool) (p : Nat) (h0 : Grown pu σ0 σ) (hm : P.follows .mixedOrders = true) (hB : (drawB ops p && edgesBack ops && noSelect ops && decide (p ≤ ops.length) && loudOrd bs ops p && (!pu || allPure bs ops)) = true)
    (h : greg P N ops bs pu σ0 (fun α σ => areg P N ops (fun α σ => Q .normal α σ) (ops.drop p) α σ) (ops.take p) α0 σ) : AWPr rd P N (.region id ops.toArray true) Q α0 σ := by
  intro K imm m w a hs hf
  simp only [Bool.and_eq_true, decide_eq_true_eq] at hB
  obtain ⟨⟨⟨⟨⟨hB1, hB2⟩, hB3⟩, hB4⟩, hB5⟩, hB6⟩ := hB
  have hpu : pu = true → allPure bs ops = true := fun h => by simpa [h] using hB6
  have hc : Conf ops p := fun i j x y hij hx hy h => drawB_spec hB1 hij hx hy h
  obtain ⟨vs, bl, ss, _, hss0, h2, γ, hγ, h3⟩ := trace_of_greg (ops := ops) (α0 := α0) hpu (ops.take p) 0 (fun _ => .emp) (fun _ => true) (fun _ => σ) α0 (fun _ => rfl) (fun j hj => by
    simp only [List.length_take] at hj
    rw [List.getElem?_take_of_lt (by omega), Nat.zero_add]) h
  simp only [Nat.zero_add, List.length_take, Nat.min_eq_left hB4] at h2 hγ h3
  have hss0 : ss 0 = σ := hss0 0 (Nat.le_refl _)
  refine wpIn_region_any hm ?_
  have hst : ∀ j, j < p → ∀ o, ops[j]? = some o → stepG P N ops bs pu σ0 (frL ops α0 vs j) (ss j) o (bl j) (vs j) (ss (j + 1)) := fun j hj o ho => by
    have := h2 j hj
    rw [List.getElem_take] at this
    obtain ⟨hj', rfl⟩ := List.getElem?_eq_some_iff.1 ho
    exact this
  have hrep : ∀ i, (Array.replicate ops.toArray.size false).getD i true = true → ¬ i < ops.length := fun i h hi => by
    simp [Array.getD_eq_getD_getElem?, hi] at h
  -- which operations change the store
  let lo : Nat → Prop := fun j => ∃ o, ops[j]? = some o ∧ loudG bs o.op = true
  have same1 : ∀ j, j < p → ¬ lo j → ss (j + 1) = ss j := fun j hj hn => by
    have ho : ops[j]? = some ops[j] := List.getElem?_eq_getElem (by omega)
    rcases (hst j hj _ ho).2 with ⟨_, hk, _⟩ | ⟨_, _, hk, _⟩
    · rcases hk with ⟨hk, _⟩ | ⟨_, hk, _⟩
      · exact absurd ⟨_, ho, hk⟩ hn
      · exact hk
    · exact hk
  have same : ∀ d k, k + d ≤ p → (∀ i, k ≤ i → i < k + d → ¬ lo i) → ss (k + d) = ss k := by
    intro d
    induction d with
    | zero => intro k _ _; rfl
    | succ d ih =>
      intro k hk hn
      rw [← Nat.add_assoc, same1 (k + d) (by omega) (hn _ (by omega) (by omega))]
      exact ih k (by omega) fun i h1 h2 => hn i h1 (by omega)
  have hG : ∀ j, j ≤ p → Grown pu σ0 (ss j) := by
    intro j
    induction j with
    | zero => intro _; rw [hss0]; exact h0
    | succ j ih =>
      intro hj
      have ho : ops[j]? = some ops[j] := List.getElem?_eq_getElem (by omega)
      rcases (hst j (by omega) _ ho).2 with ⟨_, hk, _⟩ | ⟨_, _, hk, _⟩
      · rcases hk with ⟨_, _, hk⟩ | ⟨_, hk, _⟩
        · exact hk
        · rw [hk]; exact ih (by omega)
      · rw [hk]; exact ih (by omega)
  obtain ⟨top, htop⟩ : ∃ top : (Nat → Prop) → Nat, ∀ S, (∀ j, j < p → S j → lo j → j < top S) ∧ ∀ k, (∀ j, j < p → S j → lo j → j < k) → top S ≤ k := by
    have hex : ∀ S : Nat → Prop, ∃ n, (∀ j, j < p → S j → lo j → j < n) ∧ ∀ k, (∀ j, j < p → S j → lo j → j < k) → n ≤ k := fun S =>
      least (p := fun n => ∀ j, j < p → S j → lo j → j < n) p fun j hj _ _ => hj
    exact ⟨fun S => Classical.choose (hex S), fun S => Classical.choose_spec (hex S)⟩
  have topP : ∀ S, top S ≤ p := fun S => (htop S).2 p fun j hj _ _ => hj
  refine quiet_any (σ := ss p) (fun S => ss (top S)) hB2 hc hB3 hB4 (fun S h => ?_) (fun j o S imm m a w next Q' hj ho hsl hs hI hcl hnS hanc hn => ?_) hγ h3 _ _ a _ imm m ?_ (by simp) (fun i hi => absurd hi.1 (hrep i hi.2)) (fun i hi h => absurd hi (hrep i h)) ?_
    ⟨hf.defers, hf.size, fun t i h => absurd h.1.1 (hrep i h.1.2), fun t av _ h => hf.slot t av h⟩
  · have := same (p - top S) (top S) (by have := topP S; omega) fun i h1 h2 hl => by
      have := (htop S).1 i (by have := topP S; omega) (h i (by have := topP S; omega)) hl
      omega
    rw [show top S + (p - top S) = p by have := topP S; omega] at this
    exact this.symm
  · -- one operation, at whatever time it comes
    have hf := hI.names hc hcl ho hnS hanc
    have hlk : ∀ d av, d ∈ namesOf ops o → look (frL ops α0 vs j) d = some av → look (restr (namesOf ops o) (frL ops α0 vs j)) d = some av := fun d av hd h => by
      rw [look_restr, if_pos (by simpa using hd)]; exact h
    have hyield : ∀ (g d : Nat) (u : Value), (ops[g]?).bind (·.dst) = some d → look (frL ops α0 vs j) d = some (.c u) → d ∈ namesOf ops o → ((ops.toArray[g]?).bind (·.dst)).bind (a.tmps[·]?) = some u := fun g d u hgd hu hm => by
      obtain ⟨x, hx, r⟩ := hf.slot d _ (hlk d _ hm hu)
      simp only [List.getElem?_toArray, hgd, Option.bind_some, hx, r.c_inv]
    have hoa : ops.toArray[j]? = some o := by simpa using ho
    have hkeep : ¬ lo j → ss (top fun i => S i ∨ i = j) = ss (top S) := fun hn => by
      have h1 : top (fun i => S i ∨ i = j) ≤ top S := (htop _).2 _ fun i hi hS hl => by
        rcases hS with hS | rfl
        · exact (htop S).1 i hi hS hl
        · exact absurd hl hn
      have h2 : top S ≤ top (fun i => S i ∨ i = j) := (htop _).2 _ fun i hi hS hl => (htop _).1 i hi (.inl hS) hl
      rw [Nat.le_antisymm h1 h2]
    have hloud : lo j → ss (top S) = ss j ∧ ss (top fun i => S i ∨ i = j) = ss (j + 1) := fun hl => by
      obtain ⟨o', ho', hl'⟩ := hl
      rw [ho] at ho'
      cases ho'
      have hS : ∀ i, i < p → S i → lo i → i < j := fun i hi hS ⟨x, hx, hxl⟩ => by
        rcases Nat.lt_trichotomy i j with h | h | h
        · exact h
        · subst h; exact absurd hS hnS
        · exact absurd ((hcl i hS).2 j (loudOrd_spec hB5 h hi ho hx hl' hxl)) hnS
      have h1 : top S ≤ j := (htop S).2 j hS
      have h2 := same (j - top S) (top S) (by omega) fun i h1 h2 ⟨x, hx, hxl⟩ => by
        have hi : S i := hanc i (loudOrd_spec hB5 (by omega) hj hx ho hxl hl')
        have := (htop S).1 i (by omega) hi ⟨x, hx, hxl⟩
        omega
      rw [show top S + (j - top S) = j by omega] at h2
      refine ⟨h2.symm, ?_⟩
      have h3 : top (fun i => S i ∨ i = j) = j + 1 := Nat.le_antisymm ((htop _).2 _ fun i hi h9 hl => by
        rcases h9 with h9 | rfl
        · have := hS i hi h9 hl; omega
        · omega) ((htop _).1 j hj (.inr rfl) ⟨o, ho, hl'⟩)
      rw [h3]
    have hnolo : loudG bs o.op = false → ¬ lo j := fun h ⟨o', ho', hl'⟩ => by
      rw [ho] at ho'
      cases ho'
      rw [h] at hl'
      cases hl'
    have hcg : ∀ x ∈ o.op.operands, evF (frL ops α0 vs j) x = evF (restr (namesOf ops o) (frL ops α0 vs j)) x := fun x hx => by
      cases x with
      | tmp t => simp only [evF]; rw [look_restr, if_pos (by simpa using operand_names hx)]
      | _ => rfl
    unfold wpOpIn
    simp only [hoa]
    obtain ⟨hdN, ⟨hbt, hq, hg⟩ | ⟨hbf, hv, hσ, g, want, d, hg, hgd, hu⟩⟩ := hst j hj o ho
    · have hw : Region.wanted o (yielded ops.toArray a.tmps) = true := by
        cases hgo : o.guard with
        | none => simp [Region.wanted, hgo]
        | some gw =>
          obtain ⟨g, want⟩ := gw
          obtain ⟨d, hgd, hu⟩ := hg g want hgo
          have hy : yielded ops.toArray a.tmps g = some want := by simp only [yielded, hyield g d _ hgd hu (guard_names hgo hgd)]
          simp [Region.wanted, hgo, hy]
      rw [if_pos hw]
      rcases hq with ⟨hlo, hq, _⟩ | ⟨hlo, _, hq⟩
      · obtain ⟨e1, e2⟩ := hloud ⟨o, ho, hlo⟩
        rw [e1] at hs
        rw [AOp_congr o.op hsl hcg] at hq
        have hup := AOp_sound (dst := o.dst) (type := o.type) (pos := o.pos) (after := o.after) (guard := o.guard) o.op hs (evF_rep hf) hq
        refine wpIn_of_up (AOp_noDefer hq) hup fun imm' m' v av σ' w' hi hoo hs' hr hk => ?_
        obtain ⟨rfl, rfl⟩ := hk
        exact hn imm' m' v w' hi hoo (by rw [e2]; exact hs') ((hI.mono hi hoo).step hc hcl ho hnS hdN hr)
      · have e2 := hkeep (hnolo hlo)
        have hq' := hq _ (hG _ (topP S))
        rw [AOpQ_congr o.op hsl hcg] at hq'
        have hup := AOpQ_sound (dst := o.dst) (type := o.type) (pos := o.pos) (after := o.after) (guard := o.guard) o.op hs (evF_rep hf) hq'
        refine wpIn_of_up (AOpQ_noDefer hq') hup fun imm' m' v av σ' w' hi hoo hs' hr hk => ?_
        obtain ⟨rfl, rfl⟩ := hk
        exact hn imm' m' v w' hi hoo (by rw [e2]; exact hs') ((hI.mono hi hoo).step hc hcl ho hnS hdN hr)
    · have hw : Region.wanted o (yielded ops.toArray a.tmps) = false := by
        rcases hu with hu | ⟨t, hu⟩
        · have hy : yielded ops.toArray a.tmps g = some (!want) := by simp only [yielded, hyield g d _ hgd hu (guard_names hg hgd)]
          simp [Region.wanted, hg, hy]
        · have hy : yielded ops.toArray a.tmps g = none := by simp only [yielded, hyield g d _ hgd hu (guard_names hg hgd)]
          simp [Region.wanted, hg, hy]
      rw [if_neg (by rw [hw]; simp)]
      refine ⟨fun _ _ => Rnd_fn _ _, hn imm m undef w (.refl _) (.refl _) ?_ (hI.step hc hcl ho hnS hdN (by rw [hv]; exact .c _))⟩
      by_cases hl : lo j
      · obtain ⟨e1, e2⟩ := hloud hl
        rw [e2, hσ, ← e1]
        exact hs
      · rw [hkeep hl]
        exact hs
  · simp [left]
  · have h0 : top (fun i => i < ops.length ∧ (Array.replicate ops.toArray.size false).getD i true = true) = 0 := Nat.le_antisymm ((htop _).2 0 fun j _ h => absurd h.1 (hrep j h.2)) (Nat.zero_le _)
    show Sim K imm m { w with drawn := w.drawn + 1 } (ss (top _))
    rw [h0, hss0]
    exact hs.drew
end
end Go.Proofs.YtephecognbbaoabGreat
namespace Go.Proofs.YtephecognbbaoabGreat
theorem Sim.moveO {K0 : World} {imm : Imm} {m : Own} {w : World} {σ : Store} (hs : Sim K0 imm m w σ) {b k : Nat} {es : List (List AV)} (ho : σ[b]? = some (.cells k es)) :
    ∃ m', OLe m m' ∧ m' σ.length = m b ∧ Sim K0 imm m' w (σ.set b .dead ++ [.cells k es]) := by
  obtain ⟨hlt, ho⟩ := List.getElem?_eq_some_iff.1 ho
  have hb := hs.obs b hlt
  rw [ho] at hb
  obtain ⟨blk, sz, h1, h2, h3⟩ := hb
  have hd : m σ.length = none := hs.dom _ (Nat.le_refl _)
  have hle : OLe m (upd m σ.length (blk, sz)) := .upd hd _
  have hne : ∀ id, id ≠ σ.length → upd m σ.length (blk, sz) id = m id := fun id h => by unfold upd; rw [if_neg h]
  have hat : upd m σ.length (blk, sz) σ.length = some (blk, sz) := by unfold upd; rw [if_pos rfl]
  refine ⟨upd m σ.length (blk, sz), hle, by rw [hat, h1], hs.os, hs.tape, hs.output, hs.size, hs.imm_ok, fun id h => ?_, fun id h => ?_, fun i j hi hj li lj e => ?_⟩
  · simp only [List.length_append, List.length_set, List.length_cons, List.length_nil] at h
    rw [hne _ (by omega)]
    exact hs.dom id (by omega)
  · simp only [List.length_append, List.length_set, List.length_cons, List.length_nil] at h
    rcases Nat.lt_or_ge id σ.length with hl | hl
    · rw [List.getElem_append_left (by rw [List.length_set]; exact hl), List.getElem_set]
      split
      · trivial
      · exact (hs.obs id hl).keep (.refl _) hle (fun h => by rw [hne _ (by omega)]; exact h) (fun _ h _ => h) (fun _ _ _ _ => rfl)
    · obtain rfl : id = σ.length := by omega
      rw [List.getElem_append_right (by rw [List.length_set]; exact Nat.le_refl _)]
      simp only [List.length_set, Nat.sub_self, List.getElem_cons_zero]
      obtain ⟨cs, T, fr, g1, g2, g3, g4, g5⟩ := h3
      refine ⟨blk, sz, hat, h2, cs, T, fr, g1, g2, g3, g4, fun i hi => ⟨(g5 i hi).1, fun j hj => ?_⟩⟩
      obtain ⟨v, e, r⟩ := (g5 i hi).2 j hj
      exact ⟨v, e, r.mono (.refl _) hle⟩
  · simp only [List.length_append, List.length_set, List.length_cons, List.length_nil] at hi hj
    have key : ∀ (i : Nat) (hi : i < σ.length), Ob.live ((σ.set b .dead)[i]'(by rw [List.length_set]; exact hi)) = true → i ≠ b ∧ Ob.live σ[i] = true := fun i hi h => by
      rw [List.getElem_set] at h
      split at h
      · cases h
      · exact ⟨by omega, h⟩
    have hbl : σ[b].live = true := by rw [ho]; rfl
    rcases Nat.lt_or_ge i σ.length with hi' | hi'
    · rw [List.getElem_append_left (by rw [List.length_set]; exact hi')] at li
      have ki := key i hi' li
      rcases Nat.lt_or_ge j σ.length with hj' | hj'
      · rw [List.getElem_append_left (by rw [List.length_set]; exact hj')] at lj
        rw [hne _ (by omega), hne _ (by omega)] at e
        exact hs.inj i j hi' hj' ki.2 (key j hj' lj).2 e
      · obtain rfl : j = σ.length := by omega
        rw [hne _ (by omega), hat, ← h1] at e
        exact absurd (hs.inj i b hi' hlt ki.2 hbl e) ki.1
    · obtain rfl : i = σ.length := by omega
      rcases Nat.lt_or_ge j σ.length with hj' | hj'
      · rw [List.getElem_append_left (by rw [List.length_set]; exact hj')] at lj
        have kj := key j hj' lj
        rw [hne j (by omega), hat, ← h1] at e
        exact absurd (hs.inj j b hj' hlt kj.2 hbl e.symm) kj.1
      · omega
theorem move_rep {imm : Imm} {m m' : Own} {b b' k s n c : Nat} (hb : m' b' = m b) {v : Value} (h : Rep imm m v (.own b k s n c)) : Rep imm m' v (.own b' k s n c) := by
  cases h with
  | own _ _ _ _ _ cap blk sz x hm hn hcc hx hc => exact .own _ _ _ _ _ cap blk sz x (by rw [hb, hm]) hn hcc hx hc
/-- The slice in a cell of an own object, its array put last. -/
theorem AWP_moveC {rd : Option Nat} {P : Program} {N : Nat} {Q : Post} {α : AF} {σ : Store} {c : Code} (p i j : Nat) {b k s n cc k' kk : Nat} {es rows : List (List AV)} {e : List AV} (hne : p ≠ b) (hp : σ[p]? = some (.cells kk rows)) (hi : rows[i]? = some e) (hj : e[j]? = some (.own b k s n cc)) (ho : σ[b]? = some (.cells k' es))
    (h : AWPr rd P N c Q α ((σ.set b .dead).set p (.cells kk (rows.set i (e.set j (.own σ.length k s n cc)))) ++ [.cells k' es])) : AWPr rd P N c Q α σ := by
  intro K imm m w a hs hf
  obtain ⟨m', hle, he, hs'⟩ := hs.moveO ho
  obtain ⟨hplt, hp⟩ := List.getElem?_eq_some_iff.1 hp
  have hplt' : p < (σ.set b .dead ++ [Ob.cells k' es]).length := by simp; omega
  have hob : (σ.set b .dead ++ [Ob.cells k' es])[p] = .cells kk rows := by
    rw [List.getElem_append_left (by rw [List.length_set]; exact hplt), List.getElem_set, if_neg (Ne.symm hne), hp]
  have h9 := hs'.obs p hplt'
  rw [hob] at h9
  obtain ⟨blk, sz, h1, h2, cs, T, fr, h3, h4, h5, h6, h7⟩ := h9
  have h0 := hs.obs p hplt
  rw [hp] at h0
  obtain ⟨blk', sz', g1, g2, cs', T', fr', g3, g4, g5, g6, g7⟩ := h0
  have e1 := hle _ _ g1
  rw [h1] at e1
  cases e1
  rw [h3] at g3
  cases g3
  have hs2 : Sim K imm m' w ((σ.set b .dead).set p (.cells kk (rows.set i (e.set j (.own σ.length k s n cc)))) ++ [.cells k' es]) := by
    rw [← List.set_append_left _ _ (by rw [List.length_set]; exact hplt)]
    refine hs'.setO ⟨rfl, rfl, rfl, Nat.le_refl _⟩ hplt' h1 (by rw [hob]; rfl) (fun _ _ => rfl) _ ⟨blk, sz, h1, h2, cs, T, fr, h3, h4, h5, by simpa using h6, fun i' hi' => ?_⟩
    simp only [List.length_set] at hi'
    obtain ⟨hi1, hi2⟩ := List.getElem?_eq_some_iff.1 hi
    obtain ⟨hj1, hj2⟩ := List.getElem?_eq_some_iff.1 hj
    simp only [List.getElem_set]
    split
    · rename_i e1
      subst e1
      refine ⟨by rw [List.length_set, ← hi2]; exact (h7 i _).1, fun j' hj' => ?_⟩
      simp only [List.length_set] at hj'
      simp only [List.getElem_set]
      split
      · rename_i e2
        subst e2
        obtain ⟨v, e3, r⟩ := (g7 i hi1).2 j (by rw [hi2]; exact hj1)
        refine ⟨v, e3, move_rep he (b := b) ?_⟩
        rw [← hj2]
        simpa only [hi2] using r
      · obtain ⟨v, e3, r⟩ := (h7 i hi1).2 j' (by rw [hi2]; exact hj')
        refine ⟨v, e3, ?_⟩
        simpa only [hi2] using r
    · exact h7 i' hi'
  exact Code.wpIn_mono (fun _ _ _ hq => lift_mono (.refl _) hle hq) (h K imm m' w a hs2 (hf.mono (.refl _) hle))
end Go.Proofs.YtephecognbbaoabGreat
namespace Go.Proofs.YtephecognbbaoabGreat
theorem ACalls.cutO {P : Program} {f : FuncId} {args : List AV} {σ : Store} {k n c : Nat} {es : List (List AV)} (hbd : ∀ i (hi : i < es.length) j (hj : j < es[i].length), Bd σ.length es[i][j])
    (h : ACalls P f args σ fun r σ' => ∃ b τ, σ' = σ ++ τ ∧ σ.length ≤ b ∧ σ'[b]? = some (.cells k es) ∧ r = .own b k 0 n c) : ACalls P f args σ fun r σ' => σ' = σ ++ [.cells k es] ∧ r = .own σ.length k 0 n c := by
  intro K imm m w vs hs hv
  refine (h K imm m w vs hs hv).mono ?_
  rintro e w' ⟨imm', m', v, r, σ', he, hi, ho, hs', hr, b, τ, rfl, hbl, hbo, rfl⟩
  obtain ⟨hlt, hob⟩ := List.getElem?_eq_some_iff.1 hbo
  have hB := hs'.obs b hlt
  rw [hob] at hB
  obtain ⟨blk, sz, h1, h2, cs, T, fr, h3, h4, h5, h6, h7⟩ := hB
  have hs0 := hs'.cut hs
  have hd : Proofs.YtephecognbbaoabGreat.cut m' σ.length σ.length = none := hs0.dom _ (Nat.le_refl _)
  have hle : OLe (Proofs.YtephecognbbaoabGreat.cut m' σ.length) (upd (Proofs.YtephecognbbaoabGreat.cut m' σ.length) σ.length (blk, sz)) := .upd hd _
  have hne : ∀ id, id ≠ σ.length → upd (Proofs.YtephecognbbaoabGreat.cut m' σ.length) σ.length (blk, sz) id = Proofs.YtephecognbbaoabGreat.cut m' σ.length id := fun id h => by unfold upd; rw [if_neg h]
  have hat : upd (Proofs.YtephecognbbaoabGreat.cut m' σ.length) σ.length (blk, sz) σ.length = some (blk, sz) := by unfold upd; rw [if_pos rfl]
  have hcut : ∀ i, i < σ.length → Proofs.YtephecognbbaoabGreat.cut m' σ.length i = m' i := fun i h => by unfold Proofs.YtephecognbbaoabGreat.cut; rw [if_pos h]
  have hlive : (σ ++ τ)[b].live = true := by rw [hob]; rfl
  refine ⟨imm', upd (Proofs.YtephecognbbaoabGreat.cut m' σ.length) σ.length (blk, sz), v, .own σ.length k 0 n c, σ ++ [.cells k es], he, hi, fun b' o hbo' => ?_, ?_, ?_, rfl, rfl⟩
  · have hlt2 : b' < σ.length := by
      rcases Nat.lt_or_ge b' σ.length with h | h
      · exact h
      · rw [hs.dom b' h] at hbo'; cases hbo'
    rw [hne _ (by omega), hcut _ hlt2]
    exact ho _ _ hbo'
  · refine ⟨hs'.os, hs'.tape, hs'.output, hs'.size, hs'.imm_ok, fun id h => ?_, fun id h => ?_, fun i j hi hj li lj e => ?_⟩
    · simp only [List.length_append, List.length_cons, List.length_nil] at h
      rw [hne _ (by omega)]
      exact hs0.dom id (by omega)
    · simp only [List.length_append, List.length_cons, List.length_nil] at h
      rcases Nat.lt_or_ge id σ.length with hl | hl
      · rw [List.getElem_append_left hl]
        exact (hs0.obs id hl).keep (.refl _) hle (fun h => by rw [hne _ (by omega)]; exact h) (fun _ h _ => h) (fun _ _ _ _ => rfl)
      · obtain rfl : id = σ.length := by omega
        rw [List.getElem_append_right (Nat.le_refl _)]
        simp only [Nat.sub_self, List.getElem_cons_zero]
        refine ⟨blk, sz, hat, h2, cs, T, fr, h3, h4, h5, h6, fun i hi => ⟨(h7 i hi).1, fun j hj => ?_⟩⟩
        obtain ⟨u, e, r⟩ := (h7 i hi).2 j hj
        exact ⟨u, e, (r.cut (hbd i hi j hj)).mono (.refl _) hle⟩
    · simp only [List.length_append, List.length_cons, List.length_nil] at hi hj
      have key : ∀ i (hi : i < σ.length), Ob.live σ[i] = true → (m' i).map (·.1) = some blk → False := fun i hi li e => by
        have := hs'.inj i b (by simp; omega) hlt (by rw [List.getElem_append_left hi]; exact li) hlive (by rw [e, h1]; rfl)
        omega
      rcases Nat.lt_or_ge i σ.length with hi' | hi'
      · rw [List.getElem_append_left hi'] at li
        rcases Nat.lt_or_ge j σ.length with hj' | hj'
        · rw [List.getElem_append_left hj'] at lj
          rw [hne _ (by omega), hne _ (by omega)] at e
          exact hs0.inj i j hi' hj' li lj e
        · obtain rfl : j = σ.length := by omega
          rw [hne _ (by omega), hat, hcut _ hi'] at e
          exact (key i hi' li e).elim
      · obtain rfl : i = σ.length := by omega
        rcases Nat.lt_or_ge j σ.length with hj' | hj'
        · rw [List.getElem_append_left hj'] at lj
          rw [hne j (by omega), hat, hcut _ hj'] at e
          exact (key j hj' lj e.symm).elim
        · omega
  · cases hr with
    | own _ _ _ _ _ cap blk' sz' x hm hn hcc hx hc =>
      rw [h1] at hm
      cases hm
      exact .own σ.length k 0 n c cap blk sz x hat hn hcc hx hc
/-- Objects are made, by callees too, and arrays that lie behind the given part may die; from the first writing on all wait for all. -/
theorem AWP_drawC {rd : Option Nat} {P : Program} {N : Nat} {ops : List Oper} {α0 : AF} {σ : Store} {Q : Post} {id : Nat} (σ0 : Store) (h0 : Pre σ0 σ) (hm : P.follows .mixedOrders = true) (hB : (drawB ops (uptoW ops) && edgesBack ops && noSelect ops && decide (uptoW ops ≤ ops.length) && loudOrd (false, true) ops (uptoW ops) && (!false || allPure (false, true) ops)) = true)
    (h : greg P N ops (false, true) false σ0 (fun α σ => areg P N ops (fun α σ => Q .normal α σ) (ops.drop (uptoW ops)) α σ) (ops.take (uptoW ops)) α0 σ) : AWPr rd P N (.region id ops.toArray true) Q α0 σ :=
  AWP_drawG0 σ0 (false, true) false _ (.inr h0) hm hB h
end Go.Proofs.YtephecognbbaoabGreat
