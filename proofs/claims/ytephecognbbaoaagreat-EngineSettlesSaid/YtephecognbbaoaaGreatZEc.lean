/- Engines, as content; Check, as the program does it. -/
import Derived.Test.YtephecognbbaoaaGreatZWb
import Derived.Test.YtephecognbbaoaaGreatZEq
import Derived.Test.YtephecognbbaoaaGreatZGr
open Go
set_option linter.all false
set_option maxRecDepth 100000
set_option maxHeartbeats 4000000
namespace Go.Proofs.YtephecognbbaoaaGreat
open Go
set_option linter.all false
set_option maxRecDepth 100000
set_option maxHeartbeats 4000000
def rtrC (r : Rtr) : List AV := [intsA r.routes, rowsC r.told]
def mailC (m : Mail) : List AV := [intA1 m.fr, intA1 m.dst, .c (.string (strOfNums m.bytes))]
def engC (e : Eng) : List AV := [.sl (e.routers.map rtrC), .sl (e.bag.map mailC)]
attribute [go_sem] rtrC mailC engC
theorem rtrC_len (l : List Rtr) : (∀ e', e' ∈ l.map rtrC → e'.length = 2) = True := len_map (f := rtrC) (fun _ => rfl) l
theorem rtrC_one (l : List Rtr) : (∀ e', e' ∈ l.map rtrC → e'.all oneA = true) = True := one_map (f := rtrC) (fun _ => rfl) l
theorem mailC_len (l : List Mail) : (∀ e', e' ∈ l.map mailC → e'.length = 3) = True := len_map (f := mailC) (fun _ => rfl) l
theorem mailC_one (l : List Mail) : (∀ e', e' ∈ l.map mailC → e'.all oneA = true) = True := one_map (f := mailC) (fun _ => rfl) l
attribute [go_sem] rtrC_len rtrC_one mailC_len mailC_one
/-- What is known of an engine that came in. -/
structure RtrOk (r : Rtr) : Prop where
  rl : r.routes.length ≤ 17592186044000
  tl : r.told.length ≤ 5864062014634
  tr : ∀ l ∈ r.told, l.length ≤ 17592186044000
structure MailOk (m : Mail) : Prop where
  fr : I64 m.fr
  dst : I64 m.dst
  len : m.bytes.length ≤ 140737488351232
  rng : ∀ c ∈ m.bytes, 0 ≤ c ∧ c ≤ 255
structure EngOk (e : Eng) : Prop where
  rl : e.routers.length ≤ 2932031007317
  rtr : ∀ r ∈ e.routers, RtrOk r
  bl : e.bag.length ≤ 4398046510980
  mail : ∀ m ∈ e.bag, MailOk m
theorem row1_calls (n : Net) (v : Int) (hx : I64 (n.alg.size - 1)) (σ : Store) : ACalls Tryz.prog 142 [intA1 v, .cp (netC n) 0] σ fun r σ' => σ' = σ ∧ r = .c (.bool (!inR v 0 (n.alg.size - 1))) := by
  have hI := is_calls n.alg v hx
  refine ACalls_of_awp Tryz.func142 rfl Tryz.results142 ?_
  simp only [List.length_cons, List.length_nil, Tryz.ntmps142, Nat.reduceAdd, Nat.reduceSub, enterA]
  (repeat' (first|(refine g_s fun K hK=>?_)|(refine g_b ?_)|(refine g_r ?_)|(refine g_k ?_;simp only[thenQ,blockQ])|(refine g_e ?_;simp only[thenQ,blockQ,↓reduceIte,Nat.reduceEqDiff])|(refine g_c (fun h=>?_) (fun h=>?_)<;>(try simp only[go_sem] at h)<;>(try exact g_f))|((first|refine g_t ?_|refine g_g ?_|refine g_U ?_|refine g_A ?_|refine (hI _).use ?_|refine g_q (fun τ=>hI _) ?_|refine g_W ?_);(try simp -implicitDefEqProofs only[go_sem]))|(with_reducible refine hK _ _ ?_;clear hK K)|(clear hK K;first|(with_reducible refine hK _ _ ?_;clear hK K)|(clear hK K;with_reducible refine hK _ _ ?_;clear hK K)|(clear hK K;clear hK K;with_reducible refine hK _ _ ?_;clear hK K))|(with_reducible refine splitB_intro (fun h=>?_) (fun h=>?_)<;>(try simp only[go_sem] at h)<;>(try exact g_f)<;>(try simp -implicitDefEqProofs only[go_sem]))|(with_reducible refine And.intro (fun h=>?_) (fun h=>?_)<;>(try simp only[go_sem] at h)<;>(try exact g_f))|(with_reducible refine And.intro ?_ ?_;· exact g_x)|(with_reducible intro h;(try simp only[go_sem] at h);(try exact g_f))))
theorem row_calls (n : Net) (l : List Int) (hx : I64 (n.alg.size - 1)) (hl : l.length ≤ 1000000000000000000) (σ : Store) : ACalls Tryz.prog 115 [.agg (netC n), intsA l] σ fun r σ' => σ' = σ ∧ r = intA1 (rowErr n l) := by
  have hC := fun S => containsFunc_int l (fun v => !inR v 0 (n.alg.size - 1)) 142 [] [.cp (netC n) 0] S hl (by kernel_rfl) (fun v _ => row1_calls n v hx S)
  refine ACalls.cutX ?_
  refine ACalls_of_awp Tryz.func115 rfl Tryz.results115 ?_
  simp only [List.length_cons, List.length_nil, Tryz.ntmps115, Nat.reduceAdd, Nat.reduceSub, enterA]
  refine AWP_seq_k fun K hK => ?_
  (refine AWP_region ?_; simp -implicitDefEqProofs only [go_sem])
  refine hK _ _ ?_; clear hK K
  refine AWP_freezeP 2 rfl (by simp only [st0]; rfl) ?_
  simp only [ss0, List.set_cons_zero]
  by_cases h1 : (l.length : Int) = n.nodes
  · cases h2 : l.any fun v => !inR v 0 (n.alg.size - 1)
    · rw [h2] at hC
      (repeat' (first|(refine g_s fun K hK=>?_)|(refine g_b ?_)|(refine g_r ?_)|(refine g_k ?_;simp only[thenQ,blockQ])|(refine g_e ?_;simp only[thenQ,blockQ,↓reduceIte,Nat.reduceEqDiff])|(refine g_c (fun h=>?_) (fun h=>?_)<;>(try simp only[go_sem] at h)<;>(try exact g_f))|((first|refine g_t ?_|refine g_g ?_|refine g_U ?_|refine g_A ?_|refine (hC _).use ?_|refine g_q (fun τ=>hC _) ?_|refine g_W ?_);(try simp -implicitDefEqProofs only[go_sem]))|(with_reducible refine hK _ _ ?_;clear hK K)|(clear hK K;first|(with_reducible refine hK _ _ ?_;clear hK K)|(clear hK K;with_reducible refine hK _ _ ?_;clear hK K)|(clear hK K;clear hK K;with_reducible refine hK _ _ ?_;clear hK K))|(with_reducible refine splitB_intro (fun h=>?_) (fun h=>?_)<;>(try simp only[go_sem] at h)<;>(try exact g_f)<;>(try simp -implicitDefEqProofs only[go_sem]))|(with_reducible refine And.intro (fun h=>?_) (fun h=>?_)<;>(try simp only[go_sem] at h)<;>(try exact g_f))|(with_reducible refine And.intro ?_ ?_;· exact g_x)|(with_reducible intro h;(try simp only[go_sem] at h);(try exact g_f))))
      refine CutQ_c rfl ?_
      rw [rowErr, if_neg (not_not_intro h1), h2, if_neg (by decide)]
    · rw [h2] at hC
      (repeat' (first|(refine g_s fun K hK=>?_)|(refine g_b ?_)|(refine g_r ?_)|(refine g_k ?_;simp only[thenQ,blockQ])|(refine g_e ?_;simp only[thenQ,blockQ,↓reduceIte,Nat.reduceEqDiff])|(refine g_c (fun h=>?_) (fun h=>?_)<;>(try simp only[go_sem] at h)<;>(try exact g_f))|((first|refine g_t ?_|refine g_g ?_|refine g_U ?_|refine g_A ?_|refine (hC _).use ?_|refine g_q (fun τ=>hC _) ?_|refine g_W ?_);(try simp -implicitDefEqProofs only[go_sem]))|(with_reducible refine hK _ _ ?_;clear hK K)|(clear hK K;first|(with_reducible refine hK _ _ ?_;clear hK K)|(clear hK K;with_reducible refine hK _ _ ?_;clear hK K)|(clear hK K;clear hK K;with_reducible refine hK _ _ ?_;clear hK K))|(with_reducible refine splitB_intro (fun h=>?_) (fun h=>?_)<;>(try simp only[go_sem] at h)<;>(try exact g_f)<;>(try simp -implicitDefEqProofs only[go_sem]))|(with_reducible refine And.intro (fun h=>?_) (fun h=>?_)<;>(try simp only[go_sem] at h)<;>(try exact g_f))|(with_reducible refine And.intro ?_ ?_;· exact g_x)|(with_reducible intro h;(try simp only[go_sem] at h);(try exact g_f))))
      refine CutQ_c rfl ?_
      rw [rowErr, if_neg (not_not_intro h1), h2, if_pos rfl]
  · (repeat' (first|(refine g_s fun K hK=>?_)|(refine g_b ?_)|(refine g_r ?_)|(refine g_k ?_;simp only[thenQ,blockQ])|(refine g_e ?_;simp only[thenQ,blockQ,↓reduceIte,Nat.reduceEqDiff])|(refine g_c (fun h=>?_) (fun h=>?_)<;>(try simp only[go_sem] at h)<;>(try exact g_f))|((first|refine g_t ?_|refine g_g ?_|refine g_U ?_|refine g_A ?_|refine g_W ?_);(try simp -implicitDefEqProofs only[go_sem]))|(with_reducible refine hK _ _ ?_;clear hK K)|(clear hK K;first|(with_reducible refine hK _ _ ?_;clear hK K)|(clear hK K;with_reducible refine hK _ _ ?_;clear hK K)|(clear hK K;clear hK K;with_reducible refine hK _ _ ?_;clear hK K))|(with_reducible refine splitB_intro (fun h=>?_) (fun h=>?_)<;>(try simp only[go_sem] at h)<;>(try exact g_f)<;>(try simp -implicitDefEqProofs only[go_sem]))|(with_reducible refine And.intro (fun h=>?_) (fun h=>?_)<;>(try simp only[go_sem] at h)<;>(try exact g_f))|(with_reducible refine And.intro ?_ ?_;· exact g_x)|(with_reducible intro h;(try simp only[go_sem] at h);(try exact g_f))))
    refine CutQ_c rfl ?_
    rw [rowErr, if_pos h1]
def rowsE (r : Rtr) : List (List Int) := r.routes :: r.told.filter fun l => decide (l ≠ [])
theorem rowsE_len (r : Rtr) : (rowsE r).length ≤ r.told.length + 1 := by
  have := List.length_filter_le (fun l => decide (l ≠ [])) r.told
  simp only [rowsE, List.length_cons]
  omega
theorem erows_calls (r : Rtr) (ok : RtrOk r) (σ : Store) : ACalls Tryz.prog 113 [.agg (rtrC r)] σ fun r' σ' => σ' = σ ∧ r' = rowsC (rowsE r) := by
  have htl := ok.tl
  refine ACalls.cutX ?_
  refine ACalls_of_awp Tryz.func113 rfl Tryz.results113 ?_
  simp only [List.length_cons, List.length_nil, Tryz.ntmps113, Nat.reduceAdd, Nat.reduceSub, enterA]
  refine AWP_seq_k fun K hK => ?_
  (refine AWP_region ?_; simp -implicitDefEqProofs only [go_sem])
  refine hK _ _ ?_; clear hK K
  refine AWP_freezeP 1 rfl (by simp only [st0]; rfl) ?_
  simp only [ss0, List.set_cons_zero]
  (repeat' (first|(refine g_s fun K hK=>?_)|(refine g_b ?_)|(refine g_r ?_)|(refine g_k ?_;simp only[thenQ,blockQ])|(refine g_e ?_;simp only[thenQ,blockQ,↓reduceIte,Nat.reduceEqDiff])|(refine g_c (fun h=>?_) (fun h=>?_)<;>(try simp only[go_sem] at h)<;>(try exact g_f))|((first|refine g_t ?_|refine g_g ?_|refine g_U ?_|refine g_A ?_|refine g_W ?_);(try simp -implicitDefEqProofs only[go_sem]))|(with_reducible refine hK _ _ ?_;clear hK K)|(clear hK K;first|(with_reducible refine hK _ _ ?_;clear hK K)|(clear hK K;with_reducible refine hK _ _ ?_;clear hK K)|(clear hK K;clear hK K;with_reducible refine hK _ _ ?_;clear hK K))|(with_reducible refine splitB_intro (fun h=>?_) (fun h=>?_)<;>(try simp only[go_sem] at h)<;>(try exact g_f)<;>(try simp -implicitDefEqProofs only[go_sem]))|(with_reducible refine And.intro (fun h=>?_) (fun h=>?_)<;>(try simp only[go_sem] at h)<;>(try exact g_f))|(with_reducible refine And.intro ?_ ?_;· exact g_x)|(with_reducible intro h;(try simp only[go_sem] at h);(try exact g_f))))
  have hJ := hK
  clear hK
  refine AWP_each r.told (fun _ t acc => acc ++ t.filter (fun l => decide (l ≠ [])) = r.told.filter fun l => decide (l ≠ [])) (fun k acc τ => [(12, intA1 k), (3, accV 1 (σ.length + (τ.length + 1)) (r.routes :: acc))]) (fun _ acc τ => σ ++ (.dead :: (τ ++ [accO rowC 1 (r.routes :: acc)]))) [] [] rfl ?_ (ALe_of ?_) ?_ ?_
  · simp [accO, rowC, intsA]
  · simp -implicitDefEqProofs only [go_sem, accV, accO]
  · rintro k t acc τ hk0 hk1 h3 L hL
    obtain ⟨w, hw⟩ : ∃ w, at0 r.told k = w := ⟨_, rfl⟩
    rw [hw] at h3
    have hal : acc.length ≤ r.told.length := by
      have := congrArg List.length h3
      have h5 := List.length_filter_le (fun l => decide (l ≠ [])) r.told
      rw [List.length_append] at this
      omega
    by_cases he : w = []
    · rw [List.filter_cons_of_neg (by simpa using he)] at h3
      subst he
      simp -implicitDefEqProofs only [go_sem, accV, accO]
      (repeat' (first|(refine g_s fun K hK=>?_)|(refine g_b ?_)|(refine g_r ?_)|(refine g_k ?_;simp only[thenQ,blockQ])|(refine g_e ?_;simp only[thenQ,blockQ,↓reduceIte,Nat.reduceEqDiff])|(refine g_c (fun h=>?_) (fun h=>?_)<;>(try simp only[go_sem] at h)<;>(try exact g_f))|((first|refine g_t ?_|refine g_g ?_|refine g_U ?_|refine g_A ?_|refine g_W ?_);(try simp -implicitDefEqProofs only[go_sem,hw]))|(with_reducible refine hK _ _ ?_;clear hK K)|(clear hK K;first|(with_reducible refine hK _ _ ?_;clear hK K)|(clear hK K;with_reducible refine hK _ _ ?_;clear hK K)|(clear hK K;clear hK K;with_reducible refine hK _ _ ?_;clear hK K))|(with_reducible refine splitB_intro (fun h=>?_) (fun h=>?_)<;>(try simp only[go_sem] at h)<;>(try exact g_f)<;>(try simp -implicitDefEqProofs only[go_sem,hw]))|(with_reducible refine And.intro (fun h=>?_) (fun h=>?_)<;>(try simp only[go_sem] at h)<;>(try exact g_f))|(with_reducible refine And.intro ?_ ?_;· exact g_x)|(with_reducible intro h;(try simp only[go_sem] at h);(try exact g_f))))
      refine hL acc τ _ _ h3 (ALe_of ?_) (by simp [accO])
      simp -implicitDefEqProofs only [go_sem, accV]
    · rw [List.filter_cons_of_pos (by simpa using he)] at h3
      have hwl : 0 < w.length := List.length_pos_iff.2 he
      simp -implicitDefEqProofs only [go_sem, accV, accO]
      (repeat' (first|(refine g_s fun K hK=>?_)|(refine g_b ?_)|(refine g_r ?_)|(refine g_k ?_;simp only[thenQ,blockQ])|(refine g_e ?_;simp only[thenQ,blockQ,↓reduceIte,Nat.reduceEqDiff])|(refine g_c (fun h=>?_) (fun h=>?_)<;>(try simp only[go_sem] at h)<;>(try exact g_f))|((first|refine g_t ?_|refine g_G ?_|refine g_U ?_|refine g_A ?_|refine g_W ?_);(try simp -implicitDefEqProofs only[go_sem,hw]))|(with_reducible refine hK _ _ ?_;clear hK K)|(clear hK K;first|(with_reducible refine hK _ _ ?_;clear hK K)|(clear hK K;with_reducible refine hK _ _ ?_;clear hK K)|(clear hK K;clear hK K;with_reducible refine hK _ _ ?_;clear hK K))|(with_reducible refine splitB_intro (fun h=>?_) (fun h=>?_)<;>(try simp only[go_sem] at h)<;>(try exact g_f)<;>(try simp -implicitDefEqProofs only[go_sem,hw]))|(with_reducible refine And.intro (fun h=>?_) (fun h=>?_)<;>(try simp only[go_sem] at h)<;>(try exact g_f))|(with_reducible refine And.intro ?_ ?_;· exact g_x)|(with_reducible intro h;(try simp only[go_sem] at h);(try exact g_f))))
      refine hL (acc ++ [w]) (τ ++ [.dead]) _ _ (by simpa using h3) (ALe_of ?_) ?_
      · simp -implicitDefEqProofs only [go_sem, accV]
      · simp [accO, rowC, intsA]
  · rintro k acc τ hk h3 L
    rw [List.filter_nil, List.append_nil] at h3
    simp -implicitDefEqProofs only [go_sem]
    (repeat' (first|(refine g_s fun K hK=>?_)|(refine g_b ?_)|(refine g_r ?_)|(refine g_k ?_;simp only[thenQ,blockQ])|(refine g_e ?_;simp only[thenQ,blockQ,↓reduceIte,Nat.reduceEqDiff])|(refine g_c (fun h=>?_) (fun h=>?_)<;>(try simp only[go_sem] at h)<;>(try exact g_f))|((first|refine g_g ?_|refine g_U ?_|refine g_A ?_|refine g_W ?_);(try simp -implicitDefEqProofs only[go_sem]))|(with_reducible refine hK _ _ ?_;clear hK K)|(clear hK K;first|(with_reducible refine hK _ _ ?_;clear hK K)|(clear hK K;with_reducible refine hK _ _ ?_;clear hK K)|(clear hK K;clear hK K;with_reducible refine hK _ _ ?_;clear hK K))|(with_reducible refine splitB_intro (fun h=>?_) (fun h=>?_)<;>(try simp only[go_sem] at h)<;>(try exact g_f)<;>(try simp -implicitDefEqProofs only[go_sem]))|(with_reducible refine And.intro (fun h=>?_) (fun h=>?_)<;>(try simp only[go_sem] at h)<;>(try exact g_f))|(with_reducible refine And.intro ?_ ?_;· exact g_x)|(with_reducible intro h;(try simp only[go_sem] at h);(try exact g_f))))
    refine hJ _ _ ?_
    clear hJ
    have est : σ ++ (.dead :: (τ ++ [accO rowC 1 (r.routes :: acc)])) = σ ++ ((.dead :: τ) ++ accO rowC 1 (r.routes :: acc) :: []) := by simp
    rw [est]
    refine AWP_freezeAcc 3 rowC 1 (r.routes :: acc) σ (.dead :: τ) [] (by simp [look, Nat.add_assoc]) ?_
    (repeat' (first|(refine g_s fun K hK=>?_)|(refine g_b ?_)|(refine g_r ?_)|(refine g_k ?_;simp only[thenQ,blockQ])|(refine g_e ?_;simp only[thenQ,blockQ,↓reduceIte,Nat.reduceEqDiff])|(refine g_c (fun h=>?_) (fun h=>?_)<;>(try simp only[go_sem] at h)<;>(try exact g_f))|((first|refine g_t ?_|refine g_G ?_|refine g_U ?_|refine g_A ?_|refine g_W ?_);(try simp -implicitDefEqProofs only[go_sem]))|(with_reducible refine hK _ _ ?_;clear hK K)|(clear hK K;first|(with_reducible refine hK _ _ ?_;clear hK K)|(clear hK K;with_reducible refine hK _ _ ?_;clear hK K)|(clear hK K;clear hK K;with_reducible refine hK _ _ ?_;clear hK K))|(with_reducible refine splitB_intro (fun h=>?_) (fun h=>?_)<;>(try simp only[go_sem] at h)<;>(try exact g_f)<;>(try simp -implicitDefEqProofs only[go_sem]))|(with_reducible refine And.intro (fun h=>?_) (fun h=>?_)<;>(try simp only[go_sem] at h)<;>(try exact g_f))|(with_reducible refine And.intro ?_ ?_;· exact g_x)|(with_reducible intro h;(try simp only[go_sem] at h);(try exact g_f))))
    rw [h3]
    exact CutQ_w rfl (Bd.rows _) (.eq rfl)
theorem all11_calls (n : Net) (why : Int) (l : List Int) (hx : I64 (n.alg.size - 1)) (hl : l.length ≤ 1000000000000000000) (σ : Store) : ACalls Tryz.prog 114 [intsA l, .cp (netC n) 0, .cp [intA1 why] 0] σ fun r σ' => σ' = σ ∧ r = .c (.bool (decide (rowErr n l = why))) := by
  have hR := row_calls n l hx hl
  refine ACalls_of_awp Tryz.func114 rfl Tryz.results114 ?_
  simp only [List.length_cons, List.length_nil, Tryz.ntmps114, Nat.reduceAdd, Nat.reduceSub, enterA]
  (repeat' (first|(refine g_s fun K hK=>?_)|(refine g_b ?_)|(refine g_r ?_)|(refine g_k ?_;simp only[thenQ,blockQ])|(refine g_e ?_;simp only[thenQ,blockQ,↓reduceIte,Nat.reduceEqDiff])|(refine g_c (fun h=>?_) (fun h=>?_)<;>(try simp only[go_sem] at h)<;>(try exact g_f))|((first|refine g_t ?_|refine g_g ?_|refine g_U ?_|refine g_A ?_|refine (hR _).use ?_|refine g_q (fun τ=>hR _) ?_|refine g_W ?_);(try simp -implicitDefEqProofs only[go_sem]))|(with_reducible refine hK _ _ ?_;clear hK K)|(clear hK K;first|(with_reducible refine hK _ _ ?_;clear hK K)|(clear hK K;with_reducible refine hK _ _ ?_;clear hK K)|(clear hK K;clear hK K;with_reducible refine hK _ _ ?_;clear hK K))|(with_reducible refine splitB_intro (fun h=>?_) (fun h=>?_)<;>(try simp only[go_sem] at h)<;>(try exact g_f)<;>(try simp -implicitDefEqProofs only[go_sem]))|(with_reducible refine And.intro (fun h=>?_) (fun h=>?_)<;>(try simp only[go_sem] at h)<;>(try exact g_f))|(with_reducible refine And.intro ?_ ?_;· exact g_x)|(with_reducible intro h;(try simp only[go_sem] at h);(try exact g_f))))
  rfl
def allP (n : Net) (why : Int) (r : Rtr) : Bool := (decide (why = 1) && decide ((r.told.length : Int) ≠ n.nodes)) || (rowsE r).any fun l => decide (rowErr n l = why)
theorem all1_calls (n : Net) (why : Int) (r : Rtr) (ok : RtrOk r) (hx : I64 (n.alg.size - 1)) (σ : Store) : ACalls Tryz.prog 111 [.agg (rtrC r), .cp [intA1 why] 0, .cp (netC n) 0] σ fun r' σ' => σ' = σ ∧ r' = .c (.bool (allP n why r)) := by
  have hR := erows_calls r ok
  have htl := ok.tl
  have hrl := rowsE_len r
  have hC := fun S => containsFunc_rows (rowsE r) (fun l => decide (rowErr n l = why)) 114 [] [.cp (netC n) 0, .cp [intA1 why] 0] S (by omega) (by kernel_rfl) (fun l hl => all11_calls n why l hx (by
    rcases List.mem_cons.1 hl with rfl | hl
    · have := ok.rl; omega
    · have := ok.tr l (List.mem_filter.1 hl).1; omega) S)
  rw [allP]
  obtain ⟨B, hB⟩ : ∃ B, ((rowsE r).any fun l => decide (rowErr n l = why)) = B := ⟨_, rfl⟩
  simp only [hB] at hC ⊢
  refine ACalls.cutX ?_
  by_cases h1 : why = 1 ∧ (r.told.length : Int) ≠ n.nodes
  · obtain ⟨rfl, h2⟩ := h1
    refine ACalls_of_awp Tryz.func111 rfl Tryz.results111 ?_
    simp only [List.length_cons, List.length_nil, Tryz.ntmps111, Nat.reduceAdd, Nat.reduceSub, enterA]
    refine AWP_seq_k fun K hK => ?_
    (refine AWP_region ?_; simp -implicitDefEqProofs only [go_sem])
    refine hK _ _ ?_; clear hK K
    refine AWP_freezeP 3 rfl (by simp only [st0]; rfl) ?_
    simp only [ss0, List.set_cons_zero]
    (repeat' (first|(refine g_s fun K hK=>?_)|(refine g_b ?_)|(refine g_r ?_)|(refine g_k ?_;simp only[thenQ,blockQ])|(refine g_e ?_;simp only[thenQ,blockQ,↓reduceIte,Nat.reduceEqDiff])|(refine g_c (fun h=>?_) (fun h=>?_)<;>(try simp only[go_sem] at h)<;>(try exact g_f))|((first|refine g_t ?_|refine g_g ?_|refine g_U ?_|refine g_A ?_|refine g_W ?_);(try simp -implicitDefEqProofs only[go_sem]))|(with_reducible refine hK _ _ ?_;clear hK K)|(clear hK K;first|(with_reducible refine hK _ _ ?_;clear hK K)|(clear hK K;with_reducible refine hK _ _ ?_;clear hK K)|(clear hK K;clear hK K;with_reducible refine hK _ _ ?_;clear hK K))|(with_reducible refine splitB_intro (fun h=>?_) (fun h=>?_)<;>(try simp only[go_sem] at h)<;>(try exact g_f)<;>(try simp -implicitDefEqProofs only[go_sem]))|(with_reducible refine And.intro (fun h=>?_) (fun h=>?_)<;>(try simp only[go_sem] at h)<;>(try exact g_f))|(with_reducible refine And.intro ?_ ?_;· exact g_x)|(with_reducible intro h;(try simp only[go_sem] at h);(try exact g_f))))
    refine CutQ_c rfl ?_
    simp [h2]
  · have hz : (decide (why = 1) && decide ((r.told.length : Int) ≠ n.nodes)) = false := by
      rw [← Bool.not_eq_true, Bool.and_eq_true, decide_eq_true_eq, decide_eq_true_eq]
      exact h1
    rw [hz, Bool.false_or]
    refine ACalls_of_awp Tryz.func111 rfl Tryz.results111 ?_
    simp only [List.length_cons, List.length_nil, Tryz.ntmps111, Nat.reduceAdd, Nat.reduceSub, enterA]
    refine AWP_seq_k fun K hK => ?_
    (refine AWP_region ?_; simp -implicitDefEqProofs only [go_sem])
    refine hK _ _ ?_; clear hK K
    refine AWP_freezeP 3 rfl (by simp only [st0]; rfl) ?_
    simp only [ss0, List.set_cons_zero]
    (repeat' (first|(refine g_s fun K hK=>?_)|(refine g_b ?_)|(refine g_r ?_)|(refine g_k ?_;simp only[thenQ,blockQ])|(refine g_e ?_;simp only[thenQ,blockQ,↓reduceIte,Nat.reduceEqDiff])|(refine g_c (fun h=>?_) (fun h=>?_)<;>(try simp only[go_sem] at h)<;>(try exact g_f))|((first|refine g_t ?_|refine g_g ?_|refine g_U ?_|refine g_A ?_|refine (hR _).use ?_|refine g_q (fun τ=>hR _) ?_|refine (hC _).use ?_|refine g_q (fun τ=>hC _) ?_|refine g_W ?_);(try simp -implicitDefEqProofs only[go_sem]))|(with_reducible refine hK _ _ ?_;clear hK K)|(clear hK K;first|(with_reducible refine hK _ _ ?_;clear hK K)|(clear hK K;with_reducible refine hK _ _ ?_;clear hK K)|(clear hK K;clear hK K;with_reducible refine hK _ _ ?_;clear hK K))|(with_reducible refine splitB_intro (fun h=>?_) (fun h=>?_)<;>(try simp only[go_sem] at h)<;>(try exact g_f)<;>(try simp -implicitDefEqProofs only[go_sem]))|(with_reducible refine And.intro (fun h=>?_) (fun h=>?_)<;>(try simp only[go_sem] at h)<;>(try exact g_f))|(with_reducible refine And.intro ?_ ?_;· exact g_x)|(with_reducible intro h;(try simp only[go_sem] at h);(try exact g_f))))
    all_goals exact CutQ_c rfl rfl
theorem indexFunc_rtr (l : List Rtr) (p : Rtr → Bool) (f : FuncId) (first cap : List AV) (σ : Store) (hl : l.length ≤ 1000000000000000000) (hok : callOk Tryz.prog f = true)
    (hf : ∀ x ∈ l, ∀ S, ACalls Tryz.prog f (first ++ .agg (rtrC x) :: cap) S fun r σ' => σ' = S ∧ r = .c (.bool (p x))) :
    ACalls Tryz.prog 140 [.sl (l.map rtrC), .fn f first cap] σ fun r σ' => σ' = σ ∧ r = intA1 (firstI p 0 l) := by
  refine ACalls_of_awp Tryz.func140 rfl Tryz.results140 ?_
  simp only [List.length_cons, List.length_nil, Tryz.ntmps140, Nat.reduceAdd, Nat.reduceSub, enterA]
  (repeat' (first|(refine g_s fun K hK=>?_)|(refine g_b ?_)|(refine g_r ?_)|(refine g_k ?_;simp only[thenQ,blockQ])|(refine g_e ?_;simp only[thenQ,blockQ,↓reduceIte,Nat.reduceEqDiff])|(refine g_c (fun h=>?_) (fun h=>?_)<;>(try simp only[go_sem] at h)<;>(try exact g_f))|((first|refine g_t ?_|refine g_g ?_|refine g_U ?_|refine g_A ?_|refine g_W ?_);(try simp -implicitDefEqProofs only[go_sem]))|(with_reducible refine hK _ _ ?_;clear hK K)|(clear hK K;first|(with_reducible refine hK _ _ ?_;clear hK K)|(clear hK K;with_reducible refine hK _ _ ?_;clear hK K)|(clear hK K;clear hK K;with_reducible refine hK _ _ ?_;clear hK K))|(with_reducible refine splitB_intro (fun h=>?_) (fun h=>?_)<;>(try simp only[go_sem] at h)<;>(try exact g_f)<;>(try simp -implicitDefEqProofs only[go_sem]))|(with_reducible refine And.intro (fun h=>?_) (fun h=>?_)<;>(try simp only[go_sem] at h)<;>(try exact g_f))|(with_reducible refine And.intro ?_ ?_;· exact g_x)|(with_reducible intro h;(try simp only[go_sem] at h);(try exact g_f))))
  refine AWP_each l (fun k r _ => firstI p 0 l = firstI p k r) (fun k _ _ => [(8, intA1 k)]) (fun _ _ _ => σ) () [] rfl rfl (ALe_of ?_) ?_ ?_
  · simp -implicitDefEqProofs only [go_sem]
  · rintro k r s τ hk0 hk1 h1 L hL
    obtain ⟨u, hu⟩ : ∃ u, at0 l k = u := ⟨_, rfl⟩
    have hm := at0_mem l hk0 hk1
    rw [hu] at h1 hm
    have hc := hf _ hm
    simp -implicitDefEqProofs only [go_sem]
    (repeat' (first|(refine g_s fun K hK=>?_)|(refine g_b ?_)|(refine g_r ?_)|(refine g_k ?_;simp only[thenQ,blockQ])|(refine g_e ?_;simp only[thenQ,blockQ,↓reduceIte,Nat.reduceEqDiff])|(refine g_c (fun h=>?_) (fun h=>?_)<;>(try simp only[go_sem] at h)<;>(try exact g_f))|((first|refine g_t ?_|refine g_g ?_|refine g_U ?_|refine g_A ?_|refine (hc _).use ?_|refine g_q (fun τ=>hc _) ?_|refine g_W ?_);(try simp -implicitDefEqProofs only[go_sem,hu]))|(with_reducible refine hK _ _ ?_;clear hK K)|(clear hK K;first|(with_reducible refine hK _ _ ?_;clear hK K)|(clear hK K;with_reducible refine hK _ _ ?_;clear hK K)|(clear hK K;clear hK K;with_reducible refine hK _ _ ?_;clear hK K))|(with_reducible refine splitB_intro (fun h=>?_) (fun h=>?_)<;>(try simp only[go_sem] at h)<;>(try exact g_f)<;>(try simp -implicitDefEqProofs only[go_sem,hu]))|(with_reducible refine And.intro (fun h=>?_) (fun h=>?_)<;>(try simp only[go_sem] at h)<;>(try exact g_f))|(with_reducible refine And.intro ?_ ?_;· exact g_x)|(with_reducible intro h;(try simp only[go_sem] at h);(try exact g_f))))
    · rw [h1, firstI, if_pos (by assumption)]
    · refine hL () [] _ _ ?_ (ALe_of ?_) rfl
      · rw [h1, firstI, if_neg (by simp [*])]
      · simp -implicitDefEqProofs only [go_sem]
  · intro k s τ hk h1 L
    simp -implicitDefEqProofs only [go_sem]
    (repeat' (first|(refine g_s fun K hK=>?_)|(refine g_b ?_)|(refine g_r ?_)|(refine g_k ?_;simp only[thenQ,blockQ])|(refine g_e ?_;simp only[thenQ,blockQ,↓reduceIte,Nat.reduceEqDiff])|(refine g_c (fun h=>?_) (fun h=>?_)<;>(try simp only[go_sem] at h)<;>(try exact g_f))|((first|refine g_t ?_|refine g_g ?_|refine g_U ?_|refine g_A ?_|refine g_W ?_);(try simp -implicitDefEqProofs only[go_sem]))|(with_reducible refine hK _ _ ?_;clear hK K)|(clear hK K;first|(with_reducible refine hK _ _ ?_;clear hK K)|(clear hK K;with_reducible refine hK _ _ ?_;clear hK K)|(clear hK K;clear hK K;with_reducible refine hK _ _ ?_;clear hK K))|(with_reducible refine splitB_intro (fun h=>?_) (fun h=>?_)<;>(try simp only[go_sem] at h)<;>(try exact g_f)<;>(try simp -implicitDefEqProofs only[go_sem]))|(with_reducible refine And.intro (fun h=>?_) (fun h=>?_)<;>(try simp only[go_sem] at h)<;>(try exact g_f))|(with_reducible refine And.intro ?_ ?_;· exact g_x)|(with_reducible intro h;(try simp only[go_sem] at h);(try exact g_f))))
    rw [h1, firstI]
theorem containsFunc_rtr (l : List Rtr) (p : Rtr → Bool) (f : FuncId) (first cap : List AV) (σ : Store) (hl : l.length ≤ 1000000000000000000) (hok : callOk Tryz.prog f = true)
    (hf : ∀ x ∈ l, ∀ S, ACalls Tryz.prog f (first ++ .agg (rtrC x) :: cap) S fun r σ' => σ' = S ∧ r = .c (.bool (p x))) :
    ACalls Tryz.prog 110 [.sl (l.map rtrC), .fn f first cap] σ fun r σ' => σ' = σ ∧ r = .c (.bool (l.any p)) := by
  have hc := indexFunc_rtr l p f first cap σ hl hok hf
  refine ACalls_of_awp Tryz.func110 rfl Tryz.results110 ?_
  simp only [List.length_cons, List.length_nil, Tryz.ntmps110, Nat.reduceAdd, Nat.reduceSub, enterA]
  (repeat' (first|(refine g_s fun K hK=>?_)|(refine g_b ?_)|(refine g_r ?_)|(refine g_k ?_;simp only[thenQ,blockQ])|(refine g_e ?_;simp only[thenQ,blockQ,↓reduceIte,Nat.reduceEqDiff])|(refine g_c (fun h=>?_) (fun h=>?_)<;>(try simp only[go_sem] at h)<;>(try exact g_f))|((first|refine g_t ?_|refine g_g ?_|refine g_U ?_|refine g_A ?_|refine (hc).use ?_|refine g_q (fun τ=>hc) ?_|refine g_W ?_);(try simp -implicitDefEqProofs only[go_sem]))|(with_reducible refine hK _ _ ?_;clear hK K)|(clear hK K;first|(with_reducible refine hK _ _ ?_;clear hK K)|(clear hK K;with_reducible refine hK _ _ ?_;clear hK K)|(clear hK K;clear hK K;with_reducible refine hK _ _ ?_;clear hK K))|(with_reducible refine splitB_intro (fun h=>?_) (fun h=>?_)<;>(try simp only[go_sem] at h)<;>(try exact g_f)<;>(try simp -implicitDefEqProofs only[go_sem]))|(with_reducible refine And.intro (fun h=>?_) (fun h=>?_)<;>(try simp only[go_sem] at h)<;>(try exact g_f))|(with_reducible refine And.intro ?_ ?_;· exact g_x)|(with_reducible intro h;(try simp only[go_sem] at h);(try exact g_f))))
  rw [← firstI_ge p l 0 (Int.le_refl _)]
theorem indexFunc_mail (l : List Mail) (p : Mail → Bool) (f : FuncId) (first cap : List AV) (σ : Store) (hl : l.length ≤ 1000000000000000000) (hok : callOk Tryz.prog f = true)
    (hf : ∀ x ∈ l, ∀ S, ACalls Tryz.prog f (first ++ .agg (mailC x) :: cap) S fun r σ' => σ' = S ∧ r = .c (.bool (p x))) :
    ACalls Tryz.prog 116 [.sl (l.map mailC), .fn f first cap] σ fun r σ' => σ' = σ ∧ r = intA1 (firstI p 0 l) := by
  refine ACalls_of_awp Tryz.func116 rfl Tryz.results116 ?_
  simp only [List.length_cons, List.length_nil, Tryz.ntmps116, Nat.reduceAdd, Nat.reduceSub, enterA]
  (repeat' (first|(refine g_s fun K hK=>?_)|(refine g_b ?_)|(refine g_r ?_)|(refine g_k ?_;simp only[thenQ,blockQ])|(refine g_e ?_;simp only[thenQ,blockQ,↓reduceIte,Nat.reduceEqDiff])|(refine g_c (fun h=>?_) (fun h=>?_)<;>(try simp only[go_sem] at h)<;>(try exact g_f))|((first|refine g_t ?_|refine g_g ?_|refine g_U ?_|refine g_A ?_|refine g_W ?_);(try simp -implicitDefEqProofs only[go_sem]))|(with_reducible refine hK _ _ ?_;clear hK K)|(clear hK K;first|(with_reducible refine hK _ _ ?_;clear hK K)|(clear hK K;with_reducible refine hK _ _ ?_;clear hK K)|(clear hK K;clear hK K;with_reducible refine hK _ _ ?_;clear hK K))|(with_reducible refine splitB_intro (fun h=>?_) (fun h=>?_)<;>(try simp only[go_sem] at h)<;>(try exact g_f)<;>(try simp -implicitDefEqProofs only[go_sem]))|(with_reducible refine And.intro (fun h=>?_) (fun h=>?_)<;>(try simp only[go_sem] at h)<;>(try exact g_f))|(with_reducible refine And.intro ?_ ?_;· exact g_x)|(with_reducible intro h;(try simp only[go_sem] at h);(try exact g_f))))
  refine AWP_each l (fun k r _ => firstI p 0 l = firstI p k r) (fun k _ _ => [(8, intA1 k)]) (fun _ _ _ => σ) () [] rfl rfl (ALe_of ?_) ?_ ?_
  · simp -implicitDefEqProofs only [go_sem]
  · rintro k r s τ hk0 hk1 h1 L hL
    obtain ⟨u, hu⟩ : ∃ u, at0 l k = u := ⟨_, rfl⟩
    have hm := at0_mem l hk0 hk1
    rw [hu] at h1 hm
    have hc := hf _ hm
    simp -implicitDefEqProofs only [go_sem]
    (repeat' (first|(refine g_s fun K hK=>?_)|(refine g_b ?_)|(refine g_r ?_)|(refine g_k ?_;simp only[thenQ,blockQ])|(refine g_e ?_;simp only[thenQ,blockQ,↓reduceIte,Nat.reduceEqDiff])|(refine g_c (fun h=>?_) (fun h=>?_)<;>(try simp only[go_sem] at h)<;>(try exact g_f))|((first|refine g_t ?_|refine g_g ?_|refine g_U ?_|refine g_A ?_|refine (hc _).use ?_|refine g_q (fun τ=>hc _) ?_|refine g_W ?_);(try simp -implicitDefEqProofs only[go_sem,hu]))|(with_reducible refine hK _ _ ?_;clear hK K)|(clear hK K;first|(with_reducible refine hK _ _ ?_;clear hK K)|(clear hK K;with_reducible refine hK _ _ ?_;clear hK K)|(clear hK K;clear hK K;with_reducible refine hK _ _ ?_;clear hK K))|(with_reducible refine splitB_intro (fun h=>?_) (fun h=>?_)<;>(try simp only[go_sem] at h)<;>(try exact g_f)<;>(try simp -implicitDefEqProofs only[go_sem,hu]))|(with_reducible refine And.intro (fun h=>?_) (fun h=>?_)<;>(try simp only[go_sem] at h)<;>(try exact g_f))|(with_reducible refine And.intro ?_ ?_;· exact g_x)|(with_reducible intro h;(try simp only[go_sem] at h);(try exact g_f))))
    · rw [h1, firstI, if_pos (by assumption)]
    · refine hL () [] _ _ ?_ (ALe_of ?_) rfl
      · rw [h1, firstI, if_neg (by simp [*])]
      · simp -implicitDefEqProofs only [go_sem]
  · intro k s τ hk h1 L
    simp -implicitDefEqProofs only [go_sem]
    (repeat' (first|(refine g_s fun K hK=>?_)|(refine g_b ?_)|(refine g_r ?_)|(refine g_k ?_;simp only[thenQ,blockQ])|(refine g_e ?_;simp only[thenQ,blockQ,↓reduceIte,Nat.reduceEqDiff])|(refine g_c (fun h=>?_) (fun h=>?_)<;>(try simp only[go_sem] at h)<;>(try exact g_f))|((first|refine g_t ?_|refine g_g ?_|refine g_U ?_|refine g_A ?_|refine g_W ?_);(try simp -implicitDefEqProofs only[go_sem]))|(with_reducible refine hK _ _ ?_;clear hK K)|(clear hK K;first|(with_reducible refine hK _ _ ?_;clear hK K)|(clear hK K;with_reducible refine hK _ _ ?_;clear hK K)|(clear hK K;clear hK K;with_reducible refine hK _ _ ?_;clear hK K))|(with_reducible refine splitB_intro (fun h=>?_) (fun h=>?_)<;>(try simp only[go_sem] at h)<;>(try exact g_f)<;>(try simp -implicitDefEqProofs only[go_sem]))|(with_reducible refine And.intro (fun h=>?_) (fun h=>?_)<;>(try simp only[go_sem] at h)<;>(try exact g_f))|(with_reducible refine And.intro ?_ ?_;· exact g_x)|(with_reducible intro h;(try simp only[go_sem] at h);(try exact g_f))))
    rw [h1, firstI]
theorem containsFunc_mail (l : List Mail) (p : Mail → Bool) (f : FuncId) (first cap : List AV) (σ : Store) (hl : l.length ≤ 1000000000000000000) (hok : callOk Tryz.prog f = true)
    (hf : ∀ x ∈ l, ∀ S, ACalls Tryz.prog f (first ++ .agg (mailC x) :: cap) S fun r σ' => σ' = S ∧ r = .c (.bool (p x))) :
    ACalls Tryz.prog 70 [.sl (l.map mailC), .fn f first cap] σ fun r σ' => σ' = σ ∧ r = .c (.bool (l.any p)) := by
  have hc := indexFunc_mail l p f first cap σ hl hok hf
  refine ACalls_of_awp Tryz.func70 rfl Tryz.results70 ?_
  simp only [List.length_cons, List.length_nil, Tryz.ntmps70, Nat.reduceAdd, Nat.reduceSub, enterA]
  (repeat' (first|(refine g_s fun K hK=>?_)|(refine g_b ?_)|(refine g_r ?_)|(refine g_k ?_;simp only[thenQ,blockQ])|(refine g_e ?_;simp only[thenQ,blockQ,↓reduceIte,Nat.reduceEqDiff])|(refine g_c (fun h=>?_) (fun h=>?_)<;>(try simp only[go_sem] at h)<;>(try exact g_f))|((first|refine g_t ?_|refine g_g ?_|refine g_U ?_|refine g_A ?_|refine (hc).use ?_|refine g_q (fun τ=>hc) ?_|refine g_W ?_);(try simp -implicitDefEqProofs only[go_sem]))|(with_reducible refine hK _ _ ?_;clear hK K)|(clear hK K;first|(with_reducible refine hK _ _ ?_;clear hK K)|(clear hK K;with_reducible refine hK _ _ ?_;clear hK K)|(clear hK K;clear hK K;with_reducible refine hK _ _ ?_;clear hK K))|(with_reducible refine splitB_intro (fun h=>?_) (fun h=>?_)<;>(try simp only[go_sem] at h)<;>(try exact g_f)<;>(try simp -implicitDefEqProofs only[go_sem]))|(with_reducible refine And.intro (fun h=>?_) (fun h=>?_)<;>(try simp only[go_sem] at h)<;>(try exact g_f))|(with_reducible refine And.intro ?_ ?_;· exact g_x)|(with_reducible intro h;(try simp only[go_sem] at h);(try exact g_f))))
  rw [← firstI_ge p l 0 (Int.le_refl _)]
theorem all_calls (n : Net) (e : Eng) (why : Int) (ok : EngOk e) (hx : I64 (n.alg.size - 1)) (σ : Store) : ACalls Tryz.prog 69 [.agg (netC n), .agg (engC e), intA1 why] σ fun r σ' => σ' = σ ∧ r = .c (.bool (e.routers.any (allP n why))) := by
  have hC := fun S => containsFunc_rtr e.routers (allP n why) 111 [] [.cp [intA1 why] 0, .cp (netC n) 0] S (by have := ok.rl; omega) (by kernel_rfl) (fun r hr S => all1_calls n why r (ok.rtr r hr) hx S)
  refine ACalls.cutX ?_
  refine ACalls_of_awp Tryz.func69 rfl Tryz.results69 ?_
  simp only [List.length_cons, List.length_nil, Tryz.ntmps69, Nat.reduceAdd, Nat.reduceSub, enterA]
  refine AWP_seq_k fun K hK => ?_
  (refine AWP_region ?_; simp -implicitDefEqProofs only [go_sem])
  refine hK _ _ ?_; clear hK K
  refine AWP_freezeP 3 rfl (by simp only [st0]; rfl) ?_
  simp only [ss0, List.set_cons_zero]
  refine AWP_freezeP 4 rfl (by simp only [st1]; rfl) ?_
  simp only [ss1, List.set_cons_zero, List.set_cons_succ]
  refine AWP_freezeP 5 rfl (by simp only [st1]; rfl) ?_
  simp only [ss1, List.set_cons_zero, List.set_cons_succ]
  (repeat' (first|(refine g_s fun K hK=>?_)|(refine g_b ?_)|(refine g_r ?_)|(refine g_k ?_;simp only[thenQ,blockQ])|(refine g_e ?_;simp only[thenQ,blockQ,↓reduceIte,Nat.reduceEqDiff])|(refine g_c (fun h=>?_) (fun h=>?_)<;>(try simp only[go_sem] at h)<;>(try exact g_f))|((first|refine g_t ?_|refine g_g ?_|refine g_U ?_|refine g_A ?_|refine (hC _).use ?_|refine g_q (fun τ=>hC _) ?_|refine g_W ?_);(try simp -implicitDefEqProofs only[go_sem]))|(with_reducible refine hK _ _ ?_;clear hK K)|(clear hK K;first|(with_reducible refine hK _ _ ?_;clear hK K)|(clear hK K;with_reducible refine hK _ _ ?_;clear hK K)|(clear hK K;clear hK K;with_reducible refine hK _ _ ?_;clear hK K))|(with_reducible refine splitB_intro (fun h=>?_) (fun h=>?_)<;>(try simp only[go_sem] at h)<;>(try exact g_f)<;>(try simp -implicitDefEqProofs only[go_sem]))|(with_reducible refine And.intro (fun h=>?_) (fun h=>?_)<;>(try simp only[go_sem] at h)<;>(try exact g_f))|(with_reducible refine And.intro ?_ ?_;· exact g_x)|(with_reducible intro h;(try simp only[go_sem] at h);(try exact g_f))))
  exact CutQ_c rfl rfl
theorem enode_calls (n : Net) (i : Int) (σ : Store) : ACalls Tryz.prog 72 [.agg (netC n), intA1 i] σ fun r σ' => σ' = σ ∧ r = .c (.bool (inR i 0 (n.nodes - 1))) := by
  refine ACalls.cutX ?_
  refine ACalls_of_awp Tryz.func72 rfl Tryz.results72 ?_
  simp only [List.length_cons, List.length_nil, Tryz.ntmps72, Nat.reduceAdd, Nat.reduceSub, enterA]
  refine AWP_seq_k fun K hK => ?_
  (refine AWP_region ?_; simp -implicitDefEqProofs only [go_sem])
  refine hK _ _ ?_; clear hK K
  refine AWP_freezeP 2 rfl (by simp only [st0]; rfl) ?_
  simp only [ss0, List.set_cons_zero]
  (repeat' (first|(refine g_s fun K hK=>?_)|(refine g_b ?_)|(refine g_r ?_)|(refine g_k ?_;simp only[thenQ,blockQ])|(refine g_e ?_;simp only[thenQ,blockQ,↓reduceIte,Nat.reduceEqDiff])|(refine g_c (fun h=>?_) (fun h=>?_)<;>(try simp only[go_sem] at h)<;>(try exact g_f))|((first|refine g_t ?_|refine g_g ?_|refine g_U ?_|refine g_A ?_|refine g_W ?_);(try simp -implicitDefEqProofs only[go_sem]))|(with_reducible refine hK _ _ ?_;clear hK K)|(clear hK K;first|(with_reducible refine hK _ _ ?_;clear hK K)|(clear hK K;with_reducible refine hK _ _ ?_;clear hK K)|(clear hK K;clear hK K;with_reducible refine hK _ _ ?_;clear hK K))|(with_reducible refine splitB_intro (fun h=>?_) (fun h=>?_)<;>(try simp only[go_sem] at h)<;>(try exact g_f)<;>(try simp -implicitDefEqProofs only[go_sem]))|(with_reducible refine And.intro (fun h=>?_) (fun h=>?_)<;>(try simp only[go_sem] at h)<;>(try exact g_f))|(with_reducible refine And.intro ?_ ?_;· exact g_x)|(with_reducible intro h;(try simp only[go_sem] at h);(try exact g_f))))
  all_goals (refine CutQ_c rfl ?_; congr 2; rw [Bool.eq_iff_iff]; simp [inR]; omega)
theorem check1_calls (n : Net) (m : Mail) (σ : Store) : ACalls Tryz.prog 71 [.agg (mailC m), .cp (netC n) 0] σ fun r σ' => σ' = σ ∧ r = .c (.bool (!inR m.fr 0 (n.nodes - 1) || !inR m.dst 0 (n.nodes - 1))) := by
  have h1 := enode_calls n m.fr
  have h2 := enode_calls n m.dst
  refine ACalls.cutX ?_
  refine ACalls_of_awp Tryz.func71 rfl Tryz.results71 ?_
  simp only [List.length_cons, List.length_nil, Tryz.ntmps71, Nat.reduceAdd, Nat.reduceSub, enterA]
  refine AWP_seq_k fun K hK => ?_
  (refine AWP_region ?_; simp -implicitDefEqProofs only [go_sem])
  refine hK _ _ ?_; clear hK K
  refine AWP_freezeP 2 rfl (by simp only [st0]; rfl) ?_
  simp only [ss0, List.set_cons_zero]
  cases hf : inR m.fr 0 (n.nodes - 1)
  · rw [hf] at h1
    (repeat' (first|(refine g_s fun K hK=>?_)|(refine g_b ?_)|(refine g_r ?_)|(refine g_k ?_;simp only[thenQ,blockQ])|(refine g_e ?_;simp only[thenQ,blockQ,↓reduceIte,Nat.reduceEqDiff])|(refine g_c (fun h=>?_) (fun h=>?_)<;>(try simp only[go_sem] at h)<;>(try exact g_f))|((first|refine g_t ?_|refine g_g ?_|refine g_U ?_|refine g_A ?_|refine (h1 _).use ?_|refine g_q (fun τ=>h1 _) ?_|refine g_W ?_);(try simp -implicitDefEqProofs only[go_sem]))|(with_reducible refine hK _ _ ?_;clear hK K)|(clear hK K;first|(with_reducible refine hK _ _ ?_;clear hK K)|(clear hK K;with_reducible refine hK _ _ ?_;clear hK K)|(clear hK K;clear hK K;with_reducible refine hK _ _ ?_;clear hK K))|(with_reducible refine splitB_intro (fun h=>?_) (fun h=>?_)<;>(try simp only[go_sem] at h)<;>(try exact g_f)<;>(try simp -implicitDefEqProofs only[go_sem]))|(with_reducible refine And.intro (fun h=>?_) (fun h=>?_)<;>(try simp only[go_sem] at h)<;>(try exact g_f))|(with_reducible refine And.intro ?_ ?_;· exact g_x)|(with_reducible intro h;(try simp only[go_sem] at h);(try exact g_f))))
    exact CutQ_c rfl rfl
  · rw [hf] at h1
    (repeat' (first|(refine g_s fun K hK=>?_)|(refine g_b ?_)|(refine g_r ?_)|(refine g_k ?_;simp only[thenQ,blockQ])|(refine g_e ?_;simp only[thenQ,blockQ,↓reduceIte,Nat.reduceEqDiff])|(refine g_c (fun h=>?_) (fun h=>?_)<;>(try simp only[go_sem] at h)<;>(try exact g_f))|((first|refine g_t ?_|refine g_g ?_|refine g_U ?_|refine g_A ?_|refine (h1 _).use ?_|refine g_q (fun τ=>h1 _) ?_|refine (h2 _).use ?_|refine g_q (fun τ=>h2 _) ?_|refine g_W ?_);(try simp -implicitDefEqProofs only[go_sem]))|(with_reducible refine hK _ _ ?_;clear hK K)|(clear hK K;first|(with_reducible refine hK _ _ ?_;clear hK K)|(clear hK K;with_reducible refine hK _ _ ?_;clear hK K)|(clear hK K;clear hK K;with_reducible refine hK _ _ ?_;clear hK K))|(with_reducible refine splitB_intro (fun h=>?_) (fun h=>?_)<;>(try simp only[go_sem] at h)<;>(try exact g_f)<;>(try simp -implicitDefEqProofs only[go_sem]))|(with_reducible refine And.intro (fun h=>?_) (fun h=>?_)<;>(try simp only[go_sem] at h)<;>(try exact g_f))|(with_reducible refine And.intro ?_ ?_;· exact g_x)|(with_reducible intro h;(try simp only[go_sem] at h);(try exact g_f))))
    exact CutQ_c rfl rfl
theorem check2_calls (m : Mail) (hl : m.bytes.length ≤ 140737488351232) (σ : Store) : ACalls Tryz.prog 73 [.agg (mailC m)] σ fun r σ' => σ' = σ ∧ r = .c (.bool (decide (60 < m.bytes.length))) := by
  refine ACalls.cutX ?_
  refine ACalls_of_awp Tryz.func73 rfl Tryz.results73 ?_
  simp only [List.length_cons, List.length_nil, Tryz.ntmps73, Nat.reduceAdd, Nat.reduceSub, enterA]
  refine AWP_seq_k fun K hK => ?_
  (refine AWP_region ?_; simp -implicitDefEqProofs only [go_sem])
  refine hK _ _ ?_; clear hK K
  refine AWP_freezeP 1 rfl (by simp only [st0]; rfl) ?_
  simp only [ss0, List.set_cons_zero]
  (repeat' (first|(refine g_s fun K hK=>?_)|(refine g_b ?_)|(refine g_r ?_)|(refine g_k ?_;simp only[thenQ,blockQ])|(refine g_e ?_;simp only[thenQ,blockQ,↓reduceIte,Nat.reduceEqDiff])|(refine g_c (fun h=>?_) (fun h=>?_)<;>(try simp only[go_sem] at h)<;>(try exact g_f))|((first|refine g_t ?_|refine g_g ?_|refine g_U ?_|refine g_A ?_|refine g_W ?_);(try simp -implicitDefEqProofs only[go_sem]))|(with_reducible refine hK _ _ ?_;clear hK K)|(clear hK K;first|(with_reducible refine hK _ _ ?_;clear hK K)|(clear hK K;with_reducible refine hK _ _ ?_;clear hK K)|(clear hK K;clear hK K;with_reducible refine hK _ _ ?_;clear hK K))|(with_reducible refine splitB_intro (fun h=>?_) (fun h=>?_)<;>(try simp only[go_sem] at h)<;>(try exact g_f)<;>(try simp -implicitDefEqProofs only[go_sem]))|(with_reducible refine And.intro (fun h=>?_) (fun h=>?_)<;>(try simp only[go_sem] at h)<;>(try exact g_f))|(with_reducible refine And.intro ?_ ?_;· exact g_x)|(with_reducible intro h;(try simp only[go_sem] at h);(try exact g_f))))
  refine CutQ_c rfl ?_
  have e : (60 < m.bytes.length) = ((60 : Int) < m.bytes.length) := propext (by omega)
  simp only [e]
theorem allP_one (n : Net) (r : Rtr) : allP n 1 r = formBad n r := by
  have h : ∀ l : List Int, decide (rowErr n l = 1) = decide ((l.length : Int) ≠ n.nodes) := fun l => decide_eq_decide.2 rowErr_len.symm
  rw [allP, formBad, rowsE, List.any_cons, List.any_filter, h, decide_eq_true rfl, Bool.true_and]
  simp only [h]
theorem allP_five (n : Net) (r : Rtr) : allP n 5 r = noneBad n r := by
  have h5 : (decide ((5 : Int) = 1)) = false := by decide
  rw [allP, noneBad, rowsE, List.any_cons, List.any_filter, h5, Bool.false_and, Bool.false_or]
theorem checkE_calls (n : Net) (e : Eng) (okn : NetOk n) (ok : EngOk e) (σ : Store) : ACalls Tryz.prog 32 [.agg (netC n), .agg (engC e)] σ fun r σ' => σ' = σ ∧ r = intA1 (checkE n e) := by
  have hC := netCheck_calls n okn
  have hrl := ok.rl
  have hbl := ok.bl
  refine ACalls.cutX ?_
  by_cases h0 : checkN n = 0
  · have hn := netIn_of h0
    have n1 := hn.n1
    have n6 := hn.n6
    have s2 := hn.alg.s2
    have s24 := hn.alg.s24
    have hx : I64 (n.alg.size - 1) := by unfold I64; omega
    have hA1 := all_calls n e 1 ok hx
    have hA5 := all_calls n e 5 ok hx
    have e1 : allP n 1 = formBad n := funext (allP_one n)
    have e5 : allP n 5 = noneBad n := funext (allP_five n)
    have hM1 := fun S => containsFunc_mail e.bag (fun m => !inR m.fr 0 (n.nodes - 1) || !inR m.dst 0 (n.nodes - 1)) 71 [] [.cp (netC n) 0] S (by omega) (by kernel_rfl) (fun m _ S => check1_calls n m S)
    have hM2 := fun S => containsFunc_mail e.bag (fun m => decide (60 < m.bytes.length)) 73 [] [] S (by omega) (by kernel_rfl) (fun m hm S => check2_calls m (ok.mail m hm).len S)
    rw [e1] at hA1
    rw [e5] at hA5
    rw [h0] at hC
    rw [checkE, if_neg (not_not_intro h0)]
    refine ACalls_of_awp Tryz.func32 rfl Tryz.results32 ?_
    simp only [List.length_cons, List.length_nil, Tryz.ntmps32, Nat.reduceAdd, Nat.reduceSub, enterA]
    refine AWP_seq_k fun K hK => ?_
    (refine AWP_region ?_; simp -implicitDefEqProofs only [go_sem])
    refine hK _ _ ?_; clear hK K
    refine AWP_freezeP 2 rfl (by simp only [st0]; rfl) ?_
    simp only [ss0, List.set_cons_zero]
    refine AWP_freezeP 3 rfl (by simp only [st1]; rfl) ?_
    simp only [ss1, List.set_cons_zero, List.set_cons_succ]
    by_cases hl : (e.routers.length : Int) = n.nodes
    · cases h1 : e.routers.any (formBad n)
      · rw [h1] at hA1
        rw [if_neg (by rw [not_or]; exact ⟨not_not_intro hl, by decide⟩)]
        cases h5 : e.routers.any (noneBad n)
        · rw [h5] at hA5
          rw [if_neg (by decide)]
          by_cases hb : 120 < e.bag.length
          · rw [if_pos hb]
            (repeat' (first|(refine g_s fun K hK=>?_)|(refine g_b ?_)|(refine g_r ?_)|(refine g_k ?_;simp only[thenQ,blockQ])|(refine g_e ?_;simp only[thenQ,blockQ,↓reduceIte,Nat.reduceEqDiff])|(refine g_c (fun h=>?_) (fun h=>?_)<;>(try simp only[go_sem] at h)<;>(try exact g_f))|((first|refine g_t ?_|refine g_g ?_|refine g_U ?_|refine g_A ?_|refine (hC _).use ?_|refine g_q (fun τ=>hC _) ?_|refine (hA1 _).use ?_|refine g_q (fun τ=>hA1 _) ?_|refine (hA5 _).use ?_|refine g_q (fun τ=>hA5 _) ?_|refine g_W ?_);(try simp -implicitDefEqProofs only[go_sem]))|(with_reducible refine hK _ _ ?_;clear hK K)|(clear hK K;first|(with_reducible refine hK _ _ ?_;clear hK K)|(clear hK K;with_reducible refine hK _ _ ?_;clear hK K)|(clear hK K;clear hK K;with_reducible refine hK _ _ ?_;clear hK K))|(with_reducible refine splitB_intro (fun h=>?_) (fun h=>?_)<;>(try simp only[go_sem] at h)<;>(try exact g_f)<;>(try simp -implicitDefEqProofs only[go_sem]))|(with_reducible refine And.intro (fun h=>?_) (fun h=>?_)<;>(try simp only[go_sem] at h)<;>(try exact g_f))|(with_reducible refine And.intro ?_ ?_;· exact g_x)|(with_reducible intro h;(try simp only[go_sem] at h);(try exact g_f))))
            exact CutQ_c rfl rfl
          · rw [if_neg hb]
            cases hm1 : e.bag.any fun m => !inR m.fr 0 (n.nodes - 1) || !inR m.dst 0 (n.nodes - 1)
            · rw [hm1] at hM1
              rw [if_neg (by decide)]
              cases hm2 : e.bag.any fun m => decide (60 < m.bytes.length)
              · rw [hm2] at hM2
                rw [if_neg (by decide)]
                (repeat' (first|(refine g_s fun K hK=>?_)|(refine g_b ?_)|(refine g_r ?_)|(refine g_k ?_;simp only[thenQ,blockQ])|(refine g_e ?_;simp only[thenQ,blockQ,↓reduceIte,Nat.reduceEqDiff])|(refine g_c (fun h=>?_) (fun h=>?_)<;>(try simp only[go_sem] at h)<;>(try exact g_f))|((first|refine g_t ?_|refine g_g ?_|refine g_U ?_|refine g_A ?_|refine (hC _).use ?_|refine g_q (fun τ=>hC _) ?_|refine (hA1 _).use ?_|refine g_q (fun τ=>hA1 _) ?_|refine (hA5 _).use ?_|refine g_q (fun τ=>hA5 _) ?_|refine (hM1 _).use ?_|refine g_q (fun τ=>hM1 _) ?_|refine (hM2 _).use ?_|refine g_q (fun τ=>hM2 _) ?_|refine g_W ?_);(try simp -implicitDefEqProofs only[go_sem]))|(with_reducible refine hK _ _ ?_;clear hK K)|(clear hK K;first|(with_reducible refine hK _ _ ?_;clear hK K)|(clear hK K;with_reducible refine hK _ _ ?_;clear hK K)|(clear hK K;clear hK K;with_reducible refine hK _ _ ?_;clear hK K))|(with_reducible refine splitB_intro (fun h=>?_) (fun h=>?_)<;>(try simp only[go_sem] at h)<;>(try exact g_f)<;>(try simp -implicitDefEqProofs only[go_sem]))|(with_reducible refine And.intro (fun h=>?_) (fun h=>?_)<;>(try simp only[go_sem] at h)<;>(try exact g_f))|(with_reducible refine And.intro ?_ ?_;· exact g_x)|(with_reducible intro h;(try simp only[go_sem] at h);(try exact g_f))))
                exact CutQ_c rfl rfl
              · rw [hm2] at hM2
                rw [if_pos rfl]
                (repeat' (first|(refine g_s fun K hK=>?_)|(refine g_b ?_)|(refine g_r ?_)|(refine g_k ?_;simp only[thenQ,blockQ])|(refine g_e ?_;simp only[thenQ,blockQ,↓reduceIte,Nat.reduceEqDiff])|(refine g_c (fun h=>?_) (fun h=>?_)<;>(try simp only[go_sem] at h)<;>(try exact g_f))|((first|refine g_t ?_|refine g_g ?_|refine g_U ?_|refine g_A ?_|refine (hC _).use ?_|refine g_q (fun τ=>hC _) ?_|refine (hA1 _).use ?_|refine g_q (fun τ=>hA1 _) ?_|refine (hA5 _).use ?_|refine g_q (fun τ=>hA5 _) ?_|refine (hM1 _).use ?_|refine g_q (fun τ=>hM1 _) ?_|refine (hM2 _).use ?_|refine g_q (fun τ=>hM2 _) ?_|refine g_W ?_);(try simp -implicitDefEqProofs only[go_sem]))|(with_reducible refine hK _ _ ?_;clear hK K)|(clear hK K;first|(with_reducible refine hK _ _ ?_;clear hK K)|(clear hK K;with_reducible refine hK _ _ ?_;clear hK K)|(clear hK K;clear hK K;with_reducible refine hK _ _ ?_;clear hK K))|(with_reducible refine splitB_intro (fun h=>?_) (fun h=>?_)<;>(try simp only[go_sem] at h)<;>(try exact g_f)<;>(try simp -implicitDefEqProofs only[go_sem]))|(with_reducible refine And.intro (fun h=>?_) (fun h=>?_)<;>(try simp only[go_sem] at h)<;>(try exact g_f))|(with_reducible refine And.intro ?_ ?_;· exact g_x)|(with_reducible intro h;(try simp only[go_sem] at h);(try exact g_f))))
                exact CutQ_c rfl rfl
            · rw [hm1] at hM1
              rw [if_pos rfl]
              (repeat' (first|(refine g_s fun K hK=>?_)|(refine g_b ?_)|(refine g_r ?_)|(refine g_k ?_;simp only[thenQ,blockQ])|(refine g_e ?_;simp only[thenQ,blockQ,↓reduceIte,Nat.reduceEqDiff])|(refine g_c (fun h=>?_) (fun h=>?_)<;>(try simp only[go_sem] at h)<;>(try exact g_f))|((first|refine g_t ?_|refine g_g ?_|refine g_U ?_|refine g_A ?_|refine (hC _).use ?_|refine g_q (fun τ=>hC _) ?_|refine (hA1 _).use ?_|refine g_q (fun τ=>hA1 _) ?_|refine (hA5 _).use ?_|refine g_q (fun τ=>hA5 _) ?_|refine (hM1 _).use ?_|refine g_q (fun τ=>hM1 _) ?_|refine g_W ?_);(try simp -implicitDefEqProofs only[go_sem]))|(with_reducible refine hK _ _ ?_;clear hK K)|(clear hK K;first|(with_reducible refine hK _ _ ?_;clear hK K)|(clear hK K;with_reducible refine hK _ _ ?_;clear hK K)|(clear hK K;clear hK K;with_reducible refine hK _ _ ?_;clear hK K))|(with_reducible refine splitB_intro (fun h=>?_) (fun h=>?_)<;>(try simp only[go_sem] at h)<;>(try exact g_f)<;>(try simp -implicitDefEqProofs only[go_sem]))|(with_reducible refine And.intro (fun h=>?_) (fun h=>?_)<;>(try simp only[go_sem] at h)<;>(try exact g_f))|(with_reducible refine And.intro ?_ ?_;· exact g_x)|(with_reducible intro h;(try simp only[go_sem] at h);(try exact g_f))))
              exact CutQ_c rfl rfl
        · rw [h5] at hA5
          rw [if_pos rfl]
          (repeat' (first|(refine g_s fun K hK=>?_)|(refine g_b ?_)|(refine g_r ?_)|(refine g_k ?_;simp only[thenQ,blockQ])|(refine g_e ?_;simp only[thenQ,blockQ,↓reduceIte,Nat.reduceEqDiff])|(refine g_c (fun h=>?_) (fun h=>?_)<;>(try simp only[go_sem] at h)<;>(try exact g_f))|((first|refine g_t ?_|refine g_g ?_|refine g_U ?_|refine g_A ?_|refine (hC _).use ?_|refine g_q (fun τ=>hC _) ?_|refine (hA1 _).use ?_|refine g_q (fun τ=>hA1 _) ?_|refine (hA5 _).use ?_|refine g_q (fun τ=>hA5 _) ?_|refine g_W ?_);(try simp -implicitDefEqProofs only[go_sem]))|(with_reducible refine hK _ _ ?_;clear hK K)|(clear hK K;first|(with_reducible refine hK _ _ ?_;clear hK K)|(clear hK K;with_reducible refine hK _ _ ?_;clear hK K)|(clear hK K;clear hK K;with_reducible refine hK _ _ ?_;clear hK K))|(with_reducible refine splitB_intro (fun h=>?_) (fun h=>?_)<;>(try simp only[go_sem] at h)<;>(try exact g_f)<;>(try simp -implicitDefEqProofs only[go_sem]))|(with_reducible refine And.intro (fun h=>?_) (fun h=>?_)<;>(try simp only[go_sem] at h)<;>(try exact g_f))|(with_reducible refine And.intro ?_ ?_;· exact g_x)|(with_reducible intro h;(try simp only[go_sem] at h);(try exact g_f))))
          exact CutQ_c rfl rfl
      · rw [h1] at hA1
        rw [if_pos (.inr rfl)]
        (repeat' (first|(refine g_s fun K hK=>?_)|(refine g_b ?_)|(refine g_r ?_)|(refine g_k ?_;simp only[thenQ,blockQ])|(refine g_e ?_;simp only[thenQ,blockQ,↓reduceIte,Nat.reduceEqDiff])|(refine g_c (fun h=>?_) (fun h=>?_)<;>(try simp only[go_sem] at h)<;>(try exact g_f))|((first|refine g_t ?_|refine g_g ?_|refine g_U ?_|refine g_A ?_|refine (hC _).use ?_|refine g_q (fun τ=>hC _) ?_|refine (hA1 _).use ?_|refine g_q (fun τ=>hA1 _) ?_|refine g_W ?_);(try simp -implicitDefEqProofs only[go_sem]))|(with_reducible refine hK _ _ ?_;clear hK K)|(clear hK K;first|(with_reducible refine hK _ _ ?_;clear hK K)|(clear hK K;with_reducible refine hK _ _ ?_;clear hK K)|(clear hK K;clear hK K;with_reducible refine hK _ _ ?_;clear hK K))|(with_reducible refine splitB_intro (fun h=>?_) (fun h=>?_)<;>(try simp only[go_sem] at h)<;>(try exact g_f)<;>(try simp -implicitDefEqProofs only[go_sem]))|(with_reducible refine And.intro (fun h=>?_) (fun h=>?_)<;>(try simp only[go_sem] at h)<;>(try exact g_f))|(with_reducible refine And.intro ?_ ?_;· exact g_x)|(with_reducible intro h;(try simp only[go_sem] at h);(try exact g_f))))
        exact CutQ_c rfl rfl
    · rw [if_pos (.inl hl)]
      (repeat' (first|(refine g_s fun K hK=>?_)|(refine g_b ?_)|(refine g_r ?_)|(refine g_k ?_;simp only[thenQ,blockQ])|(refine g_e ?_;simp only[thenQ,blockQ,↓reduceIte,Nat.reduceEqDiff])|(refine g_c (fun h=>?_) (fun h=>?_)<;>(try simp only[go_sem] at h)<;>(try exact g_f))|((first|refine g_t ?_|refine g_g ?_|refine g_U ?_|refine g_A ?_|refine (hC _).use ?_|refine g_q (fun τ=>hC _) ?_|refine g_W ?_);(try simp -implicitDefEqProofs only[go_sem]))|(with_reducible refine hK _ _ ?_;clear hK K)|(clear hK K;first|(with_reducible refine hK _ _ ?_;clear hK K)|(clear hK K;with_reducible refine hK _ _ ?_;clear hK K)|(clear hK K;clear hK K;with_reducible refine hK _ _ ?_;clear hK K))|(with_reducible refine splitB_intro (fun h=>?_) (fun h=>?_)<;>(try simp only[go_sem] at h)<;>(try exact g_f)<;>(try simp -implicitDefEqProofs only[go_sem]))|(with_reducible refine And.intro (fun h=>?_) (fun h=>?_)<;>(try simp only[go_sem] at h)<;>(try exact g_f))|(with_reducible refine And.intro ?_ ?_;· exact g_x)|(with_reducible intro h;(try simp only[go_sem] at h);(try exact g_f))))
      exact CutQ_c rfl rfl
  · rw [checkE, if_pos h0]
    refine ACalls_of_awp Tryz.func32 rfl Tryz.results32 ?_
    simp only [List.length_cons, List.length_nil, Tryz.ntmps32, Nat.reduceAdd, Nat.reduceSub, enterA]
    (repeat' (first|(refine g_s fun K hK=>?_)|(refine g_b ?_)|(refine g_r ?_)|(refine g_k ?_;simp only[thenQ,blockQ])|(refine g_e ?_;simp only[thenQ,blockQ,↓reduceIte,Nat.reduceEqDiff])|(refine g_c (fun h=>?_) (fun h=>?_)<;>(try simp only[go_sem] at h)<;>(try exact g_f))|((first|refine g_t ?_|refine g_g ?_|refine g_U ?_|refine g_A ?_|refine (hC _).use ?_|refine g_q (fun τ=>hC _) ?_|refine g_W ?_);(try simp -implicitDefEqProofs only[go_sem]))|(with_reducible refine hK _ _ ?_;clear hK K)|(clear hK K;first|(with_reducible refine hK _ _ ?_;clear hK K)|(clear hK K;with_reducible refine hK _ _ ?_;clear hK K)|(clear hK K;clear hK K;with_reducible refine hK _ _ ?_;clear hK K))|(with_reducible refine splitB_intro (fun h=>?_) (fun h=>?_)<;>(try simp only[go_sem] at h)<;>(try exact g_f)<;>(try simp -implicitDefEqProofs only[go_sem]))|(with_reducible refine And.intro (fun h=>?_) (fun h=>?_)<;>(try simp only[go_sem] at h)<;>(try exact g_f))|(with_reducible refine And.intro ?_ ?_;· exact g_x)|(with_reducible intro h;(try simp only[go_sem] at h);(try exact g_f))))
    exact CutQ_c (τ := [.cells 5 [netC n], .cells 2 [engC e]]) (by simp [netC, engC, intA1, rowsC, linksV]) rfl
end Go.Proofs.YtephecognbbaoaaGreat
namespace Go.Proofs.YtephecognbbaoaaGreat
section
variable {P : Program} {K : World} {imm : Imm} {m : Own} {w : World} {σ : Store}
/-- What a clearing does: of a slice of one element at least. -/
def clearA (P : Program) (d : Option TypeDesc) (x : AV) (σ : Store) (K : AV → Store → Prop) : Prop :=
  match d with
  | some (.slice e) => (P.info? e).isSome = true ∧ 0 < P.cellsOf e ∧ on (zeroA P e) fun z => z.length = P.cellsOf e ∧ z.all oneA = true ∧
    match x with
    | .own b k i n _ => k = P.cellsOf e ∧ 0 < n ∧ on σ[b]? fun ob => match ob with
      | .cells k' es => k' = k ∧ i + n ≤ es.length ∧ K (.tup []) (σ.set b (.cells k (es.take i ++ List.replicate n z ++ es.drop (i + n))))
      | _ => False
    | _ => False
  | _ => False
theorem clear_run (hs : Sim K imm m w σ) {t ty : TypeId} {x : AV} {vx : Value} (hrx : Rep imm m vx x) {Kont : AV → Store → Prop} (h : clearA P (P.underlying t) x σ Kont) :
    ∃ v w' av σ', (Builtin.clear_ #[t] ty #[vx]).run P w = .ok v w' ∧ Sim K imm m w' σ' ∧ Rep imm m v av ∧ Kont av σ' := by
  unfold clearA at h
  split at h
  · rename_i e ht
    obtain ⟨hi, hk0, h⟩ := h
    replace h := on_elim h; obtain ⟨z, hz, h⟩ := h
    obtain ⟨hzl, hz1, h⟩ := h
    split at h
    · rename_i b k i n c
      obtain ⟨rfl, hn0, h⟩ := h
      replace h := on_elim h; obtain ⟨ob, hob, h⟩ := h
      split at h
      · rename_i k' es
        obtain ⟨rfl, hle, hK⟩ := h
        obtain ⟨hlt, hob'⟩ := List.getElem?_eq_some_iff.1 hob
        have h0 := hs.obs b hlt
        rw [hob'] at h0
        obtain ⟨blk, sz, h1, h2, cs, T', fr, h3, h4, h5, h6, h7⟩ := h0
        cases hrx with
        | own _ _ _ _ _ cap blk' sz' x hm hn hcc hx hc =>
          rw [h1] at hm
          cases hm
          subst hx
          obtain ⟨v, hr, hrep0, hzv, hzi⟩ := zeroA_run (P := P) (imm := imm) (m := m) (w := w) hz
          have hvs : v.cells.size = P.cellsOf e := by rw [← hzl, hzv]; simp
          obtain ⟨nl, hnl⟩ : ∃ nl, (Builtin.zeroCells v.cells n).toList = nl := ⟨_, rfl⟩
          have hnll : nl.length = n * P.cellsOf e := by rw [← hnl]; simp [Builtin.zeroCells, hvs]
          have hget : ∀ a, a < n → ∀ j, j < P.cellsOf e → ∃ u, nl[a * P.cellsOf e + j]? = some u ∧ v.cells.toList[j]? = some u := fun a ha j hj => by
            have hlt2 : a * P.cellsOf e + j < n * P.cellsOf e := flat_lt hj ha
            have hmod : (a * P.cellsOf e + j) % v.cells.size = j := by
              rw [hvs, Nat.mul_comm, Nat.mul_add_mod]
              exact Nat.mod_eq_of_lt hj
            have hjv : j < v.cells.size := by omega
            refine ⟨v.cells[j], ?_, by rw [Array.getElem?_toList, Array.getElem?_eq_getElem hjv]⟩
            rw [← hnl, Array.getElem?_toList]
            simp only [Builtin.zeroCells, Array.getElem?_map, hvs]
            rw [Array.getElem?_eq_getElem (by simpa using hlt2)]
            simp only [Array.getElem_range, Option.map_some]
            rw [hvs] at hmod
            rw [hmod]
            simp [hjv]
          have hrn : ∀ a (ha : a < (List.replicate n z).length) j (hj : j < (List.replicate n z)[a].length), ∃ u, nl[a * P.cellsOf e + j]? = some u ∧ Rep imm m u (List.replicate n z)[a][j] := fun a ha j hj => by
            simp only [List.length_replicate] at ha
            simp only [List.getElem_replicate] at hj ⊢
            obtain ⟨u, hu1, hu2⟩ := hget a ha j (by omega)
            obtain ⟨_, hu3⟩ := List.getElem?_eq_some_iff.1 hu2
            have := hrep0.2 j (by omega) hj
            rw [hu3] at this
            exact ⟨u, hu1, this⟩
          have hmm : (i + n) * P.cellsOf e ≤ sz := Nat.le_trans (Nat.mul_le_mul_right _ hle) h6
          have hmm2 : i * P.cellsOf e + n * P.cellsOf e ≤ sz := by rw [← Nat.add_mul]; exact hmm
          have hon : ∀ u ∈ nl, u.oneCell' = true := fun u hu => by
            obtain ⟨y, hy, rfl⟩ := List.getElem_of_mem hu
            have hyi : y / P.cellsOf e < n := Nat.div_lt_of_lt_mul (by rw [Nat.mul_comm, ← hnll]; exact hy)
            have hyj : y % P.cellsOf e < P.cellsOf e := Nat.mod_lt _ hk0
            obtain ⟨u, e1, r⟩ := hrn (y / P.cellsOf e) (by simpa using hyi) (y % P.cellsOf e) (by simp only [List.getElem_replicate]; omega)
            rw [Nat.div_add_mod'] at e1
            obtain ⟨_, rfl⟩ := List.getElem?_eq_some_iff.1 e1
            simp only [List.getElem_replicate] at r
            exact oneA_rep r (List.all_eq_true.1 hz1 _ (List.getElem_mem _))
          have hst := run_storeCells_cells (P := P) blk (i * P.cellsOf e) nl 0 w (fun j hj => by
              have : i * P.cellsOf e + 0 + j < cs.size := by omega
              simp [World.cell?, h3, show i * P.cellsOf e + j < cs.size by omega]) (fun j hj => by
              have := h5 (i * P.cellsOf e + 0 + j) (by omega)
              simp only [World.frozen?, h3]
              simp only [Nat.add_zero] at this ⊢
              simpa using this) hon
          have hl2 : (List.replicate n z).length = n := by simp
          obtain ⟨cs', g1, g2, g5, g6, g7⟩ := inplace (p := i) (news := List.replicate n z) (nl := nl) h3 h7 (by omega) (fun e' he' => by rw [List.eq_of_mem_replicate he', hzl]) (by rw [hl2]; exact hnll) hrn (by rw [hl2, h4]; exact hmm)
          rw [hl2] at g7
          refine ⟨.tuple #[], w.setCells blk (i * P.cellsOf e) nl, _, _, ?_, hs.set g6 hlt h1 hob' g5 cs' T' fr g1 (by omega) h5 _ ?_ g7, ?_, hK⟩
          · simp only [Nat.add_zero] at hst
            have hn9 : n ≠ 0 := by omega
            obtain ⟨n', rfl⟩ : ∃ n', n = n' + 1 := ⟨n - 1, by omega⟩
            simp only [Builtin.clear_, List.getElem?_toArray, List.getElem?_cons_zero, Sem.run_bind, Sem.run_pure, Result.andThen_ok, run_underlying ht, hr, hnl]
            rw [hst]
            rfl
          · have : (es.take i ++ List.replicate n z ++ es.drop (i + n)).length = es.length := by simp; omega
            rw [this]
            exact h6
          · exact .tup [] [] rfl (fun i h => by simp at h)
      · exact h.elim
    · exact h.elim
  · exact h.elim
end
/-- Operations more: a clearing, and a slice with three bounds. -/
def AOpC (P : Program) (op : Op) (ev : Operand → Option AV) (σ : Store) (K : AV → Store → Prop) : Prop :=
  match op with
  | .call { callee := .builtin .clear, args := args, argTypes := ts } => on (evL ev args.toList) fun as' => match as', ts.toList with
    | [x], [t] => clearA P (P.underlying t) x σ K
    | _, _ => False
  | .slice T x (some lo) (some hi) (some mx) => on (ev x) fun a => on ((ev lo).bind intA) fun l => on ((ev hi).bind intA) fun h => on ((ev mx).bind intA) fun z => match P.underlying T, a with
    | some (.slice e), .own b k s _ c => (P.info? e).isSome = true ∧ P.cellsOf e = k ∧ 0 ≤ l ∧ l ≤ h ∧ h ≤ z ∧ l < z ∧ z ≤ c ∧ K (.own b k (s + l.toNat) (h.toNat - l.toNat) (z.toNat - l.toNat)) σ
    | _, _ => False
  | .slice T x (some lo) (some hi) none => on (ev x) fun a => on ((ev lo).bind intA) fun l => on ((ev hi).bind intA) fun h => match P.underlying T, a with
    | some (.slice e), .own b k s _ c => (P.info? e).isSome = true ∧ P.cellsOf e = k ∧ 0 ≤ l ∧ l ≤ h ∧ h ≤ c ∧ l < c ∧ K (.own b k (s + l.toNat) (h.toNat - l.toNat) (c - l.toNat)) σ
    | _, _ => False
  | op => AOpB P op ev σ K
theorem AOpC_sound {P : Program} {K0 : World} {imm : Imm} {m : Own} {w : World} {σ : Store} {ev : Operand → Option AV} {ρ : Operand → Value} (op : Op) (hs : Sim K0 imm m w σ) (hev : ∀ x av, ev x = some av → Rep imm m (ρ x) av) {Kont : AV → Store → Prop} (h : AOpC P op ev σ Kont)
    {dst : Option Tmp} {type : TypeId} {pos : String} {after : Array Edge} {guard : Option (Nat × Bool)} :
    Up P K0 imm m Kont ((execOp ρ { dst, op, type, pos, after, guard }).run P w) := by
  by_cases hb : ∃ args ts, op = .call { callee := .builtin .clear, args := args, argTypes := ts }
  · obtain ⟨args, ts, rfl⟩ := hb
    replace h := on_elim h; obtain ⟨as', has, h⟩ := h
    have hra := evL_rep hev _ _ has
    split at h
    · rename_i x t hts
      obtain ⟨o1, ho⟩ : ∃ o1, args.toList = [o1] := by
        have := hra.1
        simp only [List.length_map] at this
        exact List.length_eq_one_iff.1 this
      have ha : args = #[o1] := by cases args; simp_all
      subst ha
      have ht' : ts = #[t] := by cases ts; simp_all
      subst ht'
      have hr1 : Rep imm m (ρ o1) x := by simpa using hra.2 0 (by simp) (by simp)
      obtain ⟨v, w', av, σ', hrun, hs', hr, hk⟩ := clear_run (ty := type) hs hr1 h
      refine up_value ?_ (.refl _) (.refl _) hs' hr hk
      simp only [execOp, resolve, Sem.run_bind, Sem.run_pure, Result.andThen_ok, invoke, builtin, List.map_toArray, List.map_cons, List.map_nil, hrun]
    · exact h.elim
  · by_cases hb2 : ∃ T x lo hi mx, op = .slice T x (some lo) (some hi) (some mx)
    · obtain ⟨T, x, lo, hi, mx, rfl⟩ := hb2
      replace h := on_elim h; obtain ⟨a, ha, h⟩ := h
      replace h := on_elim h; obtain ⟨l, hl, h⟩ := h
      replace h := on_elim h; obtain ⟨hh, hhi, h⟩ := h
      replace h := on_elim h; obtain ⟨z, hz, h⟩ := h
      have hr := hev _ _ ha
      split at h
      · rename_i e b k s n c hT
        obtain ⟨hi', hce, h0, h1, h2, h3, h4, hK⟩ := h
        generalize hv : ρ x = v at hr
        cases hr with
        | own _ _ _ _ _ cap blk sz x0 hm hn hcc hx hc =>
          have sb : ∀ (o : Operand) (q : Int) (y : Nat) code, bound ev (some o) 0 = some q → 0 ≤ q → q ≤ y → (Instr.sliceBound (ρ o) y code).run P w = .ok q.toNat w := by
            intro o q y code hb h0 h1
            obtain ⟨k, hk⟩ := bound_sound hev hb
            simp only [Instr.sliceBound, hk, asIntOf, Sem.run_bind, Sem.run_pure, Result.andThen_ok]
            rw [if_pos ⟨by omega, by omega⟩]
            rfl
          have b1 := sb mx z cap .slice3Acap hz (by omega) (by omega)
          have b2 := sb hi hh z.toNat .slice3B hhi (by omega) (by omega)
          have b3 := sb lo l hh.toNat .slice3C hl (by omega) (by omega)
          have sl1 : (Instr.sliceAt T (.slice (some ⟨blk, x0, none⟩) n cap) (some (ρ lo)) (some (ρ hi)) (some (ρ mx))).run P w = (Instr.slice T (.slice (some ⟨blk, x0, none⟩) n cap) (some (ρ lo)) (some (ρ hi)) (some (ρ mx))).run P w := by
            simp only [Instr.sliceAt, Sem.run_bind, run_underlying hT, Result.andThen_ok]
          have hrun : (Instr.slice T (.slice (some ⟨blk, x0, none⟩) n cap) (some (ρ lo)) (some (ρ hi)) (some (ρ mx))).run P w = .ok (.slice (if z.toNat = l.toNat then some ⟨blk, x0, none⟩ else (some (⟨blk, x0, none⟩ : Addr)).map (·.add (l.toNat * P.cellsOf e))) (hh.toNat - l.toNat) (z.toNat - l.toNat)) w := by
            simp [Instr.slice, Sem.run_bind, run_underlying hT, Result.andThen_ok, run_sizeOf hi', Sem.run_pure, Instr.sliceBounds, b1, b2, b3]
          have e1 : (if z.toNat = l.toNat then some (⟨blk, x0, none⟩ : Addr) else (some (⟨blk, x0, none⟩ : Addr)).map (·.add (l.toNat * P.cellsOf e))) = some ⟨blk, x0 + l.toNat * k, none⟩ := by
            rw [hce, if_neg (by omega)]
            simp only [Option.map_some, Addr.add]
            split <;> simp_all
          rw [e1] at hrun
          refine up_value (v := .slice (some ⟨blk, x0 + l.toNat * k, none⟩) (hh.toNat - l.toNat) (z.toNat - l.toNat)) ?_ (.refl _) (.refl _) hs ?_ hK
          · simp only [execOp, hv, Sem.run_bind, Option.map_some, sl1, hrun, Result.andThen_ok, Sem.run_pure]
          · refine .own b k _ _ _ _ blk sz _ hm (by omega) (Nat.le_refl _) (by rw [hx, Nat.add_mul]) ?_
            have : (s + l.toNat + (z.toNat - l.toNat)) * k ≤ (s + cap) * k := Nat.mul_le_mul_right _ (by omega)
            omega
      · exact h.elim
    · by_cases hb3 : ∃ T x lo hi, op = .slice T x (some lo) (some hi) none
      · obtain ⟨T, x, lo, hi, rfl⟩ := hb3
        replace h := on_elim h; obtain ⟨a, ha, h⟩ := h
        replace h := on_elim h; obtain ⟨l, hl, h⟩ := h
        replace h := on_elim h; obtain ⟨hh, hhi, h⟩ := h
        have hr := hev _ _ ha
        split at h
        · rename_i e b k s n c hT
          obtain ⟨hi', hce, h0, h1, h2, h3, hK⟩ := h
          generalize hv : ρ x = v at hr
          cases hr with
          | own _ _ _ _ _ cap blk sz x0 hm hn hcc hx hc =>
            have sb : ∀ (o : Operand) (q : Int) (y : Nat) code, bound ev (some o) 0 = some q → 0 ≤ q → q ≤ y → (Instr.sliceBound (ρ o) y code).run P w = .ok q.toNat w := by
              intro o q y code hb h0 h1
              obtain ⟨k, hk⟩ := bound_sound hev hb
              simp only [Instr.sliceBound, hk, asIntOf, Sem.run_bind, Sem.run_pure, Result.andThen_ok]
              rw [if_pos ⟨by omega, by omega⟩]
              rfl
            have b2 := sb hi hh cap .sliceAcap hhi (by omega) (by omega)
            have b3 := sb lo l hh.toNat .sliceB hl (by omega) (by omega)
            have sl1 : (Instr.sliceAt T (.slice (some ⟨blk, x0, none⟩) n cap) (some (ρ lo)) (some (ρ hi)) none).run P w = (Instr.slice T (.slice (some ⟨blk, x0, none⟩) n cap) (some (ρ lo)) (some (ρ hi)) none).run P w := by
              simp only [Instr.sliceAt, Sem.run_bind, run_underlying hT, Result.andThen_ok]
            have hrun : (Instr.slice T (.slice (some ⟨blk, x0, none⟩) n cap) (some (ρ lo)) (some (ρ hi)) none).run P w = .ok (.slice (if cap = l.toNat then some ⟨blk, x0, none⟩ else (some (⟨blk, x0, none⟩ : Addr)).map (·.add (l.toNat * P.cellsOf e))) (hh.toNat - l.toNat) (cap - l.toNat)) w := by
              simp [Instr.slice, Sem.run_bind, run_underlying hT, Result.andThen_ok, run_sizeOf hi', Sem.run_pure, Instr.sliceBounds, b2, b3]
            have e1 : (if cap = l.toNat then some (⟨blk, x0, none⟩ : Addr) else (some (⟨blk, x0, none⟩ : Addr)).map (·.add (l.toNat * P.cellsOf e))) = some ⟨blk, x0 + l.toNat * k, none⟩ := by
              rw [hce, if_neg (by omega)]
              simp only [Option.map_some, Addr.add]
              split <;> simp_all
            rw [e1] at hrun
            refine up_value (v := .slice (some ⟨blk, x0 + l.toNat * k, none⟩) (hh.toNat - l.toNat) (cap - l.toNat)) ?_ (.refl _) (.refl _) hs ?_ hK
            · simp only [execOp, hv, Sem.run_bind, Option.map_some, Option.map_none, sl1, hrun, Result.andThen_ok, Sem.run_pure]
            · refine .own b k _ _ _ _ blk sz _ hm (by omega) (by omega) (by rw [hx, Nat.add_mul]) ?_
              have : s + l.toNat + (cap - l.toNat) = s + cap := by omega
              rw [this]
              exact hc
        · exact h.elim
      · have h' : AOpB P op ev σ Kont := by
          unfold AOpC at h
          split at h
          · exact absurd ⟨_, _, rfl⟩ hb
          · exact absurd ⟨_, _, _, _, _, rfl⟩ hb2
          · exact absurd ⟨_, _, _, _, rfl⟩ hb3
          · exact h
        exact AOpB_sound op hs hev h'
theorem AOpC_noDefer {P : Program} {op : Op} {σ : Store} {ev : Operand → Option AV} {K : AV → Store → Prop} (h : AOpC P op ev σ K) : ∀ c, op ≠ .defer c := by
  rintro c rfl
  exact AOpB_noDefer (show AOpB P (.defer c) ev σ K from h) c rfl
def creg (P : Program) (N : Nat) (ops : List Oper) (K : AF → Store → Prop) : List Oper → AF → Store → Prop
  | [], α, σ => K α σ
  | o :: r, α, σ => splitA ops o.guard α fun α => guardA ops o.guard α
      (fun α => AOpC P o.op (evF α) σ fun av σ' => putA N o.dst av α fun α' => creg P N ops K r α' σ')
      (fun α => putA N o.dst (.c undef) α fun α' => creg P N ops K r α' σ)
theorem creg_sound {rd : Option Nat} {P : Program} {N : Nat} {K0 : World} {ops : List Oper} {Q : Post} : ∀ (l : List Oper) (α : AF) (σ : Store) (imm : Imm) (m : Own) (w : World) (a : Act), Sim K0 imm m w σ → FOk K0 imm m N a α →
    creg P N ops (fun α σ => Q .normal α σ) l α σ → wpListIn (Rnd rd) 0 P ops.toArray (lift K0 N imm m Q) l a w := by
  intro l
  induction l with
  | nil => intro α σ imm m w a hs hf h; exact ⟨imm, m, α, σ, .refl _, .refl _, hs, hf, h⟩
  | cons o r ih =>
    intro α σ imm m w a hs hf h
    have mono : ∀ (imm' : Imm) (m' : Own), ILe imm imm' → OLe m m' → ∀ a' w', wpListIn (Rnd rd) 0 P ops.toArray (lift K0 N imm' m' Q) r a' w' → wpListIn (Rnd rd) 0 P ops.toArray (lift K0 N imm m Q) r a' w' := by
      intro imm' m' hi ho
      have hq : ∀ e a w, lift K0 N imm' m' Q e a w → lift K0 N imm m Q e a w := fun e a w h => lift_mono hi ho h
      exact wpListIn_mono hq r
    simp only [creg] at h
    unfold wpListIn
    rcases guardA_sound hf h with ⟨hw, β, hfb, h⟩ | ⟨hw, β, hfb, h⟩
    · rw [if_pos hw]
      have hup := AOpC_sound (dst := o.dst) (type := o.type) (pos := o.pos) (after := o.after) (guard := o.guard) o.op hs (evF_rep hfb) h
      refine wpIn_of_up (AOpC_noDefer h) hup fun imm' m' v av σ' w' hi ho hs' hr hk => ?_
      obtain ⟨α', hf', hk'⟩ := putA_sound (hfb.mono hi ho) hr hk
      exact mono imm' m' hi ho _ _ (ih α' σ' imm' m' w' _ hs' hf' hk')
    · rw [if_neg (by rw [hw]; simp)]
      obtain ⟨α', hf', hk'⟩ := putA_sound hfb (.c undef) h
      exact ⟨fun f _ => Rnd_fn _ _, ih α' σ imm m w _ hs hf' hk'⟩
/-- A region in which something is cleared. -/
theorem AWP_regionC {rd : Option Nat} {P : Program} {N : Nat} {α : AF} {σ : Store} {id : Nat} {ops : List Oper} {Q : Post} (h : creg P N ops (fun α σ => Q .normal α σ) ops α σ) : AWPr rd P N (.region id ops.toArray false) Q α σ :=
  fun _ imm m w a hs hf => wpIn_region_lit (creg_sound ops α σ imm m w a hs hf h)
section
variable {P : Program} {N : Nat} {ops : List Oper} {σ : Store} {K : AF → Store → Prop} {α : AF} {r : List Oper} {dst : Option Tmp} {op : Op} {ty : TypeId} {pos : String} {after : Array Edge} {g : Option (Nat × Bool)}
theorem creg_nil : creg P N ops K [] α σ = K α σ := rfl
theorem creg_cons : creg P N ops K ({ dst := dst, op := op, type := ty, pos := pos, after := after, guard := g } :: r) α σ = gateA ops g α
      (fun α => AOpC P op (evF α) σ fun av σ' => putA N dst av α fun α' => creg P N ops K r α' σ') (fun α => putA N dst (.c undef) α fun α' => creg P N ops K r α' σ) := rfl
end
end Go.Proofs.YtephecognbbaoaaGreat
namespace Go.Proofs.YtephecognbbaoaaGreat
attribute [go_sem ↓] creg_nil creg_cons
attribute [go_sem] AOpC clearA
def zeroM : List AV := mailC ⟨0, 0, []⟩
theorem delete_calls (S : Store) (gb : Nat) (bag : List Mail) (rest : List (List AV)) (a : Nat) (h1 : a < bag.length) (hb : S[gb]? = some (.cells 3 (bag.map mailC ++ rest))) (hr : ∀ e ∈ rest, e.length = 3 ∧ e.all oneA = true) (hl : bag.length ≤ 1000) (hl2 : rest.length ≤ 1000000) :
    ACalls Tryz.prog 84 [.own gb 3 0 bag.length (bag.length + rest.length), intA1 a, intA1 (a + 1)] S fun r S' => S' = S.set gb (.cells 3 ((bag.eraseIdx a).map mailC ++ (zeroM :: rest))) ∧ r = .own gb 3 0 (bag.length - 1) (bag.length + rest.length) := by
  have i1 : I64 ((a : Int) + 1) := by unfold I64; omega
  have ta : ((a : Int) + 1).toNat = a + 1 := by omega
  have hmL := mailC_len bag
  obtain ⟨es, hes⟩ : ∃ es, bag.map mailC ++ rest = es := ⟨_, rfl⟩
  have hesl : es.length = bag.length + rest.length := by rw [← hes]; simp
  rw [hes] at hb
  have he1 : elemsA S (.own gb 3 0 a (bag.length + rest.length)) = some (es.take a) := by
    rw [elemsA_eq]
    simp only [elemsB, hb]
    rw [if_pos (by simp; omega), List.drop_zero]
  have he2 : elemsA S (.own gb 3 (a + 1) (bag.length - (a + 1)) (bag.length + rest.length - (a + 1))) = some ((es.drop (a + 1)).take (bag.length - (a + 1))) := by
    rw [elemsA_eq]
    simp only [elemsB, hb]
    rw [if_pos (by simp; omega)]
  have hnew : (es.drop (a + 1)).take (bag.length - (a + 1)) = (bag.drop (a + 1)).map mailC := by
    rw [← hes, List.drop_append_of_le_length (by rw [List.length_map]; omega), List.take_append_of_le_length (by simp), ← List.map_drop, List.take_of_length_le (by simp)]
  have hnl : ((bag.drop (a + 1)).map mailC).length = bag.length - (a + 1) := by simp
  have hfin : es.take a ++ (bag.drop (a + 1)).map mailC ++ es.drop (bag.length - 1) = (bag.eraseIdx a).map mailC ++ es.drop (bag.length - 1) := by
    rw [← hes, List.take_append_of_le_length (by rw [List.length_map]; omega), ← List.map_take, List.eraseIdx_eq_take_drop_succ, List.map_append]
  rw [hnew] at he2
  refine ACalls_of_awp Tryz.func84 rfl Tryz.results84 ?_
  simp only [List.length_cons, List.length_nil, Tryz.ntmps84, Nat.reduceAdd, Nat.reduceSub, enterA]
  refine AWP_seq_k fun K hK => ?_
  (refine AWP_region ?_; simp -implicitDefEqProofs only [go_sem])
  refine hK _ _ ?_; clear hK K
  refine AWP_seq_k fun K hK => ?_
  refine AWP_regionC ?_
  simp -implicitDefEqProofs only [go_sem, hb, i1]
  refine ⟨by omega, by omega, by omega, by omega, by omega, ?_⟩
  refine hK _ _ ?_; clear hK K
  refine AWP_seq_k fun K hK => ?_
  refine AWP_seq_k fun K hK => ?_
  (refine AWP_region ?_; simp -implicitDefEqProofs only [go_sem])
  refine hK _ _ ?_; clear hK K
  refine AWP_cond rfl (fun h => ?_) (fun h => ?_)
  · simp only [go_sem] at h
    omega
  refine g_k ?_
  simp only [thenQ, blockQ]
  refine hK _ _ ?_
  clear hK K
  refine AWP_seq_k fun K hK => ?_
  (refine AWP_region ?_; simp -implicitDefEqProofs only [go_sem])
  refine hK _ _ ?_; clear hK K
  refine AWP_seq_k fun K hK => ?_
  have hfin2 : ∀ α, ALe α [(0, .own gb 3 0 (bag.length - 1) (bag.length + rest.length)), (7, intA1 bag.length)] → K α (S.set gb (.cells 3 ((bag.eraseIdx a).map mailC ++ es.drop (bag.length - 1)))) := by
    intro α ha
    refine hK _ _ (AWPr.weak ha ?_)
    clear ha hK
    have hlt : gb < S.length := (List.getElem?_eq_some_iff.1 hb).1
    have hgS : ∀ o, (S.set gb o)[gb]? = some o := fun o => List.getElem?_set_self hlt
    have hsS : ∀ o o', (S.set gb o).set gb o' = S.set gb o' := fun o o' => List.set_set ..
    refine AWP_seq_k fun K hK => ?_
    refine AWP_regionC ?_
    simp -implicitDefEqProofs only [go_sem, hgS, hsS]
    have hEl : ((bag.eraseIdx a).map mailC).length = bag.length - 1 := by rw [List.length_map, List.length_eraseIdx, if_pos h1]
    have hEl2 : (bag.eraseIdx a).length = bag.length - 1 := by rw [List.length_eraseIdx, if_pos h1]
    have hDl : (es.drop (bag.length - 1)).length = rest.length + 1 := by rw [List.length_drop]; omega
    have hn1 : bag.length - (bag.length - 1) = 1 := by omega
    have hn2 : bag.length - 1 + 1 = bag.length := by omega
    have hD : es.drop bag.length = rest := by rw [← hes, List.drop_left' (by simp)]
    have heq : List.take (bag.length - 1) ((bag.eraseIdx a).map mailC ++ es.drop (bag.length - 1)) ++ (List.replicate (bag.length - (bag.length - 1)) [.c (.int .i64 0), .c (.int .i64 0), .c (.string (strOfNums []))] ++
        List.drop (bag.length - 1 + (bag.length - (bag.length - 1))) ((bag.eraseIdx a).map mailC ++ es.drop (bag.length - 1))) = (bag.eraseIdx a).map mailC ++ (zeroM :: rest) := by
      rw [List.take_left' hEl, hn1, hn2, List.drop_append, hEl, hn1, List.drop_of_length_le (by omega), List.drop_drop, hn2, hD]
      rfl
    refine ⟨by omega, by omega, by omega, by omega, by omega, by rw [hEl2, hDl]; omega, ?_⟩
    rw [heq]
    refine hK _ _ ?_
    clear hK K
    (repeat' (first|(refine g_s fun K hK=>?_)|(refine g_b ?_)|(refine g_r ?_)|(refine g_k ?_;simp only[thenQ,blockQ])|(refine g_e ?_;simp only[thenQ,blockQ,↓reduceIte,Nat.reduceEqDiff])|(refine g_c (fun h=>?_) (fun h=>?_)<;>(try simp only[go_sem] at h)<;>(try exact g_f))|((first|refine g_t ?_|refine g_g ?_|refine g_U ?_|refine g_A ?_|refine g_W ?_);(try simp -implicitDefEqProofs only[go_sem]))|(with_reducible refine hK _ _ ?_;clear hK K)|(clear hK K;first|(with_reducible refine hK _ _ ?_;clear hK K)|(clear hK K;with_reducible refine hK _ _ ?_;clear hK K)|(clear hK K;clear hK K;with_reducible refine hK _ _ ?_;clear hK K))|(with_reducible refine splitB_intro (fun h=>?_) (fun h=>?_)<;>(try simp only[go_sem] at h)<;>(try exact g_f)<;>(try simp -implicitDefEqProofs only[go_sem]))|(with_reducible refine And.intro (fun h=>?_) (fun h=>?_)<;>(try simp only[go_sem] at h)<;>(try exact g_f))|(with_reducible refine And.intro ?_ ?_;· exact g_x)|(with_reducible intro h;(try simp only[go_sem] at h);(try exact g_f))))
  refine g_U ?_
  simp -implicitDefEqProofs only [go_sem, ta]
  refine ⟨by omega, by omega, by omega, by omega, by omega, fun hc => ?_, fun hc1 hc2 => ?_⟩
  · have g1 : (a = es.length) = False := eq_false (by omega)
    have g2 : (a ≤ es.length) = True := eq_true (by omega)
    have g3 : (a + (1 + (bag.length - (a + 1))) ≤ es.length) = True := eq_true (by omega)
    have g4 : (a + (bag.length - (a + 1)) ≤ bag.length + rest.length) = True := eq_true (by omega)
    have g5 : (a = bag.length + rest.length) = False := eq_false (by omega)
    have g6 : (bag.length + rest.length < a + (bag.length - (a + 1))) = False := eq_false (by omega)
    simp -implicitDefEqProofs only [go_sem, hb, hnew, g1, g2, g3, g4, g5, g6, Nat.sub_zero, Nat.zero_add, List.length_drop, ta]
    have e9 : a + (bag.length - (a + 1)) = bag.length - 1 := by omega
    rw [e9, ← List.append_assoc, hfin]
    refine hfin2 _ (ALe_of ?_)
    simp -implicitDefEqProofs only [go_sem]
  · have hba : bag.length = a + 1 := by omega
    have g1 : (a = es.length) = False := eq_false (by omega)
    have g2 : (a ≤ es.length) = True := eq_true (by omega)
    have g4 : (a ≤ bag.length + rest.length) = True := eq_true (by omega)
    have g5 : (a = bag.length + rest.length) = False := eq_false (by omega)
    have g6 : (bag.length + rest.length < a) = False := eq_false (by omega)
    simp -implicitDefEqProofs only [go_sem, hb, hnew, g1, g2, g4, g5, g6, Nat.sub_zero, Nat.zero_add, Nat.add_zero, List.length_drop, ta]
    refine ⟨fun _ h => absurd h List.not_mem_nil, fun _ h => absurd h List.not_mem_nil, ?_⟩
    have e9 : bag.length - 1 = a := by omega
    have e8 : bag.drop (a + 1) = [] := List.drop_of_length_le (by omega)
    rw [e8, e9, List.map_nil, List.append_nil] at hfin
    rw [e9, ← hfin] at hfin2
    refine hfin2 _ (ALe_of ?_)
    simp -implicitDefEqProofs only [go_sem]
end Go.Proofs.YtephecognbbaoaaGreat
