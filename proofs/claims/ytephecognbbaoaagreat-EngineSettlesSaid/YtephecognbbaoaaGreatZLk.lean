/- Algebras: their form, as the program checks it. -/
import Derived.Test.YtephecognbbaoaaGreatZAi
import Derived.Test.YtephecognbbaoaaGreatZSy
import Derived.DeepKeys5
open Go
set_option linter.all false
set_option maxRecDepth 100000
set_option maxHeartbeats 4000000
namespace Go.Proofs.YtephecognbbaoaaGreat
open Go
set_option linter.all false
set_option maxRecDepth 100000
set_option maxHeartbeats 4000000
theorem checkA_size {x : Alg} (h : x.size < 2 ∨ 24 < x.size) : checkA x = 3 := by
  unfold checkA
  rw [if_pos (not_inR.2 h)]
theorem checkA_many {x : Alg} (h : 2 ≤ x.size ∧ x.size ≤ 24) (h2 : 8 < x.edges.length) : checkA x = 2 := by
  unfold checkA
  rw [if_neg (by rw [not_inR]; omega), if_pos h2]
theorem checkA_best {x : Alg} (h : 2 ≤ x.size ∧ x.size ≤ 24) (h2 : x.edges.length ≤ 8) (h3 : (x.best.length : Int) ≠ x.size) : checkA x = 1 := by
  unfold checkA
  rw [if_neg (by rw [not_inR]; omega), if_neg (by omega), if_pos h3]
theorem checkA_row {x : Alg} (h : 2 ≤ x.size ∧ x.size ≤ 24) (h2 : x.edges.length ≤ 8) (h3 : (x.best.length : Int) = x.size) {r : List Int} (hr : r ∈ x.best ++ x.edges) (hn : (r.length : Int) ≠ x.size) : checkA x = 1 := by
  unfold checkA
  rw [if_neg (by rw [not_inR]; omega), if_neg (by omega), if_neg (by omega), if_pos (List.any_eq_true.2 ⟨r, hr, by simpa using hn⟩)]
theorem checkA_val {x : Alg} (h : 2 ≤ x.size ∧ x.size ≤ 24) (h2 : x.edges.length ≤ 8) (h3 : (x.best.length : Int) = x.size) (h4 : ∀ r ∈ x.best ++ x.edges, (r.length : Int) = x.size) {r : List Int} (hr : r ∈ x.best ++ x.edges) {n : Int} (hn : n ∈ r)
    (hb : n < 0 ∨ x.size - 1 < n) : checkA x = 5 := by
  unfold checkA
  rw [if_neg (by rw [not_inR]; omega), if_neg (by omega), if_neg (by omega), if_neg, if_pos (List.any_eq_true.2 ⟨r, hr, List.any_eq_true.2 ⟨n, hn, not_inR.2 hb⟩⟩)]
  intro hc
  obtain ⟨r, hr, hn⟩ := List.any_eq_true.1 hc
  exact (of_decide_eq_true hn) (h4 r hr)
def rows1 (l : List (List Int)) : List AV := [rowsC l]
attribute [go_sem] rows1
theorem check_calls (x : Alg) (hb : x.best.length ≤ 5864062014634) (he : x.edges.length ≤ 5864062014634) (hs : I64 x.size) (hrow : ∀ r ∈ x.best ++ x.edges, r.length ≤ 17592186044000) (σ : Store) :
    ACalls Tryz.prog 38 [.agg (algC x)] σ fun r σ' => σ' = σ ∧ r = intA1 (checkA x) := by
  refine ACalls.cutX ?_
  refine ACalls_of_awp Tryz.func38 rfl Tryz.results38 ?_
  simp only [List.length_cons, List.length_nil, Tryz.ntmps38, Nat.reduceAdd, Nat.reduceSub, enterA]
  refine AWP_seq_k fun K hK => ?_
  (refine AWP_region ?_; simp -implicitDefEqProofs only [go_sem])
  refine hK _ _ ?_; clear hK K
  refine AWP_freezeP 1 rfl (by simp only [st0]; rfl) ?_
  simp only [ss0, List.set_cons_zero]
  (repeat' (first|(refine g_s fun K hK=>?_)|(refine g_b ?_)|(refine g_r ?_)|(refine g_k ?_;simp only[thenQ,blockQ])|(refine g_e ?_;simp only[thenQ,blockQ,↓reduceIte,Nat.reduceEqDiff])|(refine g_c (fun h=>?_) (fun h=>?_)<;>(try simp only[go_sem] at h)<;>(try exact g_f))|((first|refine g_t ?_|refine g_g ?_|refine g_U ?_|refine g_A ?_|refine (within_calls _ _ _ _).use ?_|refine g_q (fun τ=>within_calls _ _ _ _) ?_|refine g_W ?_);(try simp -implicitDefEqProofs only[go_sem]))|(with_reducible refine hK _ _ ?_;clear hK K)|(clear hK K;first|(with_reducible refine hK _ _ ?_;clear hK K)|(clear hK K;with_reducible refine hK _ _ ?_;clear hK K)|(clear hK K;clear hK K;with_reducible refine hK _ _ ?_;clear hK K))|(with_reducible refine splitB_intro (fun h=>?_) (fun h=>?_)<;>(try simp only[go_sem] at h)<;>(try exact g_f)<;>(try simp -implicitDefEqProofs only[go_sem]))|(with_reducible refine And.intro (fun h=>?_) (fun h=>?_)<;>(try simp only[go_sem] at h)<;>(try exact g_f))|(with_reducible refine And.intro ?_ ?_;· exact g_x)|(with_reducible intro h;(try simp only[go_sem] at h);(try exact g_f))))
  · exact CutQ_c rfl (by rw [checkA_size (not_inR.1 (by rw [h]; rfl))])
  · rename_i h1
    exact CutQ_c rfl (by rw [checkA_many (inR_iff.1 h1) (by omega)])
  · rename_i h1 h2
    exact CutQ_c rfl (by rw [checkA_best (inR_iff.1 h1) (by omega) h])
  rename_i h1 h2
  have hsz := inR_iff.1 h1
  have hbl := h
  have he8 : x.edges.length ≤ 8 := by omega
  clear h h1 h2
  have hJ := hK
  clear hK
  generalize hls : [x.best, x.edges] = ls
  have hlsm : ∀ l ∈ ls, ∀ r ∈ l, r ∈ x.best ++ x.edges := by
    subst hls
    intro l hl r hr
    simp only [List.mem_cons, List.not_mem_nil, or_false] at hl
    rcases hl with rfl | rfl
    · exact List.mem_append_left _ hr
    · exact List.mem_append_right _ hr
  have hlsl : ∀ l ∈ ls, l.length ≤ 24 := by
    subst hls
    intro l hl
    simp only [List.mem_cons, List.not_mem_nil, or_false] at hl
    rcases hl with rfl | rfl <;> omega
  have hst : σ ++ [Ob.dead, Ob.cells 1 [[AV.sl (List.map rowC x.best)], [AV.sl (List.map rowC x.edges)]]] = σ ++ [Ob.dead, Ob.cells 1 (ls.map rows1)] := by subst hls; rfl
  have hll : ls.length = 2 := by subst hls; rfl
  rw [hst]
  refine AWP_each ls (fun k r _ => ∀ l ∈ ls, l ∈ r ∨ ∀ w ∈ l, (w.length : Int) = x.size) (fun k _ _ => [(38, intA1 k)]) (fun _ _ _ => σ ++ [.dead, .cells 1 (ls.map rows1)]) () [] (fun l hl => .inl hl) rfl (ALe_of ?_) ?_ ?_
  · simp -implicitDefEqProofs only [go_sem]
  · rintro k r _ τ hk0 hk1 hH L hL
    have hmem := at0_mem ls hk0 hk1
    obtain ⟨l, hl⟩ : ∃ l, at0 ls k = l := ⟨_, rfl⟩
    rw [hl] at hH hmem
    simp -implicitDefEqProofs only [go_sem]
    (repeat' (first|(refine g_s fun K hK=>?_)|(refine g_b ?_)|(refine g_r ?_)|(refine g_k ?_;simp only[thenQ,blockQ])|(refine g_e ?_;simp only[thenQ,blockQ,↓reduceIte,Nat.reduceEqDiff])|(refine g_c (fun h=>?_) (fun h=>?_)<;>(try simp only[go_sem] at h)<;>(try exact g_f))|((first|refine g_t ?_|refine g_g ?_|refine g_U ?_|refine g_A ?_|refine g_W ?_);(try simp -implicitDefEqProofs only[go_sem,hl]))|(with_reducible refine hK _ _ ?_;clear hK K)|(clear hK K;first|(with_reducible refine hK _ _ ?_;clear hK K)|(clear hK K;with_reducible refine hK _ _ ?_;clear hK K)|(clear hK K;clear hK K;with_reducible refine hK _ _ ?_;clear hK K))|(with_reducible refine splitB_intro (fun h=>?_) (fun h=>?_)<;>(try simp only[go_sem] at h)<;>(try exact g_f)<;>(try simp -implicitDefEqProofs only[go_sem,hl]))|(with_reducible refine And.intro (fun h=>?_) (fun h=>?_)<;>(try simp only[go_sem] at h)<;>(try exact g_f))|(with_reducible refine And.intro ?_ ?_;· exact g_x)|(with_reducible intro h;(try simp only[go_sem] at h);(try exact g_f))))
    refine AWP_each l (fun _ r' _ => ∀ w ∈ l, w ∈ r' ∨ (w.length : Int) = x.size) (fun k' _ _ => [(44, intA1 k')]) (fun _ _ _ => σ ++ [.dead, .cells 1 (ls.map rows1)]) () [] (fun w hw => .inl hw) rfl (ALe_of ?_) ?_ ?_
    · simp -implicitDefEqProofs only [go_sem]
    · rintro k' r' _ τ' hk0' hk1' hH' L' hL'
      have hmem' := at0_mem l hk0' hk1'
      have h24 := hlsl l hmem
      simp -implicitDefEqProofs only [go_sem]
      (repeat' (first|(refine g_s fun K hK=>?_)|(refine g_b ?_)|(refine g_r ?_)|(refine g_k ?_;simp only[thenQ,blockQ])|(refine g_e ?_;simp only[thenQ,blockQ,↓reduceIte,Nat.reduceEqDiff])|(refine g_c (fun h=>?_) (fun h=>?_)<;>(try simp only[go_sem] at h)<;>(try exact g_f))|((first|refine g_t ?_|refine g_g ?_|refine g_U ?_|refine g_A ?_|refine g_W ?_);(try simp -implicitDefEqProofs only[go_sem]))|(with_reducible refine hK _ _ ?_;clear hK K)|(clear hK K;first|(with_reducible refine hK _ _ ?_;clear hK K)|(clear hK K;with_reducible refine hK _ _ ?_;clear hK K)|(clear hK K;clear hK K;with_reducible refine hK _ _ ?_;clear hK K))|(with_reducible refine splitB_intro (fun h=>?_) (fun h=>?_)<;>(try simp only[go_sem] at h)<;>(try exact g_f)<;>(try simp -implicitDefEqProofs only[go_sem]))|(with_reducible refine And.intro (fun h=>?_) (fun h=>?_)<;>(try simp only[go_sem] at h)<;>(try exact g_f))|(with_reducible refine And.intro ?_ ?_;· exact g_x)|(with_reducible intro h;(try simp only[go_sem] at h);(try exact g_f))))
      · exact CutQ_c rfl (by rw [checkA_row hsz he8 hbl (hlsm l hmem _ hmem') h])
      · refine hL' () [] _ _ (fun w hw => ?_) (ALe_of ?_) rfl
        · rcases hH' w hw with h9 | h9
          · rcases List.mem_cons.1 h9 with rfl | h9
            · exact .inr h
            · exact .inl h9
          · exact .inr h9
        · simp -implicitDefEqProofs only [go_sem]
    · rintro k' _ τ' hk' hH' L'
      simp -implicitDefEqProofs only [go_sem]
      (repeat' (first|(refine g_s fun K hK=>?_)|(refine g_b ?_)|(refine g_r ?_)|(refine g_k ?_;simp only[thenQ,blockQ])|(refine g_e ?_;simp only[thenQ,blockQ,↓reduceIte,Nat.reduceEqDiff])|(refine g_c (fun h=>?_) (fun h=>?_)<;>(try simp only[go_sem] at h)<;>(try exact g_f))|((first|refine g_t ?_|refine g_g ?_|refine g_U ?_|refine g_A ?_|refine g_W ?_);(try simp -implicitDefEqProofs only[go_sem]))|(with_reducible refine hK _ _ ?_;clear hK K)|(clear hK K;first|(with_reducible refine hK _ _ ?_;clear hK K)|(clear hK K;with_reducible refine hK _ _ ?_;clear hK K)|(clear hK K;clear hK K;with_reducible refine hK _ _ ?_;clear hK K))|(with_reducible refine splitB_intro (fun h=>?_) (fun h=>?_)<;>(try simp only[go_sem] at h)<;>(try exact g_f)<;>(try simp -implicitDefEqProofs only[go_sem]))|(with_reducible refine And.intro (fun h=>?_) (fun h=>?_)<;>(try simp only[go_sem] at h)<;>(try exact g_f))|(with_reducible refine And.intro ?_ ?_;· exact g_x)|(with_reducible intro h;(try simp only[go_sem] at h);(try exact g_f))))
      refine hL () [] _ _ (fun l' hl' => ?_) (ALe_of ?_) rfl
      · rcases hH l' hl' with h9 | h9
        · rcases List.mem_cons.1 h9 with rfl | h9
          · exact .inr fun w hw => (hH' w hw).resolve_left (by simp)
          · exact .inl h9
        · exact .inr h9
      · simp -implicitDefEqProofs only [go_sem]
  · rintro k _ τ hk hH L
    have hgood : ∀ r ∈ x.best ++ x.edges, (r.length : Int) = x.size := fun r hr => by
      subst hls
      rcases List.mem_append.1 hr with h | h
      · exact (hH x.best (by simp)).resolve_left (by simp) r h
      · exact (hH x.edges (by simp)).resolve_left (by simp) r h
    simp -implicitDefEqProofs only [go_sem]
    (repeat' (first|(refine g_s fun K hK=>?_)|(refine g_b ?_)|(refine g_r ?_)|(refine g_k ?_;simp only[thenQ,blockQ])|(refine g_e ?_;simp only[thenQ,blockQ,↓reduceIte,Nat.reduceEqDiff])|(refine g_c (fun h=>?_) (fun h=>?_)<;>(try simp only[go_sem] at h)<;>(try exact g_f))|((first|refine g_t ?_|refine g_g ?_|refine g_U ?_|refine g_A ?_|refine g_W ?_);(try simp -implicitDefEqProofs only[go_sem]))|(with_reducible refine hK _ _ ?_;clear hK K)|(clear hK K;first|(with_reducible refine hK _ _ ?_;clear hK K)|(clear hK K;with_reducible refine hK _ _ ?_;clear hK K)|(clear hK K;clear hK K;with_reducible refine hK _ _ ?_;clear hK K))|(with_reducible refine splitB_intro (fun h=>?_) (fun h=>?_)<;>(try simp only[go_sem] at h)<;>(try exact g_f)<;>(try simp -implicitDefEqProofs only[go_sem]))|(with_reducible refine And.intro (fun h=>?_) (fun h=>?_)<;>(try simp only[go_sem] at h)<;>(try exact g_f))|(with_reducible refine And.intro ?_ ?_;· exact g_x)|(with_reducible intro h;(try simp only[go_sem] at h);(try exact g_f))))
    refine hJ _ _ ?_
    clear hJ
    (repeat' (first|(refine g_s fun K hK=>?_)|(refine g_b ?_)|(refine g_r ?_)|(refine g_k ?_;simp only[thenQ,blockQ])|(refine g_e ?_;simp only[thenQ,blockQ,↓reduceIte,Nat.reduceEqDiff])|(refine g_c (fun h=>?_) (fun h=>?_)<;>(try simp only[go_sem] at h)<;>(try exact g_f))|((first|refine g_t ?_|refine g_g ?_|refine g_U ?_|refine g_A ?_|refine g_W ?_);(try simp -implicitDefEqProofs only[go_sem]))|(with_reducible refine hK _ _ ?_;clear hK K)|(clear hK K;first|(with_reducible refine hK _ _ ?_;clear hK K)|(clear hK K;with_reducible refine hK _ _ ?_;clear hK K)|(clear hK K;clear hK K;with_reducible refine hK _ _ ?_;clear hK K))|(with_reducible refine splitB_intro (fun h=>?_) (fun h=>?_)<;>(try simp only[go_sem] at h)<;>(try exact g_f)<;>(try simp -implicitDefEqProofs only[go_sem]))|(with_reducible refine And.intro (fun h=>?_) (fun h=>?_)<;>(try simp only[go_sem] at h)<;>(try exact g_f))|(with_reducible refine And.intro ?_ ?_;· exact g_x)|(with_reducible intro h;(try simp only[go_sem] at h);(try exact g_f))))
    have hJ := hK
    clear hK
    refine AWP_each ls (fun _ r _ => ∀ l ∈ ls, l ∈ r ∨ ∀ w ∈ l, ∀ n ∈ w, inR n 0 (x.size - 1) = true) (fun k _ _ => [(57, intA1 k)]) (fun _ _ _ => σ ++ [.dead, .cells 1 (ls.map rows1)]) () [] (fun l hl => .inl hl) rfl (ALe_of ?_) ?_ ?_
    · simp -implicitDefEqProofs only [go_sem]
    · rintro k r _ τ hk0 hk1 hH L hL
      have hmem := at0_mem ls hk0 hk1
      obtain ⟨l, hl⟩ : ∃ l, at0 ls k = l := ⟨_, rfl⟩
      rw [hl] at hH hmem
      simp -implicitDefEqProofs only [go_sem]
      (repeat' (first|(refine g_s fun K hK=>?_)|(refine g_b ?_)|(refine g_r ?_)|(refine g_k ?_;simp only[thenQ,blockQ])|(refine g_e ?_;simp only[thenQ,blockQ,↓reduceIte,Nat.reduceEqDiff])|(refine g_c (fun h=>?_) (fun h=>?_)<;>(try simp only[go_sem] at h)<;>(try exact g_f))|((first|refine g_t ?_|refine g_g ?_|refine g_U ?_|refine g_A ?_|refine g_W ?_);(try simp -implicitDefEqProofs only[go_sem,hl]))|(with_reducible refine hK _ _ ?_;clear hK K)|(clear hK K;first|(with_reducible refine hK _ _ ?_;clear hK K)|(clear hK K;with_reducible refine hK _ _ ?_;clear hK K)|(clear hK K;clear hK K;with_reducible refine hK _ _ ?_;clear hK K))|(with_reducible refine splitB_intro (fun h=>?_) (fun h=>?_)<;>(try simp only[go_sem] at h)<;>(try exact g_f)<;>(try simp -implicitDefEqProofs only[go_sem,hl]))|(with_reducible refine And.intro (fun h=>?_) (fun h=>?_)<;>(try simp only[go_sem] at h)<;>(try exact g_f))|(with_reducible refine And.intro ?_ ?_;· exact g_x)|(with_reducible intro h;(try simp only[go_sem] at h);(try exact g_f))))
      refine AWP_each l (fun _ r' _ => ∀ w ∈ l, w ∈ r' ∨ ∀ n ∈ w, inR n 0 (x.size - 1) = true) (fun k' _ _ => [(63, intA1 k')]) (fun _ _ _ => σ ++ [.dead, .cells 1 (ls.map rows1)]) () [] (fun w hw => .inl hw) rfl (ALe_of ?_) ?_ ?_
      · simp -implicitDefEqProofs only [go_sem]
      · rintro k' r' _ τ' hk0' hk1' hH' L' hL'
        have hmem' := at0_mem l hk0' hk1'
        have h24 := hlsl l hmem
        obtain ⟨w, hw⟩ : ∃ w, at0 l k' = w := ⟨_, rfl⟩
        rw [hw] at hH' hmem'
        have hwl := hgood w (hlsm l hmem w hmem')
        simp -implicitDefEqProofs only [go_sem]
        (repeat' (first|(refine g_s fun K hK=>?_)|(refine g_b ?_)|(refine g_r ?_)|(refine g_k ?_;simp only[thenQ,blockQ])|(refine g_e ?_;simp only[thenQ,blockQ,↓reduceIte,Nat.reduceEqDiff])|(refine g_c (fun h=>?_) (fun h=>?_)<;>(try simp only[go_sem] at h)<;>(try exact g_f))|((first|refine g_t ?_|refine g_g ?_|refine g_U ?_|refine g_A ?_|refine g_W ?_);(try simp -implicitDefEqProofs only[go_sem,hw]))|(with_reducible refine hK _ _ ?_;clear hK K)|(clear hK K;first|(with_reducible refine hK _ _ ?_;clear hK K)|(clear hK K;with_reducible refine hK _ _ ?_;clear hK K)|(clear hK K;clear hK K;with_reducible refine hK _ _ ?_;clear hK K))|(with_reducible refine splitB_intro (fun h=>?_) (fun h=>?_)<;>(try simp only[go_sem] at h)<;>(try exact g_f)<;>(try simp -implicitDefEqProofs only[go_sem,hw]))|(with_reducible refine And.intro (fun h=>?_) (fun h=>?_)<;>(try simp only[go_sem] at h)<;>(try exact g_f))|(with_reducible refine And.intro ?_ ?_;· exact g_x)|(with_reducible intro h;(try simp only[go_sem] at h);(try exact g_f))))
        refine AWP_each w (fun _ r9 _ => ∀ n ∈ w, n ∈ r9 ∨ inR n 0 (x.size - 1) = true) (fun k9 _ _ => [(69, intA1 k9)]) (fun _ _ _ => σ ++ [.dead, .cells 1 (ls.map rows1)]) () [] (fun n hn => .inl hn) rfl (ALe_of ?_) ?_ ?_
        · simp -implicitDefEqProofs only [go_sem]
        · rintro k9 r9 _ τ9 hk09 hk19 hH9 L9 hL9
          have hmem9 := at0_mem w hk09 hk19
          simp -implicitDefEqProofs only [go_sem]
          (repeat' (first|(refine g_s fun K hK=>?_)|(refine g_b ?_)|(refine g_r ?_)|(refine g_k ?_;simp only[thenQ,blockQ])|(refine g_e ?_;simp only[thenQ,blockQ,↓reduceIte,Nat.reduceEqDiff])|(refine g_c (fun h=>?_) (fun h=>?_)<;>(try simp only[go_sem] at h)<;>(try exact g_f))|((first|refine g_t ?_|refine g_g ?_|refine g_U ?_|refine g_A ?_|refine (is_calls x _ (by unfold I64; omega) _).use ?_|refine g_q (fun τ=>is_calls x _ (by unfold I64; omega) _) ?_|refine g_W ?_);(try simp -implicitDefEqProofs only[go_sem]))|(with_reducible refine hK _ _ ?_;clear hK K)|(clear hK K;first|(with_reducible refine hK _ _ ?_;clear hK K)|(clear hK K;with_reducible refine hK _ _ ?_;clear hK K)|(clear hK K;clear hK K;with_reducible refine hK _ _ ?_;clear hK K))|(with_reducible refine splitB_intro (fun h=>?_) (fun h=>?_)<;>(try simp only[go_sem] at h)<;>(try exact g_f)<;>(try simp -implicitDefEqProofs only[go_sem]))|(with_reducible refine And.intro (fun h=>?_) (fun h=>?_)<;>(try simp only[go_sem] at h)<;>(try exact g_f))|(with_reducible refine And.intro ?_ ?_;· exact g_x)|(with_reducible intro h;(try simp only[go_sem] at h);(try exact g_f))))
          · exact CutQ_c rfl (by rw [checkA_val hsz he8 hbl hgood (hlsm l hmem _ hmem') hmem9 (not_inR.1 (by rw [h]; rfl))])
          · refine hL9 () [] _ _ (fun n hn => ?_) (ALe_of ?_) rfl
            · rcases hH9 n hn with g | g
              · rcases List.mem_cons.1 g with rfl | g
                · exact .inr h
                · exact .inl g
              · exact .inr g
            · simp -implicitDefEqProofs only [go_sem]
        · rintro k9 _ τ9 hk9 hH9 L9
          simp -implicitDefEqProofs only [go_sem]
          (repeat' (first|(refine g_s fun K hK=>?_)|(refine g_b ?_)|(refine g_r ?_)|(refine g_k ?_;simp only[thenQ,blockQ])|(refine g_e ?_;simp only[thenQ,blockQ,↓reduceIte,Nat.reduceEqDiff])|(refine g_c (fun h=>?_) (fun h=>?_)<;>(try simp only[go_sem] at h)<;>(try exact g_f))|((first|refine g_t ?_|refine g_g ?_|refine g_U ?_|refine g_A ?_|refine g_W ?_);(try simp -implicitDefEqProofs only[go_sem]))|(with_reducible refine hK _ _ ?_;clear hK K)|(clear hK K;first|(with_reducible refine hK _ _ ?_;clear hK K)|(clear hK K;with_reducible refine hK _ _ ?_;clear hK K)|(clear hK K;clear hK K;with_reducible refine hK _ _ ?_;clear hK K))|(with_reducible refine splitB_intro (fun h=>?_) (fun h=>?_)<;>(try simp only[go_sem] at h)<;>(try exact g_f)<;>(try simp -implicitDefEqProofs only[go_sem]))|(with_reducible refine And.intro (fun h=>?_) (fun h=>?_)<;>(try simp only[go_sem] at h)<;>(try exact g_f))|(with_reducible refine And.intro ?_ ?_;· exact g_x)|(with_reducible intro h;(try simp only[go_sem] at h);(try exact g_f))))
          refine hL' () [] _ _ (fun w' hw' => ?_) (ALe_of ?_) rfl
          · rcases hH' w' hw' with g | g
            · rcases List.mem_cons.1 g with rfl | g
              · exact .inr fun n hn => (hH9 n hn).resolve_left (by simp)
              · exact .inl g
            · exact .inr g
          · simp -implicitDefEqProofs only [go_sem]
      · rintro k' _ τ' hk' hH' L'
        simp -implicitDefEqProofs only [go_sem]
        (repeat' (first|(refine g_s fun K hK=>?_)|(refine g_b ?_)|(refine g_r ?_)|(refine g_k ?_;simp only[thenQ,blockQ])|(refine g_e ?_;simp only[thenQ,blockQ,↓reduceIte,Nat.reduceEqDiff])|(refine g_c (fun h=>?_) (fun h=>?_)<;>(try simp only[go_sem] at h)<;>(try exact g_f))|((first|refine g_t ?_|refine g_g ?_|refine g_U ?_|refine g_A ?_|refine g_W ?_);(try simp -implicitDefEqProofs only[go_sem]))|(with_reducible refine hK _ _ ?_;clear hK K)|(clear hK K;first|(with_reducible refine hK _ _ ?_;clear hK K)|(clear hK K;with_reducible refine hK _ _ ?_;clear hK K)|(clear hK K;clear hK K;with_reducible refine hK _ _ ?_;clear hK K))|(with_reducible refine splitB_intro (fun h=>?_) (fun h=>?_)<;>(try simp only[go_sem] at h)<;>(try exact g_f)<;>(try simp -implicitDefEqProofs only[go_sem]))|(with_reducible refine And.intro (fun h=>?_) (fun h=>?_)<;>(try simp only[go_sem] at h)<;>(try exact g_f))|(with_reducible refine And.intro ?_ ?_;· exact g_x)|(with_reducible intro h;(try simp only[go_sem] at h);(try exact g_f))))
        refine hL () [] _ _ (fun l' hl' => ?_) (ALe_of ?_) rfl
        · rcases hH l' hl' with g | g
          · rcases List.mem_cons.1 g with rfl | g
            · exact .inr fun w hw => (hH' w hw).resolve_left (by simp)
            · exact .inl g
          · exact .inr g
        · simp -implicitDefEqProofs only [go_sem]
    · rintro k _ τ hk hH L
      have hright : Right x := ⟨hsz.1, hsz.2, he8, hbl, hgood, fun r hr n hn => by
        subst hls
        rcases List.mem_append.1 hr with g | g
        · exact inR_iff.1 ((hH x.best (by simp)).resolve_left (by simp) r g n hn)
        · exact inR_iff.1 ((hH x.edges (by simp)).resolve_left (by simp) r g n hn)⟩
      simp -implicitDefEqProofs only [go_sem]
      (repeat' (first|(refine g_s fun K hK=>?_)|(refine g_b ?_)|(refine g_r ?_)|(refine g_k ?_;simp only[thenQ,blockQ])|(refine g_e ?_;simp only[thenQ,blockQ,↓reduceIte,Nat.reduceEqDiff])|(refine g_c (fun h=>?_) (fun h=>?_)<;>(try simp only[go_sem] at h)<;>(try exact g_f))|((first|refine g_t ?_|refine g_g ?_|refine g_U ?_|refine g_A ?_|refine g_W ?_);(try simp -implicitDefEqProofs only[go_sem]))|(with_reducible refine hK _ _ ?_;clear hK K)|(clear hK K;first|(with_reducible refine hK _ _ ?_;clear hK K)|(clear hK K;with_reducible refine hK _ _ ?_;clear hK K)|(clear hK K;clear hK K;with_reducible refine hK _ _ ?_;clear hK K))|(with_reducible refine splitB_intro (fun h=>?_) (fun h=>?_)<;>(try simp only[go_sem] at h)<;>(try exact g_f)<;>(try simp -implicitDefEqProofs only[go_sem]))|(with_reducible refine And.intro (fun h=>?_) (fun h=>?_)<;>(try simp only[go_sem] at h)<;>(try exact g_f))|(with_reducible refine And.intro ?_ ?_;· exact g_x)|(with_reducible intro h;(try simp only[go_sem] at h);(try exact g_f))))
      refine hJ _ _ ?_
      clear hJ
      (repeat' (first|(refine g_s fun K hK=>?_)|(refine g_b ?_)|(refine g_r ?_)|(refine g_k ?_;simp only[thenQ,blockQ])|(refine g_e ?_;simp only[thenQ,blockQ,↓reduceIte,Nat.reduceEqDiff])|(refine g_c (fun h=>?_) (fun h=>?_)<;>(try simp only[go_sem] at h)<;>(try exact g_f))|((first|refine g_t ?_|refine g_g ?_|refine g_U ?_|refine g_A ?_|refine g_W ?_);(try simp -implicitDefEqProofs only[go_sem]))|(with_reducible refine hK _ _ ?_;clear hK K)|(clear hK K;first|(with_reducible refine hK _ _ ?_;clear hK K)|(clear hK K;with_reducible refine hK _ _ ?_;clear hK K)|(clear hK K;clear hK K;with_reducible refine hK _ _ ?_;clear hK K))|(with_reducible refine splitB_intro (fun h=>?_) (fun h=>?_)<;>(try simp only[go_sem] at h)<;>(try exact g_f)<;>(try simp -implicitDefEqProofs only[go_sem]))|(with_reducible refine And.intro (fun h=>?_) (fun h=>?_)<;>(try simp only[go_sem] at h)<;>(try exact g_f))|(with_reducible refine And.intro ?_ ?_;· exact g_x)|(with_reducible intro h;(try simp only[go_sem] at h);(try exact g_f))))
      exact CutQ_c rfl (by rw [right_iff.2 hright])
end Go.Proofs.YtephecognbbaoaaGreat
namespace Go.Proofs.YtephecognbbaoaaGreat
/-- What is known of an algebra that came in. -/
structure AlgOk (x : Alg) : Prop where
  hb : x.best.length ≤ 5864062014634
  he : x.edges.length ≤ 5864062014634
  hs : I64 x.size
  hrow : ∀ r ∈ x.best ++ x.edges, r.length ≤ 17592186044000
theorem broken_calls (x : Alg) (laws : List Int) (hr : Right x) (hl : laws.length ≤ 100) (hlaw : ∀ law ∈ laws, 1 ≤ law ∧ law ≤ 9) (σ : Store) :
    ACalls Tryz.prog 88 [.agg (algC x), intsA laws] σ fun r σ' => σ' = σ ∧ r = .agg (brkC (brokenA x laws)) :=
  broken_calls' x laws hr hl hlaw (fun law h σ => cases_calls x law (hlaw law h) σ) σ
def hopsX : Alg := ⟨3, [[0, 0, 0], [0, 1, 1], [0, 1, 2]], [[1, 2, 2]]⟩
def hopsY : Alg := ⟨3, [[0, 0, 0], [0, 1, 1], [0, 1, 2]], [[0, 1, 2]]⟩
theorem algC_bd {n : Nat} (x : Alg) : Bd n (.agg (algC x)) := .aggL (.cons (.c _) (.cons (.rows _) (.cons (.rows _) .nil)))
theorem hops_calls (σ : Store) : ACalls Tryz.prog 36 [] σ fun r σ' => σ' = σ ∧ r = .agg (algC hopsX) := by
  refine ACalls.cutX ?_
  refine ACalls_of_awp Tryz.func36 rfl Tryz.results36 ?_
  simp only [List.length_cons, List.length_nil, Tryz.ntmps36, Nat.reduceAdd, Nat.reduceSub, enterA]
  (repeat' (first|(refine g_s fun K hK=>?_)|(refine g_b ?_)|(refine g_r ?_)|(refine g_k ?_;simp only[thenQ,blockQ])|(refine g_e ?_;simp only[thenQ,blockQ,↓reduceIte,Nat.reduceEqDiff])|(refine g_c (fun h=>?_) (fun h=>?_)<;>(try simp only[go_sem] at h)<;>(try exact g_f))|((first|refine g_t ?_|refine g_G ?_|refine g_U ?_|refine g_A ?_|refine g_W ?_);(try simp -implicitDefEqProofs only[go_sem]))|(with_reducible refine hK _ _ ?_;clear hK K)|(clear hK K;first|(with_reducible refine hK _ _ ?_;clear hK K)|(clear hK K;with_reducible refine hK _ _ ?_;clear hK K)|(clear hK K;clear hK K;with_reducible refine hK _ _ ?_;clear hK K))|(with_reducible refine splitB_intro (fun h=>?_) (fun h=>?_)<;>(try simp only[go_sem] at h)<;>(try exact g_f)<;>(try simp -implicitDefEqProofs only[go_sem]))|(with_reducible refine And.intro (fun h=>?_) (fun h=>?_)<;>(try simp only[go_sem] at h)<;>(try exact g_f))|(with_reducible refine And.intro ?_ ?_;· exact g_x)|(with_reducible intro h;(try simp only[go_sem] at h);(try exact g_f))))
  refine CutQ_w rfl (algC_bd hopsX) (.eq rfl)
end Go.Proofs.YtephecognbbaoaaGreat
namespace Go.Proofs.YtephecognbbaoaaGreat
end Go.Proofs.YtephecognbbaoaaGreat
namespace Go.Proofs.YtephecognbbaoaaGreat
end Go.Proofs.YtephecognbbaoaaGreat
namespace Go.Proofs.YtephecognbbaoaaGreat
def lnkC (l : Lnk) : List AV := [intA1 l.fr, intA1 l.dst, intA1 l.edge]
def linksV (l : List Lnk) : AV := .sl (l.map lnkC)
def netC (n : Net) : List AV := [intA1 n.alg.size, rowsC n.alg.best, rowsC n.alg.edges, intA1 n.nodes, linksV n.links]
attribute [go_sem] lnkC linksV netC
/-- What is known of a net that came in. -/
structure NetOk (n : Net) : Prop where
  alg : AlgOk n.alg
  nodes : I64 n.nodes
  len : n.links.length ≤ 5864062014634
  lnk : ∀ l ∈ n.links, I64 l.fr ∧ I64 l.dst ∧ I64 l.edge
/- Keys that are pairs of numbers. -/
theorem wf_I64 (n : Int) : (Lit.int IntKind.i64 n).wf = true ↔ I64 n := by simp [Lit.wf, IntKind.min, IntKind.max, IntKind.bits, IntKind.signed, I64]
theorem keyLits_pair (d : Nat) (a b : Int) (ha : I64 a) (hb : I64 b) : Tryz.prog.keyLits (d + 2) 147 [.int .i64 a, .int .i64 b] = some [.int .i64 a, .int .i64 b] := by
  have hc : Tryz.prog.cellsOf 147 = 2 := by kernel_rfl
  have hi : Tryz.prog.cellsOf 3 = 1 := by kernel_rfl
  simp [Program.keyLits, Tryz.underlying147, Tryz.underlying3, hc, hi, List.range_succ, (wf_I64 a).2 ha, (wf_I64 b).2 hb]
theorem keyK_pair {a b : Int} (ha : I64 a) (hb : I64 b) : keyK Tryz.prog 147 (.agg #[.int .i64 a, .int .i64 b]) = True := by
  refine eq_true ?_
  have hk : Tryz.prog.keyType 147 = true := by kernel_rfl
  have hc : Tryz.prog.cellsOf 147 = 2 := by kernel_rfl
  have hf : (Value.agg #[.int .i64 a, .int .i64 b]).formed Tryz.prog 147 = true := by simp [Value.formed, Tryz.underlying147, hc]
  have hd : Tryz.prog.types.size + 1 = (Tryz.prog.types.size - 1) + 2 := by kernel_rfl
  have hl := keyLits_pair (Tryz.prog.types.size - 1) a b ha hb
  rw [← hd] at hl
  refine ⟨.string (keyBytes [.int .i64 a, .int .i64 b]), ?_⟩
  simp only [keyOf, Tryz.underlying147, hk, hf, Bool.and_self, if_true]
  rw [show (Value.agg #[.int .i64 a, .int .i64 b]).cells.toList = [.int .i64 a, .int .i64 b] from rfl, hl]
  rfl
theorem laidOutT : laidOutB Tryz.prog = true := by kernel_rfl
theorem keyed_pair : Go.Maps.Keyed Tryz.prog 147 = True :=
  eq_true (Go.Maps.Keyed.of_law (deep_law_gate laidOutT (by decide +kernel) (by decide +kernel) (by kernel_rfl) (by kernel_rfl)))
theorem tab_map_pair : mapT Tryz.prog 146 = some (147, 4) := by kernel_rfl
theorem tab_places_pair : placesA Tryz.prog 147 = some [(0, 1), (1, 1)] := by kernel_rfl
attribute [go_sem] keyed_pair tab_map_pair tab_places_pair
theorem tab_fone_Broken : fieldOne Tryz.prog 38 0 = some 0 := by kernel_rfl
theorem tab_eq_Broken : eqPlan Tryz.prog 38 = some [(0, false), (1, false), (2, false), (3, false), (4, false)] := by kernel_rfl
attribute [go_sem] tab_fone_Broken tab_eq_Broken
theorem lawful_calls (x : Alg) (hr : Right x) (σ : Store) : ACalls Tryz.prog 74 [.agg (algC x)] σ fun r σ' => σ' = σ ∧ r = .c (.bool (decide ((brokenA x seven).law = 0))) := by
  refine ACalls.cutX ?_
  refine ACalls_of_awp Tryz.func74 rfl Tryz.results74 ?_
  simp only [List.length_cons, List.length_nil, Tryz.ntmps74, Nat.reduceAdd, Nat.reduceSub, enterA]
  (repeat' (first|(refine g_s fun K hK=>?_)|(refine g_b ?_)|(refine g_r ?_)|(refine g_k ?_;simp only[thenQ,blockQ])|(refine g_e ?_;simp only[thenQ,blockQ,↓reduceIte,Nat.reduceEqDiff])|(refine g_c (fun h=>?_) (fun h=>?_)<;>(try simp only[go_sem] at h)<;>(try exact g_f))|((first|refine g_t ?_|refine g_G ?_|refine g_U ?_|refine g_A ?_|refine (broken_calls x seven hr (by decide) (by decide) _).use ?_|refine g_q (fun τ=>broken_calls x seven hr (by decide) (by decide) _) ?_|refine g_W ?_);(try simp -implicitDefEqProofs only[go_sem]))|(with_reducible refine hK _ _ ?_;clear hK K)|(clear hK K;first|(with_reducible refine hK _ _ ?_;clear hK K)|(clear hK K;with_reducible refine hK _ _ ?_;clear hK K)|(clear hK K;clear hK K;with_reducible refine hK _ _ ?_;clear hK K))|(with_reducible refine splitB_intro (fun h=>?_) (fun h=>?_)<;>(try simp only[go_sem] at h)<;>(try exact g_f)<;>(try simp -implicitDefEqProofs only[go_sem]))|(with_reducible refine And.intro (fun h=>?_) (fun h=>?_)<;>(try simp only[go_sem] at h)<;>(try exact g_f))|(with_reducible refine And.intro ?_ ?_;· exact g_x)|(with_reducible intro h;(try simp only[go_sem] at h);(try exact g_f))))
  refine CutQ_c rfl ?_
  by_cases h : (brokenA x seven).law = 0
  · rw [broken_zero h]
    rfl
  · simp [h]
theorem nwithin_calls (n a b : Int) (σ : Store) : ACalls Tryz.prog 46 [intA1 n, intA1 a, intA1 b] σ fun r σ' => σ' = σ ∧ r = .c (.bool (inR n a b)) := by
  refine ACalls_of_awp Tryz.func46 rfl Tryz.results46 ?_
  simp only [List.length_cons, List.length_nil, Tryz.ntmps46, Nat.reduceAdd, Nat.reduceSub, enterA]
  (repeat' (first|(refine g_s fun K hK=>?_)|(refine g_b ?_)|(refine g_r ?_)|(refine g_k ?_;simp only[thenQ,blockQ])|(refine g_e ?_;simp only[thenQ,blockQ,↓reduceIte,Nat.reduceEqDiff])|(refine g_c (fun h=>?_) (fun h=>?_)<;>(try simp only[go_sem] at h)<;>(try exact g_f))|((first|refine g_t ?_|refine g_g ?_|refine g_U ?_|refine g_A ?_|refine g_W ?_);(try simp -implicitDefEqProofs only[go_sem]))|(with_reducible refine hK _ _ ?_;clear hK K)|(clear hK K;first|(with_reducible refine hK _ _ ?_;clear hK K)|(clear hK K;with_reducible refine hK _ _ ?_;clear hK K)|(clear hK K;clear hK K;with_reducible refine hK _ _ ?_;clear hK K))|(with_reducible refine splitB_intro (fun h=>?_) (fun h=>?_)<;>(try simp only[go_sem] at h)<;>(try exact g_f)<;>(try simp -implicitDefEqProofs only[go_sem]))|(with_reducible refine And.intro (fun h=>?_) (fun h=>?_)<;>(try simp only[go_sem] at h)<;>(try exact g_f))|(with_reducible refine And.intro ?_ ?_;· exact g_x)|(with_reducible intro h;(try simp only[go_sem] at h);(try exact g_f))))
  all_goals (simp [inR]; omega)
end Go.Proofs.YtephecognbbaoaaGreat
namespace Go.Proofs.YtephecognbbaoaaGreat
def keyP (l : Lnk) : Value := .agg #[.int .i64 l.fr, .int .i64 l.dst]
def metE (pre : List Lnk) : List (Value × AV) := pre.map fun l => (keyP l, .c (.bool true))
theorem keyP_like (l x : Lnk) : keyP x = keyP l ↔ l.like x = true := by simp [keyP, Lnk.like]
theorem met_find (l : Lnk) : ∀ pre : List Lnk, (findK (metE pre) (keyP l)).getD (.c (.bool false)) = .c (.bool (pre.any l.like))
  | [] => rfl
  | x :: r => by
    have ih := met_find l r
    simp only [metE, List.map_cons, findK, List.any_cons] at ih ⊢
    by_cases h : keyP x = keyP l
    · rw [if_pos h, (keyP_like l x).1 h]
      rfl
    · rw [if_neg h, Bool.eq_false_iff.2 (fun e => h ((keyP_like l x).2 e)), ih]
      rfl
theorem met_new {l : Lnk} {pre : List Lnk} (h : pre.any l.like = false) : ∀ e ∈ metE pre, e.1 ≠ keyP l := by
  intro e he
  obtain ⟨x, hx, rfl⟩ := List.mem_map.1 he
  intro hc
  have := List.any_eq_false.1 h x hx
  exact this ((keyP_like l x).1 hc)
theorem met_put {l : Lnk} {pre : List Lnk} (h : pre.any l.like = false) : putK (metE pre) (keyP l) (.c (.bool true)) = metE (pre ++ [l]) := by
  rw [putK_none (met_new h)]
  simp [metE]
theorem DK_snoc {e : Value × AV} : ∀ {es : List (Value × AV)}, DK es → (∀ f ∈ es, f.1 ≠ e.1) → DK (es ++ [e])
  | [], _, _ => ⟨trivial, trivial⟩
  | f :: r, h, hn => by
    refine ⟨NK_iff.2 fun g hg => ?_, DK_snoc h.2 fun g hg => hn g (by simp [hg])⟩
    rcases List.mem_append.1 hg with hg | hg
    · exact NK_iff.1 h.1 g hg
    · rw [List.mem_singleton.1 hg]
      exact (hn f (by simp)).symm
theorem met_DK {l : Lnk} {pre : List Lnk} (h : pre.any l.like = false) (hd : DK (metE pre)) : DK (metE (pre ++ [l])) := by
  have : metE (pre ++ [l]) = metE pre ++ [(keyP l, .c (.bool true))] := by simp [metE]
  rw [this]
  exact DK_snoc hd (met_new h)
theorem met_KK {pre : List Lnk} (h : ∀ l ∈ pre, I64 l.fr ∧ I64 l.dst) : KK Tryz.prog 147 (metE pre) = True :=
  eq_true (KK_iff.2 fun e he => by
    obtain ⟨x, hx, rfl⟩ := List.mem_map.1 he
    exact of_eq_true (keyK_pair (h x hx).1 (h x hx).2))
theorem links_calls (n : Net) (ok : NetOk n) (h1 : 1 ≤ n.nodes) (h6 : n.nodes ≤ 6) (h8 : n.alg.edges.length ≤ 8) (σ : Store) :
    ACalls Tryz.prog 75 [.agg (netC n)] σ fun r σ' => σ' = σ ∧ r = intA1 (linksErr n [] n.links) := by
  have hlen := ok.len
  refine ACalls.cutX ?_
  refine ACalls_of_awp Tryz.func75 rfl Tryz.results75 ?_
  simp only [List.length_cons, List.length_nil, Tryz.ntmps75, Nat.reduceAdd, Nat.reduceSub, enterA]
  refine AWP_seq_k fun K hK => ?_
  (refine AWP_region ?_; simp -implicitDefEqProofs only [go_sem])
  refine hK _ _ ?_; clear hK K
  refine AWP_freezeP 1 rfl (by simp only [st0]; rfl) ?_
  simp only [ss0, List.set_cons_zero]
  (repeat' (first|(refine g_s fun K hK=>?_)|(refine g_b ?_)|(refine g_r ?_)|(refine g_k ?_;simp only[thenQ,blockQ])|(refine g_e ?_;simp only[thenQ,blockQ,↓reduceIte,Nat.reduceEqDiff])|(refine g_c (fun h=>?_) (fun h=>?_)<;>(try simp only[go_sem] at h)<;>(try exact g_f))|((first|refine g_t ?_|refine g_g ?_|refine g_U ?_|refine g_A ?_|refine g_W ?_);(try simp -implicitDefEqProofs only[go_sem]))|(with_reducible refine hK _ _ ?_;clear hK K)|(clear hK K;first|(with_reducible refine hK _ _ ?_;clear hK K)|(clear hK K;with_reducible refine hK _ _ ?_;clear hK K)|(clear hK K;clear hK K;with_reducible refine hK _ _ ?_;clear hK K))|(with_reducible refine splitB_intro (fun h=>?_) (fun h=>?_)<;>(try simp only[go_sem] at h)<;>(try exact g_f)<;>(try simp -implicitDefEqProofs only[go_sem]))|(with_reducible refine And.intro (fun h=>?_) (fun h=>?_)<;>(try simp only[go_sem] at h)<;>(try exact g_f))|(with_reducible refine And.intro ?_ ?_;· exact g_x)|(with_reducible intro h;(try simp only[go_sem] at h);(try exact g_f))))
  have hJ := hK
  clear hK
  refine AWP_each n.links (fun k r pre => n.links = pre ++ r ∧ linksErr n [] n.links = linksErr n pre r ∧ DK (metE pre)) (fun k _ _ => [(11, intA1 k)]) (fun _ pre τ => σ ++ (.dead :: .map (metE pre) :: τ)) [] [] ⟨rfl, rfl, trivial⟩ rfl (ALe_of ?_) ?_ ?_
  · simp -implicitDefEqProofs only [go_sem]
  · rintro k r pre τ hk0 hk1 ⟨hP, hE, hD⟩ L hL
    have hmem := at0_mem n.links hk0 hk1
    obtain ⟨l, hl⟩ : ∃ l, at0 n.links k = l := ⟨_, rfl⟩
    rw [hl] at hP hE hmem
    have hi := ok.lnk l hmem
    have hkk := keyK_pair hi.1 hi.2.1
    have hKK := met_KK (pre := pre) fun x hx => let h := ok.lnk x (by rw [hP]; simp [hx]); ⟨h.1, h.2.1⟩
    have hDK := eq_true hD
    have hfind := met_find l pre
    unfold keyP at hfind
    simp -implicitDefEqProofs only [go_sem]
    (repeat' (first|(refine g_s fun K hK=>?_)|(refine g_b ?_)|(refine g_r ?_)|(refine g_k ?_;simp only[thenQ,blockQ])|(refine g_e ?_;simp only[thenQ,blockQ,↓reduceIte,Nat.reduceEqDiff])|(refine g_c (fun h=>?_) (fun h=>?_)<;>(try simp only[go_sem] at h)<;>(try exact g_f))|((first|refine g_t ?_|refine g_g ?_|refine g_U ?_|refine g_A ?_|refine (nwithin_calls _ _ _ _).use ?_|refine g_q (fun τ=>nwithin_calls _ _ _ _) ?_|refine g_W ?_);(try simp -implicitDefEqProofs only[go_sem,hl, hkk, hKK, hDK, hfind]))|(with_reducible refine hK _ _ ?_;clear hK K)|(clear hK K;first|(with_reducible refine hK _ _ ?_;clear hK K)|(clear hK K;with_reducible refine hK _ _ ?_;clear hK K)|(clear hK K;clear hK K;with_reducible refine hK _ _ ?_;clear hK K))|(with_reducible refine splitB_intro (fun h=>?_) (fun h=>?_)<;>(try simp only[go_sem] at h)<;>(try exact g_f)<;>(try simp -implicitDefEqProofs only[go_sem,hl, hkk, hKK, hDK, hfind]))|(with_reducible refine And.intro (fun h=>?_) (fun h=>?_)<;>(try simp only[go_sem] at h)<;>(try exact g_f))|(with_reducible refine And.intro ?_ ?_;· exact g_x)|(with_reducible intro h;(try simp only[go_sem] at h);(try exact g_f))))
    all_goals first
      | (have e : lnkErr n pre l = 5 := by clear hL hJ hfind hkk hKK hDK; simp [lnkErr, *]
         refine CutQ_c rfl ?_
         rw [hE, linksErr_bad (by rw [e]; decide), e]
         done)
      | (have e : lnkErr n pre l = 1 := by clear hL hJ hfind hkk hKK hDK; simp [lnkErr, *]
         refine CutQ_c rfl ?_
         rw [hE, linksErr_bad (by rw [e]; decide), e]
         done)
      | (have e : lnkErr n pre l = 6 := by clear hL hJ hfind hkk hKK hDK; simp [lnkErr, *]
         refine CutQ_c rfl ?_
         rw [hE, linksErr_bad (by rw [e]; decide), e]
         done)
      | skip
    all_goals
      have e : lnkErr n pre l = 0 := by clear hL hJ hfind hkk hKK hDK; simp [lnkErr, *]
      have hn := (lnkIn_of e).2
      have hput := met_put hn
      unfold keyP at hput
      rw [hput]
      refine hL (pre ++ [l]) _ _ _ ⟨by rw [hP]; simp, by rw [hE, linksErr_good e], met_DK hn hD⟩ (ALe_of ?_) rfl
      simp -implicitDefEqProofs only [go_sem]
  · rintro k pre τ hk ⟨hP, hE, hD⟩ L
    simp -implicitDefEqProofs only [go_sem]
    (repeat' (first|(refine g_s fun K hK=>?_)|(refine g_b ?_)|(refine g_r ?_)|(refine g_k ?_;simp only[thenQ,blockQ])|(refine g_e ?_;simp only[thenQ,blockQ,↓reduceIte,Nat.reduceEqDiff])|(refine g_c (fun h=>?_) (fun h=>?_)<;>(try simp only[go_sem] at h)<;>(try exact g_f))|((first|refine g_t ?_|refine g_g ?_|refine g_U ?_|refine g_A ?_|refine g_W ?_);(try simp -implicitDefEqProofs only[go_sem]))|(with_reducible refine hK _ _ ?_;clear hK K)|(clear hK K;first|(with_reducible refine hK _ _ ?_;clear hK K)|(clear hK K;with_reducible refine hK _ _ ?_;clear hK K)|(clear hK K;clear hK K;with_reducible refine hK _ _ ?_;clear hK K))|(with_reducible refine splitB_intro (fun h=>?_) (fun h=>?_)<;>(try simp only[go_sem] at h)<;>(try exact g_f)<;>(try simp -implicitDefEqProofs only[go_sem]))|(with_reducible refine And.intro (fun h=>?_) (fun h=>?_)<;>(try simp only[go_sem] at h)<;>(try exact g_f))|(with_reducible refine And.intro ?_ ?_;· exact g_x)|(with_reducible intro h;(try simp only[go_sem] at h);(try exact g_f))))
    refine hJ _ _ ?_
    clear hJ
    (repeat' (first|(refine g_s fun K hK=>?_)|(refine g_b ?_)|(refine g_r ?_)|(refine g_k ?_;simp only[thenQ,blockQ])|(refine g_e ?_;simp only[thenQ,blockQ,↓reduceIte,Nat.reduceEqDiff])|(refine g_c (fun h=>?_) (fun h=>?_)<;>(try simp only[go_sem] at h)<;>(try exact g_f))|((first|refine g_t ?_|refine g_g ?_|refine g_U ?_|refine g_A ?_|refine g_W ?_);(try simp -implicitDefEqProofs only[go_sem]))|(with_reducible refine hK _ _ ?_;clear hK K)|(clear hK K;first|(with_reducible refine hK _ _ ?_;clear hK K)|(clear hK K;with_reducible refine hK _ _ ?_;clear hK K)|(clear hK K;clear hK K;with_reducible refine hK _ _ ?_;clear hK K))|(with_reducible refine splitB_intro (fun h=>?_) (fun h=>?_)<;>(try simp only[go_sem] at h)<;>(try exact g_f)<;>(try simp -implicitDefEqProofs only[go_sem]))|(with_reducible refine And.intro (fun h=>?_) (fun h=>?_)<;>(try simp only[go_sem] at h)<;>(try exact g_f))|(with_reducible refine And.intro ?_ ?_;· exact g_x)|(with_reducible intro h;(try simp only[go_sem] at h);(try exact g_f))))
    refine CutQ_c rfl ?_
    rw [hE]
    rfl
end Go.Proofs.YtephecognbbaoaaGreat
namespace Go.Proofs.YtephecognbbaoaaGreat
theorem netCheck_calls (n : Net) (ok : NetOk n) (σ : Store) : ACalls Tryz.prog 34 [.agg (netC n)] σ fun r σ' => σ' = σ ∧ r = intA1 (checkN n) := by
  have hC := check_calls n.alg ok.alg.hb ok.alg.he ok.alg.hs ok.alg.hrow
  refine ACalls.cutX ?_
  by_cases h1 : checkA n.alg = 0
  · have hr := right_iff.1 h1
    rw [h1] at hC
    by_cases h2 : inR n.nodes 1 6 = true
    · have h3 := inR_iff.1 h2
      refine ACalls_of_awp Tryz.func34 rfl Tryz.results34 ?_
      simp only [List.length_cons, List.length_nil, Tryz.ntmps34, Nat.reduceAdd, Nat.reduceSub, enterA]
      (repeat' (first|(refine g_s fun K hK=>?_)|(refine g_b ?_)|(refine g_r ?_)|(refine g_k ?_;simp only[thenQ,blockQ])|(refine g_e ?_;simp only[thenQ,blockQ,↓reduceIte,Nat.reduceEqDiff])|(refine g_c (fun h=>?_) (fun h=>?_)<;>(try simp only[go_sem] at h)<;>(try exact g_f))|((first|refine g_t ?_|refine g_g ?_|refine g_U ?_|refine g_A ?_|refine (hC _).use ?_|refine g_q (fun τ=>hC _) ?_|refine (lawful_calls n.alg hr _).use ?_|refine g_q (fun τ=>lawful_calls n.alg hr _) ?_|refine (nwithin_calls _ _ _ _).use ?_|refine g_q (fun τ=>nwithin_calls _ _ _ _) ?_|refine (links_calls n ok h3.1 h3.2 hr.e8 _).use ?_|refine g_q (fun τ=>links_calls n ok h3.1 h3.2 hr.e8 _) ?_|refine g_W ?_);(try simp -implicitDefEqProofs only[go_sem]))|(with_reducible refine hK _ _ ?_;clear hK K)|(clear hK K;first|(with_reducible refine hK _ _ ?_;clear hK K)|(clear hK K;with_reducible refine hK _ _ ?_;clear hK K)|(clear hK K;clear hK K;with_reducible refine hK _ _ ?_;clear hK K))|(with_reducible refine splitB_intro (fun h=>?_) (fun h=>?_)<;>(try simp only[go_sem] at h)<;>(try exact g_f)<;>(try simp -implicitDefEqProofs only[go_sem]))|(with_reducible refine And.intro (fun h=>?_) (fun h=>?_)<;>(try simp only[go_sem] at h)<;>(try exact g_f))|(with_reducible refine And.intro ?_ ?_;· exact g_x)|(with_reducible intro h;(try simp only[go_sem] at h);(try exact g_f))))
      all_goals first
        | (rw [h2] at h; cases h; done)
        | (refine CutQ_c rfl ?_; simp [checkN, h1, h2, *]; done)
    · refine ACalls_of_awp Tryz.func34 rfl Tryz.results34 ?_
      simp only [List.length_cons, List.length_nil, Tryz.ntmps34, Nat.reduceAdd, Nat.reduceSub, enterA]
      (repeat' (first|(refine g_s fun K hK=>?_)|(refine g_b ?_)|(refine g_r ?_)|(refine g_k ?_;simp only[thenQ,blockQ])|(refine g_e ?_;simp only[thenQ,blockQ,↓reduceIte,Nat.reduceEqDiff])|(refine g_c (fun h=>?_) (fun h=>?_)<;>(try simp only[go_sem] at h)<;>(try exact g_f))|((first|refine g_t ?_|refine g_g ?_|refine g_U ?_|refine g_A ?_|refine (hC _).use ?_|refine g_q (fun τ=>hC _) ?_|refine (lawful_calls n.alg hr _).use ?_|refine g_q (fun τ=>lawful_calls n.alg hr _) ?_|refine (nwithin_calls _ _ _ _).use ?_|refine g_q (fun τ=>nwithin_calls _ _ _ _) ?_|refine g_W ?_);(try simp -implicitDefEqProofs only[go_sem]))|(with_reducible refine hK _ _ ?_;clear hK K)|(clear hK K;first|(with_reducible refine hK _ _ ?_;clear hK K)|(clear hK K;with_reducible refine hK _ _ ?_;clear hK K)|(clear hK K;clear hK K;with_reducible refine hK _ _ ?_;clear hK K))|(with_reducible refine splitB_intro (fun h=>?_) (fun h=>?_)<;>(try simp only[go_sem] at h)<;>(try exact g_f)<;>(try simp -implicitDefEqProofs only[go_sem]))|(with_reducible refine And.intro (fun h=>?_) (fun h=>?_)<;>(try simp only[go_sem] at h)<;>(try exact g_f))|(with_reducible refine And.intro ?_ ?_;· exact g_x)|(with_reducible intro h;(try simp only[go_sem] at h);(try exact g_f))))
      all_goals first
        | (refine CutQ_c rfl ?_; simp [checkN, h1, h2, *]; done)
        | (exact absurd (inR_iff.2 (by assumption)) h2)
  · refine ACalls_of_awp Tryz.func34 rfl Tryz.results34 ?_
    simp only [List.length_cons, List.length_nil, Tryz.ntmps34, Nat.reduceAdd, Nat.reduceSub, enterA]
    (repeat' (first|(refine g_s fun K hK=>?_)|(refine g_b ?_)|(refine g_r ?_)|(refine g_k ?_;simp only[thenQ,blockQ])|(refine g_e ?_;simp only[thenQ,blockQ,↓reduceIte,Nat.reduceEqDiff])|(refine g_c (fun h=>?_) (fun h=>?_)<;>(try simp only[go_sem] at h)<;>(try exact g_f))|((first|refine g_t ?_|refine g_g ?_|refine g_U ?_|refine g_A ?_|refine (hC _).use ?_|refine g_q (fun τ=>hC _) ?_|refine g_W ?_);(try simp -implicitDefEqProofs only[go_sem]))|(with_reducible refine hK _ _ ?_;clear hK K)|(clear hK K;first|(with_reducible refine hK _ _ ?_;clear hK K)|(clear hK K;with_reducible refine hK _ _ ?_;clear hK K)|(clear hK K;clear hK K;with_reducible refine hK _ _ ?_;clear hK K))|(with_reducible refine splitB_intro (fun h=>?_) (fun h=>?_)<;>(try simp only[go_sem] at h)<;>(try exact g_f)<;>(try simp -implicitDefEqProofs only[go_sem]))|(with_reducible refine And.intro (fun h=>?_) (fun h=>?_)<;>(try simp only[go_sem] at h)<;>(try exact g_f))|(with_reducible refine And.intro ?_ ?_;· exact g_x)|(with_reducible intro h;(try simp only[go_sem] at h);(try exact g_f))))
    all_goals (refine CutQ_c rfl ?_; simp [checkN, h1])
end Go.Proofs.YtephecognbbaoaaGreat
namespace Go.Proofs.YtephecognbbaoaaGreat
/-- What is known of a state that came in. -/
structure StOk (x : List (List Int)) : Prop where
  len : x.length ≤ 5864062014634
  row : ∀ r ∈ x, r.length ≤ 17592186044000
theorem ACalls.argW {P : Program} {f : FuncId} {args args' : List AV} {σ : Store} {R : AV → Store → Prop} (h : ACalls P f args' σ R) (hw : WkL args args') : ACalls P f args σ R := fun K imm m w vs hs hv => h K imm m w vs hs (hw _ _ _ hv)
theorem sameState_calls (a b : List (List Int)) (ha : StOk a) (σ : Store) : ACalls Tryz.prog 14 [rowsC a, rowsC b] σ fun r σ' => σ' = σ ∧ r = .c (.bool (decide (a = b))) := by
  have hlen := ha.len
  refine ACalls_of_awp Tryz.func14 rfl Tryz.results14 ?_
  simp only [List.length_cons, List.length_nil, Tryz.ntmps14, Nat.reduceAdd, Nat.reduceSub, enterA]
  (repeat' (first|(refine g_s fun K hK=>?_)|(refine g_b ?_)|(refine g_r ?_)|(refine g_k ?_;simp only[thenQ,blockQ])|(refine g_e ?_;simp only[thenQ,blockQ,↓reduceIte,Nat.reduceEqDiff])|(refine g_c (fun h=>?_) (fun h=>?_)<;>(try simp only[go_sem] at h)<;>(try exact g_f))|((first|refine g_t ?_|refine g_g ?_|refine g_U ?_|refine g_A ?_|refine g_W ?_);(try simp -implicitDefEqProofs only[go_sem]))|(with_reducible refine hK _ _ ?_;clear hK K)|(clear hK K;first|(with_reducible refine hK _ _ ?_;clear hK K)|(clear hK K;with_reducible refine hK _ _ ?_;clear hK K)|(clear hK K;clear hK K;with_reducible refine hK _ _ ?_;clear hK K))|(with_reducible refine splitB_intro (fun h=>?_) (fun h=>?_)<;>(try simp only[go_sem] at h)<;>(try exact g_f)<;>(try simp -implicitDefEqProofs only[go_sem]))|(with_reducible refine And.intro (fun h=>?_) (fun h=>?_)<;>(try simp only[go_sem] at h)<;>(try exact g_f))|(with_reducible refine And.intro ?_ ?_;· exact g_x)|(with_reducible intro h;(try simp only[go_sem] at h);(try exact g_f))))
  · rw [decide_eq_false (fun e : a = b => h (by rw [e]))]
  have hle : a.length = b.length := by omega
  refine AWP_for (a.length : Int) (fun k _ => ∀ i : Int, 0 ≤ i → i < k → at0 a i = at0 b i) (fun k _ _ => [(5, intA1 k)]) (fun _ _ _ => σ) () [] (by omega) (fun i h1 h2 => by omega) rfl (ALe_of ?_) ?_
  · simp -implicitDefEqProofs only [go_sem]
  · rintro k _ τ hk0 hk1 hH L hL
    by_cases hk2 : k < a.length
    · have hml : (at0 a k).length ≤ 1000000000000000000 := by have := ha.row _ (at0_mem a hk0 hk2); omega
      simp -implicitDefEqProofs only [go_sem]
      (repeat' (first|(refine g_s fun K hK=>?_)|(refine g_b ?_)|(refine g_r ?_)|(refine g_k ?_;simp only[thenQ,blockQ])|(refine g_e ?_;simp only[thenQ,blockQ,↓reduceIte,Nat.reduceEqDiff])|(refine g_c (fun h=>?_) (fun h=>?_)<;>(try simp only[go_sem] at h)<;>(try exact g_f))|((first|refine g_t ?_|refine g_g ?_|refine g_U ?_|refine g_A ?_|refine (sameInts_calls _ _ hml _).use ?_|refine g_q (fun τ=>sameInts_calls _ _ hml _) ?_|refine g_W ?_);(try simp -implicitDefEqProofs only[go_sem]))|(with_reducible refine hK _ _ ?_;clear hK K)|(clear hK K;first|(with_reducible refine hK _ _ ?_;clear hK K)|(clear hK K;with_reducible refine hK _ _ ?_;clear hK K)|(clear hK K;clear hK K;with_reducible refine hK _ _ ?_;clear hK K))|(with_reducible refine splitB_intro (fun h=>?_) (fun h=>?_)<;>(try simp only[go_sem] at h)<;>(try exact g_f)<;>(try simp -implicitDefEqProofs only[go_sem]))|(with_reducible refine And.intro (fun h=>?_) (fun h=>?_)<;>(try simp only[go_sem] at h)<;>(try exact g_f))|(with_reducible refine And.intro ?_ ?_;· exact g_x)|(with_reducible intro h;(try simp only[go_sem] at h);(try exact g_f))))
      · have hne : at0 a k ≠ at0 b k := by simpa using h
        rw [decide_eq_false (fun e : a = b => hne (by rw [e]))]
      · have heq : at0 a k = at0 b k := by simpa using h
        refine hL hk2 () [] _ _ ?_ (ALe_of ?_) rfl
        · intro i h1 h2
          rcases Int.lt_or_eq_of_le (Int.le_of_lt_add_one h2) with h3 | h3
          · exact hH i h1 h3
          · rw [h3]; exact heq
        · simp -implicitDefEqProofs only [go_sem]
    · simp -implicitDefEqProofs only [go_sem]
      (repeat' (first|(refine g_s fun K hK=>?_)|(refine g_b ?_)|(refine g_r ?_)|(refine g_k ?_;simp only[thenQ,blockQ])|(refine g_e ?_;simp only[thenQ,blockQ,↓reduceIte,Nat.reduceEqDiff])|(refine g_c (fun h=>?_) (fun h=>?_)<;>(try simp only[go_sem] at h)<;>(try exact g_f))|((first|refine g_t ?_|refine g_g ?_|refine g_U ?_|refine g_A ?_|refine g_W ?_);(try simp -implicitDefEqProofs only[go_sem]))|(with_reducible refine hK _ _ ?_;clear hK K)|(clear hK K;first|(with_reducible refine hK _ _ ?_;clear hK K)|(clear hK K;with_reducible refine hK _ _ ?_;clear hK K)|(clear hK K;clear hK K;with_reducible refine hK _ _ ?_;clear hK K))|(with_reducible refine splitB_intro (fun h=>?_) (fun h=>?_)<;>(try simp only[go_sem] at h)<;>(try exact g_f)<;>(try simp -implicitDefEqProofs only[go_sem]))|(with_reducible refine And.intro (fun h=>?_) (fun h=>?_)<;>(try simp only[go_sem] at h)<;>(try exact g_f))|(with_reducible refine And.intro ?_ ?_;· exact g_x)|(with_reducible intro h;(try simp only[go_sem] at h);(try exact g_f))))
      rw [decide_eq_true (at0_eq hle fun i h1 h2 => hH i h1 (by omega) : a = b)]
end Go.Proofs.YtephecognbbaoaaGreat
/- States: copied, compared. -/
namespace Go.Proofs.YtephecognbbaoaaGreat
def uintA (n : Int) : AV := .c (.int .u64 n)
attribute [go_sem] uintA
theorem ok_mul64 : callOk Tryz.prog 151 = true := by kernel_rfl
theorem ok_mul : callOk Tryz.prog 127 = true := by kernel_rfl
attribute [go_sem] ok_mul64 ok_mul
theorem mul64_calls (n : Int) (h : n = 1 ∨ n = 2 ∨ n = 3 ∨ n = 4 ∨ n = 5 ∨ n = 6) (σ : Store) : ACalls Tryz.prog 151 [uintA 1, uintA n] σ fun r σ' => σ' = σ ∧ r = .tup [uintA 0, uintA n] := by
  rcases h with rfl | rfl | rfl | rfl | rfl | rfl
  all_goals refine ACalls_of_awp Tryz.func151 rfl Tryz.results151 ?_
            simp only [List.length_cons, List.length_nil, Tryz.ntmps151, Nat.reduceAdd, Nat.reduceSub, enterA]
  all_goals (repeat' (first|(refine g_s fun K hK=>?_)|(refine g_b ?_)|(refine g_r ?_)|(refine g_k ?_;simp only[thenQ,blockQ])|(refine g_e ?_;simp only[thenQ,blockQ,↓reduceIte,Nat.reduceEqDiff])|(refine g_c (fun h=>?_) (fun h=>?_)<;>(try simp only[go_sem] at h)<;>(try exact g_f))|((first|refine g_t ?_|refine g_g ?_|refine g_U ?_|refine g_A ?_|refine g_W ?_);(try simp -implicitDefEqProofs only[go_sem]))|(with_reducible refine hK _ _ ?_;clear hK K)|(clear hK K;first|(with_reducible refine hK _ _ ?_;clear hK K)|(clear hK K;with_reducible refine hK _ _ ?_;clear hK K)|(clear hK K;clear hK K;with_reducible refine hK _ _ ?_;clear hK K))|(with_reducible refine splitB_intro (fun h=>?_) (fun h=>?_)<;>(try simp only[go_sem] at h)<;>(try exact g_f)<;>(try simp -implicitDefEqProofs only[go_sem]))|(with_reducible refine And.intro (fun h=>?_) (fun h=>?_)<;>(try simp only[go_sem] at h)<;>(try exact g_f))|(with_reducible refine And.intro ?_ ?_;· exact g_x)|(with_reducible intro h;(try simp only[go_sem] at h);(try exact g_f))))
  all_goals rfl
theorem mul_calls (n : Int) (h : n = 1 ∨ n = 2 ∨ n = 3 ∨ n = 4 ∨ n = 5 ∨ n = 6) (σ : Store) : ACalls Tryz.prog 127 [uintA 1, uintA n] σ fun r σ' => σ' = σ ∧ r = .tup [uintA 0, uintA n] := by
  have w1 : IntKind.u64.wrap 1 = 1 := by decide
  have w0 : IntKind.u64.wrap 0 = 0 := by decide
  have wn : IntKind.u64.wrap n = n := by rcases h with rfl | rfl | rfl | rfl | rfl | rfl <;> decide
  refine ACalls_of_awp Tryz.func127 rfl Tryz.results127 ?_
  simp only [List.length_cons, List.length_nil, Tryz.ntmps127, Nat.reduceAdd, Nat.reduceSub, enterA]
  (repeat' (first|(refine g_s fun K hK=>?_)|(refine g_b ?_)|(refine g_r ?_)|(refine g_k ?_;simp only[thenQ,blockQ])|(refine g_e ?_;simp only[thenQ,blockQ,↓reduceIte,Nat.reduceEqDiff])|(refine g_c (fun h=>?_) (fun h=>?_)<;>(try simp only[go_sem] at h)<;>(try exact g_f))|((first|refine g_t ?_|refine g_g ?_|refine g_U ?_|refine g_A ?_);(try simp -implicitDefEqProofs only[go_sem]))|(with_reducible refine hK _ _ ?_;clear hK K)|(clear hK K;first|(with_reducible refine hK _ _ ?_;clear hK K)|(clear hK K;with_reducible refine hK _ _ ?_;clear hK K)|(clear hK K;clear hK K;with_reducible refine hK _ _ ?_;clear hK K))|(with_reducible refine splitB_intro (fun h=>?_) (fun h=>?_)<;>(try simp only[go_sem] at h)<;>(try exact g_f)<;>(try simp -implicitDefEqProofs only[go_sem]))|(with_reducible refine And.intro (fun h=>?_) (fun h=>?_)<;>(try simp only[go_sem] at h)<;>(try exact g_f))|(with_reducible refine And.intro ?_ ?_;· exact g_x)|(with_reducible intro h;(try simp only[go_sem] at h);(try exact g_f))))
  refine AWP_condC (fun h => by cases h) (fun _ => ?_)
  (repeat' (first|(refine g_s fun K hK=>?_)|(refine g_b ?_)|(refine g_r ?_)|(refine g_k ?_;simp only[thenQ,blockQ])|(refine g_e ?_;simp only[thenQ,blockQ,↓reduceIte,Nat.reduceEqDiff])|(refine g_c (fun h=>?_) (fun h=>?_)<;>(try simp only[go_sem] at h)<;>(try exact g_f))|((first|refine g_t ?_|refine g_g ?_|refine g_U ?_|refine g_A ?_|refine (mul64_calls n h _).use ?_|refine g_q (fun τ=>mul64_calls n h _) ?_|refine g_W ?_);(try simp -implicitDefEqProofs only[go_sem,w1, wn]))|(with_reducible refine hK _ _ ?_;clear hK K)|(clear hK K;first|(with_reducible refine hK _ _ ?_;clear hK K)|(clear hK K;with_reducible refine hK _ _ ?_;clear hK K)|(clear hK K;clear hK K;with_reducible refine hK _ _ ?_;clear hK K))|(with_reducible refine splitB_intro (fun h=>?_) (fun h=>?_)<;>(try simp only[go_sem] at h)<;>(try exact g_f)<;>(try simp -implicitDefEqProofs only[go_sem,w1, wn]))|(with_reducible refine And.intro (fun h=>?_) (fun h=>?_)<;>(try simp only[go_sem] at h)<;>(try exact g_f))|(with_reducible refine And.intro ?_ ?_;· exact g_x)|(with_reducible intro h;(try simp only[go_sem] at h);(try exact g_f))))
theorem convA_u64 {P : Program} {k k' : IntKind} {n : Int} {σ : Store} {K : AV → Store → Prop} : convA P (some (.int k)) (some (.int .u64)) (.c (.int k' n)) σ K = K (.c (.int .u64 (IntKind.u64.wrap n))) σ := rfl
attribute [go_sem] convA_u64
theorem nc0 : ((0 : Nat) : Int) = 0 := rfl
theorem nc1 : ((1 : Nat) : Int) = 1 := rfl
theorem nc2 : ((2 : Nat) : Int) = 2 := rfl
theorem nc3 : ((3 : Nat) : Int) = 3 := rfl
theorem nc4 : ((4 : Nat) : Int) = 4 := rfl
theorem nc5 : ((5 : Nat) : Int) = 5 := rfl
theorem nc6 : ((6 : Nat) : Int) = 6 := rfl
theorem repeat_calls (v n : Int) (h : n = 1 ∨ n = 2 ∨ n = 3 ∨ n = 4 ∨ n = 5 ∨ n = 6) (σ : Store) : ACalls Tryz.prog 92 [intsA [v], intA1 n] σ fun r σ' => σ' = σ ++ [.cells 1 ((List.replicate n.toNat v).map intC)] ∧ r = .own σ.length 1 0 n.toNat n.toNat := by
  have w1 : IntKind.u64.wrap 1 = 1 := by decide
  have wn : IntKind.u64.wrap n = n := by rcases h with rfl | rfl | rfl | rfl | rfl | rfl <;> decide
  have hm := mul_calls n h
  rcases h with rfl | rfl | rfl | rfl | rfl | rfl
  all_goals refine ACalls_of_awp Tryz.func92 rfl Tryz.results92 ?_
            simp only [List.length_cons, List.length_nil, Tryz.ntmps92, Nat.reduceAdd, Nat.reduceSub, enterA]
  all_goals (repeat' (first|(refine g_s fun K hK=>?_)|(refine g_b ?_)|(refine g_r ?_)|(refine g_k ?_;simp only[thenQ,blockQ])|(refine g_e ?_;simp only[thenQ,blockQ,↓reduceIte,Nat.reduceEqDiff])|(refine g_c (fun h=>?_) (fun h=>?_)<;>(try simp only[go_sem] at h)<;>(try exact g_f))|((first|refine g_t ?_|refine g_g ?_|refine g_U ?_|refine g_A ?_|refine (hm _).use ?_|refine g_q (fun τ=>hm _) ?_);(try simp -implicitDefEqProofs only[go_sem,nc0, nc1, nc2, nc3, nc4, nc5, nc6, w1, wn, List.map_cons, List.map_nil, List.replicate]))|(with_reducible refine hK _ _ ?_;clear hK K)|(clear hK K;first|(with_reducible refine hK _ _ ?_;clear hK K)|(clear hK K;with_reducible refine hK _ _ ?_;clear hK K)|(clear hK K;clear hK K;with_reducible refine hK _ _ ?_;clear hK K))|(with_reducible refine splitB_intro (fun h=>?_) (fun h=>?_)<;>(try simp only[go_sem] at h)<;>(try exact g_f)<;>(try simp -implicitDefEqProofs only[go_sem,nc0, nc1, nc2, nc3, nc4, nc5, nc6, w1, wn, List.map_cons, List.map_nil, List.replicate]))|(with_reducible refine And.intro (fun h=>?_) (fun h=>?_)<;>(try simp only[go_sem] at h)<;>(try exact g_f))|(with_reducible refine And.intro ?_ ?_;· exact g_x)|(with_reducible intro h;(try simp only[go_sem] at h);(try exact g_f))))
  all_goals refine AWP_rounds 4 ?_
  all_goals (repeat' (first|(refine g_s fun K hK=>?_)|(refine g_b ?_)|(refine g_r ?_)|(refine g_k ?_;simp only[thenQ,blockQ])|(refine g_e ?_;simp only[thenQ,blockQ,↓reduceIte,Nat.reduceEqDiff])|(refine g_c (fun h=>?_) (fun h=>?_)<;>(try simp only[go_sem] at h)<;>(try exact g_f))|((first|refine g_t ?_|refine g_g ?_|refine g_U ?_|refine g_A ?_|refine AWP_drawL false true tab_mixed (by decide +kernel) ?_);(try simp -implicitDefEqProofs only[go_sem,nc0, nc1, nc2, nc3, nc4, nc5, nc6, w1, wn, List.map_cons, List.map_nil, Nat.min_def, List.take, List.drop]))|(with_reducible refine hK _ _ ?_;clear hK K)|(clear hK K;first|(with_reducible refine hK _ _ ?_;clear hK K)|(clear hK K;with_reducible refine hK _ _ ?_;clear hK K)|(clear hK K;clear hK K;with_reducible refine hK _ _ ?_;clear hK K))|(with_reducible refine splitB_intro (fun h=>?_) (fun h=>?_)<;>(try simp only[go_sem] at h)<;>(try exact g_f)<;>(try simp -implicitDefEqProofs only[go_sem,nc0, nc1, nc2, nc3, nc4, nc5, nc6, w1, wn, List.map_cons, List.map_nil, Nat.min_def, List.take, List.drop]))|(with_reducible refine And.intro (fun h=>?_) (fun h=>?_)<;>(try simp only[go_sem] at h)<;>(try exact g_f))|(with_reducible refine And.intro ?_ ?_;· exact g_x)|(with_reducible intro h;(try simp only[go_sem] at h);(try exact g_f))))
  all_goals rfl
end Go.Proofs.YtephecognbbaoaaGreat
namespace Go.Proofs.YtephecognbbaoaaGreat
theorem clone_calls (l : List Int) (hl : l.length ≤ 17592186044000) (σ : Store) : ACalls Tryz.prog 80 [intsA l] σ fun r σ' => σ' = σ ∧ r = intsA l := by
  refine ACalls.cutX ?_
  refine ACalls_of_awp Tryz.func80 rfl Tryz.results80 ?_
  simp only [List.length_cons, List.length_nil, Tryz.ntmps80, Nat.reduceAdd, Nat.reduceSub, enterA]
  (repeat' (first|(refine g_s fun K hK=>?_)|(refine g_b ?_)|(refine g_r ?_)|(refine g_k ?_;simp only[thenQ,blockQ])|(refine g_e ?_;simp only[thenQ,blockQ,↓reduceIte,Nat.reduceEqDiff])|(refine g_c (fun h=>?_) (fun h=>?_)<;>(try simp only[go_sem] at h)<;>(try exact g_f))|((first|refine g_g ?_|refine g_U ?_|refine g_A ?_|refine g_W ?_);(try simp -implicitDefEqProofs only[go_sem]))|(with_reducible refine hK _ _ ?_;clear hK K)|(clear hK K;first|(with_reducible refine hK _ _ ?_;clear hK K)|(clear hK K;with_reducible refine hK _ _ ?_;clear hK K)|(clear hK K;clear hK K;with_reducible refine hK _ _ ?_;clear hK K))|(with_reducible refine splitB_intro (fun h=>?_) (fun h=>?_)<;>(try simp only[go_sem] at h)<;>(try exact g_f)<;>(try simp -implicitDefEqProofs only[go_sem]))|(with_reducible refine And.intro (fun h=>?_) (fun h=>?_)<;>(try simp only[go_sem] at h)<;>(try exact g_f))|(with_reducible refine And.intro ?_ ?_;· exact g_x)|(with_reducible intro h;(try simp only[go_sem] at h);(try exact g_f))))
  refine ⟨fun h => ?_, ?_⟩
  · have e : l = [] := List.eq_nil_of_length_eq_zero h
    subst e
    refine hK _ _ ?_; clear hK K
    (repeat' (first|(refine g_s fun K hK=>?_)|(refine g_b ?_)|(refine g_r ?_)|(refine g_k ?_;simp only[thenQ,blockQ])|(refine g_e ?_;simp only[thenQ,blockQ,↓reduceIte,Nat.reduceEqDiff])|(refine g_c (fun h=>?_) (fun h=>?_)<;>(try simp only[go_sem] at h)<;>(try exact g_f))|((first|refine g_t ?_|refine g_g ?_|refine g_U ?_|refine g_A ?_|refine g_W ?_);(try simp -implicitDefEqProofs only[go_sem]))|(with_reducible refine hK _ _ ?_;clear hK K)|(clear hK K;first|(with_reducible refine hK _ _ ?_;clear hK K)|(clear hK K;with_reducible refine hK _ _ ?_;clear hK K)|(clear hK K;clear hK K;with_reducible refine hK _ _ ?_;clear hK K))|(with_reducible refine splitB_intro (fun h=>?_) (fun h=>?_)<;>(try simp only[go_sem] at h)<;>(try exact g_f)<;>(try simp -implicitDefEqProofs only[go_sem]))|(with_reducible refine And.intro (fun h=>?_) (fun h=>?_)<;>(try simp only[go_sem] at h)<;>(try exact g_f))|(with_reducible refine And.intro ?_ ?_;· exact g_x)|(with_reducible intro h;(try simp only[go_sem] at h);(try exact g_f))))
    exact CutQ_w (τ := []) (by simp) (.c _) .nil
  · refine hK _ _ ?_; clear hK K
    (repeat' (first|(refine g_s fun K hK=>?_)|(refine g_b ?_)|(refine g_r ?_)|(refine g_k ?_;simp only[thenQ,blockQ])|(refine g_e ?_;simp only[thenQ,blockQ,↓reduceIte,Nat.reduceEqDiff])|(refine g_c (fun h=>?_) (fun h=>?_)<;>(try simp only[go_sem] at h)<;>(try exact g_f))|((first|refine g_g ?_|refine g_U ?_|refine g_A ?_|refine g_W ?_);(try simp -implicitDefEqProofs only[go_sem]))|(with_reducible refine hK _ _ ?_;clear hK K)|(clear hK K;first|(with_reducible refine hK _ _ ?_;clear hK K)|(clear hK K;with_reducible refine hK _ _ ?_;clear hK K)|(clear hK K;clear hK K;with_reducible refine hK _ _ ?_;clear hK K))|(with_reducible refine splitB_intro (fun h=>?_) (fun h=>?_)<;>(try simp only[go_sem] at h)<;>(try exact g_f)<;>(try simp -implicitDefEqProofs only[go_sem]))|(with_reducible refine And.intro (fun h=>?_) (fun h=>?_)<;>(try simp only[go_sem] at h)<;>(try exact g_f))|(with_reducible refine And.intro ?_ ?_;· exact g_x)|(with_reducible intro h;(try simp only[go_sem] at h);(try exact g_f))))
    refine AWP_freezeT 2 (a := .own (σ.length + 1) 1 0 l.length l.length) (es := l.map intC) (by first | rfl | (simp -implicitDefEqProofs only [go_sem]; done) | (simp -implicitDefEqProofs only [go_sem]; rfl)) (by simp [elemsA, st1]) ?_
    have hkil : killA (σ ++ [Ob.dead, Ob.cells 1 (List.map intC l)]) (.own (σ.length + 1) 1 0 l.length l.length) = σ ++ [.dead, .dead] := by simp [killA]
    rw [hkil]
    (repeat' (first|(refine g_s fun K hK=>?_)|(refine g_b ?_)|(refine g_r ?_)|(refine g_k ?_;simp only[thenQ,blockQ])|(refine g_e ?_;simp only[thenQ,blockQ,↓reduceIte,Nat.reduceEqDiff])|(refine g_c (fun h=>?_) (fun h=>?_)<;>(try simp only[go_sem] at h)<;>(try exact g_f))|((first|refine g_t ?_|refine g_g ?_|refine g_U ?_|refine g_A ?_|refine g_W ?_);(try simp -implicitDefEqProofs only[go_sem]))|(with_reducible refine hK _ _ ?_;clear hK K)|(clear hK K;first|(with_reducible refine hK _ _ ?_;clear hK K)|(clear hK K;with_reducible refine hK _ _ ?_;clear hK K)|(clear hK K;clear hK K;with_reducible refine hK _ _ ?_;clear hK K))|(with_reducible refine splitB_intro (fun h=>?_) (fun h=>?_)<;>(try simp only[go_sem] at h)<;>(try exact g_f)<;>(try simp -implicitDefEqProofs only[go_sem]))|(with_reducible refine And.intro (fun h=>?_) (fun h=>?_)<;>(try simp only[go_sem] at h)<;>(try exact g_f))|(with_reducible refine And.intro ?_ ?_;· exact g_x)|(with_reducible intro h;(try simp only[go_sem] at h);(try exact g_f))))
    exact CutQ_w rfl (Bd.ints l) (.eq rfl)
theorem own_calls (x : List (List Int)) (ok : StOk x) (σ : Store) : ACalls Tryz.prog 47 [rowsC x] σ fun r σ' => σ' = σ ∧ r = rowsC x := by
  have hlen := ok.len
  refine ACalls.cutX ?_
  refine ACalls_of_awp Tryz.func47 rfl Tryz.results47 ?_
  simp only [List.length_cons, List.length_nil, Tryz.ntmps47, Nat.reduceAdd, Nat.reduceSub, enterA]
  (repeat' (first|(refine g_s fun K hK=>?_)|(refine g_b ?_)|(refine g_r ?_)|(refine g_k ?_;simp only[thenQ,blockQ])|(refine g_e ?_;simp only[thenQ,blockQ,↓reduceIte,Nat.reduceEqDiff])|(refine g_c (fun h=>?_) (fun h=>?_)<;>(try simp only[go_sem] at h)<;>(try exact g_f))|((first|refine g_t ?_|refine g_G ?_|refine g_U ?_|refine g_A ?_|refine g_W ?_);(try simp -implicitDefEqProofs only[go_sem]))|(with_reducible refine hK _ _ ?_;clear hK K)|(clear hK K;first|(with_reducible refine hK _ _ ?_;clear hK K)|(clear hK K;with_reducible refine hK _ _ ?_;clear hK K)|(clear hK K;clear hK K;with_reducible refine hK _ _ ?_;clear hK K))|(with_reducible refine splitB_intro (fun h=>?_) (fun h=>?_)<;>(try simp only[go_sem] at h)<;>(try exact g_f)<;>(try simp -implicitDefEqProofs only[go_sem]))|(with_reducible refine And.intro (fun h=>?_) (fun h=>?_)<;>(try simp only[go_sem] at h)<;>(try exact g_f))|(with_reducible refine And.intro ?_ ?_;· exact g_x)|(with_reducible intro h;(try simp only[go_sem] at h);(try exact g_f))))
  refine AWP_pad ?_
  have hJ := hK
  clear hK
  refine AWP_each x (fun k r acc => acc ++ r = x) (fun k acc τ => [(8, intA1 k), (3, accV 1 (σ.length + τ.length) acc)]) (fun _ acc τ => σ ++ (τ ++ [accO rowC 1 acc])) [] [] rfl ?_ (ALe_of ?_) ?_ ?_
  · simp [accO]
  · simp -implicitDefEqProofs only [go_sem, accV, accO]
  · rintro k r acc τ hk0 hk1 h3 L hL
    have hmem := at0_mem x hk0 hk1
    obtain ⟨w, hw⟩ : ∃ w, at0 x k = w := ⟨_, rfl⟩
    rw [hw] at h3 hmem
    have hwl := ok.row w hmem
    have hal : acc.length + 1 ≤ x.length := by rw [← h3]; simp
    rcases acc with _ | ⟨y, acc⟩ <;> simp only [List.length_cons, List.length_nil] at hal <;> simp -implicitDefEqProofs only [go_sem, accV, accO]
    all_goals (repeat' (first|(refine g_s fun K hK=>?_)|(refine g_b ?_)|(refine g_r ?_)|(refine g_k ?_;simp only[thenQ,blockQ])|(refine g_e ?_;simp only[thenQ,blockQ,↓reduceIte,Nat.reduceEqDiff])|(refine g_c (fun h=>?_) (fun h=>?_)<;>(try simp only[go_sem] at h)<;>(try exact g_f))|((first|refine g_t ?_|refine g_G ?_|refine g_U ?_|refine g_A ?_|refine (clone_calls w hwl _).use ?_|refine g_q (fun τ=>clone_calls w hwl _) ?_|refine g_W ?_);(try simp -implicitDefEqProofs only[go_sem,hw]))|(with_reducible refine hK _ _ ?_;clear hK K)|(clear hK K;first|(with_reducible refine hK _ _ ?_;clear hK K)|(clear hK K;with_reducible refine hK _ _ ?_;clear hK K)|(clear hK K;clear hK K;with_reducible refine hK _ _ ?_;clear hK K))|(with_reducible refine splitB_intro (fun h=>?_) (fun h=>?_)<;>(try simp only[go_sem] at h)<;>(try exact g_f)<;>(try simp -implicitDefEqProofs only[go_sem,hw]))|(with_reducible refine And.intro (fun h=>?_) (fun h=>?_)<;>(try simp only[go_sem] at h)<;>(try exact g_f))|(with_reducible refine And.intro ?_ ?_;· exact g_x)|(with_reducible intro h;(try simp only[go_sem] at h);(try exact g_f))))
    · refine hL [w] (τ ++ [.dead]) _ _ (by simpa using h3) (ALe_of ?_) ?_
      · simp -implicitDefEqProofs only [go_sem, accV]
      · simp [accO, rowC, intsA]
    · refine hL (y :: acc ++ [w]) (τ ++ [.dead]) _ _ (by simpa using h3) (ALe_of ?_) ?_
      · simp -implicitDefEqProofs only [go_sem, accV]
      · simp [accO, rowC, intsA]
  · rintro k acc τ hk h3 L
    rw [List.append_nil] at h3
    subst h3
    simp -implicitDefEqProofs only [go_sem]
    (repeat' (first|(refine g_s fun K hK=>?_)|(refine g_b ?_)|(refine g_r ?_)|(refine g_k ?_;simp only[thenQ,blockQ])|(refine g_e ?_;simp only[thenQ,blockQ,↓reduceIte,Nat.reduceEqDiff])|(refine g_c (fun h=>?_) (fun h=>?_)<;>(try simp only[go_sem] at h)<;>(try exact g_f))|((first|refine g_g ?_|refine g_U ?_|refine g_A ?_|refine g_W ?_);(try simp -implicitDefEqProofs only[go_sem]))|(with_reducible refine hK _ _ ?_;clear hK K)|(clear hK K;first|(with_reducible refine hK _ _ ?_;clear hK K)|(clear hK K;with_reducible refine hK _ _ ?_;clear hK K)|(clear hK K;clear hK K;with_reducible refine hK _ _ ?_;clear hK K))|(with_reducible refine splitB_intro (fun h=>?_) (fun h=>?_)<;>(try simp only[go_sem] at h)<;>(try exact g_f)<;>(try simp -implicitDefEqProofs only[go_sem]))|(with_reducible refine And.intro (fun h=>?_) (fun h=>?_)<;>(try simp only[go_sem] at h)<;>(try exact g_f))|(with_reducible refine And.intro ?_ ?_;· exact g_x)|(with_reducible intro h;(try simp only[go_sem] at h);(try exact g_f))))
    refine hJ _ _ ?_
    clear hJ
    refine AWP_freezeAcc 3 rowC 1 acc σ τ [] rfl ?_
    (repeat' (first|(refine g_s fun K hK=>?_)|(refine g_b ?_)|(refine g_r ?_)|(refine g_k ?_;simp only[thenQ,blockQ])|(refine g_e ?_;simp only[thenQ,blockQ,↓reduceIte,Nat.reduceEqDiff])|(refine g_c (fun h=>?_) (fun h=>?_)<;>(try simp only[go_sem] at h)<;>(try exact g_f))|((first|refine g_t ?_|refine g_G ?_|refine g_U ?_|refine g_A ?_|refine g_W ?_);(try simp -implicitDefEqProofs only[go_sem]))|(with_reducible refine hK _ _ ?_;clear hK K)|(clear hK K;first|(with_reducible refine hK _ _ ?_;clear hK K)|(clear hK K;with_reducible refine hK _ _ ?_;clear hK K)|(clear hK K;clear hK K;with_reducible refine hK _ _ ?_;clear hK K))|(with_reducible refine splitB_intro (fun h=>?_) (fun h=>?_)<;>(try simp only[go_sem] at h)<;>(try exact g_f)<;>(try simp -implicitDefEqProofs only[go_sem]))|(with_reducible refine And.intro (fun h=>?_) (fun h=>?_)<;>(try simp only[go_sem] at h)<;>(try exact g_f))|(with_reducible refine And.intro ?_ ?_;· exact g_x)|(with_reducible intro h;(try simp only[go_sem] at h);(try exact g_f))))
    exact CutQ_w rfl (Bd.rows acc) (.eq rfl)
end Go.Proofs.YtephecognbbaoaaGreat
namespace Go.Proofs.YtephecognbbaoaaGreat
end Go.Proofs.YtephecognbbaoaaGreat
namespace Go.Proofs.YtephecognbbaoaaGreat
theorem at0_map {X Y : Type} [Inhabited X] [Inhabited Y] (f : X → Y) (l : List X) {k : Int} (h0 : 0 ≤ k) (h : k < l.length) : at0 (l.map f) k = f (at0 l k) := by
  have : k.toNat < l.length := by omega
  simp [at0, List.getD_eq_getElem?_getD, this]
/-- A contract used, whatever it makes. -/
theorem ACalls.useA {P : Program} {f : FuncId} {args : List AV} {σ S : Store} {X : AV} {R : AV → Store → Prop} (h : ACalls P f args σ fun r σ' => σ' = S ∧ r = X) (hr : R X S) : ACalls P f args σ R :=
  h.mono fun _ _ ⟨h1, h2⟩ => by subst h1; subst h2; exact hr
def Ext (σ S : Store) : Prop := ∃ τ, S = σ ++ τ
theorem Ext.a {σ τ : Store} : Ext σ (σ ++ τ) := ⟨τ, rfl⟩
theorem Ext.b {σ τ τ' : Store} : Ext σ ((σ ++ τ) ++ τ') := ⟨τ ++ τ', List.append_assoc ..⟩
theorem set_map (l : List Int) (k : Nat) (v : Int) : (l.map intC).set k [.c (.int .i64 v)] = (l.set k v).map intC := by
  rw [List.map_set]
  rfl
theorem get_map (l : List Int) {k : Int} (h0 : 0 ≤ k) (h : k < l.length) : (l.map intC)[k.toNat]? = some [.c (.int .i64 (at0 l k))] := by
  have : k.toNat < l.length := by omega
  simp [at0, List.getD_eq_getElem?_getD, this, intC]
theorem at0_set (l : List Int) {k q : Int} (v : Int) (h0 : 0 ≤ k) (hq : 0 ≤ q) (h : k < l.length) : at0 (l.set k.toNat v) q = if q = k then v else at0 l q := by
  simp only [at0, List.getD_eq_getElem?_getD, List.getElem?_set]
  by_cases e : q = k
  · subst e
    have : q.toNat < l.length := by omega
    simp [this]
  · have : ¬ k.toNat = q.toNat := by omega
    simp [this, e]
theorem at0_repl (m : Nat) (v : Int) {q : Int} (h0 : 0 ≤ q) (h : q < m) : at0 (List.replicate m v) q = v := by
  have : q.toNat < m := by omega
  simp [at0, List.getD_eq_getElem?_getD, List.getElem?_replicate, this]
theorem look_calls (n : Net) (i : Int) (H : Int → Int → Int) (f : FuncId) (cap : List AV) (σ : Store) (hn : NetIn n) (hl : n.links.length ≤ 5864062014634) (hi0 : 0 ≤ i) (hi1 : i < n.nodes) (hok : callOk Tryz.prog f = true)
    (hH : ∀ k j, 0 ≤ k → k < n.nodes → 0 ≤ j → j < n.nodes → 0 ≤ H k j ∧ H k j < n.alg.size)
    (hf : ∀ k j, 0 ≤ k → k < n.nodes → 0 ≤ j → j < n.nodes → ∀ S, Ext σ S → ACalls Tryz.prog f (intA1 k :: intA1 j :: cap) S fun r σ' => σ' = S ∧ r = intA1 (H k j)) :
    ACalls Tryz.prog 95 [.agg (netC n), intA1 i, .fn f [] cap] σ fun r σ' => σ' = σ ∧ r = intsA ((ints n.nodes).map fun j => routeL n i j (fun k => H k j) n.links) := by
  have n1 := hn.n1
  have n6 := hn.n6
  have s2 := hn.alg.s2
  have s24 := hn.alg.s24
  have hbl := hn.alg.bl
  have hns : n.nodes = 1 ∨ n.nodes = 2 ∨ n.nodes = 3 ∨ n.nodes = 4 ∨ n.nodes = 5 ∨ n.nodes = 6 := by omega
  obtain ⟨row0, hrow0⟩ : ∃ l, l = List.replicate n.nodes.toNat (n.alg.size - 1) := ⟨_, rfl⟩
  have hl0 : (row0.length : Int) = n.nodes := by rw [hrow0, List.length_replicate]; omega
  have hg0 := get_map row0 hi0 (by omega)
  refine ACalls.cutX ?_
  refine ACalls_of_awp Tryz.func95 rfl Tryz.results95 ?_
  simp only [List.length_cons, List.length_nil, Tryz.ntmps95, Nat.reduceAdd, Nat.reduceSub, enterA]
  refine AWP_seq_k fun K hK => ?_
  (refine AWP_region ?_; simp -implicitDefEqProofs only [go_sem])
  refine hK _ _ ?_; clear hK K
  refine AWP_freezeP 3 rfl (by simp only [st0]; rfl) ?_
  simp only [ss0, List.set_cons_zero]
  refine AWP_seq_k fun K hK => ?_
  (refine AWP_region ?_; simp -implicitDefEqProofs only [go_sem])
  refine hK _ _ ?_; clear hK K
  refine AWP_freezeP 7 rfl (by first | rfl | (simp -implicitDefEqProofs only [go_sem]; done) | (simp -implicitDefEqProofs only [go_sem]; rfl)) ?_
  simp -implicitDefEqProofs only [go_sem]
  refine AWP_seq_k fun K hK => ?_
  (refine AWP_drawK 5 tab_mixed (by kernel_rfl) ?_; simp -implicitDefEqProofs only [go_sem])
  (repeat' (first|(refine g_s fun K hK=>?_)|(refine g_b ?_)|(refine g_r ?_)|(refine g_k ?_;simp only[thenQ,blockQ])|(refine g_e ?_;simp only[thenQ,blockQ,↓reduceIte,Nat.reduceEqDiff])|(refine g_c (fun h=>?_) (fun h=>?_)<;>(try simp only[go_sem] at h)<;>(try exact g_f))|((first|refine g_t ?_|refine g_g ?_|refine g_U ?_|refine g_A ?_|refine (invalid_calls n.alg (by unfold I64; omega) _).use ?_|refine g_q (fun τ=>invalid_calls n.alg (by unfold I64; omega) _) ?_|refine ACalls.useA (hrow0 ▸ repeat_calls (n.alg.size - 1) n.nodes hns _) ?_|refine g_W ?_);(try simp -implicitDefEqProofs only[go_sem,hg0, set_map]))|(with_reducible refine hK _ _ ?_;clear hK K)|(clear hK K;first|(with_reducible refine hK _ _ ?_;clear hK K)|(clear hK K;with_reducible refine hK _ _ ?_;clear hK K)|(clear hK K;clear hK K;with_reducible refine hK _ _ ?_;clear hK K))|(with_reducible refine splitB_intro (fun h=>?_) (fun h=>?_)<;>(try simp only[go_sem] at h)<;>(try exact g_f)<;>(try simp -implicitDefEqProofs only[go_sem,hg0, set_map]))|(with_reducible refine And.intro (fun h=>?_) (fun h=>?_)<;>(try simp only[go_sem] at h)<;>(try exact g_f))|(with_reducible refine And.intro ?_ ?_;· exact g_x)|(with_reducible intro h;(try simp only[go_sem] at h);(try exact g_f))))
  have hJ := hK
  clear hK
  obtain ⟨row1, hrow1⟩ : ∃ l, l = row0.set i.toNat 0 := ⟨_, rfl⟩
  rw [← hrow1]
  have hl1 : (row1.length : Int) = n.nodes := by rw [hrow1, List.length_set]; exact hl0
  have hr1 : ∀ q, 0 ≤ q → q < n.nodes → at0 row1 q = if i = q then 0 else n.alg.size - 1 := fun q h0 h1 => by
    rw [hrow1, at0_set row0 0 hi0 h0 (by omega)]
    by_cases e : q = i
    · rw [if_pos e, if_pos e.symm]
    · rw [if_neg e, if_neg (fun e2 => e e2.symm), hrow0, at0_repl _ _ h0 (by omega)]
  refine AWP_each n.links (fun _ r (row : List Int) => (row.length : Int) = n.nodes ∧ ∀ q, 0 ≤ q → q < n.nodes → routeL n i q (fun k => H k q) n.links = r.foldl (fun out l => if l.fr = i then bestA n out (overA n l.edge (H l.dst q)) else out) (at0 row q) ∧ 0 ≤ at0 row q ∧ at0 row q < n.alg.size)
    (fun k _ _ => [(26, intA1 k)]) (fun _ row τ => σ ++ (.dead :: .dead :: .cells 1 (row.map intC) :: τ)) row1 [] ⟨hl1, fun q h0 h1 => ⟨by rw [hr1 q h0 h1]; rfl, by rw [hr1 q h0 h1]; split <;> omega⟩⟩ rfl (ALe_of ?_) ?_ ?_
  · simp -implicitDefEqProofs only [go_sem]
  · rintro k r row τ hk0 hk1 ⟨hrl, hq⟩ L hL
    have hmem := at0_mem n.links hk0 hk1
    obtain ⟨l, hla⟩ : ∃ l, at0 n.links k = l := ⟨_, rfl⟩
    rw [hla] at hq hmem
    have hlk := hn.lnk l hmem
    have hd0 := hlk.d0
    have hd1 := hlk.d1
    have he0 := hlk.e0
    have he1 := hlk.e1
    simp -implicitDefEqProofs only [go_sem]
    by_cases he : l.fr = i
    · (repeat' (first|(refine g_s fun K hK=>?_)|(refine g_b ?_)|(refine g_r ?_)|(refine g_k ?_;simp only[thenQ,blockQ])|(refine g_e ?_;simp only[thenQ,blockQ,↓reduceIte,Nat.reduceEqDiff])|(refine g_c (fun h=>?_) (fun h=>?_)<;>(try simp only[go_sem] at h)<;>(try exact g_f))|((first|refine g_t ?_|refine g_g ?_|refine g_U ?_|refine g_A ?_|refine g_W ?_);(try simp -implicitDefEqProofs only[go_sem,hla]))|(with_reducible refine hK _ _ ?_;clear hK K)|(clear hK K;first|(with_reducible refine hK _ _ ?_;clear hK K)|(clear hK K;with_reducible refine hK _ _ ?_;clear hK K)|(clear hK K;clear hK K;with_reducible refine hK _ _ ?_;clear hK K))|(with_reducible refine splitB_intro (fun h=>?_) (fun h=>?_)<;>(try simp only[go_sem] at h)<;>(try exact g_f)<;>(try simp -implicitDefEqProofs only[go_sem,hla]))|(with_reducible refine And.intro (fun h=>?_) (fun h=>?_)<;>(try simp only[go_sem] at h)<;>(try exact g_f))|(with_reducible refine And.intro ?_ ?_;· exact g_x)|(with_reducible intro h;(try simp only[go_sem] at h);(try exact g_f))))
      have hJ2 := hK
      clear hK
      refine AWP_for n.nodes (fun j (rw' : List Int) => (rw'.length : Int) = n.nodes ∧ ∀ q, 0 ≤ q → q < n.nodes → at0 rw' q = if q < j then bestA n (at0 row q) (overA n l.edge (H l.dst q)) else at0 row q) (fun j _ _ => [(36, intA1 j)])
        (fun _ rw' τ2 => σ ++ (.dead :: .dead :: .cells 1 (rw'.map intC) :: (τ ++ .cells 3 [lnkC l] :: τ2))) row [] (by omega) ⟨hrl, fun q h0 h1 => by rw [if_neg (by omega)]⟩ (by simp [lnkC, intA1]) (ALe_of ?_) ?_
      · simp -implicitDefEqProofs only [go_sem]
      · rintro j rw' τ2 hj0 hj1 ⟨hrl2, hA⟩ L2 hL2
        by_cases hj2 : j < n.nodes
        · have hold := hA j hj0 hj2
          rw [if_neg (by omega)] at hold
          have hrg := (hq j hj0 hj2).2
          rw [← hold] at hrg
          have hHr := hH l.dst j hd0 hd1 hj0 hj2
          have hov := over_in hn ⟨he0, he1⟩ hHr
          have hbi := best_in hn hrg hov
          have hbr := hn.alg.best_len hrg.1 hrg.2
          have her := hn.alg.edge_len he0 he1
          have hg := get_map rw' hj0 (by omega)
          simp only [bestA, overA, at2] at hov hbi
          simp -implicitDefEqProofs only [go_sem]
          (repeat' (first|(refine g_s fun K hK=>?_)|(refine g_b ?_)|(refine g_r ?_)|(refine g_k ?_;simp only[thenQ,blockQ])|(refine g_e ?_;simp only[thenQ,blockQ,↓reduceIte,Nat.reduceEqDiff])|(refine g_c (fun h=>?_) (fun h=>?_)<;>(try simp only[go_sem] at h)<;>(try exact g_f))|((first|refine g_t ?_|refine g_g ?_|refine g_U ?_|refine g_A ?_|refine (hf l.dst j hd0 hd1 hj0 hj2 _ Ext.b).use ?_|refine g_q (fun τ=>hf l.dst j hd0 hd1 hj0 hj2 _ Ext.b) ?_|refine g_W ?_);(try simp -implicitDefEqProofs only[go_sem,hg, set_map]))|(with_reducible refine hK _ _ ?_;clear hK K)|(clear hK K;first|(with_reducible refine hK _ _ ?_;clear hK K)|(clear hK K;with_reducible refine hK _ _ ?_;clear hK K)|(clear hK K;clear hK K;with_reducible refine hK _ _ ?_;clear hK K))|(with_reducible refine splitB_intro (fun h=>?_) (fun h=>?_)<;>(try simp only[go_sem] at h)<;>(try exact g_f)<;>(try simp -implicitDefEqProofs only[go_sem,hg, set_map]))|(with_reducible refine And.intro (fun h=>?_) (fun h=>?_)<;>(try simp only[go_sem] at h)<;>(try exact g_f))|(with_reducible refine And.intro ?_ ?_;· exact g_x)|(with_reducible intro h;(try simp only[go_sem] at h);(try exact g_f))))
          refine hL2 hj2 (rw'.set j.toNat (at0 (at0 n.alg.best (at0 rw' j)) (at0 (at0 n.alg.edges l.edge) (H l.dst j)))) τ2 _ _ ⟨by rw [List.length_set]; exact hrl2, fun q h0 h1 => ?_⟩ (ALe_of ?_) rfl
          · rw [at0_set rw' _ hj0 h0 (by omega)]
            by_cases e : q = j
            · rw [if_pos e, if_pos (by omega), e, ← hold]
              rfl
            · rw [if_neg e, hA q h0 h1]
              by_cases e2 : q < j
              · rw [if_pos e2, if_pos (by omega)]
              · rw [if_neg e2, if_neg (by omega)]
          · simp -implicitDefEqProofs only [go_sem]
        · simp -implicitDefEqProofs only [go_sem]
          (repeat' (first|(refine g_s fun K hK=>?_)|(refine g_b ?_)|(refine g_r ?_)|(refine g_k ?_;simp only[thenQ,blockQ])|(refine g_e ?_;simp only[thenQ,blockQ,↓reduceIte,Nat.reduceEqDiff])|(refine g_c (fun h=>?_) (fun h=>?_)<;>(try simp only[go_sem] at h)<;>(try exact g_f))|((first|refine g_t ?_|refine g_g ?_|refine g_U ?_|refine g_A ?_|refine g_W ?_);(try simp -implicitDefEqProofs only[go_sem]))|(with_reducible refine hK _ _ ?_;clear hK K)|(clear hK K;first|(with_reducible refine hK _ _ ?_;clear hK K)|(clear hK K;with_reducible refine hK _ _ ?_;clear hK K)|(clear hK K;clear hK K;with_reducible refine hK _ _ ?_;clear hK K))|(with_reducible refine splitB_intro (fun h=>?_) (fun h=>?_)<;>(try simp only[go_sem] at h)<;>(try exact g_f)<;>(try simp -implicitDefEqProofs only[go_sem]))|(with_reducible refine And.intro (fun h=>?_) (fun h=>?_)<;>(try simp only[go_sem] at h)<;>(try exact g_f))|(with_reducible refine And.intro ?_ ?_;· exact g_x)|(with_reducible intro h;(try simp only[go_sem] at h);(try exact g_f))))
          refine hJ2 _ _ ?_
          clear hJ2
          (repeat' (first|(refine g_s fun K hK=>?_)|(refine g_b ?_)|(refine g_r ?_)|(refine g_k ?_;simp only[thenQ,blockQ])|(refine g_e ?_;simp only[thenQ,blockQ,↓reduceIte,Nat.reduceEqDiff])|(refine g_c (fun h=>?_) (fun h=>?_)<;>(try simp only[go_sem] at h)<;>(try exact g_f))|((first|refine g_t ?_|refine g_g ?_|refine g_U ?_|refine g_A ?_|refine g_W ?_);(try simp -implicitDefEqProofs only[go_sem]))|(with_reducible refine hK _ _ ?_;clear hK K)|(clear hK K;first|(with_reducible refine hK _ _ ?_;clear hK K)|(clear hK K;with_reducible refine hK _ _ ?_;clear hK K)|(clear hK K;clear hK K;with_reducible refine hK _ _ ?_;clear hK K))|(with_reducible refine splitB_intro (fun h=>?_) (fun h=>?_)<;>(try simp only[go_sem] at h)<;>(try exact g_f)<;>(try simp -implicitDefEqProofs only[go_sem]))|(with_reducible refine And.intro (fun h=>?_) (fun h=>?_)<;>(try simp only[go_sem] at h)<;>(try exact g_f))|(with_reducible refine And.intro ?_ ?_;· exact g_x)|(with_reducible intro h;(try simp only[go_sem] at h);(try exact g_f))))
          refine hL rw' (τ ++ .cells 3 [lnkC l] :: τ2) _ _ ⟨hrl2, fun q h0 h1 => ?_⟩ (ALe_of ?_) (by simp [lnkC, intA1])
          · have h3 := hq q h0 h1
            have h4 := hA q h0 h1
            rw [if_pos (by omega)] at h4
            rw [List.foldl_cons, if_pos he] at h3
            rw [h4]
            exact ⟨h3.1, best_in hn h3.2 (over_in hn ⟨he0, he1⟩ (hH l.dst q hd0 hd1 h0 h1))⟩
          · simp -implicitDefEqProofs only [go_sem]
    · (repeat' (first|(refine g_s fun K hK=>?_)|(refine g_b ?_)|(refine g_r ?_)|(refine g_k ?_;simp only[thenQ,blockQ])|(refine g_e ?_;simp only[thenQ,blockQ,↓reduceIte,Nat.reduceEqDiff])|(refine g_c (fun h=>?_) (fun h=>?_)<;>(try simp only[go_sem] at h)<;>(try exact g_f))|((first|refine g_t ?_|refine g_g ?_|refine g_U ?_|refine g_A ?_|refine g_W ?_);(try simp -implicitDefEqProofs only[go_sem,hla]))|(with_reducible refine hK _ _ ?_;clear hK K)|(clear hK K;first|(with_reducible refine hK _ _ ?_;clear hK K)|(clear hK K;with_reducible refine hK _ _ ?_;clear hK K)|(clear hK K;clear hK K;with_reducible refine hK _ _ ?_;clear hK K))|(with_reducible refine splitB_intro (fun h=>?_) (fun h=>?_)<;>(try simp only[go_sem] at h)<;>(try exact g_f)<;>(try simp -implicitDefEqProofs only[go_sem,hla]))|(with_reducible refine And.intro (fun h=>?_) (fun h=>?_)<;>(try simp only[go_sem] at h)<;>(try exact g_f))|(with_reducible refine And.intro ?_ ?_;· exact g_x)|(with_reducible intro h;(try simp only[go_sem] at h);(try exact g_f))))
      refine hL row (τ ++ [.cells 3 [lnkC l]]) _ _ ⟨hrl, fun q h0 h1 => ?_⟩ (ALe_of ?_) (by simp [lnkC, intA1])
      · have h3 := hq q h0 h1
        rw [List.foldl_cons, if_neg he] at h3
        exact h3
      · simp -implicitDefEqProofs only [go_sem]
  · rintro k row τ hk ⟨hrl, hq⟩ L
    simp -implicitDefEqProofs only [go_sem]
    (repeat' (first|(refine g_s fun K hK=>?_)|(refine g_b ?_)|(refine g_r ?_)|(refine g_k ?_;simp only[thenQ,blockQ])|(refine g_e ?_;simp only[thenQ,blockQ,↓reduceIte,Nat.reduceEqDiff])|(refine g_c (fun h=>?_) (fun h=>?_)<;>(try simp only[go_sem] at h)<;>(try exact g_f))|((first|refine g_g ?_|refine g_U ?_|refine g_A ?_|refine g_W ?_);(try simp -implicitDefEqProofs only[go_sem]))|(with_reducible refine hK _ _ ?_;clear hK K)|(clear hK K;first|(with_reducible refine hK _ _ ?_;clear hK K)|(clear hK K;with_reducible refine hK _ _ ?_;clear hK K)|(clear hK K;clear hK K;with_reducible refine hK _ _ ?_;clear hK K))|(with_reducible refine splitB_intro (fun h=>?_) (fun h=>?_)<;>(try simp only[go_sem] at h)<;>(try exact g_f)<;>(try simp -implicitDefEqProofs only[go_sem]))|(with_reducible refine And.intro (fun h=>?_) (fun h=>?_)<;>(try simp only[go_sem] at h)<;>(try exact g_f))|(with_reducible refine And.intro ?_ ?_;· exact g_x)|(with_reducible intro h;(try simp only[go_sem] at h);(try exact g_f))))
    refine hJ _ _ ?_
    clear hJ
    refine AWP_freezeT 8 (a := .own (σ.length + 2) 1 0 n.nodes.toNat n.nodes.toNat) (es := row.map intC) (by first | rfl | (simp -implicitDefEqProofs only [go_sem]; done) | (simp -implicitDefEqProofs only [go_sem]; rfl)) (by simp [elemsA, st1]; omega) ?_
    have hkil : killA (σ ++ (.dead :: .dead :: .cells 1 (row.map intC) :: τ)) (.own (σ.length + 2) 1 0 n.nodes.toNat n.nodes.toNat) = σ ++ (.dead :: .dead :: .dead :: τ) := by simp [killA]
    rw [hkil]
    (repeat' (first|(refine g_s fun K hK=>?_)|(refine g_b ?_)|(refine g_r ?_)|(refine g_k ?_;simp only[thenQ,blockQ])|(refine g_e ?_;simp only[thenQ,blockQ,↓reduceIte,Nat.reduceEqDiff])|(refine g_c (fun h=>?_) (fun h=>?_)<;>(try simp only[go_sem] at h)<;>(try exact g_f))|((first|refine g_t ?_|refine g_g ?_|refine g_U ?_|refine g_A ?_|refine g_W ?_);(try simp -implicitDefEqProofs only[go_sem]))|(with_reducible refine hK _ _ ?_;clear hK K)|(clear hK K;first|(with_reducible refine hK _ _ ?_;clear hK K)|(clear hK K;with_reducible refine hK _ _ ?_;clear hK K)|(clear hK K;clear hK K;with_reducible refine hK _ _ ?_;clear hK K))|(with_reducible refine splitB_intro (fun h=>?_) (fun h=>?_)<;>(try simp only[go_sem] at h)<;>(try exact g_f)<;>(try simp -implicitDefEqProofs only[go_sem]))|(with_reducible refine And.intro (fun h=>?_) (fun h=>?_)<;>(try simp only[go_sem] at h)<;>(try exact g_f))|(with_reducible refine And.intro ?_ ?_;· exact g_x)|(with_reducible intro h;(try simp only[go_sem] at h);(try exact g_f))))
    have hrow : row = (ints n.nodes).map fun j => routeL n i j (fun k => H k j) n.links := by
      refine at0_eq (by rw [List.length_map, ints_length]; omega) fun q h0 h1 => ?_
      rw [at0_map _ _ h0 (by rw [ints_length]; omega), at0_ints h0 (by omega), (hq q h0 (by omega)).1]
      rfl
    rw [← hrow]
    exact CutQ_w rfl (Bd.ints _) (.eq rfl)
end Go.Proofs.YtephecognbbaoaaGreat
