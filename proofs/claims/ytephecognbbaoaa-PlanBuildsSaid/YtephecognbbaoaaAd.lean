/- Algebras: their form, as the program checks it. -/
import Derived.Test.YtephecognbbaoaaAb
namespace Go.Proofs.Ytephecognbbaoaa
open Go
set_option linter.all false
set_option maxRecDepth 100000
set_option maxHeartbeats 4000000

theorem checkA_size {x : Alg} (h : x.size < 2 ∨ 24 < x.size) : checkA x = 3 := by
  unfold checkA
  rw [if_pos (not_inR.2 h)]
theorem checkA_many {x : Alg} (h : 2 ≤ x.size ∧ x.size ≤ 24) (h2 : 8 < x.edges.length) : checkA x = 2 := by
  unfold checkA
  rw [if_neg (by rw [not_inR]; omega), if_pos h2]
theorem checkA_best {x : Alg} (h : 2 ≤ x.size ∧ x.size ≤ 24) (h2 : x.edges.length ≤ 8) (h3 : (x.best.length : Int) ≠ x.size) : checkA x = 1 := by
  unfold checkA
  rw [if_neg (by rw [not_inR]; omega), if_neg (by omega), if_pos h3]
theorem checkA_row {x : Alg} (h : 2 ≤ x.size ∧ x.size ≤ 24) (h2 : x.edges.length ≤ 8) (h3 : (x.best.length : Int) = x.size) {r : List Int} (hr : r ∈ x.best ++ x.edges) (hn : (r.length : Int) ≠ x.size) : checkA x = 1 := by
  unfold checkA
  rw [if_neg (by rw [not_inR]; omega), if_neg (by omega), if_neg (by omega), if_pos (List.any_eq_true.2 ⟨r, hr, by simpa using hn⟩)]
theorem checkA_val {x : Alg} (h : 2 ≤ x.size ∧ x.size ≤ 24) (h2 : x.edges.length ≤ 8) (h3 : (x.best.length : Int) = x.size) (h4 : ∀ r ∈ x.best ++ x.edges, (r.length : Int) = x.size) {r : List Int} (hr : r ∈ x.best ++ x.edges) {n : Int} (hn : n ∈ r)
    (hb : n < 0 ∨ x.size - 1 < n) : checkA x = 5 := by
  unfold checkA
  rw [if_neg (by rw [not_inR]; omega), if_neg (by omega), if_neg (by omega), if_neg, if_pos (List.any_eq_true.2 ⟨r, hr, List.any_eq_true.2 ⟨n, hn, not_inR.2 hb⟩⟩)]
  intro hc
  obtain ⟨r, hr, hn⟩ := List.any_eq_true.1 hc
  exact (of_decide_eq_true hn) (h4 r hr)

def rows1 (l : List (List Int)) : List AV := [rowsC l]
attribute [go_sem] rows1

theorem check_calls (x : Alg) (hb : x.best.length ≤ 5864062014634) (he : x.edges.length ≤ 5864062014634) (hs : I64 x.size) (hrow : ∀ r ∈ x.best ++ x.edges, r.length ≤ 17592186044000) (σ : Store) :
    ACalls Try.prog 30 [.agg (algC x)] σ fun r σ' => σ' = σ ∧ r = intA1 (checkA x) := by
  refine ACalls.cutX ?_
  refine ACalls_of_awp Try.func30 rfl Try.results30 ?_
  simp only [List.length_cons, List.length_nil, Try.ntmps30, Nat.reduceAdd, Nat.reduceSub, enterA]
  refine AWP_seq_k fun K hK => ?_
  (refine AWP_region ?_; simp -implicitDefEqProofs only [go_sem])
  refine hK _ _ ?_; clear hK K
  refine AWP_freezeP 1 rfl (by simp only [st0]; rfl) ?_
  simp only [ss0, List.set_cons_zero]
  (repeat' (first|(refine g_s fun K hK=>?_)|(refine g_b ?_)|(refine g_r ?_)|(refine g_k ?_;simp only[thenQ,blockQ])|(refine g_e ?_;simp only[thenQ,blockQ,↓reduceIte,Nat.reduceEqDiff])|(refine g_c (fun h=>?_) (fun h=>?_)<;>(try simp only[go_sem] at h)<;>(try exact g_f))|((first|refine g_t ?_|refine g_g ?_|refine g_U ?_|refine g_A ?_|refine (within_calls _ _ _ _).use ?_|refine g_q (fun τ=>within_calls _ _ _ _) ?_|refine g_W ?_);(try simp -implicitDefEqProofs only[go_sem]))|(with_reducible refine hK _ _ ?_;clear hK K)|(clear hK K;first|(with_reducible refine hK _ _ ?_;clear hK K)|(clear hK K;with_reducible refine hK _ _ ?_;clear hK K)|(clear hK K;clear hK K;with_reducible refine hK _ _ ?_;clear hK K))|(with_reducible refine splitB_intro (fun h=>?_) (fun h=>?_)<;>(try simp only[go_sem] at h)<;>(try exact g_f)<;>(try simp -implicitDefEqProofs only[go_sem]))|(with_reducible refine And.intro (fun h=>?_) (fun h=>?_)<;>(try simp only[go_sem] at h)<;>(try exact g_f))|(with_reducible refine And.intro ?_ ?_;· exact g_x)|(with_reducible intro h;(try simp only[go_sem] at h);(try exact g_f))))
  · exact CutQ_c rfl (by rw [checkA_size (not_inR.1 (by rw [h]; rfl))])
  · rename_i h1
    exact CutQ_c rfl (by rw [checkA_many (inR_iff.1 h1) (by omega)])
  · rename_i h1 h2
    exact CutQ_c rfl (by rw [checkA_best (inR_iff.1 h1) (by omega) h])
  rename_i h1 h2
  have hsz := inR_iff.1 h1
  have hbl := h
  have he8 : x.edges.length ≤ 8 := by omega
  clear h h1 h2
  have hJ := hK
  clear hK
  generalize hls : [x.best, x.edges] = ls
  have hlsm : ∀ l ∈ ls, ∀ r ∈ l, r ∈ x.best ++ x.edges := by
    subst hls
    intro l hl r hr
    simp only [List.mem_cons, List.not_mem_nil, or_false] at hl
    rcases hl with rfl | rfl
    · exact List.mem_append_left _ hr
    · exact List.mem_append_right _ hr
  have hlsl : ∀ l ∈ ls, l.length ≤ 24 := by
    subst hls
    intro l hl
    simp only [List.mem_cons, List.not_mem_nil, or_false] at hl
    rcases hl with rfl | rfl <;> omega
  have hst : σ ++ [Ob.dead, Ob.cells 1 [[AV.sl (List.map rowC x.best)], [AV.sl (List.map rowC x.edges)]]] = σ ++ [Ob.dead, Ob.cells 1 (ls.map rows1)] := by subst hls; rfl
  have hll : ls.length = 2 := by subst hls; rfl
  rw [hst]
  refine AWP_each ls (fun k r _ => ∀ l ∈ ls, l ∈ r ∨ ∀ w ∈ l, (w.length : Int) = x.size) (fun k _ _ => [(38, intA1 k)]) (fun _ _ _ => σ ++ [.dead, .cells 1 (ls.map rows1)]) () [] (fun l hl => .inl hl) rfl (ALe_of ?_) ?_ ?_
  · simp -implicitDefEqProofs only [go_sem]
  · rintro k r _ τ hk0 hk1 hH L hL
    have hmem := at0_mem ls hk0 hk1
    obtain ⟨l, hl⟩ : ∃ l, at0 ls k = l := ⟨_, rfl⟩
    rw [hl] at hH hmem
    simp -implicitDefEqProofs only [go_sem]
    (repeat' (first|(refine g_s fun K hK=>?_)|(refine g_b ?_)|(refine g_r ?_)|(refine g_k ?_;simp only[thenQ,blockQ])|(refine g_e ?_;simp only[thenQ,blockQ,↓reduceIte,Nat.reduceEqDiff])|(refine g_c (fun h=>?_) (fun h=>?_)<;>(try simp only[go_sem] at h)<;>(try exact g_f))|((first|refine g_t ?_|refine g_g ?_|refine g_U ?_|refine g_A ?_|refine g_W ?_);(try simp -implicitDefEqProofs only[go_sem,hl]))|(with_reducible refine hK _ _ ?_;clear hK K)|(clear hK K;first|(with_reducible refine hK _ _ ?_;clear hK K)|(clear hK K;with_reducible refine hK _ _ ?_;clear hK K)|(clear hK K;clear hK K;with_reducible refine hK _ _ ?_;clear hK K))|(with_reducible refine splitB_intro (fun h=>?_) (fun h=>?_)<;>(try simp only[go_sem] at h)<;>(try exact g_f)<;>(try simp -implicitDefEqProofs only[go_sem,hl]))|(with_reducible refine And.intro (fun h=>?_) (fun h=>?_)<;>(try simp only[go_sem] at h)<;>(try exact g_f))|(with_reducible refine And.intro ?_ ?_;· exact g_x)|(with_reducible intro h;(try simp only[go_sem] at h);(try exact g_f))))
    refine AWP_each l (fun _ r' _ => ∀ w ∈ l, w ∈ r' ∨ (w.length : Int) = x.size) (fun k' _ _ => [(44, intA1 k')]) (fun _ _ _ => σ ++ [.dead, .cells 1 (ls.map rows1)]) () [] (fun w hw => .inl hw) rfl (ALe_of ?_) ?_ ?_
    · simp -implicitDefEqProofs only [go_sem]
    · rintro k' r' _ τ' hk0' hk1' hH' L' hL'
      have hmem' := at0_mem l hk0' hk1'
      have h24 := hlsl l hmem
      simp -implicitDefEqProofs only [go_sem]
      (repeat' (first|(refine g_s fun K hK=>?_)|(refine g_b ?_)|(refine g_r ?_)|(refine g_k ?_;simp only[thenQ,blockQ])|(refine g_e ?_;simp only[thenQ,blockQ,↓reduceIte,Nat.reduceEqDiff])|(refine g_c (fun h=>?_) (fun h=>?_)<;>(try simp only[go_sem] at h)<;>(try exact g_f))|((first|refine g_t ?_|refine g_g ?_|refine g_U ?_|refine g_A ?_|refine g_W ?_);(try simp -implicitDefEqProofs only[go_sem]))|(with_reducible refine hK _ _ ?_;clear hK K)|(clear hK K;first|(with_reducible refine hK _ _ ?_;clear hK K)|(clear hK K;with_reducible refine hK _ _ ?_;clear hK K)|(clear hK K;clear hK K;with_reducible refine hK _ _ ?_;clear hK K))|(with_reducible refine splitB_intro (fun h=>?_) (fun h=>?_)<;>(try simp only[go_sem] at h)<;>(try exact g_f)<;>(try simp -implicitDefEqProofs only[go_sem]))|(with_reducible refine And.intro (fun h=>?_) (fun h=>?_)<;>(try simp only[go_sem] at h)<;>(try exact g_f))|(with_reducible refine And.intro ?_ ?_;· exact g_x)|(with_reducible intro h;(try simp only[go_sem] at h);(try exact g_f))))
      · exact CutQ_c rfl (by rw [checkA_row hsz he8 hbl (hlsm l hmem _ hmem') h])
      · refine hL' () [] _ _ (fun w hw => ?_) (ALe_of ?_) rfl
        · rcases hH' w hw with h9 | h9
          · rcases List.mem_cons.1 h9 with rfl | h9
            · exact .inr h
            · exact .inl h9
          · exact .inr h9
        · simp -implicitDefEqProofs only [go_sem]
    · rintro k' _ τ' hk' hH' L'
      simp -implicitDefEqProofs only [go_sem]
      (repeat' (first|(refine g_s fun K hK=>?_)|(refine g_b ?_)|(refine g_r ?_)|(refine g_k ?_;simp only[thenQ,blockQ])|(refine g_e ?_;simp only[thenQ,blockQ,↓reduceIte,Nat.reduceEqDiff])|(refine g_c (fun h=>?_) (fun h=>?_)<;>(try simp only[go_sem] at h)<;>(try exact g_f))|((first|refine g_t ?_|refine g_g ?_|refine g_U ?_|refine g_A ?_|refine g_W ?_);(try simp -implicitDefEqProofs only[go_sem]))|(with_reducible refine hK _ _ ?_;clear hK K)|(clear hK K;first|(with_reducible refine hK _ _ ?_;clear hK K)|(clear hK K;with_reducible refine hK _ _ ?_;clear hK K)|(clear hK K;clear hK K;with_reducible refine hK _ _ ?_;clear hK K))|(with_reducible refine splitB_intro (fun h=>?_) (fun h=>?_)<;>(try simp only[go_sem] at h)<;>(try exact g_f)<;>(try simp -implicitDefEqProofs only[go_sem]))|(with_reducible refine And.intro (fun h=>?_) (fun h=>?_)<;>(try simp only[go_sem] at h)<;>(try exact g_f))|(with_reducible refine And.intro ?_ ?_;· exact g_x)|(with_reducible intro h;(try simp only[go_sem] at h);(try exact g_f))))
      refine hL () [] _ _ (fun l' hl' => ?_) (ALe_of ?_) rfl
      · rcases hH l' hl' with h9 | h9
        · rcases List.mem_cons.1 h9 with rfl | h9
          · exact .inr fun w hw => (hH' w hw).resolve_left (by simp)
          · exact .inl h9
        · exact .inr h9
      · simp -implicitDefEqProofs only [go_sem]
  · rintro k _ τ hk hH L
    have hgood : ∀ r ∈ x.best ++ x.edges, (r.length : Int) = x.size := fun r hr => by
      subst hls
      rcases List.mem_append.1 hr with h | h
      · exact (hH x.best (by simp)).resolve_left (by simp) r h
      · exact (hH x.edges (by simp)).resolve_left (by simp) r h
    simp -implicitDefEqProofs only [go_sem]
    (repeat' (first|(refine g_s fun K hK=>?_)|(refine g_b ?_)|(refine g_r ?_)|(refine g_k ?_;simp only[thenQ,blockQ])|(refine g_e ?_;simp only[thenQ,blockQ,↓reduceIte,Nat.reduceEqDiff])|(refine g_c (fun h=>?_) (fun h=>?_)<;>(try simp only[go_sem] at h)<;>(try exact g_f))|((first|refine g_t ?_|refine g_g ?_|refine g_U ?_|refine g_A ?_|refine g_W ?_);(try simp -implicitDefEqProofs only[go_sem]))|(with_reducible refine hK _ _ ?_;clear hK K)|(clear hK K;first|(with_reducible refine hK _ _ ?_;clear hK K)|(clear hK K;with_reducible refine hK _ _ ?_;clear hK K)|(clear hK K;clear hK K;with_reducible refine hK _ _ ?_;clear hK K))|(with_reducible refine splitB_intro (fun h=>?_) (fun h=>?_)<;>(try simp only[go_sem] at h)<;>(try exact g_f)<;>(try simp -implicitDefEqProofs only[go_sem]))|(with_reducible refine And.intro (fun h=>?_) (fun h=>?_)<;>(try simp only[go_sem] at h)<;>(try exact g_f))|(with_reducible refine And.intro ?_ ?_;· exact g_x)|(with_reducible intro h;(try simp only[go_sem] at h);(try exact g_f))))
    refine hJ _ _ ?_
    clear hJ
    (repeat' (first|(refine g_s fun K hK=>?_)|(refine g_b ?_)|(refine g_r ?_)|(refine g_k ?_;simp only[thenQ,blockQ])|(refine g_e ?_;simp only[thenQ,blockQ,↓reduceIte,Nat.reduceEqDiff])|(refine g_c (fun h=>?_) (fun h=>?_)<;>(try simp only[go_sem] at h)<;>(try exact g_f))|((first|refine g_t ?_|refine g_g ?_|refine g_U ?_|refine g_A ?_|refine g_W ?_);(try simp -implicitDefEqProofs only[go_sem]))|(with_reducible refine hK _ _ ?_;clear hK K)|(clear hK K;first|(with_reducible refine hK _ _ ?_;clear hK K)|(clear hK K;with_reducible refine hK _ _ ?_;clear hK K)|(clear hK K;clear hK K;with_reducible refine hK _ _ ?_;clear hK K))|(with_reducible refine splitB_intro (fun h=>?_) (fun h=>?_)<;>(try simp only[go_sem] at h)<;>(try exact g_f)<;>(try simp -implicitDefEqProofs only[go_sem]))|(with_reducible refine And.intro (fun h=>?_) (fun h=>?_)<;>(try simp only[go_sem] at h)<;>(try exact g_f))|(with_reducible refine And.intro ?_ ?_;· exact g_x)|(with_reducible intro h;(try simp only[go_sem] at h);(try exact g_f))))
    have hJ := hK
    clear hK
    refine AWP_each ls (fun _ r _ => ∀ l ∈ ls, l ∈ r ∨ ∀ w ∈ l, ∀ n ∈ w, inR n 0 (x.size - 1) = true) (fun k _ _ => [(57, intA1 k)]) (fun _ _ _ => σ ++ [.dead, .cells 1 (ls.map rows1)]) () [] (fun l hl => .inl hl) rfl (ALe_of ?_) ?_ ?_
    · simp -implicitDefEqProofs only [go_sem]
    · rintro k r _ τ hk0 hk1 hH L hL
      have hmem := at0_mem ls hk0 hk1
      obtain ⟨l, hl⟩ : ∃ l, at0 ls k = l := ⟨_, rfl⟩
      rw [hl] at hH hmem
      simp -implicitDefEqProofs only [go_sem]
      (repeat' (first|(refine g_s fun K hK=>?_)|(refine g_b ?_)|(refine g_r ?_)|(refine g_k ?_;simp only[thenQ,blockQ])|(refine g_e ?_;simp only[thenQ,blockQ,↓reduceIte,Nat.reduceEqDiff])|(refine g_c (fun h=>?_) (fun h=>?_)<;>(try simp only[go_sem] at h)<;>(try exact g_f))|((first|refine g_t ?_|refine g_g ?_|refine g_U ?_|refine g_A ?_|refine g_W ?_);(try simp -implicitDefEqProofs only[go_sem,hl]))|(with_reducible refine hK _ _ ?_;clear hK K)|(clear hK K;first|(with_reducible refine hK _ _ ?_;clear hK K)|(clear hK K;with_reducible refine hK _ _ ?_;clear hK K)|(clear hK K;clear hK K;with_reducible refine hK _ _ ?_;clear hK K))|(with_reducible refine splitB_intro (fun h=>?_) (fun h=>?_)<;>(try simp only[go_sem] at h)<;>(try exact g_f)<;>(try simp -implicitDefEqProofs only[go_sem,hl]))|(with_reducible refine And.intro (fun h=>?_) (fun h=>?_)<;>(try simp only[go_sem] at h)<;>(try exact g_f))|(with_reducible refine And.intro ?_ ?_;· exact g_x)|(with_reducible intro h;(try simp only[go_sem] at h);(try exact g_f))))
      refine AWP_each l (fun _ r' _ => ∀ w ∈ l, w ∈ r' ∨ ∀ n ∈ w, inR n 0 (x.size - 1) = true) (fun k' _ _ => [(63, intA1 k')]) (fun _ _ _ => σ ++ [.dead, .cells 1 (ls.map rows1)]) () [] (fun w hw => .inl hw) rfl (ALe_of ?_) ?_ ?_
      · simp -implicitDefEqProofs only [go_sem]
      · rintro k' r' _ τ' hk0' hk1' hH' L' hL'
        have hmem' := at0_mem l hk0' hk1'
        have h24 := hlsl l hmem
        obtain ⟨w, hw⟩ : ∃ w, at0 l k' = w := ⟨_, rfl⟩
        rw [hw] at hH' hmem'
        have hwl := hgood w (hlsm l hmem w hmem')
        simp -implicitDefEqProofs only [go_sem]
        (repeat' (first|(refine g_s fun K hK=>?_)|(refine g_b ?_)|(refine g_r ?_)|(refine g_k ?_;simp only[thenQ,blockQ])|(refine g_e ?_;simp only[thenQ,blockQ,↓reduceIte,Nat.reduceEqDiff])|(refine g_c (fun h=>?_) (fun h=>?_)<;>(try simp only[go_sem] at h)<;>(try exact g_f))|((first|refine g_t ?_|refine g_g ?_|refine g_U ?_|refine g_A ?_|refine g_W ?_);(try simp -implicitDefEqProofs only[go_sem,hw]))|(with_reducible refine hK _ _ ?_;clear hK K)|(clear hK K;first|(with_reducible refine hK _ _ ?_;clear hK K)|(clear hK K;with_reducible refine hK _ _ ?_;clear hK K)|(clear hK K;clear hK K;with_reducible refine hK _ _ ?_;clear hK K))|(with_reducible refine splitB_intro (fun h=>?_) (fun h=>?_)<;>(try simp only[go_sem] at h)<;>(try exact g_f)<;>(try simp -implicitDefEqProofs only[go_sem,hw]))|(with_reducible refine And.intro (fun h=>?_) (fun h=>?_)<;>(try simp only[go_sem] at h)<;>(try exact g_f))|(with_reducible refine And.intro ?_ ?_;· exact g_x)|(with_reducible intro h;(try simp only[go_sem] at h);(try exact g_f))))
        refine AWP_each w (fun _ r9 _ => ∀ n ∈ w, n ∈ r9 ∨ inR n 0 (x.size - 1) = true) (fun k9 _ _ => [(69, intA1 k9)]) (fun _ _ _ => σ ++ [.dead, .cells 1 (ls.map rows1)]) () [] (fun n hn => .inl hn) rfl (ALe_of ?_) ?_ ?_
        · simp -implicitDefEqProofs only [go_sem]
        · rintro k9 r9 _ τ9 hk09 hk19 hH9 L9 hL9
          have hmem9 := at0_mem w hk09 hk19
          simp -implicitDefEqProofs only [go_sem]
          (repeat' (first|(refine g_s fun K hK=>?_)|(refine g_b ?_)|(refine g_r ?_)|(refine g_k ?_;simp only[thenQ,blockQ])|(refine g_e ?_;simp only[thenQ,blockQ,↓reduceIte,Nat.reduceEqDiff])|(refine g_c (fun h=>?_) (fun h=>?_)<;>(try simp only[go_sem] at h)<;>(try exact g_f))|((first|refine g_t ?_|refine g_g ?_|refine g_U ?_|refine g_A ?_|refine (is_calls x _ (by unfold I64; omega) _).use ?_|refine g_q (fun τ=>is_calls x _ (by unfold I64; omega) _) ?_|refine g_W ?_);(try simp -implicitDefEqProofs only[go_sem]))|(with_reducible refine hK _ _ ?_;clear hK K)|(clear hK K;first|(with_reducible refine hK _ _ ?_;clear hK K)|(clear hK K;with_reducible refine hK _ _ ?_;clear hK K)|(clear hK K;clear hK K;with_reducible refine hK _ _ ?_;clear hK K))|(with_reducible refine splitB_intro (fun h=>?_) (fun h=>?_)<;>(try simp only[go_sem] at h)<;>(try exact g_f)<;>(try simp -implicitDefEqProofs only[go_sem]))|(with_reducible refine And.intro (fun h=>?_) (fun h=>?_)<;>(try simp only[go_sem] at h)<;>(try exact g_f))|(with_reducible refine And.intro ?_ ?_;· exact g_x)|(with_reducible intro h;(try simp only[go_sem] at h);(try exact g_f))))
          · exact CutQ_c rfl (by rw [checkA_val hsz he8 hbl hgood (hlsm l hmem _ hmem') hmem9 (not_inR.1 (by rw [h]; rfl))])
          · refine hL9 () [] _ _ (fun n hn => ?_) (ALe_of ?_) rfl
            · rcases hH9 n hn with g | g
              · rcases List.mem_cons.1 g with rfl | g
                · exact .inr h
                · exact .inl g
              · exact .inr g
            · simp -implicitDefEqProofs only [go_sem]
        · rintro k9 _ τ9 hk9 hH9 L9
          simp -implicitDefEqProofs only [go_sem]
          (repeat' (first|(refine g_s fun K hK=>?_)|(refine g_b ?_)|(refine g_r ?_)|(refine g_k ?_;simp only[thenQ,blockQ])|(refine g_e ?_;simp only[thenQ,blockQ,↓reduceIte,Nat.reduceEqDiff])|(refine g_c (fun h=>?_) (fun h=>?_)<;>(try simp only[go_sem] at h)<;>(try exact g_f))|((first|refine g_t ?_|refine g_g ?_|refine g_U ?_|refine g_A ?_|refine g_W ?_);(try simp -implicitDefEqProofs only[go_sem]))|(with_reducible refine hK _ _ ?_;clear hK K)|(clear hK K;first|(with_reducible refine hK _ _ ?_;clear hK K)|(clear hK K;with_reducible refine hK _ _ ?_;clear hK K)|(clear hK K;clear hK K;with_reducible refine hK _ _ ?_;clear hK K))|(with_reducible refine splitB_intro (fun h=>?_) (fun h=>?_)<;>(try simp only[go_sem] at h)<;>(try exact g_f)<;>(try simp -implicitDefEqProofs only[go_sem]))|(with_reducible refine And.intro (fun h=>?_) (fun h=>?_)<;>(try simp only[go_sem] at h)<;>(try exact g_f))|(with_reducible refine And.intro ?_ ?_;· exact g_x)|(with_reducible intro h;(try simp only[go_sem] at h);(try exact g_f))))
          refine hL' () [] _ _ (fun w' hw' => ?_) (ALe_of ?_) rfl
          · rcases hH' w' hw' with g | g
            · rcases List.mem_cons.1 g with rfl | g
              · exact .inr fun n hn => (hH9 n hn).resolve_left (by simp)
              · exact .inl g
            · exact .inr g
          · simp -implicitDefEqProofs only [go_sem]
      · rintro k' _ τ' hk' hH' L'
        simp -implicitDefEqProofs only [go_sem]
        (repeat' (first|(refine g_s fun K hK=>?_)|(refine g_b ?_)|(refine g_r ?_)|(refine g_k ?_;simp only[thenQ,blockQ])|(refine g_e ?_;simp only[thenQ,blockQ,↓reduceIte,Nat.reduceEqDiff])|(refine g_c (fun h=>?_) (fun h=>?_)<;>(try simp only[go_sem] at h)<;>(try exact g_f))|((first|refine g_t ?_|refine g_g ?_|refine g_U ?_|refine g_A ?_|refine g_W ?_);(try simp -implicitDefEqProofs only[go_sem]))|(with_reducible refine hK _ _ ?_;clear hK K)|(clear hK K;first|(with_reducible refine hK _ _ ?_;clear hK K)|(clear hK K;with_reducible refine hK _ _ ?_;clear hK K)|(clear hK K;clear hK K;with_reducible refine hK _ _ ?_;clear hK K))|(with_reducible refine splitB_intro (fun h=>?_) (fun h=>?_)<;>(try simp only[go_sem] at h)<;>(try exact g_f)<;>(try simp -implicitDefEqProofs only[go_sem]))|(with_reducible refine And.intro (fun h=>?_) (fun h=>?_)<;>(try simp only[go_sem] at h)<;>(try exact g_f))|(with_reducible refine And.intro ?_ ?_;· exact g_x)|(with_reducible intro h;(try simp only[go_sem] at h);(try exact g_f))))
        refine hL () [] _ _ (fun l' hl' => ?_) (ALe_of ?_) rfl
        · rcases hH l' hl' with g | g
          · rcases List.mem_cons.1 g with rfl | g
            · exact .inr fun w hw => (hH' w hw).resolve_left (by simp)
            · exact .inl g
          · exact .inr g
        · simp -implicitDefEqProofs only [go_sem]
    · rintro k _ τ hk hH L
      have hright : Right x := ⟨hsz.1, hsz.2, he8, hbl, hgood, fun r hr n hn => by
        subst hls
        rcases List.mem_append.1 hr with g | g
        · exact inR_iff.1 ((hH x.best (by simp)).resolve_left (by simp) r g n hn)
        · exact inR_iff.1 ((hH x.edges (by simp)).resolve_left (by simp) r g n hn)⟩
      simp -implicitDefEqProofs only [go_sem]
      (repeat' (first|(refine g_s fun K hK=>?_)|(refine g_b ?_)|(refine g_r ?_)|(refine g_k ?_;simp only[thenQ,blockQ])|(refine g_e ?_;simp only[thenQ,blockQ,↓reduceIte,Nat.reduceEqDiff])|(refine g_c (fun h=>?_) (fun h=>?_)<;>(try simp only[go_sem] at h)<;>(try exact g_f))|((first|refine g_t ?_|refine g_g ?_|refine g_U ?_|refine g_A ?_|refine g_W ?_);(try simp -implicitDefEqProofs only[go_sem]))|(with_reducible refine hK _ _ ?_;clear hK K)|(clear hK K;first|(with_reducible refine hK _ _ ?_;clear hK K)|(clear hK K;with_reducible refine hK _ _ ?_;clear hK K)|(clear hK K;clear hK K;with_reducible refine hK _ _ ?_;clear hK K))|(with_reducible refine splitB_intro (fun h=>?_) (fun h=>?_)<;>(try simp only[go_sem] at h)<;>(try exact g_f)<;>(try simp -implicitDefEqProofs only[go_sem]))|(with_reducible refine And.intro (fun h=>?_) (fun h=>?_)<;>(try simp only[go_sem] at h)<;>(try exact g_f))|(with_reducible refine And.intro ?_ ?_;· exact g_x)|(with_reducible intro h;(try simp only[go_sem] at h);(try exact g_f))))
      refine hJ _ _ ?_
      clear hJ
      (repeat' (first|(refine g_s fun K hK=>?_)|(refine g_b ?_)|(refine g_r ?_)|(refine g_k ?_;simp only[thenQ,blockQ])|(refine g_e ?_;simp only[thenQ,blockQ,↓reduceIte,Nat.reduceEqDiff])|(refine g_c (fun h=>?_) (fun h=>?_)<;>(try simp only[go_sem] at h)<;>(try exact g_f))|((first|refine g_t ?_|refine g_g ?_|refine g_U ?_|refine g_A ?_|refine g_W ?_);(try simp -implicitDefEqProofs only[go_sem]))|(with_reducible refine hK _ _ ?_;clear hK K)|(clear hK K;first|(with_reducible refine hK _ _ ?_;clear hK K)|(clear hK K;with_reducible refine hK _ _ ?_;clear hK K)|(clear hK K;clear hK K;with_reducible refine hK _ _ ?_;clear hK K))|(with_reducible refine splitB_intro (fun h=>?_) (fun h=>?_)<;>(try simp only[go_sem] at h)<;>(try exact g_f)<;>(try simp -implicitDefEqProofs only[go_sem]))|(with_reducible refine And.intro (fun h=>?_) (fun h=>?_)<;>(try simp only[go_sem] at h)<;>(try exact g_f))|(with_reducible refine And.intro ?_ ?_;· exact g_x)|(with_reducible intro h;(try simp only[go_sem] at h);(try exact g_f))))
      exact CutQ_c rfl (by rw [right_iff.2 hright])
end Go.Proofs.Ytephecognbbaoaa
