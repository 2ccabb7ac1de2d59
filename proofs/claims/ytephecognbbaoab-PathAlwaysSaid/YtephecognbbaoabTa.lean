/- Where to: the program's way, walked. -/
import Derived.Test.YtephecognbbaoabNd
import Derived.Test.YtephecognbbaoabIm
import Derived.Test.YtephecognbbaoabPv
namespace Go.Proofs.Ytephecognbbaoab
open Go
set_option linter.all false
set_option maxRecDepth 100000
set_option maxHeartbeats 4000000

theorem apart_mid {l : Lnk} {r : List Lnk} : ∀ {pre : List Lnk}, Apart (pre ++ l :: r) → ∀ x ∈ pre, l.like x = false
  | [], _, _, hx => by cases hx
  | y :: pre, h, x, hx => by
    rcases List.mem_cons.1 hx with rfl | hx
    · exact h.1 l (by simp)
    · exact apart_mid h.2 x hx

def makesM (n : Net) (i : Int) (has : Int → Int) (pre : List Lnk) : List (Int × AV) := (pre.filter fun l => decide (l.fr = i)).map fun l => (l.dst, intA1 (overA n l.edge (has l.dst)))

theorem makes_new {n : Net} {i : Int} {has : Int → Int} {l : Lnk} {pre r : List Lnk} (h : Apart (pre ++ l :: r)) (hl : l.fr = i) : imHas (makesM n i has pre) l.dst = false := by
  unfold imHas makesM
  rw [List.any_eq_false]
  intro e he
  obtain ⟨x, hx, rfl⟩ := List.mem_map.1 he
  have hx := List.mem_filter.1 hx
  have h1 := apart_mid h x hx.1
  have h2 : x.fr = i := by simpa using hx.2
  rw [decide_eq_true_eq]
  intro e
  have e : x.dst = l.dst := e
  have : l.like x = true := by simp [Lnk.like]; omega
  rw [this] at h1
  cases h1

theorem makes_snoc {n : Net} {i : Int} {has : Int → Int} {l : Lnk} {pre : List Lnk} (hl : l.fr = i) : makesM n i has (pre ++ [l]) = makesM n i has pre ++ [(l.dst, intA1 (overA n l.edge (has l.dst)))] := by
  simp [makesM, List.filter_append, hl]
theorem makes_skip {n : Net} {i : Int} {has : Int → Int} {l : Lnk} {pre : List Lnk} (hl : ¬ l.fr = i) : makesM n i has (pre ++ [l]) = makesM n i has pre := by
  simp [makesM, List.filter_append, hl]

theorem makes_get (n : Net) (i : Int) (has : Int → Int) (k : Int) (hin : ∀ l ∈ n.links, 0 ≤ l.edge) : imGet (makesM n i has n.links) k = if 0 ≤ edgeOf n i k then some (intA1 (overA n (edgeOf n i k) (has k))) else none := by
  unfold edgeOf
  have key : ∀ (L : List Lnk), (∀ l ∈ L, 0 ≤ l.edge) → imGet (makesM n i has L) k = if 0 ≤ ((L.find? fun l => decide (l.fr = i) && decide (l.dst = k)).map (·.edge)).getD (-1) then some (intA1 (overA n (((L.find? fun l => decide (l.fr = i) && decide (l.dst = k)).map (·.edge)).getD (-1)) (has k))) else none := by
    intro L
    induction L with
    | nil => intro _; rfl
    | cons l L ih =>
      intro hL
      have ih := ih fun x hx => hL x (by simp [hx])
      by_cases h1 : l.fr = i
      · have e : makesM n i has (l :: L) = (l.dst, intA1 (overA n l.edge (has l.dst))) :: makesM n i has L := by simp [makesM, h1]
        rw [e]
        by_cases h2 : l.dst = k
        · rw [List.find?_cons_of_pos (by simp [h1, h2])]
          unfold imGet
          rw [List.find?_cons_of_pos (by simpa using h2)]
          have h3 := hL l (by simp)
          simp only [Option.map_some, Option.getD_some]
          rw [if_pos h3, h2]
        · rw [List.find?_cons_of_neg (by simp [h2]), ← ih]
          unfold imGet
          rw [List.find?_cons_of_neg (by simpa using h2)]
      · have e : makesM n i has (l :: L) = makesM n i has L := by simp [makesM, h1]
        rw [e, List.find?_cons_of_neg (by simp [h1]), ih]
  exact key _ hin

theorem routeL_snoc (n : Net) (i j : Int) (has : Int → Int) (pre : List Lnk) (l : Lnk) : routeL n i j has (pre ++ [l]) = if l.fr = i then bestA n (routeL n i j has pre) (overA n l.edge (has l.dst)) else routeL n i j has pre := by
  unfold routeL
  rw [List.foldl_append]
  rfl

theorem routeL_inn {n : Net} (hn : NetIn n) {i j : Int} {has : Int → Int} (hh : ∀ k, 0 ≤ k → k < n.nodes → 0 ≤ has k ∧ has k < n.alg.size) (L : List Lnk) (hL : ∀ l ∈ L, l ∈ n.links) : 0 ≤ routeL n i j has L ∧ routeL n i j has L < n.alg.size := by
  have s2 := hn.alg.s2
  have := route_facts hn i (fun l => overA n l.edge (has l.dst)) L (if i = j then 0 else n.alg.size - 1) (fun l hl => let q := hn.lnk l (hL l hl); over_in hn ⟨q.e0, q.e1⟩ (hh _ q.d0 q.d1)) (by unfold InV; split <;> omega)
  exact this.1

theorem makes_KK {n : Net} (hn : NetIn n) (i : Int) (H : Int → Int) {pre : List Lnk} (hp : ∀ l ∈ pre, l ∈ n.links) : KK Try.prog 3 (imE (makesM n i H pre)) = True := im_KK fun e hm => by
  obtain ⟨y, hy, rfl⟩ := List.mem_map.1 hm
  have q := hn.lnk y (hp y (List.mem_filter.1 hy).1)
  have h0 := q.d0
  have h1 := q.d1
  have h6 := hn.n6
  show I64 y.dst
  unfold I64
  omega

theorem to_calls (n : Net) (x : List (List Int)) (i j : Int) (hc : checkN n = 0) (hx : RowsIn n x) (hl : n.links.length ≤ 5864062014634) (hi0 : 0 ≤ i) (hi1 : i < n.nodes) (hj0 : 0 ≤ j) (hj1 : j < n.nodes) (σ : Store) :
    ACalls Try.prog 111 [.agg (netC n), rowsC x, intA1 i, intA1 j] σ fun r σ' => σ' = σ ∧ r = intA1 (toL n i j fun k => at2 x k j) := by
  have hn := netIn_of hc
  have n1 := hn.n1
  have n6 := hn.n6
  have s2 := hn.alg.s2
  have s24 := hn.alg.s24
  have hbl := hn.alg.bl
  have hxl := hx.len
  have hap := apart_of hc
  have hh0 : ∀ k, 0 ≤ k → k < n.nodes → 0 ≤ at2 x k j ∧ at2 x k j < n.alg.size := fun k h0 h1 => at2_in hx ⟨h0, h1⟩ ⟨hj0, hj1⟩
  obtain ⟨H, hH⟩ : ∃ H : Int → Int, H = fun k => at2 x k j := ⟨_, rfl⟩
  have hHk : ∀ k, at0 (at0 x k) j = H k := fun k => by rw [hH]; rfl
  have hh : ∀ k, 0 ≤ k → k < n.nodes → 0 ≤ H k ∧ H k < n.alg.size := fun k h0 h1 => by rw [hH]; exact hh0 k h0 h1
  rw [← hH]
  refine ACalls.cutX ?_
  by_cases hij : i = j
  · have e : toL n i j H = -1 := by rw [toL, if_pos hij]
    rw [e]
    refine ACalls_of_awp Try.func111 rfl Try.results111 ?_
    simp only [List.length_cons, List.length_nil, Try.ntmps111, Nat.reduceAdd, Nat.reduceSub, enterA]
    (repeat' (first|(refine g_s fun K hK=>?_)|(refine g_b ?_)|(refine g_r ?_)|(refine g_k ?_;simp only[thenQ,blockQ])|(refine g_e ?_;simp only[thenQ,blockQ,↓reduceIte,Nat.reduceEqDiff])|(refine g_c (fun h=>?_) (fun h=>?_)<;>(try simp only[go_sem] at h)<;>(try exact g_f))|((first|refine g_t ?_|refine g_g ?_|refine g_U ?_|refine g_A ?_|refine g_W ?_);(try simp -implicitDefEqProofs only[go_sem]))|(with_reducible refine hK _ _ ?_;clear hK K)|(clear hK K;first|(with_reducible refine hK _ _ ?_;clear hK K)|(clear hK K;with_reducible refine hK _ _ ?_;clear hK K)|(clear hK K;clear hK K;with_reducible refine hK _ _ ?_;clear hK K))|(with_reducible refine splitB_intro (fun h=>?_) (fun h=>?_)<;>(try simp only[go_sem] at h)<;>(try exact g_f)<;>(try simp -implicitDefEqProofs only[go_sem]))|(with_reducible refine And.intro (fun h=>?_) (fun h=>?_)<;>(try simp only[go_sem] at h)<;>(try exact g_f))|(with_reducible refine And.intro ?_ ?_;· exact g_x)|(with_reducible intro h;(try simp only[go_sem] at h);(try exact g_f))))
    exact CutQ_c rfl rfl
  · refine ACalls_of_awp Try.func111 rfl Try.results111 ?_
    simp only [List.length_cons, List.length_nil, Try.ntmps111, Nat.reduceAdd, Nat.reduceSub, enterA]
    refine AWP_seq_k fun K hK => ?_
    (refine AWP_region ?_; simp -implicitDefEqProofs only [go_sem])
    refine hK _ _ ?_; clear hK K
    refine AWP_freezeP 4 rfl (by simp only [st0]; rfl) ?_
    simp only [ss0, List.set_cons_zero]
    (repeat' (first|(refine g_s fun K hK=>?_)|(refine g_b ?_)|(refine g_r ?_)|(refine g_k ?_;simp only[thenQ,blockQ])|(refine g_e ?_;simp only[thenQ,blockQ,↓reduceIte,Nat.reduceEqDiff])|(refine g_c (fun h=>?_) (fun h=>?_)<;>(try simp only[go_sem] at h)<;>(try exact g_f))|((first|refine g_t ?_|refine g_g ?_|refine g_U ?_|refine g_A ?_|refine (invalid_calls n.alg (by unfold I64; omega) _).use ?_|refine g_q (fun τ=>invalid_calls n.alg (by unfold I64; omega) _) ?_|refine g_W ?_);(try simp -implicitDefEqProofs only[go_sem,hij]))|(with_reducible refine hK _ _ ?_;clear hK K)|(clear hK K;first|(with_reducible refine hK _ _ ?_;clear hK K)|(clear hK K;with_reducible refine hK _ _ ?_;clear hK K)|(clear hK K;clear hK K;with_reducible refine hK _ _ ?_;clear hK K))|(with_reducible refine splitB_intro (fun h=>?_) (fun h=>?_)<;>(try simp only[go_sem] at h)<;>(try exact g_f)<;>(try simp -implicitDefEqProofs only[go_sem,hij]))|(with_reducible refine And.intro (fun h=>?_) (fun h=>?_)<;>(try simp only[go_sem] at h)<;>(try exact g_f))|(with_reducible refine And.intro ?_ ?_;· exact g_x)|(with_reducible intro h;(try simp only[go_sem] at h);(try exact g_f))))
    have hJ := hK
    clear hK
    refine AWP_each n.links (fun _ r pre => n.links = pre ++ r ∧ DK (imE (makesM n i H pre))) (fun k pre _ => [(28, intA1 k), (10, intA1 (routeL n i j H pre))])
      (fun _ pre τ => σ ++ (.dead :: .map (imE (makesM n i H pre)) :: τ)) [] [] ⟨rfl, trivial⟩ rfl (ALe_of ?_) ?_ ?_
    · simp -implicitDefEqProofs only [go_sem]
      simp [routeL, hij]
    · rintro k r pre τ hk0 hk1 ⟨hP, hD⟩ L hL
      have hmem := at0_mem n.links hk0 hk1
      obtain ⟨l, hla⟩ : ∃ l, at0 n.links k = l := ⟨_, rfl⟩
      rw [hla] at hP hmem
      have hlk := hn.lnk l hmem
      have hd0 := hlk.d0
      have hd1 := hlk.d1
      have he0 := hlk.e0
      have he1 := hlk.e1
      simp -implicitDefEqProofs only [go_sem]
      by_cases he : l.fr = i
      · have hnew := makes_new (n := n) (has := H) (by rw [← hP]; exact hap : Apart (pre ++ l :: r)) he
        have hri := routeL_inn hn (i := i) (j := j) hh pre (fun x hx => by rw [hP]; simp [hx])
        have hHd := hh l.dst hd0 hd1
        have hov := over_in hn ⟨he0, he1⟩ hHd
        have hxr := hx.row _ (at0_mem x hd0 (by omega))
        have hbr := hn.alg.best_len hri.1 hri.2
        have her := hn.alg.edge_len he0 he1
        have hI : I64 l.dst := by unfold I64; omega
        have hput := im_put (intA1 (overA n l.edge (H l.dst))) hnew
        have hD2 := im_DK (v := intA1 (overA n l.edge (H l.dst))) hnew hD
        rw [← makes_snoc he] at hput hD2
        have hp1 : ∀ x ∈ pre, x ∈ n.links := fun x hx => by rw [hP]; simp [hx]
        have hp2 : ∀ x ∈ pre ++ [l], x ∈ n.links := fun x hx => by
          rcases List.mem_append.1 hx with hx | hx
          · exact hp1 x hx
          · rw [List.mem_singleton.1 hx]; exact hmem
        have hKK := makes_KK hn i H hp1
        have hKK2 := makes_KK hn i H hp2
        have hfind : findK (imE (makesM n i H (pre ++ [l]))) (.int .i64 l.dst) = some (intA1 (overA n l.edge (H l.dst))) := by
          rw [im_find, makes_snoc he]
          unfold imGet
          rw [List.find?_append, List.find?_eq_none.2 (fun e hm => by have := List.any_eq_false.1 hnew e hm; exact this)]
          simp
        have hDa := eq_true hD
        have hDb := eq_true hD2
        have hov2 : overA n l.edge (H l.dst) = at0 (at0 n.alg.edges l.edge) (H l.dst) := rfl
        rw [hov2] at hput hfind hov
        unfold intA1 at hput hfind
        (repeat' (first|(refine g_s fun K hK=>?_)|(refine g_b ?_)|(refine g_r ?_)|(refine g_k ?_;simp only[thenQ,blockQ])|(refine g_e ?_;simp only[thenQ,blockQ,↓reduceIte,Nat.reduceEqDiff])|(refine g_c (fun h=>?_) (fun h=>?_)<;>(try simp only[go_sem] at h)<;>(try exact g_f))|((first|refine g_t ?_|refine g_g ?_|refine g_U ?_|refine g_A ?_|refine g_W ?_);(try simp -implicitDefEqProofs only[go_sem,hla, he, hHk, hput, hfind, hDa, hDb, hKK, hKK2]))|(with_reducible refine hK _ _ ?_;clear hK K)|(clear hK K;first|(with_reducible refine hK _ _ ?_;clear hK K)|(clear hK K;with_reducible refine hK _ _ ?_;clear hK K)|(clear hK K;clear hK K;with_reducible refine hK _ _ ?_;clear hK K))|(with_reducible refine splitB_intro (fun h=>?_) (fun h=>?_)<;>(try simp only[go_sem] at h)<;>(try exact g_f)<;>(try simp -implicitDefEqProofs only[go_sem,hla, he, hHk, hput, hfind, hDa, hDb, hKK, hKK2]))|(with_reducible refine And.intro (fun h=>?_) (fun h=>?_)<;>(try simp only[go_sem] at h)<;>(try exact g_f))|(with_reducible refine And.intro ?_ ?_;· exact g_x)|(with_reducible intro h;(try simp only[go_sem] at h);(try exact g_f))))
        refine hL (pre ++ [l]) (τ ++ [.cells 3 [lnkC l]]) _ _ ⟨by rw [hP]; simp, hD2⟩ (ALe_of ?_) ?_
        · simp -implicitDefEqProofs only [go_sem, routeL_snoc, he, bestA, overA]
        · simp [lnkC, intA1, he]
      · (repeat' (first|(refine g_s fun K hK=>?_)|(refine g_b ?_)|(refine g_r ?_)|(refine g_k ?_;simp only[thenQ,blockQ])|(refine g_e ?_;simp only[thenQ,blockQ,↓reduceIte,Nat.reduceEqDiff])|(refine g_c (fun h=>?_) (fun h=>?_)<;>(try simp only[go_sem] at h)<;>(try exact g_f))|((first|refine g_t ?_|refine g_g ?_|refine g_U ?_|refine g_A ?_|refine g_W ?_);(try simp -implicitDefEqProofs only[go_sem,hla, he]))|(with_reducible refine hK _ _ ?_;clear hK K)|(clear hK K;first|(with_reducible refine hK _ _ ?_;clear hK K)|(clear hK K;with_reducible refine hK _ _ ?_;clear hK K)|(clear hK K;clear hK K;with_reducible refine hK _ _ ?_;clear hK K))|(with_reducible refine splitB_intro (fun h=>?_) (fun h=>?_)<;>(try simp only[go_sem] at h)<;>(try exact g_f)<;>(try simp -implicitDefEqProofs only[go_sem,hla, he]))|(with_reducible refine And.intro (fun h=>?_) (fun h=>?_)<;>(try simp only[go_sem] at h)<;>(try exact g_f))|(with_reducible refine And.intro ?_ ?_;· exact g_x)|(with_reducible intro h;(try simp only[go_sem] at h);(try exact g_f))))
        refine hL (pre ++ [l]) (τ ++ [.cells 3 [lnkC l]]) _ _ ⟨by rw [hP]; simp, by rw [makes_skip he]; exact hD⟩ (ALe_of ?_) ?_
        · simp -implicitDefEqProofs only [go_sem, routeL_snoc, he]
        · rw [makes_skip he]; simp [lnkC, intA1]
    · rintro k pre τ hk ⟨hP, hD⟩ L
      rw [List.append_nil] at hP
      subst hP
      have hget := fun k => makes_get n i H k fun l hl => (hn.lnk l hl).e0
      have hri := routeL_inn hn (i := i) (j := j) hh n.links (fun x hx => hx)
      have hKK := makes_KK hn i H (pre := n.links) fun x hx => hx
      have hDa := eq_true hD
      simp -implicitDefEqProofs only [go_sem]
      (repeat' (first|(refine g_s fun K hK=>?_)|(refine g_b ?_)|(refine g_r ?_)|(refine g_k ?_;simp only[thenQ,blockQ])|(refine g_e ?_;simp only[thenQ,blockQ,↓reduceIte,Nat.reduceEqDiff])|(refine g_c (fun h=>?_) (fun h=>?_)<;>(try simp only[go_sem] at h)<;>(try exact g_f))|((first|refine g_t ?_|refine g_g ?_|refine g_U ?_|refine g_A ?_|refine g_W ?_);(try simp -implicitDefEqProofs only[go_sem]))|(with_reducible refine hK _ _ ?_;clear hK K)|(clear hK K;first|(with_reducible refine hK _ _ ?_;clear hK K)|(clear hK K;with_reducible refine hK _ _ ?_;clear hK K)|(clear hK K;clear hK K;with_reducible refine hK _ _ ?_;clear hK K))|(with_reducible refine splitB_intro (fun h=>?_) (fun h=>?_)<;>(try simp only[go_sem] at h)<;>(try exact g_f)<;>(try simp -implicitDefEqProofs only[go_sem]))|(with_reducible refine And.intro (fun h=>?_) (fun h=>?_)<;>(try simp only[go_sem] at h)<;>(try exact g_f))|(with_reducible refine And.intro ?_ ?_;· exact g_x)|(with_reducible intro h;(try simp only[go_sem] at h);(try exact g_f))))
      refine hJ _ _ ?_
      clear hJ
      (repeat' (first|(refine g_s fun K hK=>?_)|(refine g_b ?_)|(refine g_r ?_)|(refine g_k ?_;simp only[thenQ,blockQ])|(refine g_e ?_;simp only[thenQ,blockQ,↓reduceIte,Nat.reduceEqDiff])|(refine g_c (fun h=>?_) (fun h=>?_)<;>(try simp only[go_sem] at h)<;>(try exact g_f))|((first|refine g_t ?_|refine g_g ?_|refine g_U ?_|refine g_A ?_|refine g_W ?_);(try simp -implicitDefEqProofs only[go_sem]))|(with_reducible refine hK _ _ ?_;clear hK K)|(clear hK K;first|(with_reducible refine hK _ _ ?_;clear hK K)|(clear hK K;with_reducible refine hK _ _ ?_;clear hK K)|(clear hK K;clear hK K;with_reducible refine hK _ _ ?_;clear hK K))|(with_reducible refine splitB_intro (fun h=>?_) (fun h=>?_)<;>(try simp only[go_sem] at h)<;>(try exact g_f)<;>(try simp -implicitDefEqProofs only[go_sem]))|(with_reducible refine And.intro (fun h=>?_) (fun h=>?_)<;>(try simp only[go_sem] at h)<;>(try exact g_f))|(with_reducible refine And.intro ?_ ?_;· exact g_x)|(with_reducible intro h;(try simp only[go_sem] at h);(try exact g_f))))
      · exact CutQ_c rfl (by rw [toL, if_neg hij, if_pos (by assumption)])
      have hbest : ¬ routeL n i j H n.links = n.alg.size - 1 := by assumption
      have etl : toL n i j H = ((ints n.nodes).find? fun k => decide (0 ≤ edgeOf n i k) && decide (overA n (edgeOf n i k) (H k) = routeL n i j H n.links)).getD (-1) := by
        rw [toL, if_neg hij, if_neg hbest]
        split <;> (rename_i h9; rw [h9]; rfl)
      rw [etl]
      have hJ := hK
      clear hK
      refine AWP_each (ints n.nodes) (fun _ r _ => ((ints n.nodes).find? fun k => decide (0 ≤ edgeOf n i k) && decide (overA n (edgeOf n i k) (H k) = routeL n i j H n.links)) = r.find? fun k => decide (0 ≤ edgeOf n i k) && decide (overA n (edgeOf n i k) (H k) = routeL n i j H n.links))
        (fun q _ _ => [(74, intA1 q)]) (fun _ _ _ => σ ++ (.dead :: .map (imE (makesM n i H n.links)) :: τ)) () [] rfl rfl (ALe_of ?_) ?_ ?_
      · simp -implicitDefEqProofs only [go_sem]
      · rintro q r9 _ τ9 hq0 hq1 h9 L9 hL9
        rw [ints_length] at hq1
        rw [at0_ints hq0 (by omega)] at h9
        have hg9 := hget q
        rw [← im_find] at hg9
        have hI : I64 q := by unfold I64; omega
        by_cases he : 0 ≤ edgeOf n i q
        · rw [if_pos he] at hg9
          obtain ⟨v, hv⟩ : ∃ v, overA n (edgeOf n i q) (H q) = v := ⟨_, rfl⟩
          rw [hv] at hg9
          unfold intA1 at hg9
          by_cases hvb : v = routeL n i j H n.links
          · rw [List.find?_cons_of_pos (by simp [he, hv, hvb])] at h9
            rw [h9]
            simp -implicitDefEqProofs only [go_sem]
            (repeat' (first|(refine g_s fun K hK=>?_)|(refine g_b ?_)|(refine g_r ?_)|(refine g_k ?_;simp only[thenQ,blockQ])|(refine g_e ?_;simp only[thenQ,blockQ,↓reduceIte,Nat.reduceEqDiff])|(refine g_c (fun h=>?_) (fun h=>?_)<;>(try simp only[go_sem] at h)<;>(try exact g_f))|((first|refine g_t ?_|refine g_g ?_|refine g_U ?_|refine g_A ?_|refine g_W ?_);(try simp -implicitDefEqProofs only[go_sem,hg9, hDa, hKK, hvb]))|(with_reducible refine hK _ _ ?_;clear hK K)|(clear hK K;first|(with_reducible refine hK _ _ ?_;clear hK K)|(clear hK K;with_reducible refine hK _ _ ?_;clear hK K)|(clear hK K;clear hK K;with_reducible refine hK _ _ ?_;clear hK K))|(with_reducible refine splitB_intro (fun h=>?_) (fun h=>?_)<;>(try simp only[go_sem] at h)<;>(try exact g_f)<;>(try simp -implicitDefEqProofs only[go_sem,hg9, hDa, hKK, hvb]))|(with_reducible refine And.intro (fun h=>?_) (fun h=>?_)<;>(try simp only[go_sem] at h)<;>(try exact g_f))|(with_reducible refine And.intro ?_ ?_;· exact g_x)|(with_reducible intro h;(try simp only[go_sem] at h);(try exact g_f))))
            exact CutQ_c rfl rfl
          · rw [List.find?_cons_of_neg (by simp [he, hv, hvb])] at h9
            simp -implicitDefEqProofs only [go_sem]
            (repeat' (first|(refine g_s fun K hK=>?_)|(refine g_b ?_)|(refine g_r ?_)|(refine g_k ?_;simp only[thenQ,blockQ])|(refine g_e ?_;simp only[thenQ,blockQ,↓reduceIte,Nat.reduceEqDiff])|(refine g_c (fun h=>?_) (fun h=>?_)<;>(try simp only[go_sem] at h)<;>(try exact g_f))|((first|refine g_t ?_|refine g_g ?_|refine g_U ?_|refine g_A ?_|refine g_W ?_);(try simp -implicitDefEqProofs only[go_sem,hg9, hDa, hKK, hvb]))|(with_reducible refine hK _ _ ?_;clear hK K)|(clear hK K;first|(with_reducible refine hK _ _ ?_;clear hK K)|(clear hK K;with_reducible refine hK _ _ ?_;clear hK K)|(clear hK K;clear hK K;with_reducible refine hK _ _ ?_;clear hK K))|(with_reducible refine splitB_intro (fun h=>?_) (fun h=>?_)<;>(try simp only[go_sem] at h)<;>(try exact g_f)<;>(try simp -implicitDefEqProofs only[go_sem,hg9, hDa, hKK, hvb]))|(with_reducible refine And.intro (fun h=>?_) (fun h=>?_)<;>(try simp only[go_sem] at h)<;>(try exact g_f))|(with_reducible refine And.intro ?_ ?_;· exact g_x)|(with_reducible intro h;(try simp only[go_sem] at h);(try exact g_f))))
            refine hL9 () [] _ _ h9 (ALe_of ?_) rfl
            simp -implicitDefEqProofs only [go_sem]
        · rw [if_neg he] at hg9
          rw [List.find?_cons_of_neg (by simp [he])] at h9
          simp -implicitDefEqProofs only [go_sem]
          (repeat' (first|(refine g_s fun K hK=>?_)|(refine g_b ?_)|(refine g_r ?_)|(refine g_k ?_;simp only[thenQ,blockQ])|(refine g_e ?_;simp only[thenQ,blockQ,↓reduceIte,Nat.reduceEqDiff])|(refine g_c (fun h=>?_) (fun h=>?_)<;>(try simp only[go_sem] at h)<;>(try exact g_f))|((first|refine g_t ?_|refine g_g ?_|refine g_U ?_|refine g_A ?_|refine g_W ?_);(try simp -implicitDefEqProofs only[go_sem,hg9, hDa, hKK]))|(with_reducible refine hK _ _ ?_;clear hK K)|(clear hK K;first|(with_reducible refine hK _ _ ?_;clear hK K)|(clear hK K;with_reducible refine hK _ _ ?_;clear hK K)|(clear hK K;clear hK K;with_reducible refine hK _ _ ?_;clear hK K))|(with_reducible refine splitB_intro (fun h=>?_) (fun h=>?_)<;>(try simp only[go_sem] at h)<;>(try exact g_f)<;>(try simp -implicitDefEqProofs only[go_sem,hg9, hDa, hKK]))|(with_reducible refine And.intro (fun h=>?_) (fun h=>?_)<;>(try simp only[go_sem] at h)<;>(try exact g_f))|(with_reducible refine And.intro ?_ ?_;· exact g_x)|(with_reducible intro h;(try simp only[go_sem] at h);(try exact g_f))))
          refine hL9 () [] _ _ h9 (ALe_of ?_) rfl
          simp -implicitDefEqProofs only [go_sem]
      · rintro q _ τ9 hq h9 L9
        rw [ints_length] at hq
        simp -implicitDefEqProofs only [go_sem]
        (repeat' (first|(refine g_s fun K hK=>?_)|(refine g_b ?_)|(refine g_r ?_)|(refine g_k ?_;simp only[thenQ,blockQ])|(refine g_e ?_;simp only[thenQ,blockQ,↓reduceIte,Nat.reduceEqDiff])|(refine g_c (fun h=>?_) (fun h=>?_)<;>(try simp only[go_sem] at h)<;>(try exact g_f))|((first|refine g_t ?_|refine g_g ?_|refine g_U ?_|refine g_A ?_|refine g_W ?_);(try simp -implicitDefEqProofs only[go_sem]))|(with_reducible refine hK _ _ ?_;clear hK K)|(clear hK K;first|(with_reducible refine hK _ _ ?_;clear hK K)|(clear hK K;with_reducible refine hK _ _ ?_;clear hK K)|(clear hK K;clear hK K;with_reducible refine hK _ _ ?_;clear hK K))|(with_reducible refine splitB_intro (fun h=>?_) (fun h=>?_)<;>(try simp only[go_sem] at h)<;>(try exact g_f)<;>(try simp -implicitDefEqProofs only[go_sem]))|(with_reducible refine And.intro (fun h=>?_) (fun h=>?_)<;>(try simp only[go_sem] at h)<;>(try exact g_f))|(with_reducible refine And.intro ?_ ?_;· exact g_x)|(with_reducible intro h;(try simp only[go_sem] at h);(try exact g_f))))
        refine hJ _ _ ?_
        clear hJ
        (repeat' (first|(refine g_s fun K hK=>?_)|(refine g_b ?_)|(refine g_r ?_)|(refine g_k ?_;simp only[thenQ,blockQ])|(refine g_e ?_;simp only[thenQ,blockQ,↓reduceIte,Nat.reduceEqDiff])|(refine g_c (fun h=>?_) (fun h=>?_)<;>(try simp only[go_sem] at h)<;>(try exact g_f))|((first|refine g_t ?_|refine g_g ?_|refine g_U ?_|refine g_A ?_|refine g_W ?_);(try simp -implicitDefEqProofs only[go_sem]))|(with_reducible refine hK _ _ ?_;clear hK K)|(clear hK K;first|(with_reducible refine hK _ _ ?_;clear hK K)|(clear hK K;with_reducible refine hK _ _ ?_;clear hK K)|(clear hK K;clear hK K;with_reducible refine hK _ _ ?_;clear hK K))|(with_reducible refine splitB_intro (fun h=>?_) (fun h=>?_)<;>(try simp only[go_sem] at h)<;>(try exact g_f)<;>(try simp -implicitDefEqProofs only[go_sem]))|(with_reducible refine And.intro (fun h=>?_) (fun h=>?_)<;>(try simp only[go_sem] at h)<;>(try exact g_f))|(with_reducible refine And.intro ?_ ?_;· exact g_x)|(with_reducible intro h;(try simp only[go_sem] at h);(try exact g_f))))
        exact CutQ_c rfl (by rw [etl, h9]; rfl)
end Go.Proofs.Ytephecognbbaoab
