/- Rounds of routes with paths, as the program makes them. -/
import Derived.Test.YtephecognbbaoabUc
import Derived.Test.YtephecognbbaoabNj
namespace Go.Proofs.Ytephecognbbaoab
open Go
set_option linter.all false
set_option maxRecDepth 100000
set_option maxHeartbeats 4000000

theorem Bd.rts {n : Nat} (x : List (List Rt)) : Bd n (.sl (x.map rtRow)) := .slL (fun r => .cons (.slL (fun t => .cons (.c _) (.cons (Bd.ints t.p) .nil)) r) .nil) x
theorem Bd.rtsC {n : Nat} (x : List (List Rt)) : Bd n (rtsC x) := Bd.rts x
theorem edgeOf_in {n : Net} (hn : NetIn n) {i k : Int} (he : 0 ≤ edgeOf n i k) : edgeOf n i k < n.alg.edges.length := by
  unfold edgeOf at he ⊢
  cases hfd : n.links.find? fun l => decide (l.fr = i) && decide (l.dst = k) with
  | none => rw [hfd] at he; simp at he
  | some l => exact (hn.lnk l (List.mem_of_find?_eq_some hfd)).e1

theorem FitP.right {n : Net} {x : List (List Rt)} (h : FitP n x) {i j : Int} (hi : 0 ≤ i ∧ i < n.nodes) (hj : 0 ≤ j ∧ j < n.nodes) : RightR n (at2R x i j) := (h.ok i j hi hj).1

def rowP (n : Net) (x : List (List Rt)) (i : Int) : List Rt := (ints n.nodes).map fun j => routeP n i j fun k => at2R x k j

theorem repeatR_calls (v : Rt) (n : Int) (h : n = 1 ∨ n = 2 ∨ n = 3 ∨ n = 4 ∨ n = 5 ∨ n = 6) (σ : Store) : ACalls Try.prog 154 [.sl [rtC v], intA1 n] σ fun r σ' => σ' = σ ++ [.cells 2 ((List.replicate n.toNat v).map rtC)] ∧ r = .own σ.length 2 0 n.toNat n.toNat := by
  have w1 : IntKind.u64.wrap 1 = 1 := by decide
  have wn : IntKind.u64.wrap n = n := by rcases h with rfl | rfl | rfl | rfl | rfl | rfl <;> decide
  have hm := mul_calls n h
  rcases h with rfl | rfl | rfl | rfl | rfl | rfl
  all_goals refine ACalls_of_awp Try.func154 rfl Try.results154 ?_
            simp only [List.length_cons, List.length_nil, Try.ntmps154, Nat.reduceAdd, Nat.reduceSub, enterA]
  all_goals (repeat' (first|(refine g_s fun K hK=>?_)|(refine g_b ?_)|(refine g_r ?_)|(refine g_k ?_;simp only[thenQ,blockQ])|(refine g_e ?_;simp only[thenQ,blockQ,↓reduceIte,Nat.reduceEqDiff])|(refine g_c (fun h=>?_) (fun h=>?_)<;>(try simp only[go_sem] at h)<;>(try exact g_f))|((first|refine g_t ?_|refine g_g ?_|refine g_U ?_|refine g_A ?_|refine (hm _).use ?_|refine g_q (fun τ=>hm _) ?_);(try simp -implicitDefEqProofs only[go_sem,nc0, nc1, nc2, nc3, nc4, nc5, nc6, w1, wn, List.map_cons, List.map_nil, List.replicate]))|(with_reducible refine hK _ _ ?_;clear hK K)|(clear hK K;first|(with_reducible refine hK _ _ ?_;clear hK K)|(clear hK K;with_reducible refine hK _ _ ?_;clear hK K)|(clear hK K;clear hK K;with_reducible refine hK _ _ ?_;clear hK K))|(with_reducible refine splitB_intro (fun h=>?_) (fun h=>?_)<;>(try simp only[go_sem] at h)<;>(try exact g_f)<;>(try simp -implicitDefEqProofs only[go_sem,nc0, nc1, nc2, nc3, nc4, nc5, nc6, w1, wn, List.map_cons, List.map_nil, List.replicate]))|(with_reducible refine And.intro (fun h=>?_) (fun h=>?_)<;>(try simp only[go_sem] at h)<;>(try exact g_f))|(with_reducible refine And.intro ?_ ?_;· exact g_x)|(with_reducible intro h;(try simp only[go_sem] at h);(try exact g_f))))
  all_goals refine AWP_rounds 4 ?_
  all_goals (repeat' (first|(refine g_s fun K hK=>?_)|(refine g_b ?_)|(refine g_r ?_)|(refine g_k ?_;simp only[thenQ,blockQ])|(refine g_e ?_;simp only[thenQ,blockQ,↓reduceIte,Nat.reduceEqDiff])|(refine g_c (fun h=>?_) (fun h=>?_)<;>(try simp only[go_sem] at h)<;>(try exact g_f))|((first|refine g_t ?_|refine g_g ?_|refine g_U ?_|refine g_A ?_|refine AWP_drawL false true tab_mixed (by decide +kernel) ?_);(try simp -implicitDefEqProofs only[go_sem,nc0, nc1, nc2, nc3, nc4, nc5, nc6, w1, wn, List.map_cons, List.map_nil, Nat.min_def, List.take, List.drop]))|(with_reducible refine hK _ _ ?_;clear hK K)|(clear hK K;first|(with_reducible refine hK _ _ ?_;clear hK K)|(clear hK K;with_reducible refine hK _ _ ?_;clear hK K)|(clear hK K;clear hK K;with_reducible refine hK _ _ ?_;clear hK K))|(with_reducible refine splitB_intro (fun h=>?_) (fun h=>?_)<;>(try simp only[go_sem] at h)<;>(try exact g_f)<;>(try simp -implicitDefEqProofs only[go_sem,nc0, nc1, nc2, nc3, nc4, nc5, nc6, w1, wn, List.map_cons, List.map_nil, Nat.min_def, List.take, List.drop]))|(with_reducible refine And.intro (fun h=>?_) (fun h=>?_)<;>(try simp only[go_sem] at h)<;>(try exact g_f))|(with_reducible refine And.intro ?_ ?_;· exact g_x)|(with_reducible intro h;(try simp only[go_sem] at h);(try exact g_f))))
  all_goals rfl

theorem get_mapR (l : List Rt) {k : Int} (h0 : 0 ≤ k) (h : k < l.length) : (l.map rtC)[k.toNat]? = some [.c (.int .i64 (at0 l k).w), .sl ((at0 l k).p.map intC)] := by
  have : k.toNat < l.length := by omega
  simp [at0, List.getD_eq_getElem?_getD, this, rtC, intA1, intsA]
theorem set_mapR (l : List Rt) (k : Nat) (r : Rt) : (l.map rtC).set k [.c (.int .i64 r.w), .sl (r.p.map intC)] = (l.set k r).map rtC := by
  rw [List.map_set]
  rfl
theorem at0_setR2 (l : List Rt) {k q : Int} (v : Rt) (h0 : 0 ≤ k) (hq : 0 ≤ q) (h : k < l.length) : at0 (l.set k.toNat v) q = if q = k then v else at0 l q := by
  simp only [at0, List.getD_eq_getElem?_getD, List.getElem?_set]
  by_cases e : q = k
  · subst e
    have : q.toNat < l.length := by omega
    simp [this]
  · have : ¬ k.toNat = q.toNat := by omega
    simp [this, e]
theorem at0_replR (m : Nat) (v : Rt) {q : Int} (h0 : 0 ≤ q) (h : q < m) : at0 (List.replicate m v) q = v := by
  have : q.toNat < m := by omega
  simp [at0, List.getD_eq_getElem?_getD, List.getElem?_replicate, this]

theorem pathNext_calls (n : Net) (x : List (List Rt)) (hc : checkN n = 0) (hx : FitP n x) (hl : n.links.length ≤ 5864062014634) (σ : Store) : ACalls Try.prog 95 [.agg (netC n), rtsC x] σ fun r σ' => σ' = σ ∧ r = rtsC (roundP n x) := by
  have hn := netIn_of hc
  have n1 := hn.n1
  have n6 := hn.n6
  have s2 := hn.alg.s2
  have s24 := hn.alg.s24
  have hxl := hx.len
  have hi64 : I64 (n.alg.size - 1) := by unfold I64; omega
  have hns : n.nodes = 1 ∨ n.nodes = 2 ∨ n.nodes = 3 ∨ n.nodes = 4 ∨ n.nodes = 5 ∨ n.nodes = 6 := by omega
  obtain ⟨row0, hrow0⟩ : ∃ l, l = List.replicate n.nodes.toNat (invR n) := ⟨_, rfl⟩
  have hl0 : (row0.length : Int) = n.nodes := by rw [hrow0, List.length_replicate]; omega
  refine ACalls.cutX ?_
  refine ACalls_of_awp Try.func95 rfl Try.results95 ?_
  simp only [List.length_cons, List.length_nil, Try.ntmps95, Nat.reduceAdd, Nat.reduceSub, enterA]
  refine AWP_seq_k fun K hK => ?_
  (refine AWP_region ?_; simp -implicitDefEqProofs only [go_sem])
  refine hK _ _ ?_; clear hK K
  refine AWP_freezeP 2 rfl (by simp only [st0]; rfl) ?_
  simp only [ss0, List.set_cons_zero]
  (repeat' (first|(refine g_s fun K hK=>?_)|(refine g_b ?_)|(refine g_r ?_)|(refine g_k ?_;simp only[thenQ,blockQ])|(refine g_e ?_;simp only[thenQ,blockQ,↓reduceIte,Nat.reduceEqDiff])|(refine g_c (fun h=>?_) (fun h=>?_)<;>(try simp only[go_sem] at h)<;>(try exact g_f))|((first|refine g_t ?_|refine g_G ?_|refine g_U ?_|refine g_A ?_|refine g_W ?_);(try simp -implicitDefEqProofs only[go_sem]))|(with_reducible refine hK _ _ ?_;clear hK K)|(clear hK K;first|(with_reducible refine hK _ _ ?_;clear hK K)|(clear hK K;with_reducible refine hK _ _ ?_;clear hK K)|(clear hK K;clear hK K;with_reducible refine hK _ _ ?_;clear hK K))|(with_reducible refine splitB_intro (fun h=>?_) (fun h=>?_)<;>(try simp only[go_sem] at h)<;>(try exact g_f)<;>(try simp -implicitDefEqProofs only[go_sem]))|(with_reducible refine And.intro (fun h=>?_) (fun h=>?_)<;>(try simp only[go_sem] at h)<;>(try exact g_f))|(with_reducible refine And.intro ?_ ?_;· exact g_x)|(with_reducible intro h;(try simp only[go_sem] at h);(try exact g_f))))
  refine AWP_pad ?_
  have hJ := hK
  clear hK
  refine AWP_each (ints n.nodes) (fun i r acc => acc ++ r.map (rowP n x) = roundP n x) (fun i acc τ => [(13, intA1 i), (5, accV 1 (σ.length + (τ.length + 1)) acc)]) (fun _ acc τ => σ ++ (.dead :: (τ ++ [accO rtRow 1 acc]))) [] [] rfl ?_ (ALe_of ?_) ?_ ?_
  · simp [accO]
  · simp -implicitDefEqProofs only [go_sem, accV, accO]
  · rintro i r acc τ hi0 hi1 h3 L hL
    rw [ints_length] at hi1
    rw [at0_ints hi0 (by omega)] at h3
    have hal : acc.length + 1 ≤ 6 := by have := congrArg List.length h3; simp [roundP, ints_length] at this; omega
    have hiN : 0 ≤ i ∧ i < n.nodes := ⟨hi0, by omega⟩
    have hg0 := get_mapR row0 hi0 (by omega)
    have hs0 : (row0.map rtC).set i.toNat [.c (.int .i64 0), .sl [[.c (.int .i64 i)]]] = (row0.set i.toNat ⟨0, [i]⟩).map rtC := set_mapR row0 i.toNat ⟨0, [i]⟩
    obtain ⟨row1, hrow1⟩ : ∃ l, l = row0.set i.toNat ⟨0, [i]⟩ := ⟨_, rfl⟩
    rw [← hrow1] at hs0
    have hl1 : (row1.length : Int) = n.nodes := by rw [hrow1, List.length_set]; exact hl0
    have hr1 : ∀ q, 0 ≤ q → q < n.nodes → at0 row1 q = initR n i q := fun q h0 h1 => by
      rw [hrow1, at0_setR2 row0 _ hi0 h0 (by omega), initR]
      by_cases e : q = i
      · rw [if_pos e, if_pos e.symm]
      · rw [if_neg e, if_neg (fun e2 => e e2.symm), hrow0, at0_replR _ _ h0 (by omega)]
    obtain ⟨ρ, hρ⟩ : ∃ ρ : Store, σ ++ (.dead :: (τ ++ [accO rtRow 1 acc])) = ρ := ⟨_, rfl⟩
    rw [hρ]
    have hrep : ∀ S, ACalls Try.prog 154 [.sl [rtC (invR n)], intA1 n.nodes] S fun r σ' => σ' = S ++ [.cells 2 (row0.map rtC)] ∧ r = .own S.length 2 0 n.nodes.toNat n.nodes.toNat := fun S => by rw [hrow0]; exact repeatR_calls (invR n) n.nodes hns S
    simp -implicitDefEqProofs only [go_sem]
    (repeat' (first|(refine g_s fun K hK=>?_)|(refine g_b ?_)|(refine g_r ?_)|(refine g_k ?_;simp only[thenQ,blockQ])|(refine g_e ?_;simp only[thenQ,blockQ,↓reduceIte,Nat.reduceEqDiff])|(refine g_c (fun h=>?_) (fun h=>?_)<;>(try simp only[go_sem] at h)<;>(try exact g_f))|((first|refine g_t ?_|refine g_G ?_|refine AWP_drawK 5 tab_mixed (by decide +kernel) ?_|refine (pnone_calls n hi64 _).use ?_|refine g_q (fun τ=>pnone_calls n hi64 _) ?_|refine ACalls.useA (hrep _) ?_);(try simp -implicitDefEqProofs only[go_sem,hg0, hs0]))|(with_reducible refine hK _ _ ?_;clear hK K)|(clear hK K;first|(with_reducible refine hK _ _ ?_;clear hK K)|(clear hK K;with_reducible refine hK _ _ ?_;clear hK K)|(clear hK K;clear hK K;with_reducible refine hK _ _ ?_;clear hK K))|(with_reducible refine splitB_intro (fun h=>?_) (fun h=>?_)<;>(try simp only[go_sem] at h)<;>(try exact g_f)<;>(try simp -implicitDefEqProofs only[go_sem,hg0, hs0]))|(with_reducible refine And.intro (fun h=>?_) (fun h=>?_)<;>(try simp only[go_sem] at h)<;>(try exact g_f))|(with_reducible refine And.intro ?_ ?_;· exact g_x)|(with_reducible intro h;(try simp only[go_sem] at h);(try exact g_f))))
    have hJ2 := hK
    clear hK
    refine AWP_each n.links (fun _ r (row : List Rt) => (row.length : Int) = n.nodes ∧ ∀ q, 0 ≤ q → q < n.nodes → routeQ n i q (fun k => at2R x k q) = r.foldl (fun out l => if l.fr = i then bestR n out (extR n i l.edge (at2R x l.dst q)) else out) (at0 row q) ∧ RightR n (at0 row q))
      (fun k _ _ => [(31, intA1 k)]) (fun _ row τ2 => ρ ++ (.cells 2 (row.map rtC) :: τ2)) row1 [] ⟨hl1, fun q h0 h1 => ⟨by rw [hr1 q h0 h1]; rfl, by rw [hr1 q h0 h1]; exact right_init hn hiN⟩⟩ rfl (ALe_of ?_) ?_ ?_
    · simp -implicitDefEqProofs only [go_sem]
    · rintro k r9 row τ2 hk0 hk1 ⟨hrl, hq⟩ L2 hL2
      have hmem := at0_mem n.links hk0 hk1
      obtain ⟨l, hla⟩ : ∃ l, at0 n.links k = l := ⟨_, rfl⟩
      rw [hla] at hq hmem
      have hlk := hn.lnk l hmem
      have hd0 := hlk.d0
      have hd1 := hlk.d1
      have he0 := hlk.e0
      have he1 := hlk.e1
      simp -implicitDefEqProofs only [go_sem]
      by_cases he : l.fr = i
      · (repeat' (first|(refine g_s fun K hK=>?_)|(refine g_b ?_)|(refine g_r ?_)|(refine g_k ?_;simp only[thenQ,blockQ])|(refine g_e ?_;simp only[thenQ,blockQ,↓reduceIte,Nat.reduceEqDiff])|(refine g_c (fun h=>?_) (fun h=>?_)<;>(try simp only[go_sem] at h)<;>(try exact g_f))|((first|refine g_t ?_|refine g_g ?_|refine g_U ?_|refine g_A ?_|refine g_W ?_);(try simp -implicitDefEqProofs only[go_sem,hla]))|(with_reducible refine hK _ _ ?_;clear hK K)|(clear hK K;first|(with_reducible refine hK _ _ ?_;clear hK K)|(clear hK K;with_reducible refine hK _ _ ?_;clear hK K)|(clear hK K;clear hK K;with_reducible refine hK _ _ ?_;clear hK K))|(with_reducible refine splitB_intro (fun h=>?_) (fun h=>?_)<;>(try simp only[go_sem] at h)<;>(try exact g_f)<;>(try simp -implicitDefEqProofs only[go_sem,hla]))|(with_reducible refine And.intro (fun h=>?_) (fun h=>?_)<;>(try simp only[go_sem] at h)<;>(try exact g_f))|(with_reducible refine And.intro ?_ ?_;· exact g_x)|(with_reducible intro h;(try simp only[go_sem] at h);(try exact g_f))))
        have hJ3 := hK
        clear hK
        refine AWP_for n.nodes (fun j (rw' : List Rt) => (rw'.length : Int) = n.nodes ∧ ∀ q, 0 ≤ q → q < n.nodes → at0 rw' q = if q < j then bestR n (at0 row q) (extR n i l.edge (at2R x l.dst q)) else at0 row q) (fun j _ _ => [(41, intA1 j)])
          (fun _ rw' τ3 => ρ ++ (.cells 2 (rw'.map rtC) :: (τ2 ++ .cells 3 [lnkC l] :: τ3))) row [] (by omega) ⟨hrl, fun q h0 h1 => by rw [if_neg (by omega)]⟩ (by simp [lnkC, intA1]) (ALe_of ?_) ?_
        · simp -implicitDefEqProofs only [go_sem]
        · rintro j rw' τ3 hj0 hj1 ⟨hrl2, hA⟩ L3 hL3
          by_cases hj2 : j < n.nodes
          · have hold := hA j hj0 hj2
            rw [if_neg (by omega)] at hold
            have hrg := (hq j hj0 hj2).2
            rw [← hold] at hrg
            have hHr := hx.right (i := l.dst) (j := j) ⟨hd0, hd1⟩ ⟨hj0, hj2⟩
            have hxr := right_ext hn hiN ⟨he0, he1⟩ hHr
            have h6 := right_len hn hHr
            have h6x := right_len hn hxr
            have h6o := right_len hn hrg
            have hX := extend_calls n l (at2R x l.dst j) hn hlk hHr (by omega)
            rw [he] at hX
            have hB := best_calls n (at0 rw' j) (extR n i l.edge (at2R x l.dst j)) hn hrg hxr (by omega) (by omega)
            have hg := get_mapR rw' hj0 (by omega)
            have hxl2 : (at0 x l.dst).length = n.nodes := hx.row _ (at0_mem x hd0 (by omega))
            obtain ⟨Bv, hBv⟩ : ∃ Bv, bestR n (at0 rw' j) (extR n i l.edge (at2R x l.dst j)) = Bv := ⟨_, rfl⟩
            rw [hBv] at hB
            have hsm := set_mapR rw' j.toNat Bv
            have hat : at0 (at0 x l.dst) j = at2R x l.dst j := rfl
            simp -implicitDefEqProofs only [go_sem]
            (repeat' (first|(refine g_s fun K hK=>?_)|(refine g_b ?_)|(refine g_r ?_)|(refine g_k ?_;simp only[thenQ,blockQ])|(refine g_e ?_;simp only[thenQ,blockQ,↓reduceIte,Nat.reduceEqDiff])|(refine g_c (fun h=>?_) (fun h=>?_)<;>(try simp only[go_sem] at h)<;>(try exact g_f))|((first|refine g_t ?_|refine g_g ?_|refine g_U ?_|refine g_A ?_|refine (hX _).use ?_|refine g_q (fun τ=>hX _) ?_|refine (hB _).use ?_|refine g_q (fun τ=>hB _) ?_|refine g_W ?_);(try simp -implicitDefEqProofs only[go_sem,hat, hg, hsm]))|(with_reducible refine hK _ _ ?_;clear hK K)|(clear hK K;first|(with_reducible refine hK _ _ ?_;clear hK K)|(clear hK K;with_reducible refine hK _ _ ?_;clear hK K)|(clear hK K;clear hK K;with_reducible refine hK _ _ ?_;clear hK K))|(with_reducible refine splitB_intro (fun h=>?_) (fun h=>?_)<;>(try simp only[go_sem] at h)<;>(try exact g_f)<;>(try simp -implicitDefEqProofs only[go_sem,hat, hg, hsm]))|(with_reducible refine And.intro (fun h=>?_) (fun h=>?_)<;>(try simp only[go_sem] at h)<;>(try exact g_f))|(with_reducible refine And.intro ?_ ?_;· exact g_x)|(with_reducible intro h;(try simp only[go_sem] at h);(try exact g_f))))
            refine hL3 hj2 (rw'.set j.toNat Bv) τ3 _ _ ⟨by rw [List.length_set]; exact hrl2, fun q h0 h1 => ?_⟩ (ALe_of ?_) rfl
            · rw [at0_setR2 rw' _ hj0 h0 (by omega)]
              by_cases e : q = j
              · rw [if_pos e, if_pos (by omega), e, ← hBv, hold]
              · rw [if_neg e, hA q h0 h1]
                by_cases e2 : q < j
                · rw [if_pos e2, if_pos (by omega)]
                · rw [if_neg e2, if_neg (by omega)]
            · simp -implicitDefEqProofs only [go_sem]
          · simp -implicitDefEqProofs only [go_sem]
            (repeat' (first|(refine g_s fun K hK=>?_)|(refine g_b ?_)|(refine g_r ?_)|(refine g_k ?_;simp only[thenQ,blockQ])|(refine g_e ?_;simp only[thenQ,blockQ,↓reduceIte,Nat.reduceEqDiff])|(refine g_c (fun h=>?_) (fun h=>?_)<;>(try simp only[go_sem] at h)<;>(try exact g_f))|((first|refine g_t ?_|refine g_g ?_|refine g_U ?_|refine g_A ?_|refine g_W ?_);(try simp -implicitDefEqProofs only[go_sem]))|(with_reducible refine hK _ _ ?_;clear hK K)|(clear hK K;first|(with_reducible refine hK _ _ ?_;clear hK K)|(clear hK K;with_reducible refine hK _ _ ?_;clear hK K)|(clear hK K;clear hK K;with_reducible refine hK _ _ ?_;clear hK K))|(with_reducible refine splitB_intro (fun h=>?_) (fun h=>?_)<;>(try simp only[go_sem] at h)<;>(try exact g_f)<;>(try simp -implicitDefEqProofs only[go_sem]))|(with_reducible refine And.intro (fun h=>?_) (fun h=>?_)<;>(try simp only[go_sem] at h)<;>(try exact g_f))|(with_reducible refine And.intro ?_ ?_;· exact g_x)|(with_reducible intro h;(try simp only[go_sem] at h);(try exact g_f))))
            refine hJ3 _ _ ?_
            clear hJ3
            (repeat' (first|(refine g_s fun K hK=>?_)|(refine g_b ?_)|(refine g_r ?_)|(refine g_k ?_;simp only[thenQ,blockQ])|(refine g_e ?_;simp only[thenQ,blockQ,↓reduceIte,Nat.reduceEqDiff])|(refine g_c (fun h=>?_) (fun h=>?_)<;>(try simp only[go_sem] at h)<;>(try exact g_f))|((first|refine g_t ?_|refine g_g ?_|refine g_U ?_|refine g_A ?_|refine g_W ?_);(try simp -implicitDefEqProofs only[go_sem]))|(with_reducible refine hK _ _ ?_;clear hK K)|(clear hK K;first|(with_reducible refine hK _ _ ?_;clear hK K)|(clear hK K;with_reducible refine hK _ _ ?_;clear hK K)|(clear hK K;clear hK K;with_reducible refine hK _ _ ?_;clear hK K))|(with_reducible refine splitB_intro (fun h=>?_) (fun h=>?_)<;>(try simp only[go_sem] at h)<;>(try exact g_f)<;>(try simp -implicitDefEqProofs only[go_sem]))|(with_reducible refine And.intro (fun h=>?_) (fun h=>?_)<;>(try simp only[go_sem] at h)<;>(try exact g_f))|(with_reducible refine And.intro ?_ ?_;· exact g_x)|(with_reducible intro h;(try simp only[go_sem] at h);(try exact g_f))))
            refine hL2 rw' (τ2 ++ .cells 3 [lnkC l] :: τ3) _ _ ⟨hrl2, fun q h0 h1 => ?_⟩ (ALe_of ?_) (by simp [lnkC, intA1])
            · have h3 := hq q h0 h1
              have h4 := hA q h0 h1
              rw [if_pos (by omega)] at h4
              rw [List.foldl_cons, if_pos he] at h3
              rw [h4]
              exact ⟨h3.1, (bestR_facts hn h3.2 (right_ext hn hiN ⟨he0, he1⟩ (hx.right ⟨hd0, hd1⟩ ⟨h0, h1⟩))).1⟩
            · simp -implicitDefEqProofs only [go_sem]
      · (repeat' (first|(refine g_s fun K hK=>?_)|(refine g_b ?_)|(refine g_r ?_)|(refine g_k ?_;simp only[thenQ,blockQ])|(refine g_e ?_;simp only[thenQ,blockQ,↓reduceIte,Nat.reduceEqDiff])|(refine g_c (fun h=>?_) (fun h=>?_)<;>(try simp only[go_sem] at h)<;>(try exact g_f))|((first|refine g_t ?_|refine g_g ?_|refine g_U ?_|refine g_A ?_|refine g_W ?_);(try simp -implicitDefEqProofs only[go_sem,hla]))|(with_reducible refine hK _ _ ?_;clear hK K)|(clear hK K;first|(with_reducible refine hK _ _ ?_;clear hK K)|(clear hK K;with_reducible refine hK _ _ ?_;clear hK K)|(clear hK K;clear hK K;with_reducible refine hK _ _ ?_;clear hK K))|(with_reducible refine splitB_intro (fun h=>?_) (fun h=>?_)<;>(try simp only[go_sem] at h)<;>(try exact g_f)<;>(try simp -implicitDefEqProofs only[go_sem,hla]))|(with_reducible refine And.intro (fun h=>?_) (fun h=>?_)<;>(try simp only[go_sem] at h)<;>(try exact g_f))|(with_reducible refine And.intro ?_ ?_;· exact g_x)|(with_reducible intro h;(try simp only[go_sem] at h);(try exact g_f))))
        refine hL2 row (τ2 ++ [.cells 3 [lnkC l]]) _ _ ⟨hrl, fun q h0 h1 => ?_⟩ (ALe_of ?_) (by simp [lnkC, intA1])
        · have h3 := hq q h0 h1
          rw [List.foldl_cons, if_neg he] at h3
          exact h3
        · simp -implicitDefEqProofs only [go_sem]
    · rintro k row τ2 hk ⟨hrl, hq⟩ L2
      have hrow : row = rowP n x i := by
        refine at0_extR (by rw [rowP, List.length_map, ints_length]; omega) fun q h0 h1 => ?_
        rw [rowP, at0_map _ _ h0 (by rw [ints_length]; omega), at0_ints h0 (by omega)]
        rw [← routeQ_eq hc hiN (fun k a b => hx.right ⟨a, b⟩ ⟨h0, by omega⟩), (hq q h0 (by omega)).1]
        rfl
      simp -implicitDefEqProofs only [go_sem]
      (repeat' (first|(refine g_s fun K hK=>?_)|(refine g_b ?_)|(refine g_r ?_)|(refine g_k ?_;simp only[thenQ,blockQ])|(refine g_e ?_;simp only[thenQ,blockQ,↓reduceIte,Nat.reduceEqDiff])|(refine g_c (fun h=>?_) (fun h=>?_)<;>(try simp only[go_sem] at h)<;>(try exact g_f))|((first|refine g_g ?_|refine g_U ?_|refine g_A ?_|refine g_W ?_);(try simp -implicitDefEqProofs only[go_sem]))|(with_reducible refine hK _ _ ?_;clear hK K)|(clear hK K;first|(with_reducible refine hK _ _ ?_;clear hK K)|(clear hK K;with_reducible refine hK _ _ ?_;clear hK K)|(clear hK K;clear hK K;with_reducible refine hK _ _ ?_;clear hK K))|(with_reducible refine splitB_intro (fun h=>?_) (fun h=>?_)<;>(try simp only[go_sem] at h)<;>(try exact g_f)<;>(try simp -implicitDefEqProofs only[go_sem]))|(with_reducible refine And.intro (fun h=>?_) (fun h=>?_)<;>(try simp only[go_sem] at h)<;>(try exact g_f))|(with_reducible refine And.intro ?_ ?_;· exact g_x)|(with_reducible intro h;(try simp only[go_sem] at h);(try exact g_f))))
      refine hJ2 _ _ ?_
      clear hJ2
      refine AWP_freezeT 7 (a := .own ρ.length 2 0 n.nodes.toNat n.nodes.toNat) (es := row.map rtC) (by first | rfl | (simp -implicitDefEqProofs only [go_sem]; done) | (simp -implicitDefEqProofs only [go_sem]; rfl)) (by simp [elemsA, st1]; omega) ?_
      have hkil : killA (ρ ++ Ob.cells 2 (row.map rtC) :: τ2) (.own ρ.length 2 0 n.nodes.toNat n.nodes.toNat) = ρ ++ .dead :: τ2 := by simp [killA]
      rw [hkil, hrow]
      have est : ρ ++ Ob.dead :: τ2 = σ ++ (.dead :: (τ ++ accO rtRow 1 acc :: .dead :: τ2)) := by rw [← hρ]; simp
      rw [est]
      rcases acc with _ | ⟨y, acc⟩ <;> simp only [List.length_cons, List.length_nil] at hal <;> simp -implicitDefEqProofs only [go_sem, accV, accO]
      all_goals (repeat' (first|(refine g_s fun K hK=>?_)|(refine g_b ?_)|(refine g_r ?_)|(refine g_k ?_;simp only[thenQ,blockQ])|(refine g_e ?_;simp only[thenQ,blockQ,↓reduceIte,Nat.reduceEqDiff])|(refine g_c (fun h=>?_) (fun h=>?_)<;>(try simp only[go_sem] at h)<;>(try exact g_f))|((first|refine g_t ?_|refine g_G ?_|refine g_U ?_|refine g_A ?_|refine g_W ?_);(try simp -implicitDefEqProofs only[go_sem]))|(with_reducible refine hK _ _ ?_;clear hK K)|(clear hK K;first|(with_reducible refine hK _ _ ?_;clear hK K)|(clear hK K;with_reducible refine hK _ _ ?_;clear hK K)|(clear hK K;clear hK K;with_reducible refine hK _ _ ?_;clear hK K))|(with_reducible refine splitB_intro (fun h=>?_) (fun h=>?_)<;>(try simp only[go_sem] at h)<;>(try exact g_f)<;>(try simp -implicitDefEqProofs only[go_sem]))|(with_reducible refine And.intro (fun h=>?_) (fun h=>?_)<;>(try simp only[go_sem] at h)<;>(try exact g_f))|(with_reducible refine And.intro ?_ ?_;· exact g_x)|(with_reducible intro h;(try simp only[go_sem] at h);(try exact g_f))))
      · refine hL [rowP n x i] (τ ++ .dead :: .dead :: τ2) _ _ (by simpa using h3) (ALe_of ?_) ?_
        · simp -implicitDefEqProofs only [go_sem, accV]
        · simp [accO, rtRow]
      · refine hL (y :: acc ++ [rowP n x i]) (τ ++ .dead :: .dead :: τ2) _ _ (by simpa using h3) (ALe_of ?_) ?_
        · simp -implicitDefEqProofs only [go_sem, accV]
        · simp [accO, rtRow]
  · rintro i acc τ hi h3 L
    rw [ints_length] at hi
    rw [List.map_nil, List.append_nil] at h3
    simp -implicitDefEqProofs only [go_sem]
    (repeat' (first|(refine g_s fun K hK=>?_)|(refine g_b ?_)|(refine g_r ?_)|(refine g_k ?_;simp only[thenQ,blockQ])|(refine g_e ?_;simp only[thenQ,blockQ,↓reduceIte,Nat.reduceEqDiff])|(refine g_c (fun h=>?_) (fun h=>?_)<;>(try simp only[go_sem] at h)<;>(try exact g_f))|((first|refine g_g ?_|refine g_U ?_|refine g_A ?_|refine g_W ?_);(try simp -implicitDefEqProofs only[go_sem]))|(with_reducible refine hK _ _ ?_;clear hK K)|(clear hK K;first|(with_reducible refine hK _ _ ?_;clear hK K)|(clear hK K;with_reducible refine hK _ _ ?_;clear hK K)|(clear hK K;clear hK K;with_reducible refine hK _ _ ?_;clear hK K))|(with_reducible refine splitB_intro (fun h=>?_) (fun h=>?_)<;>(try simp only[go_sem] at h)<;>(try exact g_f)<;>(try simp -implicitDefEqProofs only[go_sem]))|(with_reducible refine And.intro (fun h=>?_) (fun h=>?_)<;>(try simp only[go_sem] at h)<;>(try exact g_f))|(with_reducible refine And.intro ?_ ?_;· exact g_x)|(with_reducible intro h;(try simp only[go_sem] at h);(try exact g_f))))
    refine hJ _ _ ?_
    clear hJ
    have est : σ ++ (.dead :: (τ ++ [accO rtRow 1 acc])) = σ ++ ((.dead :: τ) ++ accO rtRow 1 acc :: []) := by simp
    rw [est]
    refine AWP_freezeAcc 5 rtRow 1 acc σ (.dead :: τ) [] (by simp [look, Nat.add_assoc]) ?_
    (repeat' (first|(refine g_s fun K hK=>?_)|(refine g_b ?_)|(refine g_r ?_)|(refine g_k ?_;simp only[thenQ,blockQ])|(refine g_e ?_;simp only[thenQ,blockQ,↓reduceIte,Nat.reduceEqDiff])|(refine g_c (fun h=>?_) (fun h=>?_)<;>(try simp only[go_sem] at h)<;>(try exact g_f))|((first|refine g_t ?_|refine g_G ?_|refine g_U ?_|refine g_A ?_|refine g_W ?_);(try simp -implicitDefEqProofs only[go_sem]))|(with_reducible refine hK _ _ ?_;clear hK K)|(clear hK K;first|(with_reducible refine hK _ _ ?_;clear hK K)|(clear hK K;with_reducible refine hK _ _ ?_;clear hK K)|(clear hK K;clear hK K;with_reducible refine hK _ _ ?_;clear hK K))|(with_reducible refine splitB_intro (fun h=>?_) (fun h=>?_)<;>(try simp only[go_sem] at h)<;>(try exact g_f)<;>(try simp -implicitDefEqProofs only[go_sem]))|(with_reducible refine And.intro (fun h=>?_) (fun h=>?_)<;>(try simp only[go_sem] at h)<;>(try exact g_f))|(with_reducible refine And.intro ?_ ?_;· exact g_x)|(with_reducible intro h;(try simp only[go_sem] at h);(try exact g_f))))
    rw [h3]
    exact CutQ_w rfl (Bd.rts _) (.eq rfl)
end Go.Proofs.Ytephecognbbaoab
