/- What must be in any case of nets; the law NetSettles, walked. -/
import Derived.Test.YtephecognbbaoabNk
namespace Go.Proofs.Ytephecognbbaoab
open Go
set_option linter.all false
set_option maxRecDepth 100000
set_option maxHeartbeats 4000000

def beginRow (n : Net) (i : Int) : List Int := (ints n.nodes).map fun j => if i = j then 0 else n.alg.size - 1

theorem trivial_calls (n : Net) (hn : NetIn n) (σ : Store) : ACalls Try.prog 74 [.agg (netC n)] σ fun r σ' => σ' = σ ∧ r = rowsC (beginA n) := by
  have n1 := hn.n1
  have n6 := hn.n6
  have s2 := hn.alg.s2
  have s24 := hn.alg.s24
  have hns : n.nodes = 1 ∨ n.nodes = 2 ∨ n.nodes = 3 ∨ n.nodes = 4 ∨ n.nodes = 5 ∨ n.nodes = 6 := by omega
  refine ACalls.cutX ?_
  refine ACalls_of_awp Try.func74 rfl Try.results74 ?_
  simp only [List.length_cons, List.length_nil, Try.ntmps74, Nat.reduceAdd, Nat.reduceSub, enterA]
  refine AWP_seq_k fun K hK => ?_
  (refine AWP_region ?_; simp -implicitDefEqProofs only [go_sem])
  refine hK _ _ ?_; clear hK K
  refine AWP_freezeP 1 rfl (by simp only [st0]; rfl) ?_
  simp only [ss0, List.set_cons_zero]
  (repeat' (first|(refine g_s fun K hK=>?_)|(refine g_b ?_)|(refine g_r ?_)|(refine g_k ?_;simp only[thenQ,blockQ])|(refine g_e ?_;simp only[thenQ,blockQ,↓reduceIte,Nat.reduceEqDiff])|(refine g_c (fun h=>?_) (fun h=>?_)<;>(try simp only[go_sem] at h)<;>(try exact g_f))|((first|refine g_t ?_|refine g_G ?_|refine g_U ?_|refine g_A ?_|refine g_W ?_);(try simp -implicitDefEqProofs only[go_sem]))|(with_reducible refine hK _ _ ?_;clear hK K)|(clear hK K;first|(with_reducible refine hK _ _ ?_;clear hK K)|(clear hK K;with_reducible refine hK _ _ ?_;clear hK K)|(clear hK K;clear hK K;with_reducible refine hK _ _ ?_;clear hK K))|(with_reducible refine splitB_intro (fun h=>?_) (fun h=>?_)<;>(try simp only[go_sem] at h)<;>(try exact g_f)<;>(try simp -implicitDefEqProofs only[go_sem]))|(with_reducible refine And.intro (fun h=>?_) (fun h=>?_)<;>(try simp only[go_sem] at h)<;>(try exact g_f))|(with_reducible refine And.intro ?_ ?_;· exact g_x)|(with_reducible intro h;(try simp only[go_sem] at h);(try exact g_f))))
  refine AWP_pad ?_
  have hJ := hK
  clear hK
  refine AWP_each (ints n.nodes) (fun i r acc => acc ++ r.map (beginRow n) = beginA n) (fun i acc τ => [(8, intA1 i), (3, accV 1 (σ.length + (τ.length + 1)) acc)]) (fun _ acc τ => σ ++ (.dead :: (τ ++ [accO rowC 1 acc]))) [] [] rfl ?_ (ALe_of ?_) ?_ ?_
  · simp [accO]
  · simp -implicitDefEqProofs only [go_sem, accV, accO]
  · rintro i r acc τ hi0 hi1 h3 L hL
    rw [ints_length] at hi1
    rw [at0_ints hi0 (by omega)] at h3
    have hal : acc.length + 1 ≤ 6 := by have := congrArg List.length h3; simp [beginA, ints_length] at this; omega
    obtain ⟨row0, hrow0⟩ : ∃ l, l = List.replicate n.nodes.toNat (n.alg.size - 1) := ⟨_, rfl⟩
    have hl0 : (row0.length : Int) = n.nodes := by rw [hrow0, List.length_replicate]; omega
    have hg0 := get_map row0 hi0 (by omega)
    have hrow : row0.set i.toNat 0 = beginRow n i := by
      refine at0_eq (by rw [List.length_set, beginRow, List.length_map, ints_length]; omega) fun q h0 h1 => ?_
      rw [List.length_set] at h1
      rw [at0_set row0 0 hi0 h0 (by omega), beginRow, at0_map _ _ h0 (by rw [ints_length]; omega), at0_ints h0 (by omega)]
      by_cases e : q = i
      · rw [if_pos e, if_pos e.symm]
      · rw [if_neg e, if_neg (fun e2 => e e2.symm), hrow0, at0_repl _ _ h0 (by omega)]
    have hrl : (beginRow n i).length = n.nodes.toNat := by rw [beginRow, List.length_map, ints_length]
    rcases acc with _ | ⟨y, acc⟩ <;> simp only [List.length_cons, List.length_nil] at hal <;> simp -implicitDefEqProofs only [go_sem, accV, accO]
    · (repeat' (first|(refine g_s fun K hK=>?_)|(refine g_b ?_)|(refine g_r ?_)|(refine g_k ?_;simp only[thenQ,blockQ])|(refine g_e ?_;simp only[thenQ,blockQ,↓reduceIte,Nat.reduceEqDiff])|(refine g_c (fun h=>?_) (fun h=>?_)<;>(try simp only[go_sem] at h)<;>(try exact g_f))|((first|refine g_t ?_|refine g_G ?_);(try simp -implicitDefEqProofs only[go_sem]))|(with_reducible refine hK _ _ ?_;clear hK K)|(clear hK K;first|(with_reducible refine hK _ _ ?_;clear hK K)|(clear hK K;with_reducible refine hK _ _ ?_;clear hK K)|(clear hK K;clear hK K;with_reducible refine hK _ _ ?_;clear hK K))|(with_reducible refine splitB_intro (fun h=>?_) (fun h=>?_)<;>(try simp only[go_sem] at h)<;>(try exact g_f)<;>(try simp -implicitDefEqProofs only[go_sem]))|(with_reducible refine And.intro (fun h=>?_) (fun h=>?_)<;>(try simp only[go_sem] at h)<;>(try exact g_f))|(with_reducible refine And.intro ?_ ?_;· exact g_x)|(with_reducible intro h;(try simp only[go_sem] at h);(try exact g_f))))
      have hJ5 := hK
      clear hK
      (refine AWP_drawK 6 tab_mixed (by kernel_rfl) ?_; simp -implicitDefEqProofs only [go_sem])
      (repeat' (first|(refine g_s fun K hK=>?_)|(refine g_b ?_)|(refine g_r ?_)|(refine g_k ?_;simp only[thenQ,blockQ])|(refine g_e ?_;simp only[thenQ,blockQ,↓reduceIte,Nat.reduceEqDiff])|(refine g_c (fun h=>?_) (fun h=>?_)<;>(try simp only[go_sem] at h)<;>(try exact g_f))|((first|refine g_t ?_|refine g_G ?_|refine (invalid_calls n.alg (by unfold I64; omega) _).use ?_|refine g_q (fun τ=>invalid_calls n.alg (by unfold I64; omega) _) ?_|refine ACalls.useA (hrow0 ▸ repeat_calls (n.alg.size - 1) n.nodes hns _) ?_);(try simp -implicitDefEqProofs only[go_sem]))|(with_reducible refine hK _ _ ?_;clear hK K)|(clear hK K;first|(with_reducible refine hK _ _ ?_;clear hK K)|(clear hK K;with_reducible refine hK _ _ ?_;clear hK K)|(clear hK K;clear hK K;with_reducible refine hK _ _ ?_;clear hK K))|(with_reducible refine splitB_intro (fun h=>?_) (fun h=>?_)<;>(try simp only[go_sem] at h)<;>(try exact g_f)<;>(try simp -implicitDefEqProofs only[go_sem]))|(with_reducible refine And.intro (fun h=>?_) (fun h=>?_)<;>(try simp only[go_sem] at h)<;>(try exact g_f))|(with_reducible refine And.intro ?_ ?_;· exact g_x)|(with_reducible intro h;(try simp only[go_sem] at h);(try exact g_f))))
      refine hJ5 _ _ ?_
      clear hJ5
      refine AWP_seq_k fun K hK => ?_
      have hJ6 := hK
      clear hK
      (repeat' (first|(refine g_s fun K hK=>?_)|(refine g_b ?_)|(refine g_r ?_)|(refine g_k ?_;simp only[thenQ,blockQ])|(refine g_e ?_;simp only[thenQ,blockQ,↓reduceIte,Nat.reduceEqDiff])|(refine g_c (fun h=>?_) (fun h=>?_)<;>(try simp only[go_sem] at h)<;>(try exact g_f))|((first|refine g_t ?_|refine g_G ?_);(try simp -implicitDefEqProofs only[go_sem,hg0, set_map]))|(with_reducible refine hK _ _ ?_;clear hK K)|(clear hK K;first|(with_reducible refine hK _ _ ?_;clear hK K)|(clear hK K;with_reducible refine hK _ _ ?_;clear hK K)|(clear hK K;clear hK K;with_reducible refine hK _ _ ?_;clear hK K))|(with_reducible refine splitB_intro (fun h=>?_) (fun h=>?_)<;>(try simp only[go_sem] at h)<;>(try exact g_f)<;>(try simp -implicitDefEqProofs only[go_sem,hg0, set_map]))|(with_reducible refine And.intro (fun h=>?_) (fun h=>?_)<;>(try simp only[go_sem] at h)<;>(try exact g_f))|(with_reducible refine And.intro ?_ ?_;· exact g_x)|(with_reducible intro h;(try simp only[go_sem] at h);(try exact g_f))))
      refine hJ6 _ _ ?_
      clear hJ6
      rw [hrow]
      refine AWP_freezeT 5 (a := .own (σ.length + (τ.length + 2)) 1 0 n.nodes.toNat n.nodes.toNat) (es := (beginRow n i).map intC) (by first | rfl | (simp -implicitDefEqProofs only [go_sem]; done) | (simp -implicitDefEqProofs only [go_sem]; rfl)) (by simp [elemsA, st1, sc1, hrl]) ?_
      have hkil : killA (σ ++ (.dead :: (τ ++ [.dead, .cells 1 ((beginRow n i).map intC)]))) (.own (σ.length + (τ.length + 2)) 1 0 n.nodes.toNat n.nodes.toNat) = σ ++ (.dead :: (τ ++ [.dead, .dead])) := by simp [killA, ss1c]
      rw [hkil]
      (repeat' (first|(refine g_s fun K hK=>?_)|(refine g_b ?_)|(refine g_r ?_)|(refine g_k ?_;simp only[thenQ,blockQ])|(refine g_e ?_;simp only[thenQ,blockQ,↓reduceIte,Nat.reduceEqDiff])|(refine g_c (fun h=>?_) (fun h=>?_)<;>(try simp only[go_sem] at h)<;>(try exact g_f))|((first|refine g_t ?_|refine g_G ?_|refine g_U ?_|refine g_A ?_|refine g_W ?_);(try simp -implicitDefEqProofs only[go_sem]))|(with_reducible refine hK _ _ ?_;clear hK K)|(clear hK K;first|(with_reducible refine hK _ _ ?_;clear hK K)|(clear hK K;with_reducible refine hK _ _ ?_;clear hK K)|(clear hK K;clear hK K;with_reducible refine hK _ _ ?_;clear hK K))|(with_reducible refine splitB_intro (fun h=>?_) (fun h=>?_)<;>(try simp only[go_sem] at h)<;>(try exact g_f)<;>(try simp -implicitDefEqProofs only[go_sem]))|(with_reducible refine And.intro (fun h=>?_) (fun h=>?_)<;>(try simp only[go_sem] at h)<;>(try exact g_f))|(with_reducible refine And.intro ?_ ?_;· exact g_x)|(with_reducible intro h;(try simp only[go_sem] at h);(try exact g_f))))
      refine hL ([beginRow n i]) (τ ++ [.dead, .dead]) _ _ (by simpa using h3) (ALe_of ?_) ?_
      · simp -implicitDefEqProofs only [go_sem, accV]
      · simp [accO, rowC, intsA]
    · (repeat' (first|(refine g_s fun K hK=>?_)|(refine g_b ?_)|(refine g_r ?_)|(refine g_k ?_;simp only[thenQ,blockQ])|(refine g_e ?_;simp only[thenQ,blockQ,↓reduceIte,Nat.reduceEqDiff])|(refine g_c (fun h=>?_) (fun h=>?_)<;>(try simp only[go_sem] at h)<;>(try exact g_f))|((first|refine g_t ?_|refine g_G ?_);(try simp -implicitDefEqProofs only[go_sem]))|(with_reducible refine hK _ _ ?_;clear hK K)|(clear hK K;first|(with_reducible refine hK _ _ ?_;clear hK K)|(clear hK K;with_reducible refine hK _ _ ?_;clear hK K)|(clear hK K;clear hK K;with_reducible refine hK _ _ ?_;clear hK K))|(with_reducible refine splitB_intro (fun h=>?_) (fun h=>?_)<;>(try simp only[go_sem] at h)<;>(try exact g_f)<;>(try simp -implicitDefEqProofs only[go_sem]))|(with_reducible refine And.intro (fun h=>?_) (fun h=>?_)<;>(try simp only[go_sem] at h)<;>(try exact g_f))|(with_reducible refine And.intro ?_ ?_;· exact g_x)|(with_reducible intro h;(try simp only[go_sem] at h);(try exact g_f))))
      have hJ5 := hK
      clear hK
      (refine AWP_drawK 6 tab_mixed (by kernel_rfl) ?_; simp -implicitDefEqProofs only [go_sem])
      (repeat' (first|(refine g_s fun K hK=>?_)|(refine g_b ?_)|(refine g_r ?_)|(refine g_k ?_;simp only[thenQ,blockQ])|(refine g_e ?_;simp only[thenQ,blockQ,↓reduceIte,Nat.reduceEqDiff])|(refine g_c (fun h=>?_) (fun h=>?_)<;>(try simp only[go_sem] at h)<;>(try exact g_f))|((first|refine g_t ?_|refine g_G ?_|refine (invalid_calls n.alg (by unfold I64; omega) _).use ?_|refine g_q (fun τ=>invalid_calls n.alg (by unfold I64; omega) _) ?_|refine ACalls.useA (hrow0 ▸ repeat_calls (n.alg.size - 1) n.nodes hns _) ?_);(try simp -implicitDefEqProofs only[go_sem]))|(with_reducible refine hK _ _ ?_;clear hK K)|(clear hK K;first|(with_reducible refine hK _ _ ?_;clear hK K)|(clear hK K;with_reducible refine hK _ _ ?_;clear hK K)|(clear hK K;clear hK K;with_reducible refine hK _ _ ?_;clear hK K))|(with_reducible refine splitB_intro (fun h=>?_) (fun h=>?_)<;>(try simp only[go_sem] at h)<;>(try exact g_f)<;>(try simp -implicitDefEqProofs only[go_sem]))|(with_reducible refine And.intro (fun h=>?_) (fun h=>?_)<;>(try simp only[go_sem] at h)<;>(try exact g_f))|(with_reducible refine And.intro ?_ ?_;· exact g_x)|(with_reducible intro h;(try simp only[go_sem] at h);(try exact g_f))))
      refine hJ5 _ _ ?_
      clear hJ5
      refine AWP_seq_k fun K hK => ?_
      have hJ6 := hK
      clear hK
      (repeat' (first|(refine g_s fun K hK=>?_)|(refine g_b ?_)|(refine g_r ?_)|(refine g_k ?_;simp only[thenQ,blockQ])|(refine g_e ?_;simp only[thenQ,blockQ,↓reduceIte,Nat.reduceEqDiff])|(refine g_c (fun h=>?_) (fun h=>?_)<;>(try simp only[go_sem] at h)<;>(try exact g_f))|((first|refine g_t ?_|refine g_G ?_);(try simp -implicitDefEqProofs only[go_sem,hg0, set_map]))|(with_reducible refine hK _ _ ?_;clear hK K)|(clear hK K;first|(with_reducible refine hK _ _ ?_;clear hK K)|(clear hK K;with_reducible refine hK _ _ ?_;clear hK K)|(clear hK K;clear hK K;with_reducible refine hK _ _ ?_;clear hK K))|(with_reducible refine splitB_intro (fun h=>?_) (fun h=>?_)<;>(try simp only[go_sem] at h)<;>(try exact g_f)<;>(try simp -implicitDefEqProofs only[go_sem,hg0, set_map]))|(with_reducible refine And.intro (fun h=>?_) (fun h=>?_)<;>(try simp only[go_sem] at h)<;>(try exact g_f))|(with_reducible refine And.intro ?_ ?_;· exact g_x)|(with_reducible intro h;(try simp only[go_sem] at h);(try exact g_f))))
      refine hJ6 _ _ ?_
      clear hJ6
      rw [hrow]
      refine AWP_freezeT 5 (a := .own (σ.length + (τ.length + 2)) 1 0 n.nodes.toNat n.nodes.toNat) (es := (beginRow n i).map intC) (by first | rfl | (simp -implicitDefEqProofs only [go_sem]; done) | (simp -implicitDefEqProofs only [go_sem]; rfl)) (by simp [elemsA, st1, sc1, hrl]) ?_
      have hkil : killA (σ ++ (.dead :: (τ ++ [.cells 1 ((y :: acc).map rowC), .cells 1 ((beginRow n i).map intC)]))) (.own (σ.length + (τ.length + 2)) 1 0 n.nodes.toNat n.nodes.toNat) = σ ++ (.dead :: (τ ++ [.cells 1 ((y :: acc).map rowC), .dead])) := by simp [killA, ss1c]
      rw [hkil]
      (repeat' (first|(refine g_s fun K hK=>?_)|(refine g_b ?_)|(refine g_r ?_)|(refine g_k ?_;simp only[thenQ,blockQ])|(refine g_e ?_;simp only[thenQ,blockQ,↓reduceIte,Nat.reduceEqDiff])|(refine g_c (fun h=>?_) (fun h=>?_)<;>(try simp only[go_sem] at h)<;>(try exact g_f))|((first|refine g_t ?_|refine g_G ?_|refine g_U ?_|refine g_A ?_|refine g_W ?_);(try simp -implicitDefEqProofs only[go_sem]))|(with_reducible refine hK _ _ ?_;clear hK K)|(clear hK K;first|(with_reducible refine hK _ _ ?_;clear hK K)|(clear hK K;with_reducible refine hK _ _ ?_;clear hK K)|(clear hK K;clear hK K;with_reducible refine hK _ _ ?_;clear hK K))|(with_reducible refine splitB_intro (fun h=>?_) (fun h=>?_)<;>(try simp only[go_sem] at h)<;>(try exact g_f)<;>(try simp -implicitDefEqProofs only[go_sem]))|(with_reducible refine And.intro (fun h=>?_) (fun h=>?_)<;>(try simp only[go_sem] at h)<;>(try exact g_f))|(with_reducible refine And.intro ?_ ?_;· exact g_x)|(with_reducible intro h;(try simp only[go_sem] at h);(try exact g_f))))
      refine hL (y :: acc ++ [beginRow n i]) (τ ++ [.dead, .dead]) _ _ (by simpa using h3) (ALe_of ?_) ?_
      · simp -implicitDefEqProofs only [go_sem, accV]
      · simp [accO, rowC, intsA]
  · rintro i acc τ hi h3 L
    rw [ints_length] at hi
    rw [List.map_nil, List.append_nil] at h3
    simp -implicitDefEqProofs only [go_sem]
    (repeat' (first|(refine g_s fun K hK=>?_)|(refine g_b ?_)|(refine g_r ?_)|(refine g_k ?_;simp only[thenQ,blockQ])|(refine g_e ?_;simp only[thenQ,blockQ,↓reduceIte,Nat.reduceEqDiff])|(refine g_c (fun h=>?_) (fun h=>?_)<;>(try simp only[go_sem] at h)<;>(try exact g_f))|((first|refine g_g ?_|refine g_U ?_|refine g_A ?_|refine g_W ?_);(try simp -implicitDefEqProofs only[go_sem]))|(with_reducible refine hK _ _ ?_;clear hK K)|(clear hK K;first|(with_reducible refine hK _ _ ?_;clear hK K)|(clear hK K;with_reducible refine hK _ _ ?_;clear hK K)|(clear hK K;clear hK K;with_reducible refine hK _ _ ?_;clear hK K))|(with_reducible refine splitB_intro (fun h=>?_) (fun h=>?_)<;>(try simp only[go_sem] at h)<;>(try exact g_f)<;>(try simp -implicitDefEqProofs only[go_sem]))|(with_reducible refine And.intro (fun h=>?_) (fun h=>?_)<;>(try simp only[go_sem] at h)<;>(try exact g_f))|(with_reducible refine And.intro ?_ ?_;· exact g_x)|(with_reducible intro h;(try simp only[go_sem] at h);(try exact g_f))))
    refine hJ _ _ ?_
    clear hJ
    have est : σ ++ (.dead :: (τ ++ [accO rowC 1 acc])) = σ ++ ((.dead :: τ) ++ accO rowC 1 acc :: []) := by simp
    rw [est]
    refine AWP_freezeAcc 3 rowC 1 acc σ (.dead :: τ) [] (by simp [look, Nat.add_assoc]) ?_
    (repeat' (first|(refine g_s fun K hK=>?_)|(refine g_b ?_)|(refine g_r ?_)|(refine g_k ?_;simp only[thenQ,blockQ])|(refine g_e ?_;simp only[thenQ,blockQ,↓reduceIte,Nat.reduceEqDiff])|(refine g_c (fun h=>?_) (fun h=>?_)<;>(try simp only[go_sem] at h)<;>(try exact g_f))|((first|refine g_t ?_|refine g_G ?_|refine g_U ?_|refine g_A ?_|refine g_W ?_);(try simp -implicitDefEqProofs only[go_sem]))|(with_reducible refine hK _ _ ?_;clear hK K)|(clear hK K;first|(with_reducible refine hK _ _ ?_;clear hK K)|(clear hK K;with_reducible refine hK _ _ ?_;clear hK K)|(clear hK K;clear hK K;with_reducible refine hK _ _ ?_;clear hK K))|(with_reducible refine splitB_intro (fun h=>?_) (fun h=>?_)<;>(try simp only[go_sem] at h)<;>(try exact g_f)<;>(try simp -implicitDefEqProofs only[go_sem]))|(with_reducible refine And.intro (fun h=>?_) (fun h=>?_)<;>(try simp only[go_sem] at h)<;>(try exact g_f))|(with_reducible refine And.intro ?_ ?_;· exact g_x)|(with_reducible intro h;(try simp only[go_sem] at h);(try exact g_f))))
    rw [h3]
    exact CutQ_w rfl (Bd.rows _) (.eq rfl)
end Go.Proofs.Ytephecognbbaoab
namespace Go.Proofs.Ytephecognbbaoab
open Go
set_option linter.all false
set_option maxRecDepth 100000
set_option maxHeartbeats 4000000

theorem ACalls.argW {P : Program} {f : FuncId} {args args' : List AV} {σ : Store} {R : AV → Store → Prop} (h : ACalls P f args' σ R) (hw : WkL args args') : ACalls P f args σ R := fun K imm m w vs hs hv => h K imm m w vs hs (hw _ _ _ hv)

def beginC (n : Net) : AV := .tup [rowsC (if checkN n = 0 then beginA n else []), intA1 (checkN n)]

theorem begin_calls (n : Net) (ok : NetOk n) (σ : Store) : ACalls Try.prog 20 [.agg (netC n)] σ fun r σ' => σ' = σ ∧ r = beginC n := by
  have hC := netCheck_calls n ok
  refine ACalls.cutX ?_
  by_cases h0 : checkN n = 0
  · rw [beginC, if_pos h0]
    rw [h0] at hC ⊢
    refine ACalls_of_awp Try.func20 rfl Try.results20 ?_
    simp only [List.length_cons, List.length_nil, Try.ntmps20, Nat.reduceAdd, Nat.reduceSub, enterA]
    (repeat' (first|(refine g_s fun K hK=>?_)|(refine g_b ?_)|(refine g_r ?_)|(refine g_k ?_;simp only[thenQ,blockQ])|(refine g_e ?_;simp only[thenQ,blockQ,↓reduceIte,Nat.reduceEqDiff])|(refine g_c (fun h=>?_) (fun h=>?_)<;>(try simp only[go_sem] at h)<;>(try exact g_f))|((first|refine g_t ?_|refine g_g ?_|refine g_U ?_|refine g_A ?_|refine (hC _).use ?_|refine g_q (fun τ=>hC _) ?_|refine (trivial_calls n (netIn_of h0) _).use ?_|refine g_q (fun τ=>trivial_calls n (netIn_of h0) _) ?_|refine g_W ?_);(try simp -implicitDefEqProofs only[go_sem]))|(with_reducible refine hK _ _ ?_;clear hK K)|(clear hK K;first|(with_reducible refine hK _ _ ?_;clear hK K)|(clear hK K;with_reducible refine hK _ _ ?_;clear hK K)|(clear hK K;clear hK K;with_reducible refine hK _ _ ?_;clear hK K))|(with_reducible refine splitB_intro (fun h=>?_) (fun h=>?_)<;>(try simp only[go_sem] at h)<;>(try exact g_f)<;>(try simp -implicitDefEqProofs only[go_sem]))|(with_reducible refine And.intro (fun h=>?_) (fun h=>?_)<;>(try simp only[go_sem] at h)<;>(try exact g_f))|(with_reducible refine And.intro ?_ ?_;· exact g_x)|(with_reducible intro h;(try simp only[go_sem] at h);(try exact g_f))))
    refine CutQ_w rfl ?_ ?_
    · exact .tupL (.cons (.rows _) (.cons (.c _) .nil))
    · exact .eq rfl
  · rw [beginC, if_neg h0]
    refine ACalls_of_awp Try.func20 rfl Try.results20 ?_
    simp only [List.length_cons, List.length_nil, Try.ntmps20, Nat.reduceAdd, Nat.reduceSub, enterA]
    (repeat' (first|(refine g_s fun K hK=>?_)|(refine g_b ?_)|(refine g_r ?_)|(refine g_k ?_;simp only[thenQ,blockQ])|(refine g_e ?_;simp only[thenQ,blockQ,↓reduceIte,Nat.reduceEqDiff])|(refine g_c (fun h=>?_) (fun h=>?_)<;>(try simp only[go_sem] at h)<;>(try exact g_f))|((first|refine g_t ?_|refine g_g ?_|refine g_U ?_|refine g_A ?_|refine (hC _).use ?_|refine g_q (fun τ=>hC _) ?_|refine g_W ?_);(try simp -implicitDefEqProofs only[go_sem]))|(with_reducible refine hK _ _ ?_;clear hK K)|(clear hK K;first|(with_reducible refine hK _ _ ?_;clear hK K)|(clear hK K;with_reducible refine hK _ _ ?_;clear hK K)|(clear hK K;clear hK K;with_reducible refine hK _ _ ?_;clear hK K))|(with_reducible refine splitB_intro (fun h=>?_) (fun h=>?_)<;>(try simp only[go_sem] at h)<;>(try exact g_f)<;>(try simp -implicitDefEqProofs only[go_sem]))|(with_reducible refine And.intro (fun h=>?_) (fun h=>?_)<;>(try simp only[go_sem] at h)<;>(try exact g_f))|(with_reducible refine And.intro ?_ ?_;· exact g_x)|(with_reducible intro h;(try simp only[go_sem] at h);(try exact g_f))))
    refine CutQ_w rfl ?_ ?_
    · (repeat' (first | exact Bd.c _ | exact Bd.emp | exact BdL.nil | exact Bd.ints _ | refine Bd.aggL ?_ | refine Bd.tupL ?_ | refine BdL.cons ?_ ?_))
    · exact .tup (.cons .nil (.cons (.refl _) .nil))

def twoN : Net := ⟨hopsX, 2, [⟨0, 1, 0⟩, ⟨1, 0, 0⟩]⟩
theorem twoN_ok : NetOk twoN := ⟨⟨by decide, by decide, by unfold I64; decide, by decide⟩, by unfold I64; decide, by decide, by unfold I64; decide⟩
theorem twoN_check : checkN twoN = 0 := by decide +kernel
theorem twoN_begin : beginC twoN = .tup [rowsC [[0, 2], [2, 0]], intA1 0] := by
  have h : beginA twoN = [[0, 2], [2, 0]] := by decide +kernel
  rw [beginC, if_pos twoN_check, h, twoN_check]
theorem twoN_settle : settleA twoN [[0, 2], [2, 0]] 10 = (([[0, 1], [1, 0]], 1), 0) := by decide +kernel

theorem netC_bd {m : Nat} (n : Net) : Bd m (.agg (netC n)) := .aggL (.cons (.c _) (.cons (.rows _) (.cons (.rows _) (.cons (.c _) (.cons (.slL (fun _ => .cons (.c _) (.cons (.c _) (.cons (.c _) .nil))) _) .nil)))))

theorem two_calls (σ : Store) : ACalls Try.prog 81 [] σ fun r σ' => σ' = σ ∧ r = .agg (netC twoN) := by
  refine ACalls.cutX ?_
  refine ACalls_of_awp Try.func81 rfl Try.results81 ?_
  simp only [List.length_cons, List.length_nil, Try.ntmps81, Nat.reduceAdd, Nat.reduceSub, enterA]
  (repeat' (first|(refine g_s fun K hK=>?_)|(refine g_b ?_)|(refine g_r ?_)|(refine g_k ?_;simp only[thenQ,blockQ])|(refine g_e ?_;simp only[thenQ,blockQ,↓reduceIte,Nat.reduceEqDiff])|(refine g_c (fun h=>?_) (fun h=>?_)<;>(try simp only[go_sem] at h)<;>(try exact g_f))|((first|refine g_t ?_|refine g_G ?_|refine g_U ?_|refine g_A ?_|refine (hops_calls _).use ?_|refine g_q (fun τ=>hops_calls _) ?_|refine g_W ?_);(try simp -implicitDefEqProofs only[go_sem,hopsX]))|(with_reducible refine hK _ _ ?_;clear hK K)|(clear hK K;first|(with_reducible refine hK _ _ ?_;clear hK K)|(clear hK K;with_reducible refine hK _ _ ?_;clear hK K)|(clear hK K;clear hK K;with_reducible refine hK _ _ ?_;clear hK K))|(with_reducible refine splitB_intro (fun h=>?_) (fun h=>?_)<;>(try simp only[go_sem] at h)<;>(try exact g_f)<;>(try simp -implicitDefEqProofs only[go_sem,hopsX]))|(with_reducible refine And.intro (fun h=>?_) (fun h=>?_)<;>(try simp only[go_sem] at h)<;>(try exact g_f))|(with_reducible refine And.intro ?_ ?_;· exact g_x)|(with_reducible intro h;(try simp only[go_sem] at h);(try exact g_f))))
  refine CutQ_w rfl (netC_bd twoN) (.eq rfl)

theorem netBegun_calls (σ : Store) : ACalls Try.prog 25 [] σ fun r σ' => σ' = σ ∧ r = .c (.bool true) := by
  have hB := begin_calls twoN twoN_ok
  rw [twoN_begin] at hB
  have hS := settle_calls twoN [[0, 2], [2, 0]] 10 twoN_ok ⟨by decide, by decide⟩ (by unfold I64; decide)
  rw [twoN_settle] at hS
  have hC := netCheck_calls twoN twoN_ok
  rw [twoN_check] at hC
  have hE : ∀ S, ACalls Try.prog 35 [rowsC [[0, 1], [1, 0]], rowsC [[0, 1], [1, 0]]] S fun r σ' => σ' = S ∧ r = .c (.bool true) := fun S => sameState_calls [[0, 1], [1, 0]] [[0, 1], [1, 0]] ⟨by decide, by decide⟩ S
  refine ACalls.cutX ?_
  refine ACalls_of_awp Try.func25 rfl Try.results25 ?_
  simp only [List.length_cons, List.length_nil, Try.ntmps25, Nat.reduceAdd, Nat.reduceSub, enterA]
  (repeat' (first|(refine g_s fun K hK=>?_)|(refine g_b ?_)|(refine g_r ?_)|(refine g_k ?_;simp only[thenQ,blockQ])|(refine g_e ?_;simp only[thenQ,blockQ,↓reduceIte,Nat.reduceEqDiff])|(refine g_c (fun h=>?_) (fun h=>?_)<;>(try simp only[go_sem] at h)<;>(try exact g_f))|((first|refine g_t ?_|refine g_G ?_|refine g_U ?_|refine g_A ?_|refine (two_calls _).use ?_|refine g_q (fun τ=>two_calls _) ?_|refine (hB _).use ?_|refine g_q (fun τ=>hB _) ?_|refine (hS _).use ?_|refine g_q (fun τ=>hS _) ?_|refine (hC _).use ?_|refine g_q (fun τ=>hC _) ?_|refine (hE _).use ?_|refine g_q (fun τ=>hE _) ?_|refine g_W ?_);(try simp -implicitDefEqProofs only[go_sem,settleC]))|(with_reducible refine hK _ _ ?_;clear hK K)|(clear hK K;first|(with_reducible refine hK _ _ ?_;clear hK K)|(clear hK K;with_reducible refine hK _ _ ?_;clear hK K)|(clear hK K;clear hK K;with_reducible refine hK _ _ ?_;clear hK K))|(with_reducible refine splitB_intro (fun h=>?_) (fun h=>?_)<;>(try simp only[go_sem] at h)<;>(try exact g_f)<;>(try simp -implicitDefEqProofs only[go_sem,settleC]))|(with_reducible refine And.intro (fun h=>?_) (fun h=>?_)<;>(try simp only[go_sem] at h)<;>(try exact g_f))|(with_reducible refine And.intro ?_ ?_;· exact g_x)|(with_reducible intro h;(try simp only[go_sem] at h);(try exact g_f))))
  exact CutQ_c (τ := []) (by simp) rfl

theorem stateIs_calls (x want : List (List Int)) (e w : Int) (hx : StOk x) (σ : Store) : ACalls Try.prog 28 [rowsC x, intA1 e, intA1 w, rowsC want] σ fun r σ' => σ' = σ ∧ r = .c (.bool (decide (e = w) && decide (x = if w = 0 then want else []))) := by
  by_cases hw : w = 0
  · subst hw
    rw [if_pos rfl]
    refine ACalls_of_awp Try.func28 rfl Try.results28 ?_
    simp only [List.length_cons, List.length_nil, Try.ntmps28, Nat.reduceAdd, Nat.reduceSub, enterA]
    (repeat' (first|(refine g_s fun K hK=>?_)|(refine g_b ?_)|(refine g_r ?_)|(refine g_k ?_;simp only[thenQ,blockQ])|(refine g_e ?_;simp only[thenQ,blockQ,↓reduceIte,Nat.reduceEqDiff])|(refine g_c (fun h=>?_) (fun h=>?_)<;>(try simp only[go_sem] at h)<;>(try exact g_f))|((first|refine g_t ?_|refine g_g ?_|refine g_U ?_|refine g_A ?_|refine (sameState_calls x want hx _).use ?_|refine g_q (fun τ=>sameState_calls x want hx _) ?_|refine g_W ?_);(try simp -implicitDefEqProofs only[go_sem]))|(with_reducible refine hK _ _ ?_;clear hK K)|(clear hK K;first|(with_reducible refine hK _ _ ?_;clear hK K)|(clear hK K;with_reducible refine hK _ _ ?_;clear hK K)|(clear hK K;clear hK K;with_reducible refine hK _ _ ?_;clear hK K))|(with_reducible refine splitB_intro (fun h=>?_) (fun h=>?_)<;>(try simp only[go_sem] at h)<;>(try exact g_f)<;>(try simp -implicitDefEqProofs only[go_sem]))|(with_reducible refine And.intro (fun h=>?_) (fun h=>?_)<;>(try simp only[go_sem] at h)<;>(try exact g_f))|(with_reducible refine And.intro ?_ ?_;· exact g_x)|(with_reducible intro h;(try simp only[go_sem] at h);(try exact g_f))))
    all_goals simp_all
  · rw [if_neg hw]
    refine ACalls_of_awp Try.func28 rfl Try.results28 ?_
    simp only [List.length_cons, List.length_nil, Try.ntmps28, Nat.reduceAdd, Nat.reduceSub, enterA]
    (repeat' (first|(refine g_s fun K hK=>?_)|(refine g_b ?_)|(refine g_r ?_)|(refine g_k ?_;simp only[thenQ,blockQ])|(refine g_e ?_;simp only[thenQ,blockQ,↓reduceIte,Nat.reduceEqDiff])|(refine g_c (fun h=>?_) (fun h=>?_)<;>(try simp only[go_sem] at h)<;>(try exact g_f))|((first|refine g_t ?_|refine g_g ?_|refine g_U ?_|refine g_A ?_|refine ((sameState_calls x [] hx _).argW (.cons (.refl _) (.cons .nil .nil))).use ?_|refine g_q (fun τ=>(sameState_calls x [] hx _).argW (.cons (.refl _) (.cons .nil .nil))) ?_|refine g_W ?_);(try simp -implicitDefEqProofs only[go_sem]))|(with_reducible refine hK _ _ ?_;clear hK K)|(clear hK K;first|(with_reducible refine hK _ _ ?_;clear hK K)|(clear hK K;with_reducible refine hK _ _ ?_;clear hK K)|(clear hK K;clear hK K;with_reducible refine hK _ _ ?_;clear hK K))|(with_reducible refine splitB_intro (fun h=>?_) (fun h=>?_)<;>(try simp only[go_sem] at h)<;>(try exact g_f)<;>(try simp -implicitDefEqProofs only[go_sem]))|(with_reducible refine And.intro (fun h=>?_) (fun h=>?_)<;>(try simp only[go_sem] at h)<;>(try exact g_f))|(with_reducible refine And.intro ?_ ?_;· exact g_x)|(with_reducible intro h;(try simp only[go_sem] at h);(try exact g_f))))
    all_goals simp_all

end Go.Proofs.Ytephecognbbaoab
