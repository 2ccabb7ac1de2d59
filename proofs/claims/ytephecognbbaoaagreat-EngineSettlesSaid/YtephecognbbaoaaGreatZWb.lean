/- Nets: how they begin; a net of two. -/
import Derived.Test.YtephecognbbaoaaGreatZLk
import Derived.Test.YtephecognbbaoaaGreatZAi
import Derived.Test.YtephecognbbaoaaGreatZFz
import Derived.SizedLaws
import Derived.Test.YtephecognbbaoaaGreatZLo
import Derived.Test.YtephecognbbaoaaGreatZSy
import Derived.Laws.Strings2
open Go
set_option linter.all false
set_option maxRecDepth 100000
set_option maxHeartbeats 4000000
namespace Go.Proofs.YtephecognbbaoaaGreat
open Go
set_option linter.all false
set_option maxRecDepth 100000
set_option maxHeartbeats 4000000
def beginRow (n : Net) (i : Int) : List Int := (ints n.nodes).map fun j => if i = j then 0 else n.alg.size - 1
theorem trivial_calls (n : Net) (hn : NetIn n) (σ : Store) : ACalls Tryz.prog 44 [.agg (netC n)] σ fun r σ' => σ' = σ ∧ r = rowsC (beginA n) := by
  have n1 := hn.n1
  have n6 := hn.n6
  have s2 := hn.alg.s2
  have s24 := hn.alg.s24
  have hns : n.nodes = 1 ∨ n.nodes = 2 ∨ n.nodes = 3 ∨ n.nodes = 4 ∨ n.nodes = 5 ∨ n.nodes = 6 := by omega
  refine ACalls.cutX ?_
  refine ACalls_of_awp Tryz.func44 rfl Tryz.results44 ?_
  simp only [List.length_cons, List.length_nil, Tryz.ntmps44, Nat.reduceAdd, Nat.reduceSub, enterA]
  refine AWP_seq_k fun K hK => ?_
  (refine AWP_region ?_; simp -implicitDefEqProofs only [go_sem])
  refine hK _ _ ?_; clear hK K
  refine AWP_freezeP 1 rfl (by simp only [st0]; rfl) ?_
  simp only [ss0, List.set_cons_zero]
  (repeat' (first|(refine g_s fun K hK=>?_)|(refine g_b ?_)|(refine g_r ?_)|(refine g_k ?_;simp only[thenQ,blockQ])|(refine g_e ?_;simp only[thenQ,blockQ,↓reduceIte,Nat.reduceEqDiff])|(refine g_c (fun h=>?_) (fun h=>?_)<;>(try simp only[go_sem] at h)<;>(try exact g_f))|((first|refine g_t ?_|refine g_G ?_|refine g_U ?_|refine g_A ?_|refine g_W ?_);(try simp -implicitDefEqProofs only[go_sem]))|(with_reducible refine hK _ _ ?_;clear hK K)|(clear hK K;first|(with_reducible refine hK _ _ ?_;clear hK K)|(clear hK K;with_reducible refine hK _ _ ?_;clear hK K)|(clear hK K;clear hK K;with_reducible refine hK _ _ ?_;clear hK K))|(with_reducible refine splitB_intro (fun h=>?_) (fun h=>?_)<;>(try simp only[go_sem] at h)<;>(try exact g_f)<;>(try simp -implicitDefEqProofs only[go_sem]))|(with_reducible refine And.intro (fun h=>?_) (fun h=>?_)<;>(try simp only[go_sem] at h)<;>(try exact g_f))|(with_reducible refine And.intro ?_ ?_;· exact g_x)|(with_reducible intro h;(try simp only[go_sem] at h);(try exact g_f))))
  refine AWP_pad ?_
  have hJ := hK
  clear hK
  refine AWP_each (ints n.nodes) (fun i r acc => acc ++ r.map (beginRow n) = beginA n) (fun i acc τ => [(8, intA1 i), (3, accV 1 (σ.length + (τ.length + 1)) acc)]) (fun _ acc τ => σ ++ (.dead :: (τ ++ [accO rowC 1 acc]))) [] [] rfl ?_ (ALe_of ?_) ?_ ?_
  · simp [accO]
  · simp -implicitDefEqProofs only [go_sem, accV, accO]
  · rintro i r acc τ hi0 hi1 h3 L hL
    rw [ints_length] at hi1
    rw [at0_ints hi0 (by omega)] at h3
    have hal : acc.length + 1 ≤ 6 := by have := congrArg List.length h3; simp [beginA, ints_length] at this; omega
    obtain ⟨row0, hrow0⟩ : ∃ l, l = List.replicate n.nodes.toNat (n.alg.size - 1) := ⟨_, rfl⟩
    have hl0 : (row0.length : Int) = n.nodes := by rw [hrow0, List.length_replicate]; omega
    have hg0 := get_map row0 hi0 (by omega)
    have hrow : row0.set i.toNat 0 = beginRow n i := by
      refine at0_eq (by rw [List.length_set, beginRow, List.length_map, ints_length]; omega) fun q h0 h1 => ?_
      rw [List.length_set] at h1
      rw [at0_set row0 0 hi0 h0 (by omega), beginRow, at0_map _ _ h0 (by rw [ints_length]; omega), at0_ints h0 (by omega)]
      by_cases e : q = i
      · rw [if_pos e, if_pos e.symm]
      · rw [if_neg e, if_neg (fun e2 => e e2.symm), hrow0, at0_repl _ _ h0 (by omega)]
    have hrl : (beginRow n i).length = n.nodes.toNat := by rw [beginRow, List.length_map, ints_length]
    rcases acc with _ | ⟨y, acc⟩ <;> simp only [List.length_cons, List.length_nil] at hal <;> simp -implicitDefEqProofs only [go_sem, accV, accO]
    · (repeat' (first|(refine g_s fun K hK=>?_)|(refine g_b ?_)|(refine g_r ?_)|(refine g_k ?_;simp only[thenQ,blockQ])|(refine g_e ?_;simp only[thenQ,blockQ,↓reduceIte,Nat.reduceEqDiff])|(refine g_c (fun h=>?_) (fun h=>?_)<;>(try simp only[go_sem] at h)<;>(try exact g_f))|((first|refine g_t ?_|refine g_G ?_);(try simp -implicitDefEqProofs only[go_sem]))|(with_reducible refine hK _ _ ?_;clear hK K)|(clear hK K;first|(with_reducible refine hK _ _ ?_;clear hK K)|(clear hK K;with_reducible refine hK _ _ ?_;clear hK K)|(clear hK K;clear hK K;with_reducible refine hK _ _ ?_;clear hK K))|(with_reducible refine splitB_intro (fun h=>?_) (fun h=>?_)<;>(try simp only[go_sem] at h)<;>(try exact g_f)<;>(try simp -implicitDefEqProofs only[go_sem]))|(with_reducible refine And.intro (fun h=>?_) (fun h=>?_)<;>(try simp only[go_sem] at h)<;>(try exact g_f))|(with_reducible refine And.intro ?_ ?_;· exact g_x)|(with_reducible intro h;(try simp only[go_sem] at h);(try exact g_f))))
      have hJ5 := hK
      clear hK
      (refine AWP_drawK 6 tab_mixed (by kernel_rfl) ?_; simp -implicitDefEqProofs only [go_sem])
      (repeat' (first|(refine g_s fun K hK=>?_)|(refine g_b ?_)|(refine g_r ?_)|(refine g_k ?_;simp only[thenQ,blockQ])|(refine g_e ?_;simp only[thenQ,blockQ,↓reduceIte,Nat.reduceEqDiff])|(refine g_c (fun h=>?_) (fun h=>?_)<;>(try simp only[go_sem] at h)<;>(try exact g_f))|((first|refine g_t ?_|refine g_G ?_|refine (invalid_calls n.alg (by unfold I64; omega) _).use ?_|refine g_q (fun τ=>invalid_calls n.alg (by unfold I64; omega) _) ?_|refine ACalls.useA (hrow0 ▸ repeat_calls (n.alg.size - 1) n.nodes hns _) ?_);(try simp -implicitDefEqProofs only[go_sem]))|(with_reducible refine hK _ _ ?_;clear hK K)|(clear hK K;first|(with_reducible refine hK _ _ ?_;clear hK K)|(clear hK K;with_reducible refine hK _ _ ?_;clear hK K)|(clear hK K;clear hK K;with_reducible refine hK _ _ ?_;clear hK K))|(with_reducible refine splitB_intro (fun h=>?_) (fun h=>?_)<;>(try simp only[go_sem] at h)<;>(try exact g_f)<;>(try simp -implicitDefEqProofs only[go_sem]))|(with_reducible refine And.intro (fun h=>?_) (fun h=>?_)<;>(try simp only[go_sem] at h)<;>(try exact g_f))|(with_reducible refine And.intro ?_ ?_;· exact g_x)|(with_reducible intro h;(try simp only[go_sem] at h);(try exact g_f))))
      refine hJ5 _ _ ?_
      clear hJ5
      refine AWP_seq_k fun K hK => ?_
      have hJ6 := hK
      clear hK
      (repeat' (first|(refine g_s fun K hK=>?_)|(refine g_b ?_)|(refine g_r ?_)|(refine g_k ?_;simp only[thenQ,blockQ])|(refine g_e ?_;simp only[thenQ,blockQ,↓reduceIte,Nat.reduceEqDiff])|(refine g_c (fun h=>?_) (fun h=>?_)<;>(try simp only[go_sem] at h)<;>(try exact g_f))|((first|refine g_t ?_|refine g_G ?_);(try simp -implicitDefEqProofs only[go_sem,hg0, set_map]))|(with_reducible refine hK _ _ ?_;clear hK K)|(clear hK K;first|(with_reducible refine hK _ _ ?_;clear hK K)|(clear hK K;with_reducible refine hK _ _ ?_;clear hK K)|(clear hK K;clear hK K;with_reducible refine hK _ _ ?_;clear hK K))|(with_reducible refine splitB_intro (fun h=>?_) (fun h=>?_)<;>(try simp only[go_sem] at h)<;>(try exact g_f)<;>(try simp -implicitDefEqProofs only[go_sem,hg0, set_map]))|(with_reducible refine And.intro (fun h=>?_) (fun h=>?_)<;>(try simp only[go_sem] at h)<;>(try exact g_f))|(with_reducible refine And.intro ?_ ?_;· exact g_x)|(with_reducible intro h;(try simp only[go_sem] at h);(try exact g_f))))
      refine hJ6 _ _ ?_
      clear hJ6
      rw [hrow]
      refine AWP_freezeT 5 (a := .own (σ.length + (τ.length + 2)) 1 0 n.nodes.toNat n.nodes.toNat) (es := (beginRow n i).map intC) (by first | rfl | (simp -implicitDefEqProofs only [go_sem]; done) | (simp -implicitDefEqProofs only [go_sem]; rfl)) (by simp [elemsA, st1, sc1, hrl]) ?_
      have hkil : killA (σ ++ (.dead :: (τ ++ [.dead, .cells 1 ((beginRow n i).map intC)]))) (.own (σ.length + (τ.length + 2)) 1 0 n.nodes.toNat n.nodes.toNat) = σ ++ (.dead :: (τ ++ [.dead, .dead])) := by simp [killA, ss1c]
      rw [hkil]
      (repeat' (first|(refine g_s fun K hK=>?_)|(refine g_b ?_)|(refine g_r ?_)|(refine g_k ?_;simp only[thenQ,blockQ])|(refine g_e ?_;simp only[thenQ,blockQ,↓reduceIte,Nat.reduceEqDiff])|(refine g_c (fun h=>?_) (fun h=>?_)<;>(try simp only[go_sem] at h)<;>(try exact g_f))|((first|refine g_t ?_|refine g_G ?_|refine g_U ?_|refine g_A ?_|refine g_W ?_);(try simp -implicitDefEqProofs only[go_sem]))|(with_reducible refine hK _ _ ?_;clear hK K)|(clear hK K;first|(with_reducible refine hK _ _ ?_;clear hK K)|(clear hK K;with_reducible refine hK _ _ ?_;clear hK K)|(clear hK K;clear hK K;with_reducible refine hK _ _ ?_;clear hK K))|(with_reducible refine splitB_intro (fun h=>?_) (fun h=>?_)<;>(try simp only[go_sem] at h)<;>(try exact g_f)<;>(try simp -implicitDefEqProofs only[go_sem]))|(with_reducible refine And.intro (fun h=>?_) (fun h=>?_)<;>(try simp only[go_sem] at h)<;>(try exact g_f))|(with_reducible refine And.intro ?_ ?_;· exact g_x)|(with_reducible intro h;(try simp only[go_sem] at h);(try exact g_f))))
      refine hL ([beginRow n i]) (τ ++ [.dead, .dead]) _ _ (by simpa using h3) (ALe_of ?_) ?_
      · simp -implicitDefEqProofs only [go_sem, accV]
      · simp [accO, rowC, intsA]
    · (repeat' (first|(refine g_s fun K hK=>?_)|(refine g_b ?_)|(refine g_r ?_)|(refine g_k ?_;simp only[thenQ,blockQ])|(refine g_e ?_;simp only[thenQ,blockQ,↓reduceIte,Nat.reduceEqDiff])|(refine g_c (fun h=>?_) (fun h=>?_)<;>(try simp only[go_sem] at h)<;>(try exact g_f))|((first|refine g_t ?_|refine g_G ?_);(try simp -implicitDefEqProofs only[go_sem]))|(with_reducible refine hK _ _ ?_;clear hK K)|(clear hK K;first|(with_reducible refine hK _ _ ?_;clear hK K)|(clear hK K;with_reducible refine hK _ _ ?_;clear hK K)|(clear hK K;clear hK K;with_reducible refine hK _ _ ?_;clear hK K))|(with_reducible refine splitB_intro (fun h=>?_) (fun h=>?_)<;>(try simp only[go_sem] at h)<;>(try exact g_f)<;>(try simp -implicitDefEqProofs only[go_sem]))|(with_reducible refine And.intro (fun h=>?_) (fun h=>?_)<;>(try simp only[go_sem] at h)<;>(try exact g_f))|(with_reducible refine And.intro ?_ ?_;· exact g_x)|(with_reducible intro h;(try simp only[go_sem] at h);(try exact g_f))))
      have hJ5 := hK
      clear hK
      (refine AWP_drawK 6 tab_mixed (by kernel_rfl) ?_; simp -implicitDefEqProofs only [go_sem])
      (repeat' (first|(refine g_s fun K hK=>?_)|(refine g_b ?_)|(refine g_r ?_)|(refine g_k ?_;simp only[thenQ,blockQ])|(refine g_e ?_;simp only[thenQ,blockQ,↓reduceIte,Nat.reduceEqDiff])|(refine g_c (fun h=>?_) (fun h=>?_)<;>(try simp only[go_sem] at h)<;>(try exact g_f))|((first|refine g_t ?_|refine g_G ?_|refine (invalid_calls n.alg (by unfold I64; omega) _).use ?_|refine g_q (fun τ=>invalid_calls n.alg (by unfold I64; omega) _) ?_|refine ACalls.useA (hrow0 ▸ repeat_calls (n.alg.size - 1) n.nodes hns _) ?_);(try simp -implicitDefEqProofs only[go_sem]))|(with_reducible refine hK _ _ ?_;clear hK K)|(clear hK K;first|(with_reducible refine hK _ _ ?_;clear hK K)|(clear hK K;with_reducible refine hK _ _ ?_;clear hK K)|(clear hK K;clear hK K;with_reducible refine hK _ _ ?_;clear hK K))|(with_reducible refine splitB_intro (fun h=>?_) (fun h=>?_)<;>(try simp only[go_sem] at h)<;>(try exact g_f)<;>(try simp -implicitDefEqProofs only[go_sem]))|(with_reducible refine And.intro (fun h=>?_) (fun h=>?_)<;>(try simp only[go_sem] at h)<;>(try exact g_f))|(with_reducible refine And.intro ?_ ?_;· exact g_x)|(with_reducible intro h;(try simp only[go_sem] at h);(try exact g_f))))
      refine hJ5 _ _ ?_
      clear hJ5
      refine AWP_seq_k fun K hK => ?_
      have hJ6 := hK
      clear hK
      (repeat' (first|(refine g_s fun K hK=>?_)|(refine g_b ?_)|(refine g_r ?_)|(refine g_k ?_;simp only[thenQ,blockQ])|(refine g_e ?_;simp only[thenQ,blockQ,↓reduceIte,Nat.reduceEqDiff])|(refine g_c (fun h=>?_) (fun h=>?_)<;>(try simp only[go_sem] at h)<;>(try exact g_f))|((first|refine g_t ?_|refine g_G ?_);(try simp -implicitDefEqProofs only[go_sem,hg0, set_map]))|(with_reducible refine hK _ _ ?_;clear hK K)|(clear hK K;first|(with_reducible refine hK _ _ ?_;clear hK K)|(clear hK K;with_reducible refine hK _ _ ?_;clear hK K)|(clear hK K;clear hK K;with_reducible refine hK _ _ ?_;clear hK K))|(with_reducible refine splitB_intro (fun h=>?_) (fun h=>?_)<;>(try simp only[go_sem] at h)<;>(try exact g_f)<;>(try simp -implicitDefEqProofs only[go_sem,hg0, set_map]))|(with_reducible refine And.intro (fun h=>?_) (fun h=>?_)<;>(try simp only[go_sem] at h)<;>(try exact g_f))|(with_reducible refine And.intro ?_ ?_;· exact g_x)|(with_reducible intro h;(try simp only[go_sem] at h);(try exact g_f))))
      refine hJ6 _ _ ?_
      clear hJ6
      rw [hrow]
      refine AWP_freezeT 5 (a := .own (σ.length + (τ.length + 2)) 1 0 n.nodes.toNat n.nodes.toNat) (es := (beginRow n i).map intC) (by first | rfl | (simp -implicitDefEqProofs only [go_sem]; done) | (simp -implicitDefEqProofs only [go_sem]; rfl)) (by simp [elemsA, st1, sc1, hrl]) ?_
      have hkil : killA (σ ++ (.dead :: (τ ++ [.cells 1 ((y :: acc).map rowC), .cells 1 ((beginRow n i).map intC)]))) (.own (σ.length + (τ.length + 2)) 1 0 n.nodes.toNat n.nodes.toNat) = σ ++ (.dead :: (τ ++ [.cells 1 ((y :: acc).map rowC), .dead])) := by simp [killA, ss1c]
      rw [hkil]
      (repeat' (first|(refine g_s fun K hK=>?_)|(refine g_b ?_)|(refine g_r ?_)|(refine g_k ?_;simp only[thenQ,blockQ])|(refine g_e ?_;simp only[thenQ,blockQ,↓reduceIte,Nat.reduceEqDiff])|(refine g_c (fun h=>?_) (fun h=>?_)<;>(try simp only[go_sem] at h)<;>(try exact g_f))|((first|refine g_t ?_|refine g_G ?_|refine g_U ?_|refine g_A ?_|refine g_W ?_);(try simp -implicitDefEqProofs only[go_sem]))|(with_reducible refine hK _ _ ?_;clear hK K)|(clear hK K;first|(with_reducible refine hK _ _ ?_;clear hK K)|(clear hK K;with_reducible refine hK _ _ ?_;clear hK K)|(clear hK K;clear hK K;with_reducible refine hK _ _ ?_;clear hK K))|(with_reducible refine splitB_intro (fun h=>?_) (fun h=>?_)<;>(try simp only[go_sem] at h)<;>(try exact g_f)<;>(try simp -implicitDefEqProofs only[go_sem]))|(with_reducible refine And.intro (fun h=>?_) (fun h=>?_)<;>(try simp only[go_sem] at h)<;>(try exact g_f))|(with_reducible refine And.intro ?_ ?_;· exact g_x)|(with_reducible intro h;(try simp only[go_sem] at h);(try exact g_f))))
      refine hL (y :: acc ++ [beginRow n i]) (τ ++ [.dead, .dead]) _ _ (by simpa using h3) (ALe_of ?_) ?_
      · simp -implicitDefEqProofs only [go_sem, accV]
      · simp [accO, rowC, intsA]
  · rintro i acc τ hi h3 L
    rw [ints_length] at hi
    rw [List.map_nil, List.append_nil] at h3
    simp -implicitDefEqProofs only [go_sem]
    (repeat' (first|(refine g_s fun K hK=>?_)|(refine g_b ?_)|(refine g_r ?_)|(refine g_k ?_;simp only[thenQ,blockQ])|(refine g_e ?_;simp only[thenQ,blockQ,↓reduceIte,Nat.reduceEqDiff])|(refine g_c (fun h=>?_) (fun h=>?_)<;>(try simp only[go_sem] at h)<;>(try exact g_f))|((first|refine g_g ?_|refine g_U ?_|refine g_A ?_|refine g_W ?_);(try simp -implicitDefEqProofs only[go_sem]))|(with_reducible refine hK _ _ ?_;clear hK K)|(clear hK K;first|(with_reducible refine hK _ _ ?_;clear hK K)|(clear hK K;with_reducible refine hK _ _ ?_;clear hK K)|(clear hK K;clear hK K;with_reducible refine hK _ _ ?_;clear hK K))|(with_reducible refine splitB_intro (fun h=>?_) (fun h=>?_)<;>(try simp only[go_sem] at h)<;>(try exact g_f)<;>(try simp -implicitDefEqProofs only[go_sem]))|(with_reducible refine And.intro (fun h=>?_) (fun h=>?_)<;>(try simp only[go_sem] at h)<;>(try exact g_f))|(with_reducible refine And.intro ?_ ?_;· exact g_x)|(with_reducible intro h;(try simp only[go_sem] at h);(try exact g_f))))
    refine hJ _ _ ?_
    clear hJ
    have est : σ ++ (.dead :: (τ ++ [accO rowC 1 acc])) = σ ++ ((.dead :: τ) ++ accO rowC 1 acc :: []) := by simp
    rw [est]
    refine AWP_freezeAcc 3 rowC 1 acc σ (.dead :: τ) [] (by simp [look, Nat.add_assoc]) ?_
    (repeat' (first|(refine g_s fun K hK=>?_)|(refine g_b ?_)|(refine g_r ?_)|(refine g_k ?_;simp only[thenQ,blockQ])|(refine g_e ?_;simp only[thenQ,blockQ,↓reduceIte,Nat.reduceEqDiff])|(refine g_c (fun h=>?_) (fun h=>?_)<;>(try simp only[go_sem] at h)<;>(try exact g_f))|((first|refine g_t ?_|refine g_G ?_|refine g_U ?_|refine g_A ?_|refine g_W ?_);(try simp -implicitDefEqProofs only[go_sem]))|(with_reducible refine hK _ _ ?_;clear hK K)|(clear hK K;first|(with_reducible refine hK _ _ ?_;clear hK K)|(clear hK K;with_reducible refine hK _ _ ?_;clear hK K)|(clear hK K;clear hK K;with_reducible refine hK _ _ ?_;clear hK K))|(with_reducible refine splitB_intro (fun h=>?_) (fun h=>?_)<;>(try simp only[go_sem] at h)<;>(try exact g_f)<;>(try simp -implicitDefEqProofs only[go_sem]))|(with_reducible refine And.intro (fun h=>?_) (fun h=>?_)<;>(try simp only[go_sem] at h)<;>(try exact g_f))|(with_reducible refine And.intro ?_ ?_;· exact g_x)|(with_reducible intro h;(try simp only[go_sem] at h);(try exact g_f))))
    rw [h3]
    exact CutQ_w rfl (Bd.rows _) (.eq rfl)
def twoN : Net := ⟨hopsX, 2, [⟨0, 1, 0⟩, ⟨1, 0, 0⟩]⟩
theorem twoN_ok : NetOk twoN := ⟨⟨by decide, by decide, by unfold I64; decide, by decide⟩, by unfold I64; decide, by decide, by unfold I64; decide⟩
theorem twoN_check : checkN twoN = 0 := by decide +kernel
theorem netC_bd {m : Nat} (n : Net) : Bd m (.agg (netC n)) := .aggL (.cons (.c _) (.cons (.rows _) (.cons (.rows _) (.cons (.c _) (.cons (.slL (fun _ => .cons (.c _) (.cons (.c _) (.cons (.c _) .nil))) _) .nil)))))
theorem two_calls (σ : Store) : ACalls Tryz.prog 31 [] σ fun r σ' => σ' = σ ∧ r = .agg (netC twoN) := by
  refine ACalls.cutX ?_
  refine ACalls_of_awp Tryz.func31 rfl Tryz.results31 ?_
  simp only [List.length_cons, List.length_nil, Tryz.ntmps31, Nat.reduceAdd, Nat.reduceSub, enterA]
  (repeat' (first|(refine g_s fun K hK=>?_)|(refine g_b ?_)|(refine g_r ?_)|(refine g_k ?_;simp only[thenQ,blockQ])|(refine g_e ?_;simp only[thenQ,blockQ,↓reduceIte,Nat.reduceEqDiff])|(refine g_c (fun h=>?_) (fun h=>?_)<;>(try simp only[go_sem] at h)<;>(try exact g_f))|((first|refine g_t ?_|refine g_G ?_|refine g_U ?_|refine g_A ?_|refine (hops_calls _).use ?_|refine g_q (fun τ=>hops_calls _) ?_|refine g_W ?_);(try simp -implicitDefEqProofs only[go_sem,hopsX]))|(with_reducible refine hK _ _ ?_;clear hK K)|(clear hK K;first|(with_reducible refine hK _ _ ?_;clear hK K)|(clear hK K;with_reducible refine hK _ _ ?_;clear hK K)|(clear hK K;clear hK K;with_reducible refine hK _ _ ?_;clear hK K))|(with_reducible refine splitB_intro (fun h=>?_) (fun h=>?_)<;>(try simp only[go_sem] at h)<;>(try exact g_f)<;>(try simp -implicitDefEqProofs only[go_sem,hopsX]))|(with_reducible refine And.intro (fun h=>?_) (fun h=>?_)<;>(try simp only[go_sem] at h)<;>(try exact g_f))|(with_reducible refine And.intro ?_ ?_;· exact g_x)|(with_reducible intro h;(try simp only[go_sem] at h);(try exact g_f))))
  refine CutQ_w rfl (netC_bd twoN) (.eq rfl)
end Go.Proofs.YtephecognbbaoaaGreat
namespace Go.Proofs.YtephecognbbaoaaGreat
theorem indexFunc_rows (l : List (List Int)) (p : List Int → Bool) (f : FuncId) (first cap : List AV) (σ : Store) (hl : l.length ≤ 1000000000000000000) (hok : callOk Tryz.prog f = true)
    (hf : ∀ x ∈ l, ACalls Tryz.prog f (first ++ intsA x :: cap) σ fun r σ' => σ' = σ ∧ r = .c (.bool (p x))) :
    ACalls Tryz.prog 141 [rowsC l, .fn f first cap] σ fun r σ' => σ' = σ ∧ r = intA1 (firstI p 0 l) := by
  refine ACalls_of_awp Tryz.func141 rfl Tryz.results141 ?_
  simp only [List.length_cons, List.length_nil, Tryz.ntmps141, Nat.reduceAdd, Nat.reduceSub, enterA]
  (repeat' (first|(refine g_s fun K hK=>?_)|(refine g_b ?_)|(refine g_r ?_)|(refine g_k ?_;simp only[thenQ,blockQ])|(refine g_e ?_;simp only[thenQ,blockQ,↓reduceIte,Nat.reduceEqDiff])|(refine g_c (fun h=>?_) (fun h=>?_)<;>(try simp only[go_sem] at h)<;>(try exact g_f))|((first|refine g_t ?_|refine g_g ?_|refine g_U ?_|refine g_A ?_|refine g_W ?_);(try simp -implicitDefEqProofs only[go_sem]))|(with_reducible refine hK _ _ ?_;clear hK K)|(clear hK K;first|(with_reducible refine hK _ _ ?_;clear hK K)|(clear hK K;with_reducible refine hK _ _ ?_;clear hK K)|(clear hK K;clear hK K;with_reducible refine hK _ _ ?_;clear hK K))|(with_reducible refine splitB_intro (fun h=>?_) (fun h=>?_)<;>(try simp only[go_sem] at h)<;>(try exact g_f)<;>(try simp -implicitDefEqProofs only[go_sem]))|(with_reducible refine And.intro (fun h=>?_) (fun h=>?_)<;>(try simp only[go_sem] at h)<;>(try exact g_f))|(with_reducible refine And.intro ?_ ?_;· exact g_x)|(with_reducible intro h;(try simp only[go_sem] at h);(try exact g_f))))
  refine AWP_each l (fun k r _ => firstI p 0 l = firstI p k r) (fun k _ _ => [(8, intA1 k)]) (fun _ _ _ => σ) () [] rfl rfl (ALe_of ?_) ?_ ?_
  · simp -implicitDefEqProofs only [go_sem]
  · rintro k r s τ hk0 hk1 h1 L hL
    have hc := hf _ (at0_mem l hk0 hk1)
    simp -implicitDefEqProofs only [go_sem]
    (repeat' (first|(refine g_s fun K hK=>?_)|(refine g_b ?_)|(refine g_r ?_)|(refine g_k ?_;simp only[thenQ,blockQ])|(refine g_e ?_;simp only[thenQ,blockQ,↓reduceIte,Nat.reduceEqDiff])|(refine g_c (fun h=>?_) (fun h=>?_)<;>(try simp only[go_sem] at h)<;>(try exact g_f))|((first|refine g_t ?_|refine g_g ?_|refine g_U ?_|refine g_A ?_|refine (hc).use ?_|refine g_q (fun τ=>hc) ?_|refine g_W ?_);(try simp -implicitDefEqProofs only[go_sem]))|(with_reducible refine hK _ _ ?_;clear hK K)|(clear hK K;first|(with_reducible refine hK _ _ ?_;clear hK K)|(clear hK K;with_reducible refine hK _ _ ?_;clear hK K)|(clear hK K;clear hK K;with_reducible refine hK _ _ ?_;clear hK K))|(with_reducible refine splitB_intro (fun h=>?_) (fun h=>?_)<;>(try simp only[go_sem] at h)<;>(try exact g_f)<;>(try simp -implicitDefEqProofs only[go_sem]))|(with_reducible refine And.intro (fun h=>?_) (fun h=>?_)<;>(try simp only[go_sem] at h)<;>(try exact g_f))|(with_reducible refine And.intro ?_ ?_;· exact g_x)|(with_reducible intro h;(try simp only[go_sem] at h);(try exact g_f))))
    · rw [h1, firstI, if_pos (by assumption)]
    · refine hL () [] _ _ ?_ (ALe_of ?_) rfl
      · rw [h1, firstI, if_neg (by simp [*])]
      · simp -implicitDefEqProofs only [go_sem]
  · intro k s τ hk h1 L
    simp -implicitDefEqProofs only [go_sem]
    (repeat' (first|(refine g_s fun K hK=>?_)|(refine g_b ?_)|(refine g_r ?_)|(refine g_k ?_;simp only[thenQ,blockQ])|(refine g_e ?_;simp only[thenQ,blockQ,↓reduceIte,Nat.reduceEqDiff])|(refine g_c (fun h=>?_) (fun h=>?_)<;>(try simp only[go_sem] at h)<;>(try exact g_f))|((first|refine g_t ?_|refine g_g ?_|refine g_U ?_|refine g_A ?_|refine g_W ?_);(try simp -implicitDefEqProofs only[go_sem]))|(with_reducible refine hK _ _ ?_;clear hK K)|(clear hK K;first|(with_reducible refine hK _ _ ?_;clear hK K)|(clear hK K;with_reducible refine hK _ _ ?_;clear hK K)|(clear hK K;clear hK K;with_reducible refine hK _ _ ?_;clear hK K))|(with_reducible refine splitB_intro (fun h=>?_) (fun h=>?_)<;>(try simp only[go_sem] at h)<;>(try exact g_f)<;>(try simp -implicitDefEqProofs only[go_sem]))|(with_reducible refine And.intro (fun h=>?_) (fun h=>?_)<;>(try simp only[go_sem] at h)<;>(try exact g_f))|(with_reducible refine And.intro ?_ ?_;· exact g_x)|(with_reducible intro h;(try simp only[go_sem] at h);(try exact g_f))))
    rw [h1, firstI]
theorem containsFunc_rows (l : List (List Int)) (p : List Int → Bool) (f : FuncId) (first cap : List AV) (σ : Store) (hl : l.length ≤ 1000000000000000000) (hok : callOk Tryz.prog f = true)
    (hf : ∀ x ∈ l, ACalls Tryz.prog f (first ++ intsA x :: cap) σ fun r σ' => σ' = σ ∧ r = .c (.bool (p x))) :
    ACalls Tryz.prog 112 [rowsC l, .fn f first cap] σ fun r σ' => σ' = σ ∧ r = .c (.bool (l.any p)) := by
  have hc := indexFunc_rows l p f first cap σ hl hok hf
  refine ACalls_of_awp Tryz.func112 rfl Tryz.results112 ?_
  simp only [List.length_cons, List.length_nil, Tryz.ntmps112, Nat.reduceAdd, Nat.reduceSub, enterA]
  (repeat' (first|(refine g_s fun K hK=>?_)|(refine g_b ?_)|(refine g_r ?_)|(refine g_k ?_;simp only[thenQ,blockQ])|(refine g_e ?_;simp only[thenQ,blockQ,↓reduceIte,Nat.reduceEqDiff])|(refine g_c (fun h=>?_) (fun h=>?_)<;>(try simp only[go_sem] at h)<;>(try exact g_f))|((first|refine g_t ?_|refine g_g ?_|refine g_U ?_|refine g_A ?_|refine (hc).use ?_|refine g_q (fun τ=>hc) ?_|refine g_W ?_);(try simp -implicitDefEqProofs only[go_sem]))|(with_reducible refine hK _ _ ?_;clear hK K)|(clear hK K;first|(with_reducible refine hK _ _ ?_;clear hK K)|(clear hK K;with_reducible refine hK _ _ ?_;clear hK K)|(clear hK K;clear hK K;with_reducible refine hK _ _ ?_;clear hK K))|(with_reducible refine splitB_intro (fun h=>?_) (fun h=>?_)<;>(try simp only[go_sem] at h)<;>(try exact g_f)<;>(try simp -implicitDefEqProofs only[go_sem]))|(with_reducible refine And.intro (fun h=>?_) (fun h=>?_)<;>(try simp only[go_sem] at h)<;>(try exact g_f))|(with_reducible refine And.intro ?_ ?_;· exact g_x)|(with_reducible intro h;(try simp only[go_sem] at h);(try exact g_f))))
  rw [← firstI_ge p l 0 (Int.le_refl _)]
end Go.Proofs.YtephecognbbaoaaGreat
namespace Go.Proofs.YtephecognbbaoaaGreat
/-- Whatever reads at type t is the content f x of some x with Q x. -/
def Reads (P : Program) (W : World) (t : TypeId) {X : Type} (f : X → List AV) (Q : X → Prop) : Prop :=
  ∀ (H : Type) (enc : TypeId × Value → H) (fuel : Nat) (cs : List Value) (d : DataW H) (ps : List MemPlace), DataW.trod enc P W 0 (fun _ => true) true fuel t cs = some (d, ps) →
    (∀ n ∈ d.weights P t, n ≤ reachBytes) → ∃ x, RepL (fun b => W.heap[b]?) (fun _ => none) cs (f x) ∧ Q x
/-- The same, as deep as B: what holds of a type that speaks of itself is shown by how deep one reads. -/
def ReadsB (P : Program) (W : World) (B : Nat) (t : TypeId) {X : Type} (f : X → List AV) (Q : X → Prop) : Prop :=
  ∀ (H : Type) (enc : TypeId × Value → H) (fuel : Nat) (cs : List Value) (d : DataW H) (ps : List MemPlace), fuel < B → DataW.trod enc P W 0 (fun _ => true) true fuel t cs = some (d, ps) →
    (∀ n ∈ d.weights P t, n ≤ reachBytes) → ∃ x, RepL (fun b => W.heap[b]?) (fun _ => none) cs (f x) ∧ Q x
section
variable {P : Program} {W : World} {t e : TypeId}
theorem Reads.toB {X : Type} {f : X → List AV} {Q : X → Prop} (h : Reads P W t f Q) (B : Nat) : ReadsB P W B t f Q := fun H enc fuel cs d ps _ => h H enc fuel cs d ps
theorem Reads.ofB {X : Type} {f : X → List AV} {Q : X → Prop} (h : ∀ B, ReadsB P W B t f Q) : Reads P W t f Q := fun H enc fuel cs d ps => h (fuel + 1) H enc fuel cs d ps (Nat.lt_succ_self _)
theorem ReadsB.less {X : Type} {f : X → List AV} {Q : X → Prop} {B B' : Nat} (hB : B' ≤ B) (h : ReadsB P W B t f Q) : ReadsB P W B' t f Q := fun H enc fuel cs d ps hf => h H enc fuel cs d ps (by omega)
theorem ReadsB.zero {X : Type} {f : X → List AV} {Q : X → Prop} : ReadsB P W 0 t f Q := fun H enc fuel cs d ps hf => absurd hf (by omega)
theorem RepL.one {imm : Imm} {m : Own} {v : Value} {a : AV} (h : Rep imm m v a) : RepL imm m [v] [a] := ⟨rfl, fun i h1 h2 => by
  obtain rfl : i = 0 := by simp at h1; omega
  exact h⟩
theorem Reads.int (hu : P.underlying t = some (.int .i64)) : Reads P W t (fun n : Int => [.c (.int .i64 n)]) I64 := by
  intro H enc fuel cs d ps h _
  cases fuel with
  | zero => cases h
  | succ fuel =>
    unfold DataW.trod at h
    rw [hu] at h
    split at h <;> (try cases h; done) <;> rename_i heq <;> (try cases heq; done)
    all_goals first | (exfalso; simp at heq; done) | skip
    · cases heq
      split at h
      · rename_i hc
        obtain ⟨rfl, hw⟩ := hc
        refine ⟨_, .one (.c _), ?_⟩
        have := hw
        simp [Lit.wf, IntKind.min, IntKind.max, IntKind.bits, IntKind.signed] at this
        unfold I64
        omega
      · cases h
theorem Reads.bool (hu : P.underlying t = some .bool) : Reads P W t (fun b : Bool => [.c (.bool b)]) (fun _ => True) := by
  intro H enc fuel cs d ps h _
  cases fuel with
  | zero => cases h
  | succ fuel =>
    unfold DataW.trod at h
    rw [hu] at h
    split at h <;> (try cases h; done) <;> rename_i heq <;> (try cases heq; done)
    all_goals first | (exfalso; simp at heq; done) | skip
    · cases heq
      exact ⟨_, .one (.c _), trivial⟩
theorem Reads.string (hu : P.underlying t = some .string) : Reads P W t (fun s : ByteArray => [.c (.string s)]) (fun s => s.size ≤ reachBytes) := by
  intro H enc fuel cs d ps h hw
  cases fuel with
  | zero => cases h
  | succ fuel =>
    unfold DataW.trod at h
    rw [hu] at h
    split at h <;> (try cases h; done) <;> rename_i heq <;> (try cases heq; done)
    all_goals first | (exfalso; simp at heq; done) | skip
    · cases heq
      split at h
      · cases h
        rename_i s _
        refine ⟨s, .one (.c _), ?_⟩
        have := hw s.data.toList.length (by simp [DataW.weights])
        simpa using this
      · cases h
theorem mapM_some {α β : Type} {g : α → Option β} : ∀ {l : List α} {r : List β}, l.mapM g = some r → r.length = l.length ∧ ∀ i (h : i < l.length) (h' : i < r.length), g l[i] = some r[i]
  | [], r, h => by simp at h; subst h; exact ⟨rfl, fun i h => by simp at h⟩
  | a :: l, r, h => by
    simp only [List.mapM_cons, Option.bind_eq_bind, Option.bind_eq_some_iff, Option.pure_def, Option.some.injEq] at h
    obtain ⟨b, hb, r', hr', rfl⟩ := h
    obtain ⟨h1, h2⟩ := mapM_some hr'
    refine ⟨by simp [h1], fun i hi hi' => ?_⟩
    cases i with
    | zero => exact hb
    | succ i =>
      simp only [List.getElem_cons_succ]
      exact h2 i (by simpa using hi) (by simpa using hi')
theorem weightsAll_mem {H : Type} {e : TypeId} : ∀ (l : List (DataW H)) (i : Nat) (h : i < l.length) (n : Nat), n ∈ l[i].weights P e → n ∈ DataW.weightsAll P e l
  | d :: r, 0, h, n, hn => by simp only [DataW.weightsAll, List.mem_append]; exact .inl hn
  | d :: r, i + 1, h, n, hn => by
    simp only [DataW.weightsAll, List.mem_append]
    exact .inr (weightsAll_mem r i (by simpa using h) n hn)
theorem cells?_spec {base n : Nat} {a : Addr} {cs : List Value} (h : W.cells? base a n = some cs) : cs.length = n ∧ ∀ j (hj : j < cs.length), W.cell? (a.add j) = some cs[j] := by
  unfold World.cells? at h
  split at h
  · obtain ⟨h1, h2⟩ := mapM_some h
    refine ⟨by simpa using h1, fun j hj => ?_⟩
    have := h2 j (by simp at h1 ⊢; omega) hj
    simpa using this
  · cases h
theorem ReadsB.slice {B : Nat} {X : Type} {f : X → List AV} {Q : X → Prop} {k : Nat} (hu : P.underlying t = some (.slice e)) (hk : P.cellsOf e = k) (hk0 : 0 < k) (hf : ∀ x, (f x).length = k) (he : ReadsB P W B e f Q) :
    ReadsB P W (B + 1) t (fun l : List X => [.sl (l.map f)]) (fun l => (∀ x ∈ l, Q x) ∧ l.length * P.bytesOf e ≤ reachBytes) := by
  intro H enc fuel cs d ps hB h hw
  cases fuel with
  | zero => cases h
  | succ fuel =>
    unfold DataW.trod at h
    rw [hu] at h
    split at h <;> (try cases h; done) <;> rename_i heq <;> (try cases heq; done)
    all_goals first | (exfalso; simp at heq; done) | skip
    · exact ⟨[], .one (.sl none 0 0 [] 0 (fun _ _ => undef) rfl (Nat.le_refl _) (fun i hi => by simp at hi) (fun h => by simp at h) (fun i hi => by simp at hi)), fun x hx => by simp at hx, by simp⟩
    · cases heq
      rename_i a len cap
      split at h
      · rename_i hc
        obtain ⟨_, hlc, hcm⟩ := hc
        simp only [Option.bind_eq_some_iff, Option.map_eq_some_iff] at h
        obtain ⟨elems, hel, rest, hrest, hd⟩ := h
        cases hd
        obtain ⟨hlen, hget⟩ := mapM_some hel
        simp only [List.length_range] at hlen
        have hweights : ∀ i (h' : i < elems.length), ∀ n ∈ (elems[i].1).weights P e, n ≤ reachBytes := fun i h' n hn => by
          refine hw n ?_
          simp only [DataW.weights, hu, List.mem_cons, List.mem_append]
          refine .inr (.inl ?_)
          exact weightsAll_mem (elems.map (·.1)) i (by simpa using h') n (by simpa using hn)
        have hread : ∀ i (h' : i < elems.length), ∃ (cs : List Value) (x : X), cs.length = k ∧ (∀ j (hj : j < cs.length), W.cell? ((a.add (i * k)).add j) = some cs[j]) ∧ RepL (fun b => W.heap[b]?) (fun _ => none) cs (f x) ∧ Q x := fun i h' => by
          have := hget i (by simp; omega) h'
          simp only [List.getElem_range, Option.bind_eq_some_iff] at this
          obtain ⟨cs, hcs, htr⟩ := this
          obtain ⟨h1, h2⟩ := cells?_spec hcs
          obtain ⟨x, hx, hq⟩ := he H enc fuel cs _ _ (by omega) htr (hweights i h')
          refine ⟨cs, x, by rw [h1, hk], fun j hj => ?_, hx, hq⟩
          rw [← hk]
          exact h2 j hj
        let csOf : Nat → List Value := fun i => if h : i < elems.length then (hread i h).choose else []
        have hcs : ∀ i (h : i < elems.length), ∃ x, (csOf i).length = k ∧ (∀ j (hj : j < (csOf i).length), W.cell? ((a.add (i * k)).add j) = some (csOf i)[j]) ∧ RepL (fun b => W.heap[b]?) (fun _ => none) (csOf i) (f x) ∧ Q x := fun i h => by
          have := (hread i h).choose_spec
          simp only [csOf, h, dif_pos]
          exact this
        let xs : List X := (List.finRange elems.length).map fun i => (hcs i.1 i.2).choose
        have hxs : ∀ i (h : i < elems.length), xs[i]'(by simp [xs]; exact h) = (hcs i h).choose := fun i h => by simp [xs]
        have hxl : xs.length = elems.length := by simp [xs]
        have hspot : 0 < elems.length → a.spot = none := fun h0 => by
          obtain ⟨x, h1, h2, _⟩ := hcs 0 h0
          have := h2 0 (by omega)
          simp only [Nat.zero_mul, Addr.add, if_true] at this
          unfold World.cell? at this
          split at this
          · split at this
            · cases this
            · rename_i hsp; simpa using hsp
          · cases this
        refine ⟨xs, .one (.sl (some a) cap len _ k (fun i j => (csOf i).getD j undef) (by simp; omega) hlc (fun i hi => by simp [hf]) (fun h0 => ?_) (fun i hi j hj => ?_)), fun x hx => ?_, ?_⟩
        · simp only [List.length_map] at h0
          have hsp := hspot (by omega)
          obtain ⟨b, o, spt⟩ := a
          simp only at hsp
          subst hsp
          refine ⟨b, o, rfl, fun i hi j hj => ?_⟩
          simp only [List.length_map] at hi
          obtain ⟨x, h1, h2, _⟩ := hcs i (by omega)
          have := h2 j (by omega)
          rw [addr_add, addr_add] at this
          unfold World.cell? at this
          unfold icell
          split at this
          · rename_i c T fr hb
            simp only at hb
            simp only [hb]
            have e1 : o + i * k + j = o + (i * k + j) := by omega
            rw [e1] at this
            rw [List.getD_eq_getElem?_getD, List.getElem?_eq_getElem (by omega)]
            simpa using this
          · cases this
        · simp only [List.length_map] at hi
          have hi' : i < elems.length := by omega
          have hsp := (hcs i hi').choose_spec
          have hx := hxs i hi'
          simp only [List.getElem_map] at hj ⊢
          have hj' : j < k := by rw [hf] at hj; exact hj
          rw [List.getD_eq_getElem?_getD, List.getElem?_eq_getElem (by omega)]
          simp only [hx] at hj ⊢
          exact hsp.2.2.1.2 j (by omega) hj
        · obtain ⟨i, hi, rfl⟩ := List.getElem_of_mem hx
          rw [hxs i (by omega)]
          exact (hcs i (by omega)).choose_spec.2.2.2
        · have := hw ((elems.map (·.1)).length * P.bytesOf e + (rest.map (·.1)).length * P.bytesOf e) (by
            simp only [DataW.weights, hu, List.mem_cons]
            exact .inl (by rw [Nat.add_mul]))
          simp only [List.length_map] at this
          rw [hxl]
          omega
      · cases h
theorem Reads.slice {X : Type} {f : X → List AV} {Q : X → Prop} {k : Nat} (hu : P.underlying t = some (.slice e)) (hk : P.cellsOf e = k) (hk0 : 0 < k) (hf : ∀ x, (f x).length = k) (he : Reads P W e f Q) :
    Reads P W t (fun l : List X => [.sl (l.map f)]) (fun l => (∀ x ∈ l, Q x) ∧ l.length * P.bytesOf e ≤ reachBytes) :=
  .ofB fun B => (ReadsB.slice hu hk hk0 hf (he.toB B)).less (by omega)
theorem ReadsB.map {B : Nat} {X Y : Type} {f : X → List AV} {Q : X → Prop} {g : Y → List AV} {R : Y → Prop} (to : X → Y) (hg : ∀ x, g (to x) = f x) (hR : ∀ x, Q x → R (to x)) (h : ReadsB P W B t f Q) : ReadsB P W B t g R :=
  fun H enc fuel cs d ps hB h1 h2 => let ⟨x, r, q⟩ := h H enc fuel cs d ps hB h1 h2; ⟨to x, by rw [hg]; exact r, hR x q⟩
theorem Reads.map {X Y : Type} {f : X → List AV} {Q : X → Prop} {g : Y → List AV} {R : Y → Prop} (to : X → Y) (hg : ∀ x, g (to x) = f x) (hR : ∀ x, Q x → R (to x)) (h : Reads P W t f Q) : Reads P W t g R :=
  fun H enc fuel cs d ps h1 h2 => let ⟨x, r, q⟩ := h H enc fuel cs d ps h1 h2; ⟨to x, by rw [hg]; exact r, hR x q⟩
/-- A struct's fields from cell o on. -/
def ReadsFB (P : Program) (W : World) (B : Nat) (fs : List Field) (o : Nat) {X : Type} (f : X → List AV) (Q : X → Prop) (n : Nat) : Prop :=
  ∀ (H : Type) (enc : TypeId × Value → H) (fuel : Nat) (cs : List Value) (xs : List (DataW H × List MemPlace)), fuel < B → (fs.mapM fun f => DataW.trod enc P W 0 (fun _ => true) true fuel f.type ((cs.drop f.offset).take (P.cellsOf f.type))) = some xs →
    (∀ n ∈ DataW.weightsEach P (fs.map (·.type)) (xs.map (·.1)), n ≤ reachBytes) → cs.length = o + n → ∃ x, RepL (fun b => W.heap[b]?) (fun _ => none) (cs.drop o) (f x) ∧ Q x
def ReadsF (P : Program) (W : World) (fs : List Field) (o : Nat) {X : Type} (f : X → List AV) (Q : X → Prop) (n : Nat) : Prop := ∀ B, ReadsFB P W B fs o f Q n
theorem ReadsFB.nil {B o : Nat} : ReadsFB P W B [] o (fun _ : Unit => []) (fun _ => True) 0 := by
  intro H enc fuel cs xs _ _ _ hl
  exact ⟨(), ⟨by simp; omega, fun i h1 h2 => by simp at h2⟩, trivial⟩
theorem ReadsF.nil {o : Nat} : ReadsF P W [] o (fun _ : Unit => []) (fun _ => True) 0 := fun _ => ReadsFB.nil
theorem ReadsFB.cons {B : Nat} {fd : Field} {fs : List Field} {o k n : Nat} {X Y : Type} {f : X → List AV} {Q : X → Prop} {g : Y → List AV} {R : Y → Prop} (ho : fd.offset = o) (hk : P.cellsOf fd.type = k)
    (h1 : ReadsB P W B fd.type f Q) (h2 : ReadsFB P W B fs (o + k) g R n) : ReadsFB P W B (fd :: fs) o (fun p : X × Y => f p.1 ++ g p.2) (fun p => Q p.1 ∧ R p.2) (k + n) := by
  intro H enc fuel cs xs hB hm hw hl
  simp only [List.mapM_cons, Option.bind_eq_bind, Option.bind_eq_some_iff, Option.pure_def, Option.some.injEq] at hm
  obtain ⟨⟨d, ps⟩, hd, xs', hxs, rfl⟩ := hm
  have hw1 : ∀ n ∈ d.weights P fd.type, n ≤ reachBytes := fun n hn => hw n (by simp only [List.map_cons, DataW.weightsEach, List.mem_append]; exact .inl hn)
  have hw2 : ∀ n ∈ DataW.weightsEach P (fs.map (·.type)) (xs'.map (·.1)), n ≤ reachBytes := fun n hn => hw n (by simp only [List.map_cons, DataW.weightsEach, List.mem_append]; exact .inr hn)
  obtain ⟨x, hx, qx⟩ := h1 H enc fuel _ d ps hB hd hw1
  obtain ⟨y, hy, qy⟩ := h2 H enc fuel cs xs' hB hxs hw2 (by omega)
  refine ⟨(x, y), ?_, qx, qy⟩
  have e : cs.drop o = (cs.drop fd.offset).take (P.cellsOf fd.type) ++ cs.drop (o + k) := by
    rw [ho, hk, ← List.drop_drop, List.take_append_drop]
  rw [e]
  exact hx.append hy
theorem ReadsF.cons {fd : Field} {fs : List Field} {o k n : Nat} {X Y : Type} {f : X → List AV} {Q : X → Prop} {g : Y → List AV} {R : Y → Prop} (ho : fd.offset = o) (hk : P.cellsOf fd.type = k)
    (h1 : Reads P W fd.type f Q) (h2 : ReadsF P W fs (o + k) g R n) : ReadsF P W (fd :: fs) o (fun p : X × Y => f p.1 ++ g p.2) (fun p => Q p.1 ∧ R p.2) (k + n) := fun B => .cons ho hk (h1.toB B) (h2 B)
theorem ReadsB.struct {B : Nat} {fs : Array Field} {X : Type} {f : X → List AV} {Q : X → Prop} {n : Nat} (hu : P.underlying t = some (.struct fs)) (hn : P.cellsOf t = n) (h : ReadsFB P W B fs.toList 0 f Q n) : ReadsB P W (B + 1) t f Q := by
  intro H enc fuel cs d ps hB ht hw
  cases fuel with
  | zero => cases ht
  | succ fuel =>
    simp only [DataW.trod, hu] at ht
    split at ht
    · rename_i hl
      obtain ⟨xs, hxs, hd⟩ := Option.map_eq_some_iff.1 ht
      cases hd
      obtain ⟨x, hx, q⟩ := h H enc fuel _ xs (by omega) hxs (fun n hn => hw n (by simp only [DataW.weights, hu]; exact hn)) (by omega)
      exact ⟨x, by simpa using hx, q⟩
    · cases ht
theorem Reads.struct {fs : Array Field} {X : Type} {f : X → List AV} {Q : X → Prop} {n : Nat} (hu : P.underlying t = some (.struct fs)) (hn : P.cellsOf t = n) (h : ReadsF P W fs.toList 0 f Q n) : Reads P W t f Q :=
  .ofB fun B => (ReadsB.struct hu hn (h B)).less (by omega)
/-- What a law's proof needs: from the contract with content to the call. -/
theorem law_calls {f : FuncId} {avs : List AV} {vs : List Value} (h : ACalls P f avs [] fun r _ => r = .c (.bool true)) (hv : RepL (fun b => W.heap[b]?) (fun _ => none) vs avs) :
    Calls P f vs.toArray W fun e W' => e = .returned (.bool true) ∧ RowKit.Below W.heap.size W W' := by
  have hs : Sim W (fun b => W.heap[b]?) (fun _ => none) W [] := ⟨rfl, rfl, rfl, Nat.le_refl _, fun _ _ h => h, fun _ _ => rfl, fun id h => by simp at h, fun i j hi => by simp at hi⟩
  refine (h W _ _ W vs hs hv).mono ?_
  rintro e W' ⟨imm', m', v, r, σ', rfl, hi, _, hs', hr, rfl⟩
  rw [hr.c_inv]
  refine ⟨rfl, hs'.os, hs'.tape, hs'.output, hs'.size, fun k hk => ?_⟩
  have := hs'.imm_ok k _ (hi k _ (Array.getElem?_eq_getElem hk))
  rw [this, Array.getElem?_eq_getElem hk]
/-- One argument of a law. -/
theorem Reads.arg {X : Type} {f : X → AV} {Q : X → Prop} {H : Type} {enc : TypeId × Value → H} {v : Value} {d : DataW H} {ps : List MemPlace} (h : Reads P W t (fun x => [f x]) Q) (hr : DataW.Trod enc P W 0 (fun _ => true) true t v d ps)
    (hv : v.cells.toList = [v]) (hw : ∀ n ∈ d.weights P t, n ≤ reachBytes) : ∃ x, Rep (fun b => W.heap[b]?) (fun _ => none) v (f x) ∧ Q x := by
  obtain ⟨fuel, hf⟩ := hr
  rw [hv] at hf
  obtain ⟨x, hx, q⟩ := h H enc fuel _ d ps hf hw
  exact ⟨x, by simpa using hx.2 0 (by simp) (by simp), q⟩
/-- A struct that is handed by value. -/
theorem Reads.argS {X : Type} {f : X → List AV} {Q : X → Prop} {H : Type} {enc : TypeId × Value → H} {cs : Array Value} {d : DataW H} {ps : List MemPlace} (h : Reads P W t f Q) (hr : DataW.Trod enc P W 0 (fun _ => true) true t (.agg cs) d ps)
    (hw : ∀ n ∈ d.weights P t, n ≤ reachBytes) : ∃ x, Rep (fun b => W.heap[b]?) (fun _ => none) (.agg cs) (.agg (f x)) ∧ Q x := by
  obtain ⟨fuel, hf⟩ := hr
  obtain ⟨x, hx, q⟩ := h H enc fuel _ d ps hf hw
  refine ⟨x, ?_, q⟩
  have : cs = cs.toList.toArray := by simp
  rw [this]
  exact .agg _ _ hx.1 hx.2
end
end Go.Proofs.YtephecognbbaoaaGreat
namespace Go.Proofs.YtephecognbbaoaaGreat
def sumL (n : Int) : List Int → Int
  | [] => n
  | c :: l => sumL ((n * 31 + c) % 65521) l
theorem sumL_bd : ∀ (l : List Int) (n : Int), 0 ≤ n → n < 65521 → 0 ≤ sumL n l ∧ sumL n l < 65521
  | [], n, h, h' => ⟨h, h'⟩
  | c :: l, n, h, h' => sumL_bd l _ (by omega) (by omega)
theorem sumL_app : ∀ (a b : List Int) (n : Int), sumL n (a ++ b) = sumL (sumL n a) b
  | [], b, n => rfl
  | c :: a, b, n => by simp only [List.cons_append, sumL]; exact sumL_app a b _
theorem sumL_inj : ∀ (l : List Int) (n m : Int), 0 ≤ n → n < 65521 → 0 ≤ m → m < 65521 → sumL n l = sumL m l → n = m
  | [], n, m, _, _, _, _, h => h
  | c :: l, n, m, h1, h2, h3, h4, h => by
    have := sumL_inj l _ _ (by omega) (by omega) (by omega) (by omega) h
    omega
def fitsB (n : Int) : Bool := decide (0 ≤ n) && decide (n ≤ 250)
theorem fitsB_iff (n : Int) : fitsB n = true ↔ 0 ≤ n ∧ n ≤ 250 := by simp [fitsB]
structure Packet where
  fr : Int
  dst : Int
  routes : List Int
deriving DecidableEq
def writeL (p : Packet) : List Int × Int :=
  if (p.fr :: p.dst :: p.routes).any fun n => !fitsB n then ([], 3)
  else if 54 < p.routes.length then ([], 2)
  else
    let b := [83, p.fr, p.dst, (p.routes.length : Int)] ++ p.routes
    (b ++ [sumL 1 b / 256, sumL 1 b % 256], 0)
/-- The packet that is to stand in some bytes. -/
def packetAt (s : List Int) : Packet := ⟨at0 s 1, at0 s 2, (s.take (s.length - 2)).drop 4⟩
/-- What the program reads. -/
def readL (s : List Int) : Packet × Int :=
  if 60 < s.length then (⟨0, 0, []⟩, 2)
  else if s.length < 6 ∨ at0 s 3 ≠ s.length - 6 then (⟨0, 0, []⟩, 1)
  else if (writeL (packetAt s)).2 ≠ 0 ∨ (writeL (packetAt s)).1 ≠ s then (⟨0, 0, []⟩, 1)
  else (packetAt s, 0)
/-- What the document says. -/
def readOfL (s : List Int) : Packet × Int :=
  if 60 < s.length then (⟨0, 0, []⟩, 2)
  else if s.length < 6 ∨ at0 s 0 ≠ 83 ∨ at0 s 3 ≠ s.length - 6 ∨ 250 < at0 s 1 ∨ 250 < at0 s 2 then (⟨0, 0, []⟩, 1)
  else if ((s.take (s.length - 2)).drop 4).any (fun c => decide (250 < c)) then (⟨0, 0, []⟩, 1)
  else if sumL 1 (s.take (s.length - 2)) ≠ 256 * at0 s (s.length - 2) + at0 s (s.length - 1) then (⟨0, 0, []⟩, 1)
  else (packetAt s, 0)
/-- Bytes of a packet's length: head, middle, end. -/
theorem split_packet (s : List Int) (h : 6 ≤ s.length) : s = at0 s 0 :: at0 s 1 :: at0 s 2 :: at0 s 3 :: ((s.take (s.length - 2)).drop 4 ++ [at0 s (s.length - 2), at0 s (s.length - 1)]) := by
  have e1 : s = s.take (s.length - 2) ++ s.drop (s.length - 2) := (List.take_append_drop _ _).symm
  have e2 : s.drop (s.length - 2) = [at0 s (s.length - 2), at0 s (s.length - 1)] := by
    have d1 : ((s.length : Int) - 2).toNat = s.length - 2 := by omega
    have := drop_at s (k := (s.length : Int) - 2) (by omega) (by omega)
    rw [d1] at this
    rw [this]
    congr 1
    have e : ((s.length : Int) - 2 + 1) = s.length - 1 := by omega
    rw [e, drop_at s (k := (s.length : Int) - 1) (by omega) (by omega)]
    congr 1
    exact List.drop_of_length_le (by omega)
  obtain ⟨a, b, c, d, r, rfl⟩ : ∃ a b c d r, s = a :: b :: c :: d :: r := by
    match s, h with
    | a :: b :: c :: d :: r, _ => exact ⟨a, b, c, d, r, rfl⟩
  have e3 : (a :: b :: c :: d :: r).take ((a :: b :: c :: d :: r).length - 2) = a :: b :: c :: d :: r.take (r.length - 2) := by
    simp only [List.length_cons] at h ⊢
    have : r.length + 1 + 1 + 1 + 1 - 2 = r.length - 2 + 1 + 1 + 1 + 1 := by omega
    rw [this]
    simp
  rw [e2, e3] at e1
  rw [e3]
  exact e1
theorem read_eq (s : List Int) (hb : ∀ c ∈ s, 0 ≤ c ∧ c ≤ 255) : readL s = readOfL s := by
  unfold readL readOfL
  by_cases h1 : 60 < s.length
  · simp [h1]
  rw [if_neg h1, if_neg h1]
  by_cases h2 : s.length < 6
  · rw [if_pos (.inl h2), if_pos (.inl h2)]
  by_cases h3 : at0 s 3 ≠ s.length - 6
  · rw [if_pos (.inr h3), if_pos (.inr (.inr (.inl h3)))]
  rw [if_neg (by intro h; rcases h with h | h; exact h2 h; exact h3 h)]
  have h3' : at0 s 3 = s.length - 6 := by omega
  have hs := split_packet s (by omega)
  have hw : ∀ k : Int, 0 ≤ k → k < s.length → 0 ≤ at0 s k ∧ at0 s k ≤ 255 := fun k h h' => hb _ (at0_mem s h h')
  have r1 := hw 1 (by omega) (by omega)
  have r2 := hw 2 (by omega) (by omega)
  have re := hw (s.length - 1) (by omega) (by omega)
  have rd := hw (s.length - 2) (by omega) (by omega)
  have hm : ∀ c ∈ (s.take (s.length - 2)).drop 4, 0 ≤ c ∧ c ≤ 255 := fun c hc => hb c (List.mem_of_mem_take (List.mem_of_mem_drop hc))
  have hml : ((s.take (s.length - 2)).drop 4).length = s.length - 6 := by simp; omega
  have hany : ((packetAt s).fr :: (packetAt s).dst :: (packetAt s).routes).any (fun n => !fitsB n) = (decide (250 < at0 s 1) || (decide (250 < at0 s 2) || ((s.take (s.length - 2)).drop 4).any fun c => decide (250 < c))) := by
    have e : ∀ c : Int, 0 ≤ c → (!fitsB c) = decide (250 < c) := fun c hc => by
      by_cases h : 250 < c
      · simp [fitsB, h, show ¬ c ≤ 250 by omega]
      · simp [fitsB, hc, h, show c ≤ 250 by omega]
    simp only [packetAt, List.any_cons, e _ r1.1, e _ r2.1]
    congr 2
    apply List.any_eq.trans
    rw [List.any_eq]
    refine decide_eq_decide.2 ?_
    constructor
    · rintro ⟨x, hx, h⟩; exact ⟨x, hx, by rw [← e x (hm x hx).1]; exact h⟩
    · rintro ⟨x, hx, h⟩; exact ⟨x, hx, by rw [e x (hm x hx).1]; exact h⟩
  by_cases h4 : 250 < at0 s 1 ∨ 250 < at0 s 2
  · rw [if_pos, if_pos]
    · rcases h4 with h | h
      · exact .inr (.inr (.inr (.inl h)))
      · exact .inr (.inr (.inr (.inr h)))
    · refine .inl ?_
      rw [writeL, hany]
      rcases h4 with h | h <;> simp [h]
  rw [not_or] at h4
  by_cases h5 : (((s.take (s.length - 2)).drop 4).any fun c => decide (250 < c)) = true
  · rw [if_pos]
    · by_cases h6 : s.length < 6 ∨ at0 s 0 ≠ 83 ∨ at0 s 3 ≠ s.length - 6 ∨ 250 < at0 s 1 ∨ 250 < at0 s 2
      · rw [if_pos h6]
      · rw [if_neg h6, if_pos h5]
    · refine .inl ?_
      rw [writeL, hany]
      simp [h5]
  have hwr : writeL (packetAt s) = ([83, at0 s 1, at0 s 2, at0 s 3] ++ (s.take (s.length - 2)).drop 4 ++ [sumL 1 ([83, at0 s 1, at0 s 2, at0 s 3] ++ (s.take (s.length - 2)).drop 4) / 256, sumL 1 ([83, at0 s 1, at0 s 2, at0 s 3] ++ (s.take (s.length - 2)).drop 4) % 256], 0) := by
    have hl : ((packetAt s).routes.length : Int) = at0 s 3 := by
      show ((((s.take (s.length - 2)).drop 4).length : Nat) : Int) = _
      rw [hml]; omega
    rw [writeL, hany, if_neg (by simp [h4, h5]), if_neg (by show ¬ 54 < ((s.take (s.length - 2)).drop 4).length; omega)]
    simp only [hl]
    rfl
  rw [hwr]
  have htake : s.take (s.length - 2) = at0 s 0 :: at0 s 1 :: at0 s 2 :: at0 s 3 :: (s.take (s.length - 2)).drop 4 := by
    have e3 : ∀ (l : List Int) (a b c d x y : Int), (a :: b :: c :: d :: (l ++ [x, y])).take ((a :: b :: c :: d :: (l ++ [x, y])).length - 2) = a :: b :: c :: d :: l := by
      intro l a b c d x y
      have : (a :: b :: c :: d :: (l ++ [x, y])).length - 2 = l.length + 1 + 1 + 1 + 1 := by simp
      rw [this]
      simp
    have := e3 ((s.take (s.length - 2)).drop 4) (at0 s 0) (at0 s 1) (at0 s 2) (at0 s 3) (at0 s (s.length - 2)) (at0 s (s.length - 1))
    rw [← hs] at this
    exact this
  by_cases h0 : at0 s 0 = 83
  · rw [if_neg (show ¬ (s.length < 6 ∨ at0 s 0 ≠ 83 ∨ at0 s 3 ≠ s.length - 6 ∨ 250 < at0 s 1 ∨ 250 < at0 s 2) by omega), if_neg h5]
    have hb1 := sumL_bd (s.take (s.length - 2)) 1 (by omega) (by omega)
    have e4 : [83, at0 s 1, at0 s 2, at0 s 3] ++ (s.take (s.length - 2)).drop 4 = s.take (s.length - 2) := by
      rw [← h0]
      exact htake.symm
    rw [e4]
    have e5 : s = s.take (s.length - 2) ++ [at0 s (s.length - 2), at0 s (s.length - 1)] := by
      conv => rhs; rw [htake]
      exact hs
    by_cases h6 : sumL 1 (s.take (s.length - 2)) = 256 * at0 s (s.length - 2) + at0 s (s.length - 1)
    · rw [if_neg, if_neg (by simpa using h6)]
      simp only [ne_eq, not_true_eq_false, false_or, Decidable.not_not]
      conv => rhs; rw [e5]
      congr 2
      · omega
      · congr 1
        omega
    · rw [if_pos, if_pos h6]
      refine .inr fun h => h6 ?_
      have h' : s.take (s.length - 2) ++ [sumL 1 (s.take (s.length - 2)) / 256, sumL 1 (s.take (s.length - 2)) % 256] = s.take (s.length - 2) ++ [at0 s (s.length - 2), at0 s (s.length - 1)] := by rw [← e5]; exact h
      have := List.append_cancel_left h'
      simp only [List.cons.injEq, and_true] at this
      omega
  · rw [if_pos, if_pos (.inr (.inl h0))]
    refine .inr fun h => h0 ?_
    rw [← h]
    rfl
theorem writeL_ok {p : Packet} (h : (writeL p).2 = 0) : (∀ c ∈ p.fr :: p.dst :: p.routes, 0 ≤ c ∧ c ≤ 250) ∧ p.routes.length ≤ 54 ∧
    (writeL p).1 = 83 :: p.fr :: p.dst :: (p.routes.length : Int) :: (p.routes ++ [sumL 1 (83 :: p.fr :: p.dst :: (p.routes.length : Int) :: p.routes) / 256, sumL 1 (83 :: p.fr :: p.dst :: (p.routes.length : Int) :: p.routes) % 256]) := by
  unfold writeL at h ⊢
  split at h
  · cases h
  rename_i h1
  split at h
  · cases h
  rename_i h2
  rw [if_neg h1, if_neg h2]
  refine ⟨fun c hc => ?_, by omega, rfl⟩
  rw [← fitsB_iff]
  simp only [Bool.not_eq_true, List.any_eq_false, Bool.not_eq_true, Bool.not_eq_false', Bool.not_eq_eq_eq_not, Bool.not_true, Bool.not_false] at h1
  simpa using h1 c hc
theorem writeL_bytes {p : Packet} (h : (writeL p).2 = 0) : ∀ c ∈ (writeL p).1, 0 ≤ c ∧ c ≤ 255 := by
  obtain ⟨h1, h2, h3⟩ := writeL_ok h
  rw [h3]
  have := sumL_bd (83 :: p.fr :: p.dst :: (p.routes.length : Int) :: p.routes) 1 (by omega) (by omega)
  intro c hc
  simp only [List.mem_cons, List.mem_append, List.not_mem_nil, or_false] at hc
  rcases hc with rfl | rfl | rfl | rfl | hc | rfl | rfl
  · omega
  · have := h1 p.fr (by simp); omega
  · have := h1 p.dst (by simp); omega
  · omega
  · have := h1 c (by simp [hc]); omega
  · omega
  · omega
theorem writeL_length {p : Packet} (h : (writeL p).2 = 0) : (writeL p).1.length = p.routes.length + 6 := by
  rw [(writeL_ok h).2.2]
  simp
/-- What is written is read as it was. -/
theorem back2 {p : Packet} (h : (writeL p).2 = 0) : readL (writeL p).1 = (p, 0) := by
  obtain ⟨h1, h2, h3⟩ := writeL_ok h
  have hl := writeL_length h
  have hp : packetAt (writeL p).1 = p := by
    unfold packetAt
    rw [hl, h3]
    have e : ∀ (l : List Int) (a b c d x y : Int), ((a :: b :: c :: d :: (l ++ [x, y])).take (l.length + 6 - 2)).drop 4 = l := by
      intro l a b c d x y
      have : l.length + 6 - 2 = l.length + 1 + 1 + 1 + 1 := by omega
      rw [this]
      simp
    rw [e]
    rfl
  unfold readL
  rw [hp, if_neg (by omega), if_neg, if_neg (by simp [h])]
  rw [hl, h3]
  simp [at0]
/-- With one byte turned it is read no more. -/
theorem turned {p : Packet} (h : (writeL p).2 = 0) (k : Nat) (c : Int) (hk : k < (writeL p).1.length) (hc : 0 ≤ c ∧ c ≤ 255) (hne : c ≠ (writeL p).1[k]) : (readL ((writeL p).1.set k c)).2 ≠ 0 := by
  obtain ⟨h1, h2, h3⟩ := writeL_ok h
  have hl := writeL_length h
  have hB := writeL_bytes h
  have hT : ∀ x ∈ (writeL p).1.set k c, 0 ≤ x ∧ x ≤ 255 := fun x hx => by
    rcases List.mem_or_eq_of_mem_set hx with hx | rfl
    · exact hB x hx
    · exact hc
  rw [read_eq _ hT]
  have h0 : (readOfL (writeL p).1).2 = 0 := by rw [← read_eq _ hB, back2 h]
  generalize hs : (writeL p).1 = s at *
  intro hbad
  have key : ∀ t : List Int, (readOfL t).2 = 0 → 6 ≤ t.length ∧ at0 t 0 = 83 ∧ at0 t 3 = t.length - 6 ∧ sumL 1 (t.take (t.length - 2)) = 256 * at0 t (t.length - 2) + at0 t (t.length - 1) := by
    intro t ht
    unfold readOfL at ht
    split at ht
    · cases ht
    split at ht
    · cases ht
    split at ht
    · cases ht
    split at ht
    · cases ht
    rename_i g1 g2 g3 g4
    refine ⟨by omega, by omega, by omega, by simpa using g4⟩
  obtain ⟨a1, a2, a3, a4⟩ := key _ h0
  obtain ⟨b1, b2, b3, b4⟩ := key _ hbad
  simp only [List.length_set] at b1 b3 b4
  have hset : ∀ i : Int, 0 ≤ i → i < s.length → at0 (s.set k c) i = if i = k then c else at0 s i := by
    intro i hi hi'
    simp only [at0, List.getD_eq_getElem?_getD]
    rw [List.getElem?_eq_getElem (by simp; omega), List.getElem?_eq_getElem (by omega)]
    simp only [Option.getD_some, List.getElem_set]
    by_cases e : k = i.toNat
    · rw [if_pos e, if_pos (by omega)]
    · rw [if_neg e, if_neg (by omega)]
  have hk0 : s[k] = at0 s k := by
    simp only [at0, Int.toNat_natCast, List.getD_eq_getElem?_getD, List.getElem?_eq_getElem hk, Option.getD_some]
  rw [hk0] at hne
  rw [hset _ (by omega) (by omega)] at b2 b3
  rw [hset _ (by omega) (by omega), hset _ (by omega) (by omega)] at b4
  have hr : ∀ i : Int, 0 ≤ i → i < s.length → 0 ≤ at0 s i ∧ at0 s i ≤ 255 := fun i h h' => hB _ (at0_mem s h h')
  have hx := hr (s.length - 2) (by omega) (by omega)
  have hy := hr (s.length - 1) (by omega) (by omega)
  rcases Nat.lt_or_ge k (s.length - 2) with hlt | hge
  · rw [if_neg (by omega), if_neg (by omega)] at b4
    have e1 : (s.set k c).take (s.length - 2) = s.take k ++ c :: (s.take (s.length - 2)).drop (k + 1) := by
      rw [List.set_eq_take_append_cons_drop, if_pos hk, List.take_append, List.take_take, List.length_take]
      have m1 : min (s.length - 2) k = k := by omega
      have m2 : s.length - 2 - min k s.length = s.length - 2 - k - 1 + 1 := by omega
      rw [m1, m2, List.take_succ_cons, List.drop_take]
      congr 3
    have e2 : s.take (s.length - 2) = s.take k ++ at0 s k :: (s.take (s.length - 2)).drop (k + 1) := by
      conv => lhs; rw [← List.take_append_drop k (s.take (s.length - 2))]
      rw [List.take_take]
      have m1 : min k (s.length - 2) = k := by omega
      rw [m1]
      congr 1
      rw [List.drop_eq_getElem_cons (by simp; omega)]
      congr 1
      rw [List.getElem_take, hk0]
    rw [e1, sumL_app, sumL] at b4
    rw [e2, sumL_app, sumL] at a4
    have hb := sumL_bd (s.take k) 1 (by omega) (by omega)
    have := sumL_inj _ _ _ (by omega) (by omega) (by omega) (by omega) (a4.trans b4.symm)
    have hat := hr k (by omega) (by omega)
    omega
  · have e1 : (s.set k c).take (s.length - 2) = s.take (s.length - 2) := by
      rw [List.take_set_of_le hge]
    rw [e1, a4] at b4
    by_cases hk1 : (s.length : Int) - 1 = k
    · rw [if_neg (by omega), if_pos hk1] at b4
      rw [← hk1] at hne
      omega
    · have hk2 : (s.length : Int) - 2 = k := by omega
      rw [if_pos hk2, if_neg (by omega)] at b4
      rw [← hk2] at hne
      omega
end Go.Proofs.YtephecognbbaoaaGreat
namespace Go.Proofs.YtephecognbbaoaaGreat
theorem sum_calls (l : List Int) (hl : l.length ≤ 1000) (hb : ∀ c ∈ l, 0 ≤ c ∧ c ≤ 255) (σ : Store) : ACalls Tryz.prog 126 [bytesA l] σ fun r σ' => σ' = σ ∧ r = intA1 (sumL 1 l) := by
  refine ACalls_of_awp Tryz.func126 rfl Tryz.results126 ?_
  simp only [List.length_cons, List.length_nil, Tryz.ntmps126, Nat.reduceAdd, Nat.reduceSub, enterA]
  (repeat' (first|(refine g_s fun K hK=>?_)|(refine g_b ?_)|(refine g_r ?_)|(refine g_k ?_;simp only[thenQ,blockQ])|(refine g_e ?_;simp only[thenQ,blockQ,↓reduceIte,Nat.reduceEqDiff])|(refine g_c (fun h=>?_) (fun h=>?_)<;>(try simp only[go_sem] at h)<;>(try exact g_f))|((first|refine g_t ?_|refine g_g ?_|refine g_U ?_|refine g_A ?_|refine g_W ?_);(try simp -implicitDefEqProofs only[go_sem]))|(with_reducible refine hK _ _ ?_;clear hK K)|(clear hK K;first|(with_reducible refine hK _ _ ?_;clear hK K)|(clear hK K;with_reducible refine hK _ _ ?_;clear hK K)|(clear hK K;clear hK K;with_reducible refine hK _ _ ?_;clear hK K))|(with_reducible refine splitB_intro (fun h=>?_) (fun h=>?_)<;>(try simp only[go_sem] at h)<;>(try exact g_f)<;>(try simp -implicitDefEqProofs only[go_sem]))|(with_reducible refine And.intro (fun h=>?_) (fun h=>?_)<;>(try simp only[go_sem] at h)<;>(try exact g_f))|(with_reducible refine And.intro ?_ ?_;· exact g_x)|(with_reducible intro h;(try simp only[go_sem] at h);(try exact g_f))))
  refine AWP_each l (fun _ r s => sumL 1 l = sumL s r ∧ 0 ≤ s ∧ s < 65521) (fun k s _ => [(3, intA1 s), (8, intA1 k)]) (fun _ _ _ => σ) 1 [] ?_ ?_ (ALe_of ?_) ?_ ?_
  · simp
  · rfl
  · simp -implicitDefEqProofs only [go_sem]
  · rintro k r s τ hk0 hk1 ⟨h1, h2, h3⟩ L hL
    have hc := hb _ (at0_mem l hk0 hk1)
    simp -implicitDefEqProofs only [go_sem]
    (repeat' (first|(refine g_s fun K hK=>?_)|(refine g_b ?_)|(refine g_r ?_)|(refine g_k ?_;simp only[thenQ,blockQ])|(refine g_e ?_;simp only[thenQ,blockQ,↓reduceIte,Nat.reduceEqDiff])|(refine g_c (fun h=>?_) (fun h=>?_)<;>(try simp only[go_sem] at h)<;>(try exact g_f))|((first|refine g_t ?_|refine g_g ?_|refine g_U ?_|refine g_A ?_|refine g_W ?_);(try simp -implicitDefEqProofs only[go_sem]))|(with_reducible refine hK _ _ ?_;clear hK K)|(clear hK K;first|(with_reducible refine hK _ _ ?_;clear hK K)|(clear hK K;with_reducible refine hK _ _ ?_;clear hK K)|(clear hK K;clear hK K;with_reducible refine hK _ _ ?_;clear hK K))|(with_reducible refine splitB_intro (fun h=>?_) (fun h=>?_)<;>(try simp only[go_sem] at h)<;>(try exact g_f)<;>(try simp -implicitDefEqProofs only[go_sem]))|(with_reducible refine And.intro (fun h=>?_) (fun h=>?_)<;>(try simp only[go_sem] at h)<;>(try exact g_f))|(with_reducible refine And.intro ?_ ?_;· exact g_x)|(with_reducible intro h;(try simp only[go_sem] at h);(try exact g_f))))
    refine hL ((s * 31 + at0 l k) % 65521) [] _ _ ⟨by rw [h1, sumL], by omega, by omega⟩ (ALe_of ?_) rfl
    simp -implicitDefEqProofs only [go_sem]
    rw [Int.tmod_eq_emod_of_nonneg (by omega)]
  · rintro k s τ hk ⟨h1, h2, h3⟩ L
    simp -implicitDefEqProofs only [go_sem]
    (repeat' (first|(refine g_s fun K hK=>?_)|(refine g_b ?_)|(refine g_r ?_)|(refine g_k ?_;simp only[thenQ,blockQ])|(refine g_e ?_;simp only[thenQ,blockQ,↓reduceIte,Nat.reduceEqDiff])|(refine g_c (fun h=>?_) (fun h=>?_)<;>(try simp only[go_sem] at h)<;>(try exact g_f))|((first|refine g_t ?_|refine g_g ?_|refine g_U ?_|refine g_A ?_|refine g_W ?_);(try simp -implicitDefEqProofs only[go_sem]))|(with_reducible refine hK _ _ ?_;clear hK K)|(clear hK K;first|(with_reducible refine hK _ _ ?_;clear hK K)|(clear hK K;with_reducible refine hK _ _ ?_;clear hK K)|(clear hK K;clear hK K;with_reducible refine hK _ _ ?_;clear hK K))|(with_reducible refine splitB_intro (fun h=>?_) (fun h=>?_)<;>(try simp only[go_sem] at h)<;>(try exact g_f)<;>(try simp -implicitDefEqProofs only[go_sem]))|(with_reducible refine And.intro (fun h=>?_) (fun h=>?_)<;>(try simp only[go_sem] at h)<;>(try exact g_f))|(with_reducible refine And.intro ?_ ?_;· exact g_x)|(with_reducible intro h;(try simp only[go_sem] at h);(try exact g_f))))
    rw [h1, sumL]
theorem numsA_cons (n : Int) (r : List (List AV)) : numsA ([.c (.int .u8 n)] :: r) = (numsA r).map fun l => n :: l := rfl
theorem numsA_nil : numsA [] = some [] := rfl
theorem numsA_bad {e : List AV} (h : ∀ n, e ≠ [.c (.int .u8 n)]) (r : List (List AV)) : numsA (e :: r) = none := by
  unfold numsA
  split
  · rename_i h'; cases h'
  · rename_i n r' h'
    cases h'
    exact (h _ rfl).elim
  · rfl
theorem numsA_app : ∀ (a b : List (List AV)), numsA (a ++ b) = (numsA a).bind fun x => (numsA b).map fun y => x ++ y
  | [], b => by simp [numsA]
  | e :: r, b => by
    rw [List.cons_append]
    have ih := numsA_app r b
    by_cases h : ∃ n, e = [.c (.int .u8 n)]
    · obtain ⟨n, rfl⟩ := h
      rw [numsA_cons, numsA_cons, ih]
      cases numsA r <;> cases numsA b <;> rfl
    · have h' : ∀ n, e ≠ [.c (.int .u8 n)] := fun n e => h ⟨n, e⟩
      rw [numsA_bad h', numsA_bad h']
      rfl
theorem numsA_map : ∀ (l : List Int), numsA (l.map fun c => [.c (.int .u8 c)]) = some l
  | [] => rfl
  | c :: l => by simp [numsA, numsA_map l]
theorem u8_id {x : Int} (h : 0 ≤ x) (h' : x ≤ 255) : IntKind.u8.wrap x = x := by
  have e : (2 : Int) ^ IntKind.u8.bits = 256 := rfl
  have e2 : IntKind.u8.signed = false := rfl
  simp only [IntKind.wrap, e, e2, Bool.false_and, if_false, Bool.false_eq_true]
  omega
theorem u8_mod (x : Int) : IntKind.u8.wrap x = x % 256 := by
  have e : (2 : Int) ^ IntKind.u8.bits = 256 := rfl
  have e2 : IntKind.u8.signed = false := rfl
  simp only [IntKind.wrap, e, e2, Bool.false_and, if_false, Bool.false_eq_true]
theorem u8_shr8 {x : Int} (h : 0 ≤ x) (h' : x < 65536) : IntKind.u8.wrap (x.fdiv (2 ^ min 8 64)) = x / 256 := by
  have e : (2 : Int) ^ min 8 64 = 256 := rfl
  rw [e, Int.fdiv_eq_ediv_of_nonneg _ (by omega), u8_id (by omega) (by omega)]
theorem numsA_byteC (l : List Int) : numsA (l.map byteC) = some l := numsA_map l
theorem sum_own (l : List Int) (hl : l.length ≤ 1000) (hb : ∀ c ∈ l, 0 ≤ c ∧ c ≤ 255) (σ : Store) {b n c : Nat} (he : elemsA σ (.own b 1 0 n c) = some (l.map byteC)) :
    ACalls Tryz.prog 126 [.own b 1 0 n c] σ fun r σ' => σ' = σ ∧ r = intA1 (sumL 1 l) := by
  refine (ACalls.borrow (args := [.own b 1 0 n c]) (args' := [bytesA l]) (R := fun v => v = .int .i64 (sumL 1 l)) (And.intro (.inr ⟨_, he, rfl⟩) trivial) fun τ => ?_).mono ?_
  · exact (sum_calls l hl hb τ).mono fun _ _ ⟨h1, h2⟩ => ⟨h1, _, h2, rfl⟩
  · rintro r σ' ⟨h1, v, rfl, rfl⟩
    exact ⟨h1, rfl⟩
theorem fits_calls (n : Int) (σ : Store) : ACalls Tryz.prog 125 [intA1 n] σ fun r σ' => σ' = σ ∧ r = .c (.bool (fitsB n)) := by
  refine ACalls_of_awp Tryz.func125 rfl Tryz.results125 ?_
  simp only [List.length_cons, List.length_nil, Tryz.ntmps125, Nat.reduceAdd, Nat.reduceSub, enterA]
  (repeat' (first|(refine g_s fun K hK=>?_)|(refine g_b ?_)|(refine g_r ?_)|(refine g_k ?_;simp only[thenQ,blockQ])|(refine g_e ?_;simp only[thenQ,blockQ,↓reduceIte,Nat.reduceEqDiff])|(refine g_c (fun h=>?_) (fun h=>?_)<;>(try simp only[go_sem] at h)<;>(try exact g_f))|((first|refine g_t ?_|refine g_g ?_|refine g_U ?_|refine g_A ?_|refine g_W ?_);(try simp -implicitDefEqProofs only[go_sem]))|(with_reducible refine hK _ _ ?_;clear hK K)|(clear hK K;first|(with_reducible refine hK _ _ ?_;clear hK K)|(clear hK K;with_reducible refine hK _ _ ?_;clear hK K)|(clear hK K;clear hK K;with_reducible refine hK _ _ ?_;clear hK K))|(with_reducible refine splitB_intro (fun h=>?_) (fun h=>?_)<;>(try simp only[go_sem] at h)<;>(try exact g_f)<;>(try simp -implicitDefEqProofs only[go_sem]))|(with_reducible refine And.intro (fun h=>?_) (fun h=>?_)<;>(try simp only[go_sem] at h)<;>(try exact g_f))|(with_reducible refine And.intro ?_ ?_;· exact g_x)|(with_reducible intro h;(try simp only[go_sem] at h);(try exact g_f))))
  all_goals (simp [fitsB]; omega)
theorem write1_calls (n : Int) (σ : Store) : ACalls Tryz.prog 124 [intA1 n] σ fun r σ' => σ' = σ ∧ r = .c (.bool (!fitsB n)) := by
  refine ACalls_of_awp Tryz.func124 rfl Tryz.results124 ?_
  simp only [List.length_cons, List.length_nil, Tryz.ntmps124, Nat.reduceAdd, Nat.reduceSub, enterA]
  (repeat' (first|(refine g_s fun K hK=>?_)|(refine g_b ?_)|(refine g_r ?_)|(refine g_k ?_;simp only[thenQ,blockQ])|(refine g_e ?_;simp only[thenQ,blockQ,↓reduceIte,Nat.reduceEqDiff])|(refine g_c (fun h=>?_) (fun h=>?_)<;>(try simp only[go_sem] at h)<;>(try exact g_f))|((first|refine g_t ?_|refine g_g ?_|refine g_U ?_|refine g_A ?_|refine (fits_calls _ _).use ?_|refine g_q (fun τ=>fits_calls _ _) ?_|refine g_W ?_);(try simp -implicitDefEqProofs only[go_sem]))|(with_reducible refine hK _ _ ?_;clear hK K)|(clear hK K;first|(with_reducible refine hK _ _ ?_;clear hK K)|(clear hK K;with_reducible refine hK _ _ ?_;clear hK K)|(clear hK K;clear hK K;with_reducible refine hK _ _ ?_;clear hK K))|(with_reducible refine splitB_intro (fun h=>?_) (fun h=>?_)<;>(try simp only[go_sem] at h)<;>(try exact g_f)<;>(try simp -implicitDefEqProofs only[go_sem]))|(with_reducible refine And.intro (fun h=>?_) (fun h=>?_)<;>(try simp only[go_sem] at h)<;>(try exact g_f))|(with_reducible refine And.intro ?_ ?_;· exact g_x)|(with_reducible intro h;(try simp only[go_sem] at h);(try exact g_f))))
def packetC (p : Packet) : List AV := [.c (.int .i64 p.fr), .c (.int .i64 p.dst), intsA p.routes]
attribute [go_sem] packetC
theorem write_calls (p : Packet) (hl : p.routes.length ≤ 17592186044000) (σ : Store) : ACalls Tryz.prog 91 [.agg (packetC p)] σ fun r σ' => σ' = σ ∧ r = .tup [.c (.string (strOfNums (writeL p).1)), .c (.int .i64 (writeL p).2)] := by
  refine ACalls.cut ?_
  refine ACalls_of_awp Tryz.func91 rfl Tryz.results91 ?_
  simp only [List.length_cons, List.length_nil, Tryz.ntmps91, Nat.reduceAdd, Nat.reduceSub, enterA]
  refine AWP_seq_k fun K hK => ?_
  (refine AWP_region ?_; simp -implicitDefEqProofs only [go_sem])
  refine hK _ _ ?_; clear hK K
  refine AWP_freezeP 1 rfl (by simp only [st0]; rfl) ?_
  simp only [ss0, List.set_cons_zero]
  refine AWP_seq_v (ι := Store) (fun _ => [(1, .cp (packetC p) 0), (2, .c (.string (strOfNums []))), (3, intA1 0), (4, intsA (p.fr :: p.dst :: p.routes))]) (fun τ => σ ++ τ) (fun τ => ?_) (fun J hJ hV => ?_)
  · (repeat' (first|(refine g_s fun K hK=>?_)|(refine g_b ?_)|(refine g_r ?_)|(refine g_k ?_;simp only[thenQ,blockQ])|(refine g_e ?_;simp only[thenQ,blockQ,↓reduceIte,Nat.reduceEqDiff])|(refine g_c (fun h=>?_) (fun h=>?_)<;>(try simp only[go_sem] at h)<;>(try exact g_f))|((first|refine g_t ?_|refine g_g ?_|refine g_U ?_|refine g_A ?_|refine (containsFunc_int (p.fr :: p.dst :: p.routes) (fun n => !fitsB n) 124 [] [] (σ ++ τ) (by simp; omega) (by simp only [go_sem]) (fun x _ => write1_calls x _)).use ?_|refine g_q (fun τ=>containsFunc_int (p.fr :: p.dst :: p.routes) (fun n => !fitsB n) 124 [] [] (σ ++ τ) (by simp; omega) (by simp only [go_sem]) (fun x _ => write1_calls x _)) ?_|refine g_W ?_);(try simp -implicitDefEqProofs only[go_sem]))|(with_reducible refine hK _ _ ?_;clear hK K)|(clear hK K;first|(with_reducible refine hK _ _ ?_;clear hK K)|(clear hK K;with_reducible refine hK _ _ ?_;clear hK K)|(clear hK K;clear hK K;with_reducible refine hK _ _ ?_;clear hK K))|(with_reducible refine splitB_intro (fun h=>?_) (fun h=>?_)<;>(try simp only[go_sem] at h)<;>(try exact g_f)<;>(try simp -implicitDefEqProofs only[go_sem]))|(with_reducible refine And.intro (fun h=>?_) (fun h=>?_)<;>(try simp only[go_sem] at h)<;>(try exact g_f))|(with_reducible refine And.intro ?_ ?_;· exact g_x)|(with_reducible intro h;(try simp only[go_sem] at h);(try exact g_f))))
    · exact ⟨bd2 _ _, by simp only [writeL, h, if_true]; rfl⟩
    · rename_i h1
      have h : 54 < p.routes.length := by omega
      exact ⟨bd2 _ _, by simp only [writeL, h1, h, if_true, if_false, Bool.false_eq_true]; rfl⟩
    · rename_i h1
      have hfr : 0 ≤ p.fr ∧ p.fr ≤ 250 := by simp [fitsB] at h1; omega
      have hdst : 0 ≤ p.dst ∧ p.dst ≤ 250 := by simp [fitsB] at h1; omega
      have hrt : ∀ x ∈ p.routes, 0 ≤ x ∧ x ≤ 250 := by simp [fitsB] at h1; exact h1.2.2
      simp only [u8_id hfr.1 (by omega : p.fr ≤ 255), u8_id hdst.1 (by omega : p.dst ≤ 255), u8_id (by omega : 0 ≤ (p.routes.length : Int)) (by omega)]
      have hJ' := hK
      clear hK
      refine AWP_each p.routes (fun k r bs => bs ++ r = [83, p.fr, p.dst, (p.routes.length : Int)] ++ p.routes ∧ bs.length = k + 4) (fun k bs τ => [(5, .own (σ.length + τ.length) 1 0 bs.length bs.length), (39, intA1 k)])
        (fun _ bs τ => σ ++ (τ ++ [.cells 1 (bs.map byteC)])) [83, p.fr, p.dst, (p.routes.length : Int)] τ ⟨rfl, rfl⟩ rfl (ALe_of ?_) ?_ ?_
      · simp -implicitDefEqProofs only [go_sem]
      · rintro k r bs τ' hk0 hk1 ⟨h2, h3⟩ L hL
        have hr := hrt _ (at0_mem p.routes hk0 hk1)
        have hw := u8_id hr.1 (Int.le_trans hr.2 (by omega))
        simp -implicitDefEqProofs only [go_sem]
        (repeat' (first|(refine g_s fun K hK=>?_)|(refine g_b ?_)|(refine g_r ?_)|(refine g_k ?_;simp only[thenQ,blockQ])|(refine g_e ?_;simp only[thenQ,blockQ,↓reduceIte,Nat.reduceEqDiff])|(refine g_c (fun h=>?_) (fun h=>?_)<;>(try simp only[go_sem] at h)<;>(try exact g_f))|((first|refine g_t ?_|refine g_g ?_|refine g_U ?_|refine g_A ?_|refine g_W ?_);(try simp -implicitDefEqProofs only[go_sem,hw]))|(with_reducible refine hK _ _ ?_;clear hK K)|(clear hK K;first|(with_reducible refine hK _ _ ?_;clear hK K)|(clear hK K;with_reducible refine hK _ _ ?_;clear hK K)|(clear hK K;clear hK K;with_reducible refine hK _ _ ?_;clear hK K))|(with_reducible refine splitB_intro (fun h=>?_) (fun h=>?_)<;>(try simp only[go_sem] at h)<;>(try exact g_f)<;>(try simp -implicitDefEqProofs only[go_sem,hw]))|(with_reducible refine And.intro (fun h=>?_) (fun h=>?_)<;>(try simp only[go_sem] at h)<;>(try exact g_f))|(with_reducible refine And.intro ?_ ?_;· exact g_x)|(with_reducible intro h;(try simp only[go_sem] at h);(try exact g_f))))
        refine hL (bs ++ [at0 p.routes k]) (τ' ++ [Ob.dead, Ob.cells 1 [[AV.c (Value.int IntKind.u8 (at0 p.routes k))]]]) _ _ ⟨by rw [← h2]; simp, by simp; omega⟩ (ALe_of ?_) (by simp [byteC])
        simp -implicitDefEqProofs only [go_sem]
      · rintro k bs τ' rfl ⟨h2, h3⟩ L
        have hbs : ∀ c ∈ [83, p.fr, p.dst, (p.routes.length : Int)] ++ p.routes, 0 ≤ c ∧ c ≤ 255 := fun c hc => by
          simp only [List.cons_append, List.nil_append, List.mem_cons] at hc
          rcases hc with rfl | rfl | rfl | rfl | hc
          · omega
          · omega
          · omega
          · omega
          · have := hrt c hc; omega
        rw [List.append_nil] at h2
        subst h2
        simp -implicitDefEqProofs only [go_sem]
        (repeat' (first|(refine g_s fun K hK=>?_)|(refine g_b ?_)|(refine g_r ?_)|(refine g_k ?_;simp only[thenQ,blockQ])|(refine g_e ?_;simp only[thenQ,blockQ,↓reduceIte,Nat.reduceEqDiff])|(refine g_c (fun h=>?_) (fun h=>?_)<;>(try simp only[go_sem] at h)<;>(try exact g_f))|((first|refine g_t ?_|refine g_g ?_|refine g_U ?_|refine g_A ?_|refine g_W ?_);(try simp -implicitDefEqProofs only[go_sem]))|(with_reducible refine hK _ _ ?_;clear hK K)|(clear hK K;first|(with_reducible refine hK _ _ ?_;clear hK K)|(clear hK K;with_reducible refine hK _ _ ?_;clear hK K)|(clear hK K;clear hK K;with_reducible refine hK _ _ ?_;clear hK K))|(with_reducible refine splitB_intro (fun h=>?_) (fun h=>?_)<;>(try simp only[go_sem] at h)<;>(try exact g_f)<;>(try simp -implicitDefEqProofs only[go_sem]))|(with_reducible refine And.intro (fun h=>?_) (fun h=>?_)<;>(try simp only[go_sem] at h)<;>(try exact g_f))|(with_reducible refine And.intro ?_ ?_;· exact g_x)|(with_reducible intro h;(try simp only[go_sem] at h);(try exact g_f))))
        refine hJ' _ _ ?_
        clear hJ'
        have hS := sumL_bd (83 :: p.fr :: p.dst :: (p.routes.length : Int) :: p.routes) 1 (by omega) (by omega)
        have v1 := u8_shr8 hS.1 (by omega)
        have v2 := u8_mod (sumL 1 (83 :: p.fr :: p.dst :: (p.routes.length : Int) :: p.routes))
        (repeat' (first|(refine g_s fun K hK=>?_)|(refine g_b ?_)|(refine g_r ?_)|(refine g_k ?_;simp only[thenQ,blockQ])|(refine g_e ?_;simp only[thenQ,blockQ,↓reduceIte,Nat.reduceEqDiff])|(refine g_c (fun h=>?_) (fun h=>?_)<;>(try simp only[go_sem] at h)<;>(try exact g_f))|((first|refine g_t ?_|refine g_g ?_|refine g_U ?_|refine g_A ?_|refine (sum_own _ (by simp; omega) hbs _ (elemsA_st _ _ _ _ (by simp))).use ?_|refine g_q (fun τ=>sum_own _ (by simp; omega) hbs _ (elemsA_st _ _ _ _ (by simp))) ?_|refine g_W ?_);(try simp -implicitDefEqProofs only[go_sem,numsA_app, numsA_byteC, numsA_cons, numsA_nil, v1, v2]))|(with_reducible refine hK _ _ ?_;clear hK K)|(clear hK K;first|(with_reducible refine hK _ _ ?_;clear hK K)|(clear hK K;with_reducible refine hK _ _ ?_;clear hK K)|(clear hK K;clear hK K;with_reducible refine hK _ _ ?_;clear hK K))|(with_reducible refine splitB_intro (fun h=>?_) (fun h=>?_)<;>(try simp only[go_sem] at h)<;>(try exact g_f)<;>(try simp -implicitDefEqProofs only[go_sem,numsA_app, numsA_byteC, numsA_cons, numsA_nil, v1, v2]))|(with_reducible refine And.intro (fun h=>?_) (fun h=>?_)<;>(try simp only[go_sem] at h)<;>(try exact g_f))|(with_reducible refine And.intro ?_ ?_;· exact g_x)|(with_reducible intro h;(try simp only[go_sem] at h);(try exact g_f))))
        refine ⟨bd2 _ _, ?_⟩
        rw [writeL, h1, if_neg (by simp), if_neg (by omega)]
        simp
  · (refine AWP_region ?_; simp -implicitDefEqProofs only [go_sem])
    (repeat' (first|(with_reducible refine hK _ _ ?_;clear hK K)|(clear hK K;first|(with_reducible refine hK _ _ ?_;clear hK K)|(clear hK K;with_reducible refine hK _ _ ?_;clear hK K)|(clear hK K;clear hK K;with_reducible refine hK _ _ ?_;clear hK K))|(with_reducible refine splitB_intro (fun h=>?_) (fun h=>?_)<;>(try simp only[go_sem] at h)<;>(try exact g_f)<;>(try simp -implicitDefEqProofs only[go_sem]))|(with_reducible refine And.intro (fun h=>?_) (fun h=>?_)<;>(try simp only[go_sem] at h)<;>(try exact g_f))|(with_reducible refine And.intro ?_ ?_;· exact g_x)|(with_reducible intro h;(try simp only[go_sem] at h);(try exact g_f))))
    refine hJ _ _ (AWP_freezeAll 4 rfl (by simp -implicitDefEqProofs only [go_sem]; rfl) (by simp <;> omega) ?_)
    simp -implicitDefEqProofs only [go_sem]
    refine AWPr.weak (ALe_of ?_) (hV _)
    simp -implicitDefEqProofs only [go_sem]
    exact ⟨rfl, rfl⟩
end Go.Proofs.YtephecognbbaoaaGreat
namespace Go.Proofs.YtephecognbbaoaaGreat
/-- A string's bytes. -/
def numsS (s : ByteArray) : List Int := s.data.toList.map fun b => (b.toNat : Int)
theorem numsS_size (s : ByteArray) : s.size = (numsS s).length := by rw [numsS, List.length_map]; rfl
theorem numsS_range (s : ByteArray) : ∀ c ∈ numsS s, 0 ≤ c ∧ c ≤ 255 := fun c hc => by
  simp only [numsS, List.mem_map] at hc
  obtain ⟨b, _, rfl⟩ := hc
  have := b.toNat_lt
  omega
theorem str_numsS (s : ByteArray) : strOfNums (numsS s) = s := by
  have : (numsS s).map (fun n => UInt8.ofNat n.toNat) = s.data.toList := by
    simp [numsS, List.map_map, Function.comp_def]
  unfold strOfNums
  rw [this]
theorem numsS_str (l : List Int) (h : ∀ c ∈ l, 0 ≤ c ∧ c ≤ 255) : numsS (strOfNums l) = l := by
  simp only [numsS, strOfNums_data, List.map_map]
  conv => rhs; rw [← List.map_id l]
  refine List.map_congr_left fun c hc => ?_
  have := h c hc
  simp only [Function.comp, id, UInt8.toNat_ofNat']
  omega
theorem str_append (a b : List Int) : strOfNums a ++ strOfNums b = strOfNums (a ++ b) := by
  apply ByteArray.ext
  simp [strOfNums]
theorem numsS_inj {s t : ByteArray} (h : numsS s = numsS t) : s = t := by rw [← str_numsS s, h, str_numsS]
theorem at0_range {l : List Int} (h : ∀ c ∈ l, 0 ≤ c ∧ c ≤ 255) (k : Int) : 0 ≤ at0 l k ∧ at0 l k ≤ 255 := by
  unfold at0
  rw [List.getD_eq_getElem?_getD]
  rcases Nat.lt_or_ge k.toNat l.length with h1 | h1
  · rw [List.getElem?_eq_getElem h1]
    exact h _ (List.getElem_mem h1)
  · rw [List.getElem?_eq_none h1]
    simp [default]
/-- A byte that is read, as a number. -/
theorem u8_at {l : List Int} (h : ∀ c ∈ l, 0 ≤ c ∧ c ≤ 255) (k : Int) : ((UInt8.ofNat (at0 l k).toNat).toNat : Int) = at0 l k := by
  have := at0_range h k
  simp only [UInt8.toNat_ofNat']
  omega
theorem on_str (l : List Int) (k : Int) (K : UInt8 → Prop) : on (strOfNums l)[k.toNat]? K = (k.toNat < l.length ∧ K (UInt8.ofNat (at0 l k).toNat)) := by
  rcases Nat.lt_or_ge k.toNat l.length with h | h
  · have hk' : k.toNat < (strOfNums l).size := by rw [strOfNums_size]; exact h
    rw [getElem?_pos (strOfNums l) k.toNat hk']
    have e : (strOfNums l)[k.toNat] = UInt8.ofNat (at0 l k).toNat := by
      have : (strOfNums l)[k.toNat] = (strOfNums l).data.toList[k.toNat]'(by rw [strOfNums_data]; simpa using h) := rfl
      rw [this]
      simp [strOfNums_data, at0, List.getD_eq_getElem?_getD, h]
    rw [e]
    simp [on, h]
  · have hn : (strOfNums l)[k.toNat]? = none := by
      rw [getElem?_neg]
      rw [strOfNums_size]
      omega
    rw [hn]
    exact propext ⟨fun h' => h'.elim, fun h' => absurd h'.1 (Nat.not_lt.2 h)⟩
theorem on_str0 (l : List Int) (K : UInt8 → Prop) : on (strOfNums l)[0]? K = (0 < l.length ∧ K (UInt8.ofNat (at0 l 0).toNat)) := on_str l 0 K
theorem on_str1 (l : List Int) (K : UInt8 → Prop) : on (strOfNums l)[1]? K = (1 < l.length ∧ K (UInt8.ofNat (at0 l 1).toNat)) := on_str l 1 K
theorem on_str2 (l : List Int) (K : UInt8 → Prop) : on (strOfNums l)[2]? K = (2 < l.length ∧ K (UInt8.ofNat (at0 l 2).toNat)) := on_str l 2 K
theorem on_str3 (l : List Int) (K : UInt8 → Prop) : on (strOfNums l)[3]? K = (3 < l.length ∧ K (UInt8.ofNat (at0 l 3).toNat)) := on_str l 3 K
theorem str_extract (l : List Int) (a b : Nat) : (strOfNums l).extract a b = strOfNums ((l.take b).drop a) := by
  apply ByteArray.ext
  apply Array.ext'
  show ((strOfNums l).extract a b).data.toList = (strOfNums ((l.take b).drop a)).data.toList
  rw [ByteArray.data_extract, Array.toList_extract, strOfNums_data, strOfNums_data]
  simp [List.extract_eq_take_drop, List.map_take, List.map_drop, List.drop_take]
theorem str_bytes {l : List Int} (h : ∀ c ∈ l, 0 ≤ c ∧ c ≤ 255) : ((strOfNums l).data.toList.map fun b => [AV.c (.int .u8 b.toNat)]) = l.map byteC := by
  rw [strOfNums_data, List.map_map]
  refine List.map_congr_left fun c hc => ?_
  have := h c hc
  simp only [Function.comp, byteC, UInt8.toNat_ofNat']
  congr 3
  omega
theorem str_eq (s t : ByteArray) : (s.toList == t.toList) = decide (numsS s = numsS t) := by
  rw [ByteArray.toList_eq, ByteArray.toList_eq]
  by_cases h : numsS s = numsS t
  · have := numsS_inj h
    subst this
    simp
  · have h' : s.data.toList ≠ t.data.toList := fun e => h (by rw [numsS, numsS, e])
    simp only [h, decide_false, beq_eq_false_iff_ne, ne_eq]
    exact h'
theorem str_same {a b : List Int} (ha : ∀ c ∈ a, 0 ≤ c ∧ c ≤ 255) (hb : ∀ c ∈ b, 0 ≤ c ∧ c ≤ 255) : ((strOfNums a).toList == (strOfNums b).toList) = decide (a = b) := by
  rw [str_eq, numsS_str a ha, numsS_str b hb]
theorem str_empty : ByteArray.empty = strOfNums [] := rfl
theorem str_empty' : ByteArray.mk #[] = strOfNums [] := rfl
attribute [go_sem] numsA_cons numsA_nil numsA_byteC numsA_app strOfNums_size str_append on_str on_str0 on_str1 on_str2 on_str3 str_extract str_empty str_empty'
end Go.Proofs.YtephecognbbaoaaGreat
