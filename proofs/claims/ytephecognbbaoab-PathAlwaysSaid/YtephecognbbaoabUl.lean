/- The law PathAlways, walked. -/
import Derived.Test.YtephecognbbaoabUw
import Derived.Test.YtephecognbbaoabTk
import Derived.Test.YtephecognbbaoabQb
namespace Go.Proofs.Ytephecognbbaoab
open Go
set_option linter.all false
set_option maxRecDepth 100000
set_option maxHeartbeats 4000000

theorem path_weigh {n : Net} (hc : checkN n = 0) {p : List Int} (hp : p ≠ []) (h : Path n p) : weighC n p = .tup [intA1 (weighA n p).1, intA1 0] := by
  have h1 : (p.any fun i => !inR i 0 (n.nodes - 1)) = false := by
    rw [List.any_eq_false]
    intro k hk
    have := h.rng k hk
    rw [Bool.not_eq_true, Bool.not_eq_false', inR_iff]
    omega
  have h2 : weighErr n p = 0 := by rw [weighErr, if_neg (not_not_intro hc), if_neg hp, h1, if_neg (by decide), h.ok, if_pos rfl]
  rw [weighC, weighV, h2, if_pos rfl]

theorem pathAlways_calls (n : Net) (x y : List (List Rt)) (okn : NetOk n) (okx : RtsOk x) (oky : RtsOk y) (σ : Store) : ACalls Try.prog 12 [.agg (netC n), rtsC x, rtsC y] σ fun r σ' => σ' = σ ∧ r = .c (.bool true) := by
  have hS := pathSettle_calls n x 500 okn okx (by unfold I64; decide)
  have hT := pathSettle_calls n y 500 okn oky (by unfold I64; decide)
  have fin : ∀ {S τ : Store}, S = σ ++ τ → CutQ σ (.c (.bool true)) (.c (.bool true)) S := fun {S τ} h => CutQ_c h rfl
  refine ACalls.cutX ?_
  refine ACalls_of_awp Try.func12 rfl Try.results12 ?_
  simp only [List.length_cons, List.length_nil, Try.ntmps12, Nat.reduceAdd, Nat.reduceSub, enterA]
  refine AWP_seq_k fun K hK => ?_
  (refine AWP_region ?_; simp -implicitDefEqProofs only [go_sem])
  refine hK _ _ ?_; clear hK K
  refine AWP_freezeP 3 rfl (by simp only [st0]; rfl) ?_
  simp only [ss0, List.set_cons_zero]
  by_cases hx0 : fitPErr n x = 0
  · by_cases hy0 : fitPErr n y = 0
    · obtain ⟨hc, hx⟩ := fitP_of hx0
      obtain ⟨_, hy⟩ := fitP_of hy0
      have hn := netIn_of hc
      have n1 := hn.n1
      have n6 := hn.n6
      rw [settlePA, if_neg (not_not_intro hx0), if_pos (by decide)] at hS
      rw [settlePA, if_neg (not_not_intro hy0), if_pos (by decide)] at hT
      obtain ⟨a1, a2, a3, a4, a5⟩ := always_paths hc hx hy
      have e5 : (500 : Int).toNat = 500 := rfl
      rw [e5] at hS hT
      obtain ⟨p, hp⟩ : ∃ p, (settleP n 500 0 x).1 = p := ⟨_, rfl⟩
      obtain ⟨k, hk⟩ : ∃ k, (settleP n 500 0 x).2 = k := ⟨_, rfl⟩
      obtain ⟨m, hm⟩ : ∃ m, (settleP n 500 0 y).2 = m := ⟨_, rfl⟩
      have hSC : settlePC (settleP n 500 0 x, 0) = .tup [rtsC p, intA1 k, intA1 0] := by rw [settlePC, hp, hk]
      have hTC : settlePC (settleP n 500 0 y, 0) = .tup [rtsC p, intA1 m, intA1 0] := by rw [settlePC, hm]; simp only; rw [← a3, hp]
      rw [hSC] at hS
      rw [hTC] at hT
      rw [hk] at a1
      rw [hm] at a2
      rw [hp] at a4 a5
      have hs6 := a4.small hn
      have hE := samePaths_calls p p (by omega) (fun r hr => ⟨by have := (hs6.2 r hr).1; omega, fun t ht => by have := (hs6.2 r hr).2 t ht; omega⟩)
      rw [decide_eq_true rfl] at hE
      have hpl := a4.len
      (repeat' (first|(refine g_s fun K hK=>?_)|(refine g_b ?_)|(refine g_r ?_)|(refine g_k ?_;simp only[thenQ,blockQ])|(refine g_e ?_;simp only[thenQ,blockQ,↓reduceIte,Nat.reduceEqDiff])|(refine g_c (fun h=>?_) (fun h=>?_)<;>(try simp only[go_sem] at h)<;>(try exact g_f))|((first|refine g_t ?_|refine g_g ?_|refine g_U ?_|refine g_A ?_|refine (pathBegun_calls _).use ?_|refine g_q (fun τ=>pathBegun_calls _) ?_|refine (tableBegun_calls _).use ?_|refine g_q (fun τ=>tableBegun_calls _) ?_|refine (hS _).use ?_|refine g_q (fun τ=>hS _) ?_|refine (hT _).use ?_|refine g_q (fun τ=>hT _) ?_|refine (hE _).use ?_|refine g_q (fun τ=>hE _) ?_|refine g_W ?_);(try simp -implicitDefEqProofs only[go_sem]))|(with_reducible refine hK _ _ ?_;clear hK K)|(clear hK K;first|(with_reducible refine hK _ _ ?_;clear hK K)|(clear hK K;with_reducible refine hK _ _ ?_;clear hK K)|(clear hK K;clear hK K;with_reducible refine hK _ _ ?_;clear hK K))|(with_reducible refine splitB_intro (fun h=>?_) (fun h=>?_)<;>(try simp only[go_sem] at h)<;>(try exact g_f)<;>(try simp -implicitDefEqProofs only[go_sem]))|(with_reducible refine And.intro (fun h=>?_) (fun h=>?_)<;>(try simp only[go_sem] at h)<;>(try exact g_f))|(with_reducible refine And.intro ?_ ?_;· exact g_x)|(with_reducible intro h;(try simp only[go_sem] at h);(try exact g_f))))
      have hJ := hK
      clear hK
      refine AWP_for n.nodes (fun _ _ => True) (fun i _ _ => [(13, intA1 i)]) (fun _ _ τ => σ ++ (.dead :: τ)) () [] (by omega) trivial rfl (ALe_of ?_) ?_
      · simp -implicitDefEqProofs only [go_sem]
      · rintro i _ τ hi0 hi1 _ L hL
        by_cases hi2 : i < n.nodes
        · have hrow := a4.row _ (at0_mem p hi0 (by omega))
          simp -implicitDefEqProofs only [go_sem]
          (repeat' (first|(refine g_s fun K hK=>?_)|(refine g_b ?_)|(refine g_r ?_)|(refine g_k ?_;simp only[thenQ,blockQ])|(refine g_e ?_;simp only[thenQ,blockQ,↓reduceIte,Nat.reduceEqDiff])|(refine g_c (fun h=>?_) (fun h=>?_)<;>(try simp only[go_sem] at h)<;>(try exact g_f))|((first|refine g_t ?_|refine g_g ?_|refine g_U ?_|refine g_A ?_|refine g_W ?_);(try simp -implicitDefEqProofs only[go_sem]))|(with_reducible refine hK _ _ ?_;clear hK K)|(clear hK K;first|(with_reducible refine hK _ _ ?_;clear hK K)|(clear hK K;with_reducible refine hK _ _ ?_;clear hK K)|(clear hK K;clear hK K;with_reducible refine hK _ _ ?_;clear hK K))|(with_reducible refine splitB_intro (fun h=>?_) (fun h=>?_)<;>(try simp only[go_sem] at h)<;>(try exact g_f)<;>(try simp -implicitDefEqProofs only[go_sem]))|(with_reducible refine And.intro (fun h=>?_) (fun h=>?_)<;>(try simp only[go_sem] at h)<;>(try exact g_f))|(with_reducible refine And.intro ?_ ?_;· exact g_x)|(with_reducible intro h;(try simp only[go_sem] at h);(try exact g_f))))
          have hJ2 := hK
          clear hK
          refine AWP_for n.nodes (fun _ _ => True) (fun j _ _ => [(14, intA1 j)]) (fun _ _ τ2 => σ ++ (.dead :: (τ ++ τ2))) () [] (by omega) trivial (by simp) (ALe_of ?_) ?_
          · simp -implicitDefEqProofs only [go_sem]
          · rintro j _ τ2 hj0 hj1 _ L2 hL2
            by_cases hj2 : j < n.nodes
            · obtain ⟨r, hr⟩ : ∃ r, at2R p i j = r := ⟨_, rfl⟩
              have hr2 : at0 (at0 p i) j = r := hr
              have hrr := (a4.ok i j ⟨hi0, hi2⟩ ⟨hj0, hj2⟩).1
              have hco := a5 i j ⟨hi0, hi2⟩ ⟨hj0, hj2⟩
              rw [hr] at hrr hco
              have h6 := right_len hn hrr
              by_cases hpe : r.p = []
              · simp -implicitDefEqProofs only [go_sem]
                (repeat' (first|(refine g_s fun K hK=>?_)|(refine g_b ?_)|(refine g_r ?_)|(refine g_k ?_;simp only[thenQ,blockQ])|(refine g_e ?_;simp only[thenQ,blockQ,↓reduceIte,Nat.reduceEqDiff])|(refine g_c (fun h=>?_) (fun h=>?_)<;>(try simp only[go_sem] at h)<;>(try exact g_f))|((first|refine g_t ?_|refine g_g ?_|refine g_U ?_|refine g_A ?_|refine g_W ?_);(try simp -implicitDefEqProofs only[go_sem,hr2, hpe]))|(with_reducible refine hK _ _ ?_;clear hK K)|(clear hK K;first|(with_reducible refine hK _ _ ?_;clear hK K)|(clear hK K;with_reducible refine hK _ _ ?_;clear hK K)|(clear hK K;clear hK K;with_reducible refine hK _ _ ?_;clear hK K))|(with_reducible refine splitB_intro (fun h=>?_) (fun h=>?_)<;>(try simp only[go_sem] at h)<;>(try exact g_f)<;>(try simp -implicitDefEqProofs only[go_sem,hr2, hpe]))|(with_reducible refine And.intro (fun h=>?_) (fun h=>?_)<;>(try simp only[go_sem] at h)<;>(try exact g_f))|(with_reducible refine And.intro ?_ ?_;· exact g_x)|(with_reducible intro h;(try simp only[go_sem] at h);(try exact g_f))))
                refine hL2 hj2 () (τ2 ++ [.cells 2 [rtC r]]) _ _ trivial (ALe_of ?_) (by simp [rtC, intA1, intsA, hpe])
                simp -implicitDefEqProofs only [go_sem]
              · have hv : r.w ≠ n.alg.size - 1 := fun e => hpe (hrr.inv e)
                obtain ⟨b1, _, _, b4⟩ := hco hv
                have hW := weigh_calls n r.p okn (by omega)
                rw [path_weigh hc hpe b1, ← b4] at hW
                have hpl0 : 0 < r.p.length := List.length_pos_iff.2 hpe
                simp -implicitDefEqProofs only [go_sem]
                (repeat' (first|(refine g_s fun K hK=>?_)|(refine g_b ?_)|(refine g_r ?_)|(refine g_k ?_;simp only[thenQ,blockQ])|(refine g_e ?_;simp only[thenQ,blockQ,↓reduceIte,Nat.reduceEqDiff])|(refine g_c (fun h=>?_) (fun h=>?_)<;>(try simp only[go_sem] at h)<;>(try exact g_f))|((first|refine g_t ?_|refine g_g ?_|refine g_U ?_|refine g_A ?_|refine (hW _).use ?_|refine g_q (fun τ=>hW _) ?_|refine g_W ?_);(try simp -implicitDefEqProofs only[go_sem,hr2]))|(with_reducible refine hK _ _ ?_;clear hK K)|(clear hK K;first|(with_reducible refine hK _ _ ?_;clear hK K)|(clear hK K;with_reducible refine hK _ _ ?_;clear hK K)|(clear hK K;clear hK K;with_reducible refine hK _ _ ?_;clear hK K))|(with_reducible refine splitB_intro (fun h=>?_) (fun h=>?_)<;>(try simp only[go_sem] at h)<;>(try exact g_f)<;>(try simp -implicitDefEqProofs only[go_sem,hr2]))|(with_reducible refine And.intro (fun h=>?_) (fun h=>?_)<;>(try simp only[go_sem] at h)<;>(try exact g_f))|(with_reducible refine And.intro ?_ ?_;· exact g_x)|(with_reducible intro h;(try simp only[go_sem] at h);(try exact g_f))))
                refine hL2 hj2 () (τ2 ++ [.cells 2 [rtC r]]) _ _ trivial (ALe_of ?_) (by simp [rtC, intA1, intsA])
                simp -implicitDefEqProofs only [go_sem]
            · simp -implicitDefEqProofs only [go_sem]
              (repeat' (first|(refine g_s fun K hK=>?_)|(refine g_b ?_)|(refine g_r ?_)|(refine g_k ?_;simp only[thenQ,blockQ])|(refine g_e ?_;simp only[thenQ,blockQ,↓reduceIte,Nat.reduceEqDiff])|(refine g_c (fun h=>?_) (fun h=>?_)<;>(try simp only[go_sem] at h)<;>(try exact g_f))|((first|refine g_t ?_|refine g_g ?_|refine g_U ?_|refine g_A ?_|refine g_W ?_);(try simp -implicitDefEqProofs only[go_sem]))|(with_reducible refine hK _ _ ?_;clear hK K)|(clear hK K;first|(with_reducible refine hK _ _ ?_;clear hK K)|(clear hK K;with_reducible refine hK _ _ ?_;clear hK K)|(clear hK K;clear hK K;with_reducible refine hK _ _ ?_;clear hK K))|(with_reducible refine splitB_intro (fun h=>?_) (fun h=>?_)<;>(try simp only[go_sem] at h)<;>(try exact g_f)<;>(try simp -implicitDefEqProofs only[go_sem]))|(with_reducible refine And.intro (fun h=>?_) (fun h=>?_)<;>(try simp only[go_sem] at h)<;>(try exact g_f))|(with_reducible refine And.intro ?_ ?_;· exact g_x)|(with_reducible intro h;(try simp only[go_sem] at h);(try exact g_f))))
              refine hJ2 _ _ ?_
              clear hJ2
              (repeat' (first|(refine g_s fun K hK=>?_)|(refine g_b ?_)|(refine g_r ?_)|(refine g_k ?_;simp only[thenQ,blockQ])|(refine g_e ?_;simp only[thenQ,blockQ,↓reduceIte,Nat.reduceEqDiff])|(refine g_c (fun h=>?_) (fun h=>?_)<;>(try simp only[go_sem] at h)<;>(try exact g_f))|((first|refine g_t ?_|refine g_g ?_|refine g_U ?_|refine g_A ?_|refine g_W ?_);(try simp -implicitDefEqProofs only[go_sem]))|(with_reducible refine hK _ _ ?_;clear hK K)|(clear hK K;first|(with_reducible refine hK _ _ ?_;clear hK K)|(clear hK K;with_reducible refine hK _ _ ?_;clear hK K)|(clear hK K;clear hK K;with_reducible refine hK _ _ ?_;clear hK K))|(with_reducible refine splitB_intro (fun h=>?_) (fun h=>?_)<;>(try simp only[go_sem] at h)<;>(try exact g_f)<;>(try simp -implicitDefEqProofs only[go_sem]))|(with_reducible refine And.intro (fun h=>?_) (fun h=>?_)<;>(try simp only[go_sem] at h)<;>(try exact g_f))|(with_reducible refine And.intro ?_ ?_;· exact g_x)|(with_reducible intro h;(try simp only[go_sem] at h);(try exact g_f))))
              refine hL hi2 () (τ ++ τ2) _ _ trivial (ALe_of ?_) (by simp)
              simp -implicitDefEqProofs only [go_sem]
        · simp -implicitDefEqProofs only [go_sem]
          (repeat' (first|(refine g_s fun K hK=>?_)|(refine g_b ?_)|(refine g_r ?_)|(refine g_k ?_;simp only[thenQ,blockQ])|(refine g_e ?_;simp only[thenQ,blockQ,↓reduceIte,Nat.reduceEqDiff])|(refine g_c (fun h=>?_) (fun h=>?_)<;>(try simp only[go_sem] at h)<;>(try exact g_f))|((first|refine g_t ?_|refine g_g ?_|refine g_U ?_|refine g_A ?_|refine g_W ?_);(try simp -implicitDefEqProofs only[go_sem]))|(with_reducible refine hK _ _ ?_;clear hK K)|(clear hK K;first|(with_reducible refine hK _ _ ?_;clear hK K)|(clear hK K;with_reducible refine hK _ _ ?_;clear hK K)|(clear hK K;clear hK K;with_reducible refine hK _ _ ?_;clear hK K))|(with_reducible refine splitB_intro (fun h=>?_) (fun h=>?_)<;>(try simp only[go_sem] at h)<;>(try exact g_f)<;>(try simp -implicitDefEqProofs only[go_sem]))|(with_reducible refine And.intro (fun h=>?_) (fun h=>?_)<;>(try simp only[go_sem] at h)<;>(try exact g_f))|(with_reducible refine And.intro ?_ ?_;· exact g_x)|(with_reducible intro h;(try simp only[go_sem] at h);(try exact g_f))))
          refine hJ _ _ ?_
          clear hJ
          (repeat' (first|(refine g_s fun K hK=>?_)|(refine g_b ?_)|(refine g_r ?_)|(refine g_k ?_;simp only[thenQ,blockQ])|(refine g_e ?_;simp only[thenQ,blockQ,↓reduceIte,Nat.reduceEqDiff])|(refine g_c (fun h=>?_) (fun h=>?_)<;>(try simp only[go_sem] at h)<;>(try exact g_f))|((first|refine g_t ?_|refine g_g ?_|refine g_U ?_|refine g_A ?_|refine g_W ?_);(try simp -implicitDefEqProofs only[go_sem]))|(with_reducible refine hK _ _ ?_;clear hK K)|(clear hK K;first|(with_reducible refine hK _ _ ?_;clear hK K)|(clear hK K;with_reducible refine hK _ _ ?_;clear hK K)|(clear hK K;clear hK K;with_reducible refine hK _ _ ?_;clear hK K))|(with_reducible refine splitB_intro (fun h=>?_) (fun h=>?_)<;>(try simp only[go_sem] at h)<;>(try exact g_f)<;>(try simp -implicitDefEqProofs only[go_sem]))|(with_reducible refine And.intro (fun h=>?_) (fun h=>?_)<;>(try simp only[go_sem] at h)<;>(try exact g_f))|(with_reducible refine And.intro ?_ ?_;· exact g_x)|(with_reducible intro h;(try simp only[go_sem] at h);(try exact g_f))))
          exact fin rfl
    · rw [settlePA, if_pos hy0] at hT
      obtain ⟨q, hq⟩ : ∃ q, settlePA n x 500 = q := ⟨_, rfl⟩
      rw [hq] at hS
      unfold settlePC at hS hT
      (repeat' (first|(refine g_s fun K hK=>?_)|(refine g_b ?_)|(refine g_r ?_)|(refine g_k ?_;simp only[thenQ,blockQ])|(refine g_e ?_;simp only[thenQ,blockQ,↓reduceIte,Nat.reduceEqDiff])|(refine g_c (fun h=>?_) (fun h=>?_)<;>(try simp only[go_sem] at h)<;>(try exact g_f))|((first|refine g_t ?_|refine g_g ?_|refine g_U ?_|refine g_A ?_|refine (pathBegun_calls _).use ?_|refine g_q (fun τ=>pathBegun_calls _) ?_|refine (tableBegun_calls _).use ?_|refine g_q (fun τ=>tableBegun_calls _) ?_|refine (hS _).use ?_|refine g_q (fun τ=>hS _) ?_|refine (hT _).use ?_|refine g_q (fun τ=>hT _) ?_|refine g_W ?_);(try simp -implicitDefEqProofs only[go_sem]))|(with_reducible refine hK _ _ ?_;clear hK K)|(clear hK K;first|(with_reducible refine hK _ _ ?_;clear hK K)|(clear hK K;with_reducible refine hK _ _ ?_;clear hK K)|(clear hK K;clear hK K;with_reducible refine hK _ _ ?_;clear hK K))|(with_reducible refine splitB_intro (fun h=>?_) (fun h=>?_)<;>(try simp only[go_sem] at h)<;>(try exact g_f)<;>(try simp -implicitDefEqProofs only[go_sem]))|(with_reducible refine And.intro (fun h=>?_) (fun h=>?_)<;>(try simp only[go_sem] at h)<;>(try exact g_f))|(with_reducible refine And.intro ?_ ?_;· exact g_x)|(with_reducible intro h;(try simp only[go_sem] at h);(try exact g_f))))
      all_goals exact fin rfl
  · rw [settlePA, if_pos hx0] at hS
    obtain ⟨q, hq⟩ : ∃ q, settlePA n y 500 = q := ⟨_, rfl⟩
    rw [hq] at hT
    unfold settlePC at hS hT
    (repeat' (first|(refine g_s fun K hK=>?_)|(refine g_b ?_)|(refine g_r ?_)|(refine g_k ?_;simp only[thenQ,blockQ])|(refine g_e ?_;simp only[thenQ,blockQ,↓reduceIte,Nat.reduceEqDiff])|(refine g_c (fun h=>?_) (fun h=>?_)<;>(try simp only[go_sem] at h)<;>(try exact g_f))|((first|refine g_t ?_|refine g_g ?_|refine g_U ?_|refine g_A ?_|refine (pathBegun_calls _).use ?_|refine g_q (fun τ=>pathBegun_calls _) ?_|refine (tableBegun_calls _).use ?_|refine g_q (fun τ=>tableBegun_calls _) ?_|refine (hS _).use ?_|refine g_q (fun τ=>hS _) ?_|refine (hT _).use ?_|refine g_q (fun τ=>hT _) ?_|refine g_W ?_);(try simp -implicitDefEqProofs only[go_sem]))|(with_reducible refine hK _ _ ?_;clear hK K)|(clear hK K;first|(with_reducible refine hK _ _ ?_;clear hK K)|(clear hK K;with_reducible refine hK _ _ ?_;clear hK K)|(clear hK K;clear hK K;with_reducible refine hK _ _ ?_;clear hK K))|(with_reducible refine splitB_intro (fun h=>?_) (fun h=>?_)<;>(try simp only[go_sem] at h)<;>(try exact g_f)<;>(try simp -implicitDefEqProofs only[go_sem]))|(with_reducible refine And.intro (fun h=>?_) (fun h=>?_)<;>(try simp only[go_sem] at h)<;>(try exact g_f))|(with_reducible refine And.intro ?_ ?_;· exact g_x)|(with_reducible intro h;(try simp only[go_sem] at h);(try exact g_f))))
    all_goals exact fin rfl
end Go.Proofs.Ytephecognbbaoab
