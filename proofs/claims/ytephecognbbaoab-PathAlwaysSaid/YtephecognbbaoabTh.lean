/- All paths: the program's answer. -/
import Derived.Test.YtephecognbbaoabTg
namespace Go.Proofs.Ytephecognbbaoab
open Go
set_option linter.all false
set_option maxRecDepth 100000
set_option maxHeartbeats 4000000

def pathsErr (n : Net) (fr to : Int) : Int := if checkN n ≠ 0 then checkN n else if !(inR fr 0 (n.nodes - 1)) || !(inR to 0 (n.nodes - 1)) then 5 else 0
def pathsV (n : Net) (fr to : Int) : Int := if pathsErr n fr to = 0 then pathsF n to 6 [fr] else 0
def pathsC (n : Net) (fr to : Int) : AV := .tup [intA1 (pathsV n fr to), intA1 (pathsErr n fr to)]

theorem pathsC_bad {n : Net} {fr to e : Int} (h : pathsErr n fr to = e) (he : e ≠ 0) : pathsC n fr to = .tup [intA1 0, intA1 e] := by
  rw [pathsC, pathsV, h, if_neg he]

theorem visit_first {n : Net} (hc : checkN n = 0) (hl : n.links.length ≤ 5864062014634) {fr to : Int} (hf : 0 ≤ fr ∧ fr < n.nodes) (ht : 0 ≤ to ∧ to < n.nodes) (σ : Store) :
    ACalls Try.prog 119 [.ptr (σ.length + 2) 8 0 0, intA1 to, intA1 0] (σ ++ [.dead, .cells 1 (List.replicate n.nodes.toNat [.c (.bool false)]), .cells 8 [netC n ++ [intA1 fr, .own (σ.length + 1) 1 0 n.nodes.toNat n.nodes.toNat, intA1 (n.alg.size - 1)]]])
      fun r σ' => ∃ τ, σ' = σ ++ (.dead :: metO n [] :: .cells 8 [netC n ++ [intA1 fr, .own (σ.length + 1) 1 0 n.nodes.toNat n.nodes.toNat, intA1 (pathsF n to 6 [fr])]] :: τ) ∧ r = .tup [] := by
  have hn := netIn_of hc
  have hp : Path n [to] := ⟨fun k hk => by rw [List.mem_singleton.1 hk]; exact ht, by simp, rfl⟩
  have h := visit_calls hc hl fr 6 [] to (n.alg.size - 1) hp (by have := hn.n6; simp; omega) (inv_in hn) (σ ++ [.dead]) []
  rw [show (weighA n [to]).1 = 0 from rfl, paths_eq hc hf ht] at h
  rw [met_none]
  have e : (σ ++ [Ob.dead]).length = σ.length + 1 := by simp
  unfold walkO at h
  rw [e] at h
  have e2 : σ ++ [Ob.dead, Ob.cells 1 ((metL n []).map boolC), Ob.cells 8 [netC n ++ [intA1 fr, .own (σ.length + 1) 1 0 n.nodes.toNat n.nodes.toNat, intA1 (n.alg.size - 1)]]] = σ ++ [Ob.dead] ++ metO n [] :: [Ob.cells 8 [netC n ++ [intA1 fr, .own (σ.length + 1) 1 0 n.nodes.toNat n.nodes.toNat, intA1 (n.alg.size - 1)]]] := by simp [metO]
  rw [e2]
  refine h.mono ?_
  rintro r σ' ⟨τ, rfl, rfl⟩
  exact ⟨τ, by simp, rfl⟩

theorem paths_calls (n : Net) (okn : NetOk n) (fr to : Int) (σ : Store) : ACalls Try.prog 60 [.agg (netC n), intA1 fr, intA1 to] σ fun r σ' => σ' = σ ∧ r = pathsC n fr to := by
  have hl := okn.len
  have hC := netCheck_calls n okn
  refine ACalls.cutX ?_
  by_cases h0 : checkN n = 0
  · have hn := netIn_of h0
    have n1 := hn.n1
    have n6 := hn.n6
    have s2 := hn.alg.s2
    have s24 := hn.alg.s24
    rw [h0] at hC
    refine ACalls_of_awp Try.func60 rfl Try.results60 ?_
    simp only [List.length_cons, List.length_nil, Try.ntmps60, Nat.reduceAdd, Nat.reduceSub, enterA]
    refine AWP_seq_k fun K hK => ?_
    (refine AWP_region ?_; simp -implicitDefEqProofs only [go_sem])
    refine hK _ _ ?_; clear hK K
    refine AWP_freezeP 3 rfl (by simp only [st0]; rfl) ?_
    simp only [ss0, List.set_cons_zero]
    by_cases hb : (!(inR fr 0 (n.nodes - 1)) || !(inR to 0 (n.nodes - 1))) = true
    · have hz := pathsC_bad (n := n) (fr := fr) (to := to) (e := 5) (by rw [pathsErr, if_neg (not_not_intro h0), if_pos hb]) (by decide)
      by_cases hfr : inR fr 0 (n.nodes - 1) = true
      · have hto : inR to 0 (n.nodes - 1) = false := by simpa [hfr] using hb
        (repeat' (first|(refine g_s fun K hK=>?_)|(refine g_b ?_)|(refine g_r ?_)|(refine g_k ?_;simp only[thenQ,blockQ])|(refine g_e ?_;simp only[thenQ,blockQ,↓reduceIte,Nat.reduceEqDiff])|(refine g_c (fun h=>?_) (fun h=>?_)<;>(try simp only[go_sem] at h)<;>(try exact g_f))|((first|refine g_t ?_|refine g_g ?_|refine g_U ?_|refine g_A ?_|refine (hC _).use ?_|refine g_q (fun τ=>hC _) ?_|refine (tisNode_calls n _ _).use ?_|refine g_q (fun τ=>tisNode_calls n _ _) ?_|refine g_W ?_);(try simp -implicitDefEqProofs only[go_sem,hfr, hto]))|(with_reducible refine hK _ _ ?_;clear hK K)|(clear hK K;first|(with_reducible refine hK _ _ ?_;clear hK K)|(clear hK K;with_reducible refine hK _ _ ?_;clear hK K)|(clear hK K;clear hK K;with_reducible refine hK _ _ ?_;clear hK K))|(with_reducible refine splitB_intro (fun h=>?_) (fun h=>?_)<;>(try simp only[go_sem] at h)<;>(try exact g_f)<;>(try simp -implicitDefEqProofs only[go_sem,hfr, hto]))|(with_reducible refine And.intro (fun h=>?_) (fun h=>?_)<;>(try simp only[go_sem] at h)<;>(try exact g_f))|(with_reducible refine And.intro ?_ ?_;· exact g_x)|(with_reducible intro h;(try simp only[go_sem] at h);(try exact g_f))))
        exact CutQ_2 rfl hz.symm
      · (repeat' (first|(refine g_s fun K hK=>?_)|(refine g_b ?_)|(refine g_r ?_)|(refine g_k ?_;simp only[thenQ,blockQ])|(refine g_e ?_;simp only[thenQ,blockQ,↓reduceIte,Nat.reduceEqDiff])|(refine g_c (fun h=>?_) (fun h=>?_)<;>(try simp only[go_sem] at h)<;>(try exact g_f))|((first|refine g_t ?_|refine g_g ?_|refine g_U ?_|refine g_A ?_|refine (hC _).use ?_|refine g_q (fun τ=>hC _) ?_|refine (tisNode_calls n _ _).use ?_|refine g_q (fun τ=>tisNode_calls n _ _) ?_|refine g_W ?_);(try simp -implicitDefEqProofs only[go_sem,hfr]))|(with_reducible refine hK _ _ ?_;clear hK K)|(clear hK K;first|(with_reducible refine hK _ _ ?_;clear hK K)|(clear hK K;with_reducible refine hK _ _ ?_;clear hK K)|(clear hK K;clear hK K;with_reducible refine hK _ _ ?_;clear hK K))|(with_reducible refine splitB_intro (fun h=>?_) (fun h=>?_)<;>(try simp only[go_sem] at h)<;>(try exact g_f)<;>(try simp -implicitDefEqProofs only[go_sem,hfr]))|(with_reducible refine And.intro (fun h=>?_) (fun h=>?_)<;>(try simp only[go_sem] at h)<;>(try exact g_f))|(with_reducible refine And.intro ?_ ?_;· exact g_x)|(with_reducible intro h;(try simp only[go_sem] at h);(try exact g_f))))
        exact CutQ_2 rfl hz.symm
    · have hfr : inR fr 0 (n.nodes - 1) = true := by
        cases e : inR fr 0 (n.nodes - 1) <;> simp [e] at hb ⊢
      have hto : inR to 0 (n.nodes - 1) = true := by
        cases e : inR to 0 (n.nodes - 1) <;> simp [e] at hb ⊢
      have hfr2 := inR_iff.1 hfr
      have hto2 := inR_iff.1 hto
      have hz : pathsErr n fr to = 0 := by rw [pathsErr, if_neg (not_not_intro h0), if_neg hb]
      have hV := visit_first h0 hl (fr := fr) (to := to) (by omega) (by omega) σ
      rw [pathsC, pathsV, hz, if_pos rfl]
      (repeat' (first|(refine g_s fun K hK=>?_)|(refine g_b ?_)|(refine g_r ?_)|(refine g_k ?_;simp only[thenQ,blockQ])|(refine g_e ?_;simp only[thenQ,blockQ,↓reduceIte,Nat.reduceEqDiff])|(refine g_c (fun h=>?_) (fun h=>?_)<;>(try simp only[go_sem] at h)<;>(try exact g_f))|((first|refine g_t ?_|refine g_g ?_|refine g_U ?_|refine g_A ?_|refine (hC _).use ?_|refine g_q (fun τ=>hC _) ?_|refine (tisNode_calls n _ _).use ?_|refine g_q (fun τ=>tisNode_calls n _ _) ?_|refine AWP_drawL false false tab_mixed (by decide +kernel) ?_|refine (invalid_calls n.alg (by unfold I64; omega) _).use ?_|refine g_q (fun τ=>invalid_calls n.alg (by unfold I64; omega) _) ?_|refine ACalls.useV hV ?_|refine g_W ?_);(try simp -implicitDefEqProofs only[go_sem,hfr, hto]))|(with_reducible refine hK _ _ ?_;clear hK K)|(clear hK K;first|(with_reducible refine hK _ _ ?_;clear hK K)|(clear hK K;with_reducible refine hK _ _ ?_;clear hK K)|(clear hK K;clear hK K;with_reducible refine hK _ _ ?_;clear hK K))|(with_reducible refine splitB_intro (fun h=>?_) (fun h=>?_)<;>(try simp only[go_sem] at h)<;>(try exact g_f)<;>(try simp -implicitDefEqProofs only[go_sem,hfr, hto]))|(with_reducible refine And.intro (fun h=>?_) (fun h=>?_)<;>(try simp only[go_sem] at h)<;>(try exact g_f))|(with_reducible refine And.intro ?_ ?_;· exact g_x)|(with_reducible intro h;(try simp only[go_sem] at h);(try exact g_f))))
      exact CutQ_2 rfl rfl
  · refine ACalls_of_awp Try.func60 rfl Try.results60 ?_
    simp only [List.length_cons, List.length_nil, Try.ntmps60, Nat.reduceAdd, Nat.reduceSub, enterA]
    (repeat' (first|(refine g_s fun K hK=>?_)|(refine g_b ?_)|(refine g_r ?_)|(refine g_k ?_;simp only[thenQ,blockQ])|(refine g_e ?_;simp only[thenQ,blockQ,↓reduceIte,Nat.reduceEqDiff])|(refine g_c (fun h=>?_) (fun h=>?_)<;>(try simp only[go_sem] at h)<;>(try exact g_f))|((first|refine g_t ?_|refine g_g ?_|refine g_U ?_|refine g_A ?_|refine (hC _).use ?_|refine g_q (fun τ=>hC _) ?_|refine g_W ?_);(try simp -implicitDefEqProofs only[go_sem]))|(with_reducible refine hK _ _ ?_;clear hK K)|(clear hK K;first|(with_reducible refine hK _ _ ?_;clear hK K)|(clear hK K;with_reducible refine hK _ _ ?_;clear hK K)|(clear hK K;clear hK K;with_reducible refine hK _ _ ?_;clear hK K))|(with_reducible refine splitB_intro (fun h=>?_) (fun h=>?_)<;>(try simp only[go_sem] at h)<;>(try exact g_f)<;>(try simp -implicitDefEqProofs only[go_sem]))|(with_reducible refine And.intro (fun h=>?_) (fun h=>?_)<;>(try simp only[go_sem] at h)<;>(try exact g_f))|(with_reducible refine And.intro ?_ ?_;· exact g_x)|(with_reducible intro h;(try simp only[go_sem] at h);(try exact g_f))))
    exact CutQ_2 rfl (pathsC_bad (e := checkN n) (by rw [pathsErr, if_pos h0]) h0).symm
end Go.Proofs.Ytephecognbbaoab
