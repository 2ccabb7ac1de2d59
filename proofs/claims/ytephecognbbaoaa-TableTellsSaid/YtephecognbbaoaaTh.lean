/- All paths: as the document goes them, from the beginning on; and the program's answer. -/
import Derived.Test.YtephecognbbaoaaTg
namespace Go.Proofs.Ytephecognbbaoaa
open Go
set_option linter.all false
set_option maxRecDepth 100000
set_option maxHeartbeats 4000000

theorem at0_last (l : List Int) (a : Int) : at0 (l ++ [a]) (((l ++ [a]).length : Int) - 1) = a := by
  have : ((l ++ [a]).length : Int) - 1 = (l.length : Int) := by simp
  rw [this]
  exact at0_mid

theorem pathsOf_own {n : Net} {q : List Int} {to X : Int} (h : ∀ S, ACalls Try.prog 50 [.agg (netC n), intsA q, intA1 to] S fun r σ' => σ' = S ∧ r = intA1 X) (σ : Store) {b m c : Nat} (he : elemsA σ (.own b 1 0 m c) = some (q.map intC)) :
    ACalls Try.prog 50 [.agg (netC n), .own b 1 0 m c, intA1 to] σ fun r σ' => σ' = σ ∧ r = intA1 X := by
  refine (ACalls.borrow (args := [.agg (netC n), .own b 1 0 m c, intA1 to]) (args' := [.agg (netC n), intsA q, intA1 to]) (R := fun w => w = .int .i64 X) (And.intro (.inl rfl) (And.intro (.inr ⟨_, he, rfl⟩) (And.intro (.inl rfl) trivial))) fun τ => ?_).mono ?_
  · exact (h τ).mono fun _ _ ⟨h1, h2⟩ => ⟨h1, _, h2, rfl⟩
  · rintro r σ' ⟨h1, w, rfl, rfl⟩
    exact ⟨h1, rfl⟩

theorem pathsOf_calls {n : Net} (hc : checkN n = 0) (hl : n.links.length ≤ 5864062014634) (to : Int) : ∀ (f : Nat) (p : List Int), p ≠ [] → Path n p → n.nodes + 1 ≤ p.length + f → ∀ σ : Store,
    ACalls Try.prog 50 [.agg (netC n), intsA p, intA1 to] σ fun r σ' => σ' = σ ∧ r = intA1 (pathsF n to f p)
  | 0, p, h0, hp, hf, σ => by
    have hn := netIn_of hc
    have h1 := nodup_len (by have := hn.n1; omega) hp.one hp.rng
    omega
  | f + 1, p, h0, hp, hf, σ => by
    have hn := netIn_of hc
    have n1 := hn.n1
    have n6 := hn.n6
    have s2 := hn.alg.s2
    have s24 := hn.alg.s24
    have hbl := hn.alg.bl
    have hplen := nodup_len (by omega) hp.one hp.rng
    have hpp : p.length ≤ 17592186044000 := by omega
    have hW := weighOf_calls n hc hl p h0 hpp
    obtain ⟨p', a, rfl⟩ : ∃ p' a, p = p' ++ [a] := by
      rcases List.eq_nil_or_concat p with rfl | ⟨p', a, rfl⟩
      · exact absurd rfl h0
      · exact ⟨p', a, List.concat_eq_append⟩
    have hlast : (p' ++ [a]).getLastD 0 = a := by simp
    have hat0 := at0_last p' a
    obtain ⟨p, hpe⟩ : ∃ p, p' ++ [a] = p := ⟨_, rfl⟩
    rw [hpe] at hp hf hplen hpp hW hlast hat0 ⊢
    have hlen1 : 1 ≤ p.length := by rw [← hpe]; simp
    have hgood := fun k h1 h2 => paths_good hc to f (p ++ [k]) h1 h2
    have hrec := fun k h1 h2 h3 => pathsOf_calls hc hl to f (p ++ [k]) h1 h2 h3
    rw [pathsF, hlast]
    refine ACalls.cutX ?_
    by_cases hto : a = to
    · rw [if_pos hto]
      unfold wRC at hW
      refine ACalls_of_awp Try.func50 rfl Try.results50 ?_
      simp only [List.length_cons, List.length_nil, Try.ntmps50, Nat.reduceAdd, Nat.reduceSub, enterA]
      refine AWP_seq_k fun K hK => ?_
      (refine AWP_region ?_; simp -implicitDefEqProofs only [go_sem])
      refine hK _ _ ?_; clear hK K
      refine AWP_freezeP 3 rfl (by simp only [st0]; rfl) ?_
      simp only [ss0, List.set_cons_zero]
      (repeat' (first | (refine AWP_seq_k fun K hK => ?_) | (refine AWP_block ?_) | (refine ARounds_step ?_) | (refine AWP_skip ?_; simp only [thenQ, blockQ]) | (refine AWP_exit ?_; simp only [thenQ, blockQ, ↓reduceIte, Nat.reduceEqDiff]) | (refine AWP_cond rfl (fun h => ?_) (fun h => ?_) <;> (try simp only [go_sem] at h) <;> (try (exfalso; (first | contradiction | omega)))) | ((first | refine AWP_ret ?_ | refine AWP_region ?_ | refine AWP_drawU tab_mixed (by decide +kernel) ?_ | refine AWP_drawA tab_mixed (by decide +kernel) (by rfl) ?_ | refine (hW _).use ?_ | refine callQ_use (fun τ => hW _) ?_ | refine AWP_drawW false tab_mixed (by decide +kernel) ?_ ); (try simp -implicitDefEqProofs only [go_sem, hat0, hto])) | (with_reducible refine hK _ _ ?_; clear hK K) | (clear hK K; first | (with_reducible refine hK _ _ ?_; clear hK K) | (clear hK K; with_reducible refine hK _ _ ?_; clear hK K) | (clear hK K; clear hK K; with_reducible refine hK _ _ ?_; clear hK K)) | (with_reducible refine splitB_intro (fun h => ?_) (fun h => ?_) <;> (try simp only [go_sem] at h) <;> (try (exfalso; (first | contradiction | omega))) <;> (try simp -implicitDefEqProofs only [go_sem, hat0, hto])) | (with_reducible refine And.intro (fun h => ?_) (fun h => ?_) <;> (try simp only [go_sem] at h) <;> (try (exfalso; (first | contradiction | omega)))) | ((with_reducible refine And.intro ?_ ?_); · (first | omega | (unfold I64; omega) | (unfold maxLen; omega) | assumption | (with_reducible rfl) | (simp; done) | (simp [oneA, Value.oneCell']; done))) | (with_reducible intro h; (try simp only [go_sem] at h); (try (exfalso; (first | contradiction | omega))))))
      exact CutQ_c rfl rfl
    · rw [if_neg hto]
      obtain ⟨V, hV⟩ : ∃ V, (ints n.nodes).foldl (fun b k => if (decide (0 ≤ edgeOf n a k) && !decide (k ∈ p)) = true then bestA n b (pathsF n to f (p ++ [k])) else b) (n.alg.size - 1) = V := ⟨_, rfl⟩
      rw [hV]
      refine ACalls_of_awp Try.func50 rfl Try.results50 ?_
      simp only [List.length_cons, List.length_nil, Try.ntmps50, Nat.reduceAdd, Nat.reduceSub, enterA]
      refine AWP_seq_k fun K hK => ?_
      (refine AWP_region ?_; simp -implicitDefEqProofs only [go_sem])
      refine hK _ _ ?_; clear hK K
      refine AWP_freezeP 3 rfl (by simp only [st0]; rfl) ?_
      simp only [ss0, List.set_cons_zero]
      (repeat' (first | (refine AWP_seq_k fun K hK => ?_) | (refine AWP_block ?_) | (refine ARounds_step ?_) | (refine AWP_skip ?_; simp only [thenQ, blockQ]) | (refine AWP_exit ?_; simp only [thenQ, blockQ, ↓reduceIte, Nat.reduceEqDiff]) | (refine AWP_cond rfl (fun h => ?_) (fun h => ?_) <;> (try simp only [go_sem] at h) <;> (try (exfalso; (first | contradiction | omega)))) | ((first | refine AWP_ret ?_ | refine AWP_region ?_ | refine AWP_drawU tab_mixed (by decide +kernel) ?_ | refine AWP_drawA tab_mixed (by decide +kernel) (by rfl) ?_ | refine AWP_drawW false tab_mixed (by decide +kernel) ?_ ); (try simp -implicitDefEqProofs only [go_sem, hat0])) | (with_reducible refine hK _ _ ?_; clear hK K) | (clear hK K; first | (with_reducible refine hK _ _ ?_; clear hK K) | (clear hK K; with_reducible refine hK _ _ ?_; clear hK K) | (clear hK K; clear hK K; with_reducible refine hK _ _ ?_; clear hK K)) | (with_reducible refine splitB_intro (fun h => ?_) (fun h => ?_) <;> (try simp only [go_sem] at h) <;> (try (exfalso; (first | contradiction | omega))) <;> (try simp -implicitDefEqProofs only [go_sem, hat0])) | (with_reducible refine And.intro (fun h => ?_) (fun h => ?_) <;> (try simp only [go_sem] at h) <;> (try (exfalso; (first | contradiction | omega)))) | ((with_reducible refine And.intro ?_ ?_); · (first | omega | (unfold I64; omega) | (unfold maxLen; omega) | assumption | (with_reducible rfl) | (simp; done) | (simp [oneA, Value.oneCell']; done))) | (with_reducible intro h; (try simp only [go_sem] at h); (try (exfalso; (first | contradiction | omega))))))
      have hJ := hK
      clear hK
      refine AWP_each (ints n.nodes) (fun _ r b => r.foldl (fun b k => if (decide (0 ≤ edgeOf n a k) && !decide (k ∈ p)) = true then bestA n b (pathsF n to f (p ++ [k])) else b) b = V ∧ InV n b) (fun k b _ => [(11, intA1 k), (10, intA1 b)]) (fun _ _ τ => σ ++ (.dead :: τ)) (n.alg.size - 1) [] ⟨hV, inv_in hn⟩ rfl (ALe_of ?_) ?_ ?_
      · simp -implicitDefEqProofs only [go_sem]
      · rintro k r b τ hk0 hk1 ⟨h3, hb⟩ L hL
        rw [ints_length] at hk1
        rw [at0_ints hk0 (by omega), List.foldl_cons] at h3
        have hb0 := hb.1
        have hb1 := hb.2
        have hbest := hn.alg.best_len hb0 hb1
        simp -implicitDefEqProofs only [go_sem]
        by_cases he : 0 ≤ edgeOf n a k
        · by_cases hm : k ∈ p
          · rw [if_neg (by simp [hm])] at h3
            (repeat' (first | (refine AWP_seq_k fun K hK => ?_) | (refine AWP_block ?_) | (refine ARounds_step ?_) | (refine AWP_skip ?_; simp only [thenQ, blockQ]) | (refine AWP_exit ?_; simp only [thenQ, blockQ, ↓reduceIte, Nat.reduceEqDiff]) | (refine AWP_cond rfl (fun h => ?_) (fun h => ?_) <;> (try simp only [go_sem] at h) <;> (try (exfalso; (first | contradiction | omega)))) | ((first | refine AWP_ret ?_ | refine AWP_region ?_ | refine AWP_drawU tab_mixed (by decide +kernel) ?_ | refine AWP_drawA tab_mixed (by decide +kernel) (by rfl) ?_ | refine (edgeOf_calls n a k hl _).use ?_ | refine callQ_use (fun τ => edgeOf_calls n a k hl _) ?_ | refine (has_calls p k (by omega) _).use ?_ | refine callQ_use (fun τ => has_calls p k (by omega) _) ?_ | refine AWP_drawW false tab_mixed (by decide +kernel) ?_ ); (try simp -implicitDefEqProofs only [go_sem, hm])) | (with_reducible refine hK _ _ ?_; clear hK K) | (clear hK K; first | (with_reducible refine hK _ _ ?_; clear hK K) | (clear hK K; with_reducible refine hK _ _ ?_; clear hK K) | (clear hK K; clear hK K; with_reducible refine hK _ _ ?_; clear hK K)) | (with_reducible refine splitB_intro (fun h => ?_) (fun h => ?_) <;> (try simp only [go_sem] at h) <;> (try (exfalso; (first | contradiction | omega))) <;> (try simp -implicitDefEqProofs only [go_sem, hm])) | (with_reducible refine And.intro (fun h => ?_) (fun h => ?_) <;> (try simp only [go_sem] at h) <;> (try (exfalso; (first | contradiction | omega)))) | ((with_reducible refine And.intro ?_ ?_); · (first | omega | (unfold I64; omega) | (unfold maxLen; omega) | assumption | (with_reducible rfl) | (simp; done) | (simp [oneA, Value.oneCell']; done))) | (with_reducible intro h; (try simp only [go_sem] at h); (try (exfalso; (first | contradiction | omega))))))
            refine hL b τ _ _ ⟨h3, hb⟩ (ALe_of ?_) rfl
            simp -implicitDefEqProofs only [go_sem]
          · rw [if_pos (by simp [hm, he])] at h3
            have hne : p ++ [k] ≠ [] := by simp
            have hpk : Path n (p ++ [k]) := by
              refine ⟨fun x hx => ?_, ?_, ok_snoc (a := a) (by rw [← hpe]; simp) hp.ok he⟩
              · rcases List.mem_append.1 hx with hx | hx
                · exact hp.rng x hx
                · rw [List.mem_singleton.1 hx]; omega
              · refine List.nodup_append.2 ⟨hp.one, by simp, fun x hx y hy => ?_⟩
                rw [List.mem_singleton.1 hy]
                rintro rfl
                exact hm hx
            have hfk : n.nodes + 1 ≤ (p ++ [k]).length + f := by simp; omega
            have hih := hrec k hne hpk (by simp; omega)
            have hg := (hgood k hne hpk (by simp; omega)).1
            obtain ⟨v, hv⟩ : ∃ v, pathsF n to f (p ++ [k]) = v := ⟨_, rfl⟩
            rw [hv] at hih hg h3
            have hv0 := hg.1
            have hv1 := hg.2
            have hbv : at0 (at0 n.alg.best b) v = bestA n b v := rfl
            (repeat' (first | (refine AWP_seq_k fun K hK => ?_) | (refine AWP_block ?_) | (refine ARounds_step ?_) | (refine AWP_skip ?_; simp only [thenQ, blockQ]) | (refine AWP_exit ?_; simp only [thenQ, blockQ, ↓reduceIte, Nat.reduceEqDiff]) | (refine AWP_cond rfl (fun h => ?_) (fun h => ?_) <;> (try simp only [go_sem] at h) <;> (try (exfalso; (first | contradiction | omega)))) | ((first | refine AWP_ret ?_ | refine AWP_regionB ?_ | fail | refine (edgeOf_calls n a k hl _).use ?_ | refine callQ_use (fun τ => edgeOf_calls n a k hl _) ?_ | refine (has_calls p k (by omega) _).use ?_ | refine callQ_use (fun τ => has_calls p k (by omega) _) ?_ | refine AWP_drawS false tab_mixed (by decide +kernel) ?_ | refine callS_use (pathsOf_own hih _ (by simp -implicitDefEqProofs only [go_sem]; simp [intC])) ?_ ); (try simp -implicitDefEqProofs only [go_sem, hm, hbv])) | (with_reducible refine hK _ _ ?_; clear hK K) | (clear hK K; first | (with_reducible refine hK _ _ ?_; clear hK K) | (clear hK K; with_reducible refine hK _ _ ?_; clear hK K) | (clear hK K; clear hK K; with_reducible refine hK _ _ ?_; clear hK K)) | (with_reducible refine splitB_intro (fun h => ?_) (fun h => ?_) <;> (try simp only [go_sem] at h) <;> (try (exfalso; (first | contradiction | omega))) <;> (try simp -implicitDefEqProofs only [go_sem, hm, hbv])) | (with_reducible refine And.intro (fun h => ?_) (fun h => ?_) <;> (try simp only [go_sem] at h) <;> (try (exfalso; (first | contradiction | omega)))) | ((with_reducible refine And.intro ?_ ?_); · (first | omega | (unfold I64; omega) | (unfold maxLen; omega) | assumption | (with_reducible rfl) | (simp; done) | (simp [oneA, Value.oneCell']; done))) | (with_reducible intro h; (try simp only [go_sem] at h); (try (exfalso; (first | contradiction | omega))))))
            refine hL (bestA n b v) (τ ++ [.dead, .dead, .cells 1 ((p ++ [k]).map intC)]) _ _ ⟨h3, best_in hn hb hg⟩ (ALe_of ?_) ?_
            · simp -implicitDefEqProofs only [go_sem]
            · simp [intC]
        · rw [if_neg (by simp [he])] at h3
          (repeat' (first | (refine AWP_seq_k fun K hK => ?_) | (refine AWP_block ?_) | (refine ARounds_step ?_) | (refine AWP_skip ?_; simp only [thenQ, blockQ]) | (refine AWP_exit ?_; simp only [thenQ, blockQ, ↓reduceIte, Nat.reduceEqDiff]) | (refine AWP_cond rfl (fun h => ?_) (fun h => ?_) <;> (try simp only [go_sem] at h) <;> (try (exfalso; (first | contradiction | omega)))) | ((first | refine AWP_ret ?_ | refine AWP_region ?_ | refine AWP_drawU tab_mixed (by decide +kernel) ?_ | refine AWP_drawA tab_mixed (by decide +kernel) (by rfl) ?_ | refine (edgeOf_calls n a k hl _).use ?_ | refine callQ_use (fun τ => edgeOf_calls n a k hl _) ?_ | refine AWP_drawW false tab_mixed (by decide +kernel) ?_ ); (try simp -implicitDefEqProofs only [go_sem])) | (with_reducible refine hK _ _ ?_; clear hK K) | (clear hK K; first | (with_reducible refine hK _ _ ?_; clear hK K) | (clear hK K; with_reducible refine hK _ _ ?_; clear hK K) | (clear hK K; clear hK K; with_reducible refine hK _ _ ?_; clear hK K)) | (with_reducible refine splitB_intro (fun h => ?_) (fun h => ?_) <;> (try simp only [go_sem] at h) <;> (try (exfalso; (first | contradiction | omega))) <;> (try simp -implicitDefEqProofs only [go_sem])) | (with_reducible refine And.intro (fun h => ?_) (fun h => ?_) <;> (try simp only [go_sem] at h) <;> (try (exfalso; (first | contradiction | omega)))) | ((with_reducible refine And.intro ?_ ?_); · (first | omega | (unfold I64; omega) | (unfold maxLen; omega) | assumption | (with_reducible rfl) | (simp; done) | (simp [oneA, Value.oneCell']; done))) | (with_reducible intro h; (try simp only [go_sem] at h); (try (exfalso; (first | contradiction | omega))))))
          refine hL b τ _ _ ⟨h3, hb⟩ (ALe_of ?_) rfl
          simp -implicitDefEqProofs only [go_sem]
      · rintro k b τ hk ⟨h3, hb⟩ L
        rw [ints_length] at hk
        have h3 : b = V := h3
        subst h3
        simp -implicitDefEqProofs only [go_sem]
        (repeat' (first | (refine AWP_seq_k fun K hK => ?_) | (refine AWP_block ?_) | (refine ARounds_step ?_) | (refine AWP_skip ?_; simp only [thenQ, blockQ]) | (refine AWP_exit ?_; simp only [thenQ, blockQ, ↓reduceIte, Nat.reduceEqDiff]) | (refine AWP_cond rfl (fun h => ?_) (fun h => ?_) <;> (try simp only [go_sem] at h) <;> (try (exfalso; (first | contradiction | omega)))) | ((first | refine AWP_ret ?_ | refine AWP_region ?_ | refine AWP_drawU tab_mixed (by decide +kernel) ?_ | refine AWP_drawA tab_mixed (by decide +kernel) (by rfl) ?_ | refine AWP_drawW false tab_mixed (by decide +kernel) ?_ ); (try simp -implicitDefEqProofs only [go_sem])) | (with_reducible refine hK _ _ ?_; clear hK K) | (clear hK K; first | (with_reducible refine hK _ _ ?_; clear hK K) | (clear hK K; with_reducible refine hK _ _ ?_; clear hK K) | (clear hK K; clear hK K; with_reducible refine hK _ _ ?_; clear hK K)) | (with_reducible refine splitB_intro (fun h => ?_) (fun h => ?_) <;> (try simp only [go_sem] at h) <;> (try (exfalso; (first | contradiction | omega))) <;> (try simp -implicitDefEqProofs only [go_sem])) | (with_reducible refine And.intro (fun h => ?_) (fun h => ?_) <;> (try simp only [go_sem] at h) <;> (try (exfalso; (first | contradiction | omega)))) | ((with_reducible refine And.intro ?_ ?_); · (first | omega | (unfold I64; omega) | (unfold maxLen; omega) | assumption | (with_reducible rfl) | (simp; done) | (simp [oneA, Value.oneCell']; done))) | (with_reducible intro h; (try simp only [go_sem] at h); (try (exfalso; (first | contradiction | omega))))))
        refine hJ _ _ ?_
        clear hJ
        (repeat' (first | (refine AWP_seq_k fun K hK => ?_) | (refine AWP_block ?_) | (refine ARounds_step ?_) | (refine AWP_skip ?_; simp only [thenQ, blockQ]) | (refine AWP_exit ?_; simp only [thenQ, blockQ, ↓reduceIte, Nat.reduceEqDiff]) | (refine AWP_cond rfl (fun h => ?_) (fun h => ?_) <;> (try simp only [go_sem] at h) <;> (try (exfalso; (first | contradiction | omega)))) | ((first | refine AWP_ret ?_ | refine AWP_region ?_ | refine AWP_drawU tab_mixed (by decide +kernel) ?_ | refine AWP_drawA tab_mixed (by decide +kernel) (by rfl) ?_ | refine AWP_drawW false tab_mixed (by decide +kernel) ?_ ); (try simp -implicitDefEqProofs only [go_sem])) | (with_reducible refine hK _ _ ?_; clear hK K) | (clear hK K; first | (with_reducible refine hK _ _ ?_; clear hK K) | (clear hK K; with_reducible refine hK _ _ ?_; clear hK K) | (clear hK K; clear hK K; with_reducible refine hK _ _ ?_; clear hK K)) | (with_reducible refine splitB_intro (fun h => ?_) (fun h => ?_) <;> (try simp only [go_sem] at h) <;> (try (exfalso; (first | contradiction | omega))) <;> (try simp -implicitDefEqProofs only [go_sem])) | (with_reducible refine And.intro (fun h => ?_) (fun h => ?_) <;> (try simp only [go_sem] at h) <;> (try (exfalso; (first | contradiction | omega)))) | ((with_reducible refine And.intro ?_ ?_); · (first | omega | (unfold I64; omega) | (unfold maxLen; omega) | assumption | (with_reducible rfl) | (simp; done) | (simp [oneA, Value.oneCell']; done))) | (with_reducible intro h; (try simp only [go_sem] at h); (try (exfalso; (first | contradiction | omega))))))
        exact CutQ_c rfl rfl

def pathsErr (n : Net) (fr to : Int) : Int := if checkN n ≠ 0 then checkN n else if !(inR fr 0 (n.nodes - 1)) || !(inR to 0 (n.nodes - 1)) then 5 else 0
def pathsV (n : Net) (fr to : Int) : Int := if pathsErr n fr to = 0 then pathsF n to 6 [fr] else 0
def pathsC (n : Net) (fr to : Int) : AV := .tup [intA1 (pathsV n fr to), intA1 (pathsErr n fr to)]

theorem pathsC_bad {n : Net} {fr to e : Int} (h : pathsErr n fr to = e) (he : e ≠ 0) : pathsC n fr to = .tup [intA1 0, intA1 e] := by
  rw [pathsC, pathsV, h, if_neg he]

theorem visit_first {n : Net} (hc : checkN n = 0) (hl : n.links.length ≤ 5864062014634) {fr to : Int} (hf : 0 ≤ fr ∧ fr < n.nodes) (ht : 0 ≤ to ∧ to < n.nodes) (σ : Store) :
    ACalls Try.prog 90 [.ptr (σ.length + 2) 8 0 0, intA1 to, intA1 0] (σ ++ [.dead, .cells 1 (List.replicate n.nodes.toNat [.c (.bool false)]), .cells 8 [netC n ++ [intA1 fr, .own (σ.length + 1) 1 0 n.nodes.toNat n.nodes.toNat, intA1 (n.alg.size - 1)]]])
      fun r σ' => ∃ τ, σ' = σ ++ (.dead :: metO n [] :: .cells 8 [netC n ++ [intA1 fr, .own (σ.length + 1) 1 0 n.nodes.toNat n.nodes.toNat, intA1 (pathsF n to 6 [fr])]] :: τ) ∧ r = .tup [] := by
  have hn := netIn_of hc
  have hp : Path n [to] := ⟨fun k hk => by rw [List.mem_singleton.1 hk]; exact ht, by simp, rfl⟩
  have h := visit_calls hc hl fr 6 [] to (n.alg.size - 1) hp (by have := hn.n6; simp; omega) (inv_in hn) (σ ++ [.dead]) []
  rw [show (weighA n [to]).1 = 0 from rfl, paths_eq hc hf ht] at h
  rw [met_none]
  have e : (σ ++ [Ob.dead]).length = σ.length + 1 := by simp
  unfold walkO at h
  rw [e] at h
  have e2 : σ ++ [Ob.dead, Ob.cells 1 ((metL n []).map boolC), Ob.cells 8 [netC n ++ [intA1 fr, .own (σ.length + 1) 1 0 n.nodes.toNat n.nodes.toNat, intA1 (n.alg.size - 1)]]] = σ ++ [Ob.dead] ++ metO n [] :: [Ob.cells 8 [netC n ++ [intA1 fr, .own (σ.length + 1) 1 0 n.nodes.toNat n.nodes.toNat, intA1 (n.alg.size - 1)]]] := by simp [metO]
  rw [e2]
  refine h.mono ?_
  rintro r σ' ⟨τ, rfl, rfl⟩
  exact ⟨τ, by simp, rfl⟩

theorem paths_calls (n : Net) (okn : NetOk n) (fr to : Int) (σ : Store) : ACalls Try.prog 47 [.agg (netC n), intA1 fr, intA1 to] σ fun r σ' => σ' = σ ∧ r = pathsC n fr to := by
  have hl := okn.len
  have hC := netCheck_calls n okn
  refine ACalls.cutX ?_
  by_cases h0 : checkN n = 0
  · have hn := netIn_of h0
    have n1 := hn.n1
    have n6 := hn.n6
    have s2 := hn.alg.s2
    have s24 := hn.alg.s24
    rw [h0] at hC
    refine ACalls_of_awp Try.func47 rfl Try.results47 ?_
    simp only [List.length_cons, List.length_nil, Try.ntmps47, Nat.reduceAdd, Nat.reduceSub, enterA]
    refine AWP_seq_k fun K hK => ?_
    (refine AWP_region ?_; simp -implicitDefEqProofs only [go_sem])
    refine hK _ _ ?_; clear hK K
    refine AWP_freezeP 3 rfl (by simp only [st0]; rfl) ?_
    simp only [ss0, List.set_cons_zero]
    by_cases hb : (!(inR fr 0 (n.nodes - 1)) || !(inR to 0 (n.nodes - 1))) = true
    · have hz := pathsC_bad (n := n) (fr := fr) (to := to) (e := 5) (by rw [pathsErr, if_neg (not_not_intro h0), if_pos hb]) (by decide)
      by_cases hfr : inR fr 0 (n.nodes - 1) = true
      · have hto : inR to 0 (n.nodes - 1) = false := by simpa [hfr] using hb
        (repeat' (first | (refine AWP_seq_k fun K hK => ?_) | (refine AWP_block ?_) | (refine ARounds_step ?_) | (refine AWP_skip ?_; simp only [thenQ, blockQ]) | (refine AWP_exit ?_; simp only [thenQ, blockQ, ↓reduceIte, Nat.reduceEqDiff]) | (refine AWP_cond rfl (fun h => ?_) (fun h => ?_) <;> (try simp only [go_sem] at h) <;> (try (exfalso; (first | contradiction | omega)))) | ((first | refine AWP_ret ?_ | refine AWP_region ?_ | refine AWP_drawU tab_mixed (by decide +kernel) ?_ | refine AWP_drawA tab_mixed (by decide +kernel) (by rfl) ?_ | refine (hC _).use ?_ | refine callQ_use (fun τ => hC _) ?_ | refine (tisNode_calls n _ _).use ?_ | refine callQ_use (fun τ => tisNode_calls n _ _) ?_ | refine AWP_drawW false tab_mixed (by decide +kernel) ?_ ); (try simp -implicitDefEqProofs only [go_sem, hfr, hto])) | (with_reducible refine hK _ _ ?_; clear hK K) | (clear hK K; first | (with_reducible refine hK _ _ ?_; clear hK K) | (clear hK K; with_reducible refine hK _ _ ?_; clear hK K) | (clear hK K; clear hK K; with_reducible refine hK _ _ ?_; clear hK K)) | (with_reducible refine splitB_intro (fun h => ?_) (fun h => ?_) <;> (try simp only [go_sem] at h) <;> (try (exfalso; (first | contradiction | omega))) <;> (try simp -implicitDefEqProofs only [go_sem, hfr, hto])) | (with_reducible refine And.intro (fun h => ?_) (fun h => ?_) <;> (try simp only [go_sem] at h) <;> (try (exfalso; (first | contradiction | omega)))) | ((with_reducible refine And.intro ?_ ?_); · (first | omega | (unfold I64; omega) | (unfold maxLen; omega) | assumption | (with_reducible rfl) | (simp; done) | (simp [oneA, Value.oneCell']; done))) | (with_reducible intro h; (try simp only [go_sem] at h); (try (exfalso; (first | contradiction | omega))))))
        exact CutQ_2 rfl hz.symm
      · (repeat' (first | (refine AWP_seq_k fun K hK => ?_) | (refine AWP_block ?_) | (refine ARounds_step ?_) | (refine AWP_skip ?_; simp only [thenQ, blockQ]) | (refine AWP_exit ?_; simp only [thenQ, blockQ, ↓reduceIte, Nat.reduceEqDiff]) | (refine AWP_cond rfl (fun h => ?_) (fun h => ?_) <;> (try simp only [go_sem] at h) <;> (try (exfalso; (first | contradiction | omega)))) | ((first | refine AWP_ret ?_ | refine AWP_region ?_ | refine AWP_drawU tab_mixed (by decide +kernel) ?_ | refine AWP_drawA tab_mixed (by decide +kernel) (by rfl) ?_ | refine (hC _).use ?_ | refine callQ_use (fun τ => hC _) ?_ | refine (tisNode_calls n _ _).use ?_ | refine callQ_use (fun τ => tisNode_calls n _ _) ?_ | refine AWP_drawW false tab_mixed (by decide +kernel) ?_ ); (try simp -implicitDefEqProofs only [go_sem, hfr])) | (with_reducible refine hK _ _ ?_; clear hK K) | (clear hK K; first | (with_reducible refine hK _ _ ?_; clear hK K) | (clear hK K; with_reducible refine hK _ _ ?_; clear hK K) | (clear hK K; clear hK K; with_reducible refine hK _ _ ?_; clear hK K)) | (with_reducible refine splitB_intro (fun h => ?_) (fun h => ?_) <;> (try simp only [go_sem] at h) <;> (try (exfalso; (first | contradiction | omega))) <;> (try simp -implicitDefEqProofs only [go_sem, hfr])) | (with_reducible refine And.intro (fun h => ?_) (fun h => ?_) <;> (try simp only [go_sem] at h) <;> (try (exfalso; (first | contradiction | omega)))) | ((with_reducible refine And.intro ?_ ?_); · (first | omega | (unfold I64; omega) | (unfold maxLen; omega) | assumption | (with_reducible rfl) | (simp; done) | (simp [oneA, Value.oneCell']; done))) | (with_reducible intro h; (try simp only [go_sem] at h); (try (exfalso; (first | contradiction | omega))))))
        exact CutQ_2 rfl hz.symm
    · have hfr : inR fr 0 (n.nodes - 1) = true := by
        cases e : inR fr 0 (n.nodes - 1) <;> simp [e] at hb ⊢
      have hto : inR to 0 (n.nodes - 1) = true := by
        cases e : inR to 0 (n.nodes - 1) <;> simp [e] at hb ⊢
      have hfr2 := inR_iff.1 hfr
      have hto2 := inR_iff.1 hto
      have hz : pathsErr n fr to = 0 := by rw [pathsErr, if_neg (not_not_intro h0), if_neg hb]
      have hV := visit_first h0 hl (fr := fr) (to := to) (by omega) (by omega) σ
      rw [pathsC, pathsV, hz, if_pos rfl]
      (repeat' (first | (refine AWP_seq_k fun K hK => ?_) | (refine AWP_block ?_) | (refine ARounds_step ?_) | (refine AWP_skip ?_; simp only [thenQ, blockQ]) | (refine AWP_exit ?_; simp only [thenQ, blockQ, ↓reduceIte, Nat.reduceEqDiff]) | (refine AWP_cond rfl (fun h => ?_) (fun h => ?_) <;> (try simp only [go_sem] at h) <;> (try (exfalso; (first | contradiction | omega)))) | ((first | refine AWP_ret ?_ | refine AWP_region ?_ | refine AWP_drawU tab_mixed (by decide +kernel) ?_ | refine AWP_drawA tab_mixed (by decide +kernel) (by rfl) ?_ | refine (hC _).use ?_ | refine callQ_use (fun τ => hC _) ?_ | refine (tisNode_calls n _ _).use ?_ | refine callQ_use (fun τ => tisNode_calls n _ _) ?_ | refine AWP_drawL false false tab_mixed (by decide +kernel) ?_ | refine (invalid_calls n.alg (by unfold I64; omega) _).use ?_ | refine callQ_use (fun τ => invalid_calls n.alg (by unfold I64; omega) _) ?_ | refine ACalls.useV hV ?_ | refine AWP_drawW false tab_mixed (by decide +kernel) ?_ ); (try simp -implicitDefEqProofs only [go_sem, hfr, hto])) | (with_reducible refine hK _ _ ?_; clear hK K) | (clear hK K; first | (with_reducible refine hK _ _ ?_; clear hK K) | (clear hK K; with_reducible refine hK _ _ ?_; clear hK K) | (clear hK K; clear hK K; with_reducible refine hK _ _ ?_; clear hK K)) | (with_reducible refine splitB_intro (fun h => ?_) (fun h => ?_) <;> (try simp only [go_sem] at h) <;> (try (exfalso; (first | contradiction | omega))) <;> (try simp -implicitDefEqProofs only [go_sem, hfr, hto])) | (with_reducible refine And.intro (fun h => ?_) (fun h => ?_) <;> (try simp only [go_sem] at h) <;> (try (exfalso; (first | contradiction | omega)))) | ((with_reducible refine And.intro ?_ ?_); · (first | omega | (unfold I64; omega) | (unfold maxLen; omega) | assumption | (with_reducible rfl) | (simp; done) | (simp [oneA, Value.oneCell']; done))) | (with_reducible intro h; (try simp only [go_sem] at h); (try (exfalso; (first | contradiction | omega))))))
      exact CutQ_2 rfl rfl
  · refine ACalls_of_awp Try.func47 rfl Try.results47 ?_
    simp only [List.length_cons, List.length_nil, Try.ntmps47, Nat.reduceAdd, Nat.reduceSub, enterA]
    (repeat' (first | (refine AWP_seq_k fun K hK => ?_) | (refine AWP_block ?_) | (refine ARounds_step ?_) | (refine AWP_skip ?_; simp only [thenQ, blockQ]) | (refine AWP_exit ?_; simp only [thenQ, blockQ, ↓reduceIte, Nat.reduceEqDiff]) | (refine AWP_cond rfl (fun h => ?_) (fun h => ?_) <;> (try simp only [go_sem] at h) <;> (try (exfalso; (first | contradiction | omega)))) | ((first | refine AWP_ret ?_ | refine AWP_region ?_ | refine AWP_drawU tab_mixed (by decide +kernel) ?_ | refine AWP_drawA tab_mixed (by decide +kernel) (by rfl) ?_ | refine (hC _).use ?_ | refine callQ_use (fun τ => hC _) ?_ | refine AWP_drawW false tab_mixed (by decide +kernel) ?_ ); (try simp -implicitDefEqProofs only [go_sem])) | (with_reducible refine hK _ _ ?_; clear hK K) | (clear hK K; first | (with_reducible refine hK _ _ ?_; clear hK K) | (clear hK K; with_reducible refine hK _ _ ?_; clear hK K) | (clear hK K; clear hK K; with_reducible refine hK _ _ ?_; clear hK K)) | (with_reducible refine splitB_intro (fun h => ?_) (fun h => ?_) <;> (try simp only [go_sem] at h) <;> (try (exfalso; (first | contradiction | omega))) <;> (try simp -implicitDefEqProofs only [go_sem])) | (with_reducible refine And.intro (fun h => ?_) (fun h => ?_) <;> (try simp only [go_sem] at h) <;> (try (exfalso; (first | contradiction | omega)))) | ((with_reducible refine And.intro ?_ ?_); · (first | omega | (unfold I64; omega) | (unfold maxLen; omega) | assumption | (with_reducible rfl) | (simp; done) | (simp [oneA, Value.oneCell']; done))) | (with_reducible intro h; (try simp only [go_sem] at h); (try (exfalso; (first | contradiction | omega))))))
    exact CutQ_2 rfl (pathsC_bad (e := checkN n) (by rw [pathsErr, if_pos h0]) h0).symm
end Go.Proofs.Ytephecognbbaoaa
