/- Tables: as the document makes them. -/
import Derived.Test.YtephecognbbaoaaTb
namespace Go.Proofs.Ytephecognbbaoaa
open Go
set_option linter.all false
set_option maxRecDepth 100000
set_option maxHeartbeats 4000000

theorem tableOf_calls (n : Net) (x : List (List Int)) (hc : checkN n = 0) (hx : RowsIn n x) (hl : n.links.length ≤ 5864062014634) (σ : Store) : ACalls Try.prog 40 [.agg (netC n), rowsC x] σ fun r σ' => σ' = σ ∧ r = rowsC (tableA n x) := by
  have hn := netIn_of hc
  have n1 := hn.n1
  have n6 := hn.n6
  have s2 := hn.alg.s2
  have s24 := hn.alg.s24
  have hbl := hn.alg.bl
  have hxl := hx.len
  refine ACalls.cutX ?_
  refine ACalls_of_awp Try.func40 rfl Try.results40 ?_
  simp only [List.length_cons, List.length_nil, Try.ntmps40, Nat.reduceAdd, Nat.reduceSub, enterA]
  refine AWP_seq_k fun K hK => ?_
  (refine AWP_region ?_; simp -implicitDefEqProofs only [go_sem])
  refine hK _ _ ?_; clear hK K
  refine AWP_freezeP 2 rfl (by simp only [st0]; rfl) ?_
  simp only [ss0, List.set_cons_zero]
  (repeat' (first | (refine AWP_seq_k fun K hK => ?_) | (refine AWP_block ?_) | (refine ARounds_step ?_) | (refine AWP_skip ?_; simp only [thenQ, blockQ]) | (refine AWP_exit ?_; simp only [thenQ, blockQ, ↓reduceIte, Nat.reduceEqDiff]) | (refine AWP_cond rfl (fun h => ?_) (fun h => ?_) <;> (try simp only [go_sem] at h) <;> (try (exfalso; (first | contradiction | omega)))) | ((first | refine AWP_ret ?_ | refine AWP_regionB ?_ | refine AWP_drawU tab_mixed (by decide +kernel) ?_ | refine AWP_drawA tab_mixed (by decide +kernel) (by rfl) ?_ | refine AWP_drawW false tab_mixed (by decide +kernel) ?_ ); (try simp -implicitDefEqProofs only [go_sem])) | (with_reducible refine hK _ _ ?_; clear hK K) | (clear hK K; first | (with_reducible refine hK _ _ ?_; clear hK K) | (clear hK K; with_reducible refine hK _ _ ?_; clear hK K) | (clear hK K; clear hK K; with_reducible refine hK _ _ ?_; clear hK K)) | (with_reducible refine splitB_intro (fun h => ?_) (fun h => ?_) <;> (try simp only [go_sem] at h) <;> (try (exfalso; (first | contradiction | omega))) <;> (try simp -implicitDefEqProofs only [go_sem])) | (with_reducible refine And.intro (fun h => ?_) (fun h => ?_) <;> (try simp only [go_sem] at h) <;> (try (exfalso; (first | contradiction | omega)))) | ((with_reducible refine And.intro ?_ ?_); · (first | omega | (unfold I64; omega) | (unfold maxLen; omega) | assumption | (with_reducible rfl) | (simp; done) | (simp [oneA, Value.oneCell']; done))) | (with_reducible intro h; (try simp only [go_sem] at h); (try (exfalso; (first | contradiction | omega))))))
  refine AWP_pad ?_
  have hJ := hK
  clear hK
  refine AWP_each (ints n.nodes) (fun i r acc => acc ++ r.map (tableRow n x) = tableA n x) (fun i acc τ => [(7, intA1 i), (6, accV 1 (σ.length + (τ.length + 1)) acc)]) (fun _ acc τ => σ ++ (.dead :: (τ ++ [accO rowC 1 acc]))) [] [] rfl ?_ (ALe_of ?_) ?_ ?_
  · simp [accO]
  · simp -implicitDefEqProofs only [go_sem, accV, accO]
  · rintro i r acc τ hi0 hi1 h3 L hL
    rw [ints_length] at hi1
    rw [at0_ints hi0 (by omega)] at h3
    have hal : acc.length + 1 ≤ 6 := by have := congrArg List.length h3; simp [tableA, ints_length] at this; omega
    simp -implicitDefEqProofs only [go_sem]
    (repeat' (first | (refine AWP_seq_k fun K hK => ?_) | (refine AWP_block ?_) | (refine ARounds_step ?_) | (refine AWP_skip ?_; simp only [thenQ, blockQ]) | (refine AWP_exit ?_; simp only [thenQ, blockQ, ↓reduceIte, Nat.reduceEqDiff]) | (refine AWP_cond rfl (fun h => ?_) (fun h => ?_) <;> (try simp only [go_sem] at h) <;> (try (exfalso; (first | contradiction | omega)))) | ((first | refine AWP_ret ?_ | refine AWP_regionB ?_ | refine AWP_drawU tab_mixed (by decide +kernel) ?_ | refine AWP_drawA tab_mixed (by decide +kernel) (by rfl) ?_ | refine AWP_drawW false tab_mixed (by decide +kernel) ?_ ); (try simp -implicitDefEqProofs only [go_sem])) | (with_reducible refine hK _ _ ?_; clear hK K) | (clear hK K; first | (with_reducible refine hK _ _ ?_; clear hK K) | (clear hK K; with_reducible refine hK _ _ ?_; clear hK K) | (clear hK K; clear hK K; with_reducible refine hK _ _ ?_; clear hK K)) | (with_reducible refine splitB_intro (fun h => ?_) (fun h => ?_) <;> (try simp only [go_sem] at h) <;> (try (exfalso; (first | contradiction | omega))) <;> (try simp -implicitDefEqProofs only [go_sem])) | (with_reducible refine And.intro (fun h => ?_) (fun h => ?_) <;> (try simp only [go_sem] at h) <;> (try (exfalso; (first | contradiction | omega)))) | ((with_reducible refine And.intro ?_ ?_); · (first | omega | (unfold I64; omega) | (unfold maxLen; omega) | assumption | (with_reducible rfl) | (simp; done) | (simp [oneA, Value.oneCell']; done))) | (with_reducible intro h; (try simp only [go_sem] at h); (try (exfalso; (first | contradiction | omega))))))
    refine AWP_pad ?_
    have hJ2 := hK
    clear hK
    refine AWP_each (ints n.nodes) (fun j r row => row ++ r.map (fun j => toR n i j fun k => at2 x k j) = tableRow n x i) (fun j row τ2 => [(9, intA1 j), (8, accV 1 (σ.length + (τ.length + (τ2.length + 2))) row)]) (fun _ row τ2 => σ ++ (.dead :: (τ ++ accO rowC 1 acc :: (τ2 ++ [accO intC 1 row])))) [] [] rfl ?_ (ALe_of ?_) ?_ ?_
    · simp [accO]
    · simp -implicitDefEqProofs only [go_sem, accV, accO]
    · rintro j rj row τ2 hj0 hj1 h4 L2 hL2
      rw [ints_length] at hj1
      rw [at0_ints hj0 (by omega)] at h4
      have hrl : row.length + 1 ≤ 6 := by have := congrArg List.length h4; simp [tableRow, ints_length] at this; omega
      obtain ⟨H, hH⟩ : ∃ H : Int → Int, H = fun k => at2 x k j := ⟨_, rfl⟩
      have hHk : ∀ k, at0 (at0 x k) j = H k := fun k => by rw [hH]; rfl
      have hh : ∀ k, 0 ≤ k → k < n.nodes → 0 ≤ H k ∧ H k < n.alg.size := fun k h0 h1 => by rw [hH]; exact at2_in hx ⟨h0, h1⟩ ⟨hj0, by omega⟩
      obtain ⟨v, hv⟩ : ∃ v, (toR n i j fun k => at2 x k j) = v := ⟨_, rfl⟩
      rw [List.map_cons, hv] at h4
      rw [← hH] at hv
      have fin : ∀ (α : AF) (Q : Post) (c : Code), True := fun _ _ _ => trivial
      simp -implicitDefEqProofs only [go_sem]
      (repeat' (first | (refine AWP_seq_k fun K hK => ?_) | (refine AWP_block ?_) | (refine ARounds_step ?_) | (refine AWP_skip ?_; simp only [thenQ, blockQ]) | (refine AWP_exit ?_; simp only [thenQ, blockQ, ↓reduceIte, Nat.reduceEqDiff]) | (refine AWP_cond rfl (fun h => ?_) (fun h => ?_) <;> (try simp only [go_sem] at h) <;> (try (exfalso; (first | contradiction | omega)))) | ((first | refine AWP_ret ?_ | refine AWP_regionB ?_ | refine AWP_drawU tab_mixed (by decide +kernel) ?_ | refine AWP_drawA tab_mixed (by decide +kernel) (by rfl) ?_ | refine AWP_drawW false tab_mixed (by decide +kernel) ?_ ); (try simp -implicitDefEqProofs only [go_sem])) | (with_reducible refine hK _ _ ?_; clear hK K) | (clear hK K; first | (with_reducible refine hK _ _ ?_; clear hK K) | (clear hK K; with_reducible refine hK _ _ ?_; clear hK K) | (clear hK K; clear hK K; with_reducible refine hK _ _ ?_; clear hK K)) | (with_reducible refine splitB_intro (fun h => ?_) (fun h => ?_) <;> (try simp only [go_sem] at h) <;> (try (exfalso; (first | contradiction | omega))) <;> (try simp -implicitDefEqProofs only [go_sem])) | (with_reducible refine And.intro (fun h => ?_) (fun h => ?_) <;> (try simp only [go_sem] at h) <;> (try (exfalso; (first | contradiction | omega)))) | ((with_reducible refine And.intro ?_ ?_); · (first | omega | (unfold I64; omega) | (unfold maxLen; omega) | assumption | (with_reducible rfl) | (simp; done) | (simp [oneA, Value.oneCell']; done))) | (with_reducible intro h; (try simp only [go_sem] at h); (try (exfalso; (first | contradiction | omega))))))
      have hJ3 := hK
      clear hK
      by_cases hij : i = j
      · subst hij
        rw [toR, if_pos rfl] at hv
        refine AWP_for 0 (fun _ _ => True) (fun k _ _ => [(12, intA1 k), (11, intA1 v)]) (fun _ _ _ => σ ++ (.dead :: (τ ++ accO rowC 1 acc :: (τ2 ++ [accO intC 1 row])))) () [] (by omega) trivial rfl (ALe_of ?_) ?_
        · simp -implicitDefEqProofs only [go_sem, hv]
        · rintro k _ τ3 hk0 hk1 _ L3 hL3
          simp -implicitDefEqProofs only [go_sem]
          (repeat' (first | (refine AWP_seq_k fun K hK => ?_) | (refine AWP_block ?_) | (refine ARounds_step ?_) | (refine AWP_skip ?_; simp only [thenQ, blockQ]) | (refine AWP_exit ?_; simp only [thenQ, blockQ, ↓reduceIte, Nat.reduceEqDiff]) | (refine AWP_cond rfl (fun h => ?_) (fun h => ?_) <;> (try simp only [go_sem] at h) <;> (try (exfalso; (first | contradiction | omega)))) | ((first | refine AWP_ret ?_ | refine AWP_regionB ?_ | refine AWP_drawU tab_mixed (by decide +kernel) ?_ | refine AWP_drawA tab_mixed (by decide +kernel) (by rfl) ?_ | refine AWP_drawW false tab_mixed (by decide +kernel) ?_ ); (try simp -implicitDefEqProofs only [go_sem])) | (with_reducible refine hK _ _ ?_; clear hK K) | (clear hK K; first | (with_reducible refine hK _ _ ?_; clear hK K) | (clear hK K; with_reducible refine hK _ _ ?_; clear hK K) | (clear hK K; clear hK K; with_reducible refine hK _ _ ?_; clear hK K)) | (with_reducible refine splitB_intro (fun h => ?_) (fun h => ?_) <;> (try simp only [go_sem] at h) <;> (try (exfalso; (first | contradiction | omega))) <;> (try simp -implicitDefEqProofs only [go_sem])) | (with_reducible refine And.intro (fun h => ?_) (fun h => ?_) <;> (try simp only [go_sem] at h) <;> (try (exfalso; (first | contradiction | omega)))) | ((with_reducible refine And.intro ?_ ?_); · (first | omega | (unfold I64; omega) | (unfold maxLen; omega) | assumption | (with_reducible rfl) | (simp; done) | (simp [oneA, Value.oneCell']; done))) | (with_reducible intro h; (try simp only [go_sem] at h); (try (exfalso; (first | contradiction | omega))))))
          refine hJ3 _ _ ?_
          clear hJ3
          rcases row with _ | ⟨y, row⟩ <;> simp only [List.length_cons, List.length_nil] at hrl <;> simp -implicitDefEqProofs only [go_sem, accV, accO]
          all_goals (repeat' (first | (refine AWP_seq_k fun K hK => ?_) | (refine AWP_block ?_) | (refine ARounds_step ?_) | (refine AWP_skip ?_; simp only [thenQ, blockQ]) | (refine AWP_exit ?_; simp only [thenQ, blockQ, ↓reduceIte, Nat.reduceEqDiff]) | (refine AWP_cond rfl (fun h => ?_) (fun h => ?_) <;> (try simp only [go_sem] at h) <;> (try (exfalso; (first | contradiction | omega)))) | ((first | refine AWP_ret ?_ | refine AWP_regionB ?_ | refine AWP_drawU tab_mixed (by decide +kernel) ?_ | refine AWP_drawA tab_mixed (by decide +kernel) (by rfl) ?_ | refine AWP_drawW false tab_mixed (by decide +kernel) ?_ ); (try simp -implicitDefEqProofs only [go_sem])) | (with_reducible refine hK _ _ ?_; clear hK K) | (clear hK K; first | (with_reducible refine hK _ _ ?_; clear hK K) | (clear hK K; with_reducible refine hK _ _ ?_; clear hK K) | (clear hK K; clear hK K; with_reducible refine hK _ _ ?_; clear hK K)) | (with_reducible refine splitB_intro (fun h => ?_) (fun h => ?_) <;> (try simp only [go_sem] at h) <;> (try (exfalso; (first | contradiction | omega))) <;> (try simp -implicitDefEqProofs only [go_sem])) | (with_reducible refine And.intro (fun h => ?_) (fun h => ?_) <;> (try simp only [go_sem] at h) <;> (try (exfalso; (first | contradiction | omega)))) | ((with_reducible refine And.intro ?_ ?_); · (first | omega | (unfold I64; omega) | (unfold maxLen; omega) | assumption | (with_reducible rfl) | (simp; done) | (simp [oneA, Value.oneCell']; done))) | (with_reducible intro h; (try simp only [go_sem] at h); (try (exfalso; (first | contradiction | omega))))))
          · refine hL2 [v] (τ2 ++ [.dead]) _ _ (by simpa using h4) (ALe_of ?_) ?_
            · simp -implicitDefEqProofs only [go_sem, accV]
            · simp [accO, intC, intA1]
          · refine hL2 (y :: row ++ [v]) (τ2 ++ [.dead]) _ _ (by simpa using h4) (ALe_of ?_) ?_
            · simp -implicitDefEqProofs only [go_sem, accV]
            · simp [accO, intC, intA1]
      · rw [toR, if_neg hij] at hv
        refine AWP_each (ints n.nodes) (fun _ r9 (b : Int × Int) => (r9.foldl (toStep n i H) b).2 = v ∧ InV n b.1) (fun k b _ => [(12, intA1 k), (10, intA1 b.1), (11, intA1 b.2)]) (fun _ _ _ => σ ++ (.dead :: (τ ++ accO rowC 1 acc :: (τ2 ++ [accO intC 1 row])))) (n.alg.size - 1, -1) [] ⟨hv, inv_in hn⟩ rfl (ALe_of ?_) ?_ ?_
        · simp -implicitDefEqProofs only [go_sem]
        · rintro k r9 b τ3 hk0 hk1 ⟨h9, hb⟩ L3 hL3
          rw [ints_length] at hk1
          rw [at0_ints hk0 (by omega), List.foldl_cons] at h9
          have hb0 := hb.1
          have hb1 := hb.2
          have hbest := hn.alg.best_len hb0 hb1
          have hHr := hh k hk0 (by omega)
          have hxr := hx.row _ (at0_mem x hk0 (by omega))
          simp -implicitDefEqProofs only [go_sem]
          by_cases he : 0 ≤ edgeOf n i k
          · have hei := edge_in hn he
            have hel := hn.alg.edge_len he hei
            have hov := over_in hn ⟨he, hei⟩ hHr
            obtain ⟨w, hw⟩ : ∃ w, overA n (edgeOf n i k) (H k) = w := ⟨_, rfl⟩
            have hw2 : at0 (at0 n.alg.edges (edgeOf n i k)) (H k) = w := hw
            rw [hw] at hov
            have hov0 := hov.1
            have hov1 := hov.2
            by_cases hu : bestA n b.1 w = b.1
            · have e : toStep n i H b k = b := by rw [toStep, if_pos he, hw, if_neg (not_not_intro hu)]
              rw [e] at h9
              have hu2 : at0 (at0 n.alg.best b.1) w = b.1 := hu
              (repeat' (first | (refine AWP_seq_k fun K hK => ?_) | (refine AWP_block ?_) | (refine ARounds_step ?_) | (refine AWP_skip ?_; simp only [thenQ, blockQ]) | (refine AWP_exit ?_; simp only [thenQ, blockQ, ↓reduceIte, Nat.reduceEqDiff]) | (refine AWP_cond rfl (fun h => ?_) (fun h => ?_) <;> (try simp only [go_sem] at h) <;> (try (exfalso; (first | contradiction | omega)))) | ((first | refine AWP_ret ?_ | refine AWP_regionB ?_ | refine AWP_drawU tab_mixed (by decide +kernel) ?_ | refine AWP_drawA tab_mixed (by decide +kernel) (by rfl) ?_ | refine (edgeOf_calls n i k hl _).use ?_ | refine callQ_use (fun τ => edgeOf_calls n i k hl _) ?_ | refine AWP_drawW false tab_mixed (by decide +kernel) ?_ ); (try simp -implicitDefEqProofs only [go_sem, hij, hHk, hw2, hu2])) | (with_reducible refine hK _ _ ?_; clear hK K) | (clear hK K; first | (with_reducible refine hK _ _ ?_; clear hK K) | (clear hK K; with_reducible refine hK _ _ ?_; clear hK K) | (clear hK K; clear hK K; with_reducible refine hK _ _ ?_; clear hK K)) | (with_reducible refine splitB_intro (fun h => ?_) (fun h => ?_) <;> (try simp only [go_sem] at h) <;> (try (exfalso; (first | contradiction | omega))) <;> (try simp -implicitDefEqProofs only [go_sem, hij, hHk, hw2, hu2])) | (with_reducible refine And.intro (fun h => ?_) (fun h => ?_) <;> (try simp only [go_sem] at h) <;> (try (exfalso; (first | contradiction | omega)))) | ((with_reducible refine And.intro ?_ ?_); · (first | omega | (unfold I64; omega) | (unfold maxLen; omega) | assumption | (with_reducible rfl) | (simp; done) | (simp [oneA, Value.oneCell']; done))) | (with_reducible intro h; (try simp only [go_sem] at h); (try (exfalso; (first | contradiction | omega))))))
              refine hL3 b [] _ _ ⟨h9, hb⟩ (ALe_of ?_) rfl
              simp -implicitDefEqProofs only [go_sem]
            · have e : toStep n i H b k = (w, k) := by rw [toStep, if_pos he, hw, if_pos hu]
              rw [e] at h9
              have hu2 : ¬ at0 (at0 n.alg.best b.1) w = b.1 := hu
              (repeat' (first | (refine AWP_seq_k fun K hK => ?_) | (refine AWP_block ?_) | (refine ARounds_step ?_) | (refine AWP_skip ?_; simp only [thenQ, blockQ]) | (refine AWP_exit ?_; simp only [thenQ, blockQ, ↓reduceIte, Nat.reduceEqDiff]) | (refine AWP_cond rfl (fun h => ?_) (fun h => ?_) <;> (try simp only [go_sem] at h) <;> (try (exfalso; (first | contradiction | omega)))) | ((first | refine AWP_ret ?_ | refine AWP_regionB ?_ | refine AWP_drawU tab_mixed (by decide +kernel) ?_ | refine AWP_drawA tab_mixed (by decide +kernel) (by rfl) ?_ | refine (edgeOf_calls n i k hl _).use ?_ | refine callQ_use (fun τ => edgeOf_calls n i k hl _) ?_ | refine AWP_drawW false tab_mixed (by decide +kernel) ?_ ); (try simp -implicitDefEqProofs only [go_sem, hij, hHk, hw2, hu2])) | (with_reducible refine hK _ _ ?_; clear hK K) | (clear hK K; first | (with_reducible refine hK _ _ ?_; clear hK K) | (clear hK K; with_reducible refine hK _ _ ?_; clear hK K) | (clear hK K; clear hK K; with_reducible refine hK _ _ ?_; clear hK K)) | (with_reducible refine splitB_intro (fun h => ?_) (fun h => ?_) <;> (try simp only [go_sem] at h) <;> (try (exfalso; (first | contradiction | omega))) <;> (try simp -implicitDefEqProofs only [go_sem, hij, hHk, hw2, hu2])) | (with_reducible refine And.intro (fun h => ?_) (fun h => ?_) <;> (try simp only [go_sem] at h) <;> (try (exfalso; (first | contradiction | omega)))) | ((with_reducible refine And.intro ?_ ?_); · (first | omega | (unfold I64; omega) | (unfold maxLen; omega) | assumption | (with_reducible rfl) | (simp; done) | (simp [oneA, Value.oneCell']; done))) | (with_reducible intro h; (try simp only [go_sem] at h); (try (exfalso; (first | contradiction | omega))))))
              refine hL3 (w, k) [] _ _ ⟨h9, hov⟩ (ALe_of ?_) rfl
              simp -implicitDefEqProofs only [go_sem]
          · have e : toStep n i H b k = b := by rw [toStep, if_neg he]
            rw [e] at h9
            (repeat' (first | (refine AWP_seq_k fun K hK => ?_) | (refine AWP_block ?_) | (refine ARounds_step ?_) | (refine AWP_skip ?_; simp only [thenQ, blockQ]) | (refine AWP_exit ?_; simp only [thenQ, blockQ, ↓reduceIte, Nat.reduceEqDiff]) | (refine AWP_cond rfl (fun h => ?_) (fun h => ?_) <;> (try simp only [go_sem] at h) <;> (try (exfalso; (first | contradiction | omega)))) | ((first | refine AWP_ret ?_ | refine AWP_regionB ?_ | refine AWP_drawU tab_mixed (by decide +kernel) ?_ | refine AWP_drawA tab_mixed (by decide +kernel) (by rfl) ?_ | refine (edgeOf_calls n i k hl _).use ?_ | refine callQ_use (fun τ => edgeOf_calls n i k hl _) ?_ | refine AWP_drawW false tab_mixed (by decide +kernel) ?_ ); (try simp -implicitDefEqProofs only [go_sem, hij])) | (with_reducible refine hK _ _ ?_; clear hK K) | (clear hK K; first | (with_reducible refine hK _ _ ?_; clear hK K) | (clear hK K; with_reducible refine hK _ _ ?_; clear hK K) | (clear hK K; clear hK K; with_reducible refine hK _ _ ?_; clear hK K)) | (with_reducible refine splitB_intro (fun h => ?_) (fun h => ?_) <;> (try simp only [go_sem] at h) <;> (try (exfalso; (first | contradiction | omega))) <;> (try simp -implicitDefEqProofs only [go_sem, hij])) | (with_reducible refine And.intro (fun h => ?_) (fun h => ?_) <;> (try simp only [go_sem] at h) <;> (try (exfalso; (first | contradiction | omega)))) | ((with_reducible refine And.intro ?_ ?_); · (first | omega | (unfold I64; omega) | (unfold maxLen; omega) | assumption | (with_reducible rfl) | (simp; done) | (simp [oneA, Value.oneCell']; done))) | (with_reducible intro h; (try simp only [go_sem] at h); (try (exfalso; (first | contradiction | omega))))))
            refine hL3 b [] _ _ ⟨h9, hb⟩ (ALe_of ?_) rfl
            simp -implicitDefEqProofs only [go_sem]
        · rintro k b τ3 hk ⟨h9, hb⟩ L3
          rw [ints_length] at hk
          have h9 : b.2 = v := h9
          simp -implicitDefEqProofs only [go_sem, h9]
          (repeat' (first | (refine AWP_seq_k fun K hK => ?_) | (refine AWP_block ?_) | (refine ARounds_step ?_) | (refine AWP_skip ?_; simp only [thenQ, blockQ]) | (refine AWP_exit ?_; simp only [thenQ, blockQ, ↓reduceIte, Nat.reduceEqDiff]) | (refine AWP_cond rfl (fun h => ?_) (fun h => ?_) <;> (try simp only [go_sem] at h) <;> (try (exfalso; (first | contradiction | omega)))) | ((first | refine AWP_ret ?_ | refine AWP_regionB ?_ | refine AWP_drawU tab_mixed (by decide +kernel) ?_ | refine AWP_drawA tab_mixed (by decide +kernel) (by rfl) ?_ | refine AWP_drawW false tab_mixed (by decide +kernel) ?_ ); (try simp -implicitDefEqProofs only [go_sem, hij])) | (with_reducible refine hK _ _ ?_; clear hK K) | (clear hK K; first | (with_reducible refine hK _ _ ?_; clear hK K) | (clear hK K; with_reducible refine hK _ _ ?_; clear hK K) | (clear hK K; clear hK K; with_reducible refine hK _ _ ?_; clear hK K)) | (with_reducible refine splitB_intro (fun h => ?_) (fun h => ?_) <;> (try simp only [go_sem] at h) <;> (try (exfalso; (first | contradiction | omega))) <;> (try simp -implicitDefEqProofs only [go_sem, hij])) | (with_reducible refine And.intro (fun h => ?_) (fun h => ?_) <;> (try simp only [go_sem] at h) <;> (try (exfalso; (first | contradiction | omega)))) | ((with_reducible refine And.intro ?_ ?_); · (first | omega | (unfold I64; omega) | (unfold maxLen; omega) | assumption | (with_reducible rfl) | (simp; done) | (simp [oneA, Value.oneCell']; done))) | (with_reducible intro h; (try simp only [go_sem] at h); (try (exfalso; (first | contradiction | omega))))))
          refine hJ3 _ _ ?_
          clear hJ3
          rcases row with _ | ⟨y, row⟩ <;> simp only [List.length_cons, List.length_nil] at hrl <;> simp -implicitDefEqProofs only [go_sem, accV, accO]
          all_goals (repeat' (first | (refine AWP_seq_k fun K hK => ?_) | (refine AWP_block ?_) | (refine ARounds_step ?_) | (refine AWP_skip ?_; simp only [thenQ, blockQ]) | (refine AWP_exit ?_; simp only [thenQ, blockQ, ↓reduceIte, Nat.reduceEqDiff]) | (refine AWP_cond rfl (fun h => ?_) (fun h => ?_) <;> (try simp only [go_sem] at h) <;> (try (exfalso; (first | contradiction | omega)))) | ((first | refine AWP_ret ?_ | refine AWP_regionB ?_ | refine AWP_drawU tab_mixed (by decide +kernel) ?_ | refine AWP_drawA tab_mixed (by decide +kernel) (by rfl) ?_ | refine AWP_drawW false tab_mixed (by decide +kernel) ?_ ); (try simp -implicitDefEqProofs only [go_sem])) | (with_reducible refine hK _ _ ?_; clear hK K) | (clear hK K; first | (with_reducible refine hK _ _ ?_; clear hK K) | (clear hK K; with_reducible refine hK _ _ ?_; clear hK K) | (clear hK K; clear hK K; with_reducible refine hK _ _ ?_; clear hK K)) | (with_reducible refine splitB_intro (fun h => ?_) (fun h => ?_) <;> (try simp only [go_sem] at h) <;> (try (exfalso; (first | contradiction | omega))) <;> (try simp -implicitDefEqProofs only [go_sem])) | (with_reducible refine And.intro (fun h => ?_) (fun h => ?_) <;> (try simp only [go_sem] at h) <;> (try (exfalso; (first | contradiction | omega)))) | ((with_reducible refine And.intro ?_ ?_); · (first | omega | (unfold I64; omega) | (unfold maxLen; omega) | assumption | (with_reducible rfl) | (simp; done) | (simp [oneA, Value.oneCell']; done))) | (with_reducible intro h; (try simp only [go_sem] at h); (try (exfalso; (first | contradiction | omega))))))
          · refine hL2 [v] (τ2 ++ [.dead]) _ _ (by simpa using h4) (ALe_of ?_) ?_
            · simp -implicitDefEqProofs only [go_sem, accV]
            · simp [accO, intC, intA1]
          · refine hL2 (y :: row ++ [v]) (τ2 ++ [.dead]) _ _ (by simpa using h4) (ALe_of ?_) ?_
            · simp -implicitDefEqProofs only [go_sem, accV]
            · simp [accO, intC, intA1]
    · rintro j row τ2 hj h4 L2
      rw [ints_length] at hj
      rw [List.map_nil, List.append_nil] at h4
      simp -implicitDefEqProofs only [go_sem]
      (repeat' (first | (refine AWP_seq_k fun K hK => ?_) | (refine AWP_block ?_) | (refine ARounds_step ?_) | (refine AWP_skip ?_; simp only [thenQ, blockQ]) | (refine AWP_exit ?_; simp only [thenQ, blockQ, ↓reduceIte, Nat.reduceEqDiff]) | (refine AWP_cond rfl (fun h => ?_) (fun h => ?_) <;> (try simp only [go_sem] at h) <;> (try (exfalso; (first | contradiction | omega)))) | ((first | refine AWP_region ?_ | refine AWP_drawU tab_mixed (by decide +kernel) ?_ | refine AWP_drawA tab_mixed (by decide +kernel) (by rfl) ?_ | refine AWP_drawW false tab_mixed (by decide +kernel) ?_ ); (try simp -implicitDefEqProofs only [go_sem])) | (with_reducible refine hK _ _ ?_; clear hK K) | (clear hK K; first | (with_reducible refine hK _ _ ?_; clear hK K) | (clear hK K; with_reducible refine hK _ _ ?_; clear hK K) | (clear hK K; clear hK K; with_reducible refine hK _ _ ?_; clear hK K)) | (with_reducible refine splitB_intro (fun h => ?_) (fun h => ?_) <;> (try simp only [go_sem] at h) <;> (try (exfalso; (first | contradiction | omega))) <;> (try simp -implicitDefEqProofs only [go_sem])) | (with_reducible refine And.intro (fun h => ?_) (fun h => ?_) <;> (try simp only [go_sem] at h) <;> (try (exfalso; (first | contradiction | omega)))) | ((with_reducible refine And.intro ?_ ?_); · (first | omega | (unfold I64; omega) | (unfold maxLen; omega) | assumption | (with_reducible rfl) | (simp; done) | (simp [oneA, Value.oneCell']; done))) | (with_reducible intro h; (try simp only [go_sem] at h); (try (exfalso; (first | contradiction | omega))))))
      refine hJ2 _ _ ?_
      clear hJ2
      have est : σ ++ (.dead :: (τ ++ accO rowC 1 acc :: (τ2 ++ [accO intC 1 row]))) = σ ++ ((.dead :: (τ ++ accO rowC 1 acc :: τ2)) ++ accO intC 1 row :: []) := by simp
      rw [est]
      refine AWP_freezeAcc 8 intC 1 row σ (.dead :: (τ ++ accO rowC 1 acc :: τ2)) [] (by simp [look, Nat.add_assoc]) ?_
      rw [h4]
      rcases acc with _ | ⟨y, acc⟩ <;> simp only [List.length_cons, List.length_nil] at hal <;> simp -implicitDefEqProofs only [go_sem, accV, accO]
      all_goals (repeat' (first | (refine AWP_seq_k fun K hK => ?_) | (refine AWP_block ?_) | (refine ARounds_step ?_) | (refine AWP_skip ?_; simp only [thenQ, blockQ]) | (refine AWP_exit ?_; simp only [thenQ, blockQ, ↓reduceIte, Nat.reduceEqDiff]) | (refine AWP_cond rfl (fun h => ?_) (fun h => ?_) <;> (try simp only [go_sem] at h) <;> (try (exfalso; (first | contradiction | omega)))) | ((first | refine AWP_ret ?_ | refine AWP_regionB ?_ | refine AWP_drawU tab_mixed (by decide +kernel) ?_ | refine AWP_drawA tab_mixed (by decide +kernel) (by rfl) ?_ | refine AWP_drawW false tab_mixed (by decide +kernel) ?_ ); (try simp -implicitDefEqProofs only [go_sem])) | (with_reducible refine hK _ _ ?_; clear hK K) | (clear hK K; first | (with_reducible refine hK _ _ ?_; clear hK K) | (clear hK K; with_reducible refine hK _ _ ?_; clear hK K) | (clear hK K; clear hK K; with_reducible refine hK _ _ ?_; clear hK K)) | (with_reducible refine splitB_intro (fun h => ?_) (fun h => ?_) <;> (try simp only [go_sem] at h) <;> (try (exfalso; (first | contradiction | omega))) <;> (try simp -implicitDefEqProofs only [go_sem])) | (with_reducible refine And.intro (fun h => ?_) (fun h => ?_) <;> (try simp only [go_sem] at h) <;> (try (exfalso; (first | contradiction | omega)))) | ((with_reducible refine And.intro ?_ ?_); · (first | omega | (unfold I64; omega) | (unfold maxLen; omega) | assumption | (with_reducible rfl) | (simp; done) | (simp [oneA, Value.oneCell']; done))) | (with_reducible intro h; (try simp only [go_sem] at h); (try (exfalso; (first | contradiction | omega))))))
      · refine hL [tableRow n x i] (τ ++ .dead :: (τ2 ++ [.dead])) _ _ (by simpa using h3) (ALe_of ?_) ?_
        · simp -implicitDefEqProofs only [go_sem, accV]
        · simp [accO, rowC, intsA]
      · refine hL (y :: acc ++ [tableRow n x i]) (τ ++ .dead :: (τ2 ++ [.dead])) _ _ (by simpa using h3) (ALe_of ?_) ?_
        · simp -implicitDefEqProofs only [go_sem, accV]
        · simp [accO, rowC, intsA]
  · rintro i acc τ hi h3 L
    rw [ints_length] at hi
    rw [List.map_nil, List.append_nil] at h3
    simp -implicitDefEqProofs only [go_sem]
    (repeat' (first | (refine AWP_seq_k fun K hK => ?_) | (refine AWP_block ?_) | (refine ARounds_step ?_) | (refine AWP_skip ?_; simp only [thenQ, blockQ]) | (refine AWP_exit ?_; simp only [thenQ, blockQ, ↓reduceIte, Nat.reduceEqDiff]) | (refine AWP_cond rfl (fun h => ?_) (fun h => ?_) <;> (try simp only [go_sem] at h) <;> (try (exfalso; (first | contradiction | omega)))) | ((first | refine AWP_region ?_ | refine AWP_drawU tab_mixed (by decide +kernel) ?_ | refine AWP_drawA tab_mixed (by decide +kernel) (by rfl) ?_ | refine AWP_drawW false tab_mixed (by decide +kernel) ?_ ); (try simp -implicitDefEqProofs only [go_sem])) | (with_reducible refine hK _ _ ?_; clear hK K) | (clear hK K; first | (with_reducible refine hK _ _ ?_; clear hK K) | (clear hK K; with_reducible refine hK _ _ ?_; clear hK K) | (clear hK K; clear hK K; with_reducible refine hK _ _ ?_; clear hK K)) | (with_reducible refine splitB_intro (fun h => ?_) (fun h => ?_) <;> (try simp only [go_sem] at h) <;> (try (exfalso; (first | contradiction | omega))) <;> (try simp -implicitDefEqProofs only [go_sem])) | (with_reducible refine And.intro (fun h => ?_) (fun h => ?_) <;> (try simp only [go_sem] at h) <;> (try (exfalso; (first | contradiction | omega)))) | ((with_reducible refine And.intro ?_ ?_); · (first | omega | (unfold I64; omega) | (unfold maxLen; omega) | assumption | (with_reducible rfl) | (simp; done) | (simp [oneA, Value.oneCell']; done))) | (with_reducible intro h; (try simp only [go_sem] at h); (try (exfalso; (first | contradiction | omega))))))
    refine hJ _ _ ?_
    clear hJ
    have est : σ ++ (.dead :: (τ ++ [accO rowC 1 acc])) = σ ++ ((.dead :: τ) ++ accO rowC 1 acc :: []) := by simp
    rw [est]
    refine AWP_freezeAcc 6 rowC 1 acc σ (.dead :: τ) [] (by simp [look, Nat.add_assoc]) ?_
    (repeat' (first | (refine AWP_seq_k fun K hK => ?_) | (refine AWP_block ?_) | (refine ARounds_step ?_) | (refine AWP_skip ?_; simp only [thenQ, blockQ]) | (refine AWP_exit ?_; simp only [thenQ, blockQ, ↓reduceIte, Nat.reduceEqDiff]) | (refine AWP_cond rfl (fun h => ?_) (fun h => ?_) <;> (try simp only [go_sem] at h) <;> (try (exfalso; (first | contradiction | omega)))) | ((first | refine AWP_ret ?_ | refine AWP_regionB ?_ | refine AWP_drawU tab_mixed (by decide +kernel) ?_ | refine AWP_drawA tab_mixed (by decide +kernel) (by rfl) ?_ | refine AWP_drawW false tab_mixed (by decide +kernel) ?_ ); (try simp -implicitDefEqProofs only [go_sem])) | (with_reducible refine hK _ _ ?_; clear hK K) | (clear hK K; first | (with_reducible refine hK _ _ ?_; clear hK K) | (clear hK K; with_reducible refine hK _ _ ?_; clear hK K) | (clear hK K; clear hK K; with_reducible refine hK _ _ ?_; clear hK K)) | (with_reducible refine splitB_intro (fun h => ?_) (fun h => ?_) <;> (try simp only [go_sem] at h) <;> (try (exfalso; (first | contradiction | omega))) <;> (try simp -implicitDefEqProofs only [go_sem])) | (with_reducible refine And.intro (fun h => ?_) (fun h => ?_) <;> (try simp only [go_sem] at h) <;> (try (exfalso; (first | contradiction | omega)))) | ((with_reducible refine And.intro ?_ ?_); · (first | omega | (unfold I64; omega) | (unfold maxLen; omega) | assumption | (with_reducible rfl) | (simp; done) | (simp [oneA, Value.oneCell']; done))) | (with_reducible intro h; (try simp only [go_sem] at h); (try (exfalso; (first | contradiction | omega))))))
    rw [h3]
    exact CutQ_w rfl (Bd.rows _) (.eq rfl)
end Go.Proofs.Ytephecognbbaoaa
