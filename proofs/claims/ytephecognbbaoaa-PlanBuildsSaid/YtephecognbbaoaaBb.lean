/- Plans: what is wrong with one: as the program finds it. -/
import Derived.Test.YtephecognbbaoaaBa
namespace Go.Proofs.Ytephecognbbaoaa
open Go
set_option linter.all false
set_option maxRecDepth 100000
set_option maxHeartbeats 4000000

theorem pwithin_calls (n a b : Int) (σ : Store) : ACalls Try.prog 128 [intA1 n, intA1 a, intA1 b] σ fun r σ' => σ' = σ ∧ r = .c (.bool (inR n a b)) := by
  refine ACalls_of_awp Try.func128 rfl Try.results128 ?_
  simp only [List.length_cons, List.length_nil, Try.ntmps128, Nat.reduceAdd, Nat.reduceSub, enterA]
  (repeat' (first|(refine g_s fun K hK=>?_)|(refine g_b ?_)|(refine g_r ?_)|(refine g_k ?_;simp only[thenQ,blockQ])|(refine g_e ?_;simp only[thenQ,blockQ,↓reduceIte,Nat.reduceEqDiff])|(refine g_c (fun h=>?_) (fun h=>?_)<;>(try simp only[go_sem] at h)<;>(try exact g_f))|((first|refine g_t ?_|refine g_g ?_|refine g_U ?_|refine g_A ?_|refine g_W ?_);(try simp -implicitDefEqProofs only[go_sem]))|(with_reducible refine hK _ _ ?_;clear hK K)|(clear hK K;first|(with_reducible refine hK _ _ ?_;clear hK K)|(clear hK K;with_reducible refine hK _ _ ?_;clear hK K)|(clear hK K;clear hK K;with_reducible refine hK _ _ ?_;clear hK K))|(with_reducible refine splitB_intro (fun h=>?_) (fun h=>?_)<;>(try simp only[go_sem] at h)<;>(try exact g_f)<;>(try simp -implicitDefEqProofs only[go_sem]))|(with_reducible refine And.intro (fun h=>?_) (fun h=>?_)<;>(try simp only[go_sem] at h)<;>(try exact g_f))|(with_reducible refine And.intro ?_ ?_;· exact g_x)|(with_reducible intro h;(try simp only[go_sem] at h);(try exact g_f))))
  all_goals (simp [inR]; omega)

theorem parts_calls (k : Int) (h : k = 1 ∨ k = 2 ∨ k = 3 ∨ k = 4) (σ : Store) : ACalls Try.prog 129 [intA1 k] σ fun r σ' => σ' = σ ∧ r = intA1 (partsN k) := by
  rcases h with rfl | rfl | rfl | rfl
  all_goals refine ACalls.cutX ?_
  all_goals refine ACalls_of_awp Try.func129 rfl Try.results129 ?_
            simp only [List.length_cons, List.length_nil, Try.ntmps129, Nat.reduceAdd, Nat.reduceSub, enterA]
  all_goals (repeat' (first|(refine g_s fun K hK=>?_)|(refine g_b ?_)|(refine g_r ?_)|(refine g_k ?_;simp only[thenQ,blockQ])|(refine g_e ?_;simp only[thenQ,blockQ,↓reduceIte,Nat.reduceEqDiff])|(refine g_c (fun h=>?_) (fun h=>?_)<;>(try simp only[go_sem] at h)<;>(try exact g_f))|((first|refine g_t ?_|refine g_G ?_|refine g_U ?_|refine g_A ?_|refine g_W ?_);(try simp -implicitDefEqProofs only[go_sem]))|(with_reducible refine hK _ _ ?_;clear hK K)|(clear hK K;first|(with_reducible refine hK _ _ ?_;clear hK K)|(clear hK K;with_reducible refine hK _ _ ?_;clear hK K)|(clear hK K;clear hK K;with_reducible refine hK _ _ ?_;clear hK K))|(with_reducible refine splitB_intro (fun h=>?_) (fun h=>?_)<;>(try simp only[go_sem] at h)<;>(try exact g_f)<;>(try simp -implicitDefEqProofs only[go_sem]))|(with_reducible refine And.intro (fun h=>?_) (fun h=>?_)<;>(try simp only[go_sem] at h)<;>(try exact g_f))|(with_reducible refine And.intro ?_ ?_;· exact g_x)|(with_reducible intro h;(try simp only[go_sem] at h);(try exact g_f))))
  all_goals exact CutQ_c (τ := []) (by simp) rfl

theorem size_rng {p : Pl} (hc : checkP p = 0) : 2 ≤ sizeP p ∧ sizeP p ≤ 24 := by
  have h := build_ok p hc
  have h1 := h.form.s2
  have h2 := h.form.s24
  rw [h.size] at h1 h2
  exact ⟨h1, h2⟩

theorem size_mul {a b : Int} (ha : 2 ≤ a ∧ a ≤ 24) (hb : 2 ≤ b ∧ b ≤ 24) : 0 ≤ (a - 1) * (b - 1) ∧ (a - 1) * (b - 1) ≤ 529 :=
  ⟨Int.mul_nonneg (by omega) (by omega), Int.le_trans (Int.mul_le_mul (show a - 1 ≤ 23 by omega) (show b - 1 ≤ 23 by omega) (by omega) (by omega)) (by decide)⟩

theorem edges_calls : ∀ (p : Pl), checkP p = 0 → ∀ σ : Store, ACalls Try.prog 130 [.agg (plC p)] σ fun r σ' => σ' = σ ∧ r = intA1 (edgesP p) := by
  refine Pl.ind fun k n e ps ih hc σ => ?_
  obtain ⟨hps, hcs⟩ := check_cases hc
  rw [edgesP, plC_mk]
  refine ACalls.cutX ?_
  by_cases h3 : k = 3
  · subst h3
    obtain ⟨x, y, rfl⟩ : ∃ x y, ps = [x, y] := by
      rcases hcs with ⟨h, _⟩ | ⟨h, _⟩ | ⟨_, _, _, x, y, h, _⟩ | ⟨h, _⟩
      · omega
      · omega
      · exact ⟨x, y, h⟩
      · omega
    have ihx := ih x (by simp) (hps x (by simp))
    have e0 : at0 (edgesL [x, y]) 0 = edgesP x := by rw [edgesL_map]; rfl
    rw [if_pos rfl, e0]
    obtain ⟨E, hE⟩ : ∃ E, edgesP x = E := ⟨_, rfl⟩
    rw [hE] at ihx ⊢
    have hx : at0 [x, y] 0 = x := rfl
    obtain ⟨k', n', e', ps'⟩ := x
    rw [plC_mk] at ihx
    refine ACalls_of_awp Try.func130 rfl Try.results130 ?_
    simp only [List.length_cons, List.length_nil, Try.ntmps130, Nat.reduceAdd, Nat.reduceSub, enterA]
    refine AWP_seq_k fun K hK => ?_
    (refine AWP_region ?_; simp -implicitDefEqProofs only [go_sem])
    refine hK _ _ ?_; clear hK K
    refine AWP_freezeP 1 rfl (by simp only [st0]; rfl) ?_
    simp only [ss0, List.set_cons_zero]
    (repeat' (first|(refine g_s fun K hK=>?_)|(refine g_b ?_)|(refine g_r ?_)|(refine g_k ?_;simp only[thenQ,blockQ])|(refine g_e ?_;simp only[thenQ,blockQ,↓reduceIte,Nat.reduceEqDiff])|(refine g_c (fun h=>?_) (fun h=>?_)<;>(try simp only[go_sem] at h)<;>(try exact g_f))|((first|refine g_t ?_|refine g_g ?_|refine g_U ?_|refine g_A ?_|refine (ihx _).use ?_|refine g_q (fun τ=>ihx _) ?_|refine g_W ?_);(try simp -implicitDefEqProofs only[go_sem,hx]))|(with_reducible refine hK _ _ ?_;clear hK K)|(clear hK K;first|(with_reducible refine hK _ _ ?_;clear hK K)|(clear hK K;with_reducible refine hK _ _ ?_;clear hK K)|(clear hK K;clear hK K;with_reducible refine hK _ _ ?_;clear hK K))|(with_reducible refine splitB_intro (fun h=>?_) (fun h=>?_)<;>(try simp only[go_sem] at h)<;>(try exact g_f)<;>(try simp -implicitDefEqProofs only[go_sem,hx]))|(with_reducible refine And.intro (fun h=>?_) (fun h=>?_)<;>(try simp only[go_sem] at h)<;>(try exact g_f))|(with_reducible refine And.intro ?_ ?_;· exact g_x)|(with_reducible intro h;(try simp only[go_sem] at h);(try exact g_f))))
    exact CutQ_c rfl rfl
  · rw [if_neg h3]
    refine ACalls_of_awp Try.func130 rfl Try.results130 ?_
    simp only [List.length_cons, List.length_nil, Try.ntmps130, Nat.reduceAdd, Nat.reduceSub, enterA]
    refine AWP_seq_k fun K hK => ?_
    (refine AWP_region ?_; simp -implicitDefEqProofs only [go_sem])
    refine hK _ _ ?_; clear hK K
    refine AWP_freezeP 1 rfl (by simp only [st0]; rfl) ?_
    simp only [ss0, List.set_cons_zero]
    (repeat' (first|(refine g_s fun K hK=>?_)|(refine g_b ?_)|(refine g_r ?_)|(refine g_k ?_;simp only[thenQ,blockQ])|(refine g_e ?_;simp only[thenQ,blockQ,↓reduceIte,Nat.reduceEqDiff])|(refine g_c (fun h=>?_) (fun h=>?_)<;>(try simp only[go_sem] at h)<;>(try exact g_f))|((first|refine g_t ?_|refine g_g ?_|refine g_U ?_|refine g_A ?_|refine g_W ?_);(try simp -implicitDefEqProofs only[go_sem,h3]))|(with_reducible refine hK _ _ ?_;clear hK K)|(clear hK K;first|(with_reducible refine hK _ _ ?_;clear hK K)|(clear hK K;with_reducible refine hK _ _ ?_;clear hK K)|(clear hK K;clear hK K;with_reducible refine hK _ _ ?_;clear hK K))|(with_reducible refine splitB_intro (fun h=>?_) (fun h=>?_)<;>(try simp only[go_sem] at h)<;>(try exact g_f)<;>(try simp -implicitDefEqProofs only[go_sem,h3]))|(with_reducible refine And.intro (fun h=>?_) (fun h=>?_)<;>(try simp only[go_sem] at h)<;>(try exact g_f))|(with_reducible refine And.intro ?_ ?_;· exact g_x)|(with_reducible intro h;(try simp only[go_sem] at h);(try exact g_f))))
    exact CutQ_c rfl rfl

/-- A plan whose parts are right, and as many as they must be. -/
def Shape : Pl → Prop
  | .mk k n _ ps => (∀ x ∈ ps, checkP x = 0) ∧ (k = 3 → ps.length = 2) ∧ (k = 4 → ps.length = 1) ∧ (k ≠ 3 → k ≠ 4 → 1 ≤ n ∧ n ≤ 22)

theorem shape_of {p : Pl} (h : checkP p = 0) : Shape p := by
  obtain ⟨k, n, e, ps⟩ := p
  obtain ⟨hps, hc⟩ := check_cases h
  refine ⟨hps, fun h3 => ?_, fun h4 => ?_, fun h3 h4 => ?_⟩
  · rcases hc with ⟨h, _⟩ | ⟨h, _⟩ | ⟨_, _, _, x, y, h, _⟩ | ⟨h, _⟩
    · omega
    · omega
    · rw [h]; rfl
    · omega
  · rcases hc with ⟨h, _⟩ | ⟨h, _⟩ | ⟨h, _⟩ | ⟨_, _, x, h, _⟩
    · omega
    · omega
    · omega
    · rw [h]; rfl
  · rcases hc with ⟨_, _, h, _⟩ | ⟨_, _, h, _⟩ | ⟨h, _⟩ | ⟨h, _⟩
    · exact h
    · exact h
    · omega
    · omega

theorem size_calls : ∀ (p : Pl), Shape p → ∀ σ : Store, ACalls Try.prog 131 [.agg (plC p)] σ fun r σ' => σ' = σ ∧ r = intA1 (sizeP p) := by
  refine Pl.ind fun k n e ps ih hs σ => ?_
  obtain ⟨hps, s3, s4, s1⟩ := hs
  rw [sizeP, plC_mk]
  refine ACalls.cutX ?_
  by_cases h3 : k = 3
  · subst h3
    obtain ⟨x, y, rfl⟩ : ∃ x y, ps = [x, y] := by
      match ps, s3 rfl with
      | [x, y], _ => exact ⟨x, y, rfl⟩
    have hcx := hps x (by simp)
    have hcy := hps y (by simp)
    have ihx := ih x (by simp) (shape_of hcx)
    have ihy := ih y (by simp) (shape_of hcy)
    have e0 : at0 (sizeL [x, y]) 0 = sizeP x := by rw [sizeL_map]; rfl
    have e1 : at0 (sizeL [x, y]) 1 = sizeP y := by rw [sizeL_map]; rfl
    have hx0 : at0 [x, y] 0 = x := rfl
    have hy0 : at0 [x, y] 1 = y := rfl
    rw [if_pos rfl, e0, e1]
    have hxr := size_rng hcx
    have hyr := size_rng hcy
    obtain ⟨E, hE⟩ : ∃ E, sizeP x = E := ⟨_, rfl⟩
    obtain ⟨F, hF⟩ : ∃ F, sizeP y = F := ⟨_, rfl⟩
    rw [hE] at ihx hxr ⊢
    rw [hF] at ihy hyr ⊢
    have hm := size_mul hxr hyr
    have i1 : I64 (E - 1) := by unfold I64; omega
    have i2 : I64 (F - 1) := by unfold I64; omega
    have i3 : I64 ((E - 1) * (F - 1)) := by unfold I64; omega
    have i4 : I64 ((E - 1) * (F - 1) + 1) := by unfold I64; omega
    obtain ⟨k', n', e', ps'⟩ := x
    obtain ⟨k'', n'', e'', ps''⟩ := y
    rw [plC_mk] at ihx ihy
    refine ACalls_of_awp Try.func131 rfl Try.results131 ?_
    simp only [List.length_cons, List.length_nil, Try.ntmps131, Nat.reduceAdd, Nat.reduceSub, enterA]
    refine AWP_seq_k fun K hK => ?_
    (refine AWP_region ?_; simp -implicitDefEqProofs only [go_sem])
    refine hK _ _ ?_; clear hK K
    refine AWP_freezeP 1 rfl (by simp only [st0]; rfl) ?_
    simp only [ss0, List.set_cons_zero]
    (repeat' (first|(refine g_s fun K hK=>?_)|(refine g_b ?_)|(refine g_r ?_)|(refine g_k ?_;simp only[thenQ,blockQ])|(refine g_e ?_;simp only[thenQ,blockQ,↓reduceIte,Nat.reduceEqDiff])|(refine g_c (fun h=>?_) (fun h=>?_)<;>(try simp only[go_sem] at h)<;>(try exact g_f))|((first|refine g_t ?_|refine g_g ?_|refine g_U ?_|refine g_A ?_|refine (ihx _).use ?_|refine g_q (fun τ=>ihx _) ?_|refine (ihy _).use ?_|refine g_q (fun τ=>ihy _) ?_|refine g_W ?_);(try simp -implicitDefEqProofs only[go_sem,hx0, hy0, i1, i2, i3, i4]))|(with_reducible refine hK _ _ ?_;clear hK K)|(clear hK K;first|(with_reducible refine hK _ _ ?_;clear hK K)|(clear hK K;with_reducible refine hK _ _ ?_;clear hK K)|(clear hK K;clear hK K;with_reducible refine hK _ _ ?_;clear hK K))|(with_reducible refine splitB_intro (fun h=>?_) (fun h=>?_)<;>(try simp only[go_sem] at h)<;>(try exact g_f)<;>(try simp -implicitDefEqProofs only[go_sem,hx0, hy0, i1, i2, i3, i4]))|(with_reducible refine And.intro (fun h=>?_) (fun h=>?_)<;>(try simp only[go_sem] at h)<;>(try exact g_f))|(with_reducible refine And.intro ?_ ?_;· exact g_x)|(with_reducible intro h;(try simp only[go_sem] at h);(try exact g_f))))
    exact CutQ_c rfl rfl
  · rw [if_neg h3]
    by_cases h4 : k = 4
    · subst h4
      obtain ⟨x, rfl⟩ : ∃ x, ps = [x] := by
        match ps, s4 rfl with
        | [x], _ => exact ⟨x, rfl⟩
      have hcx := hps x (by simp)
      have ihx := ih x (by simp) (shape_of hcx)
      have e0 : at0 (sizeL [x]) 0 = sizeP x := by rw [sizeL_map]; rfl
      have hx0 : at0 [x] 0 = x := rfl
      rw [if_pos rfl, e0]
      obtain ⟨E, hE⟩ : ∃ E, sizeP x = E := ⟨_, rfl⟩
      rw [hE] at ihx ⊢
      obtain ⟨k', n', e', ps'⟩ := x
      rw [plC_mk] at ihx
      refine ACalls_of_awp Try.func131 rfl Try.results131 ?_
      simp only [List.length_cons, List.length_nil, Try.ntmps131, Nat.reduceAdd, Nat.reduceSub, enterA]
      refine AWP_seq_k fun K hK => ?_
      (refine AWP_region ?_; simp -implicitDefEqProofs only [go_sem])
      refine hK _ _ ?_; clear hK K
      refine AWP_freezeP 1 rfl (by simp only [st0]; rfl) ?_
      simp only [ss0, List.set_cons_zero]
      (repeat' (first|(refine g_s fun K hK=>?_)|(refine g_b ?_)|(refine g_r ?_)|(refine g_k ?_;simp only[thenQ,blockQ])|(refine g_e ?_;simp only[thenQ,blockQ,↓reduceIte,Nat.reduceEqDiff])|(refine g_c (fun h=>?_) (fun h=>?_)<;>(try simp only[go_sem] at h)<;>(try exact g_f))|((first|refine g_t ?_|refine g_g ?_|refine g_U ?_|refine g_A ?_|refine (ihx _).use ?_|refine g_q (fun τ=>ihx _) ?_|refine g_W ?_);(try simp -implicitDefEqProofs only[go_sem,hx0]))|(with_reducible refine hK _ _ ?_;clear hK K)|(clear hK K;first|(with_reducible refine hK _ _ ?_;clear hK K)|(clear hK K;with_reducible refine hK _ _ ?_;clear hK K)|(clear hK K;clear hK K;with_reducible refine hK _ _ ?_;clear hK K))|(with_reducible refine splitB_intro (fun h=>?_) (fun h=>?_)<;>(try simp only[go_sem] at h)<;>(try exact g_f)<;>(try simp -implicitDefEqProofs only[go_sem,hx0]))|(with_reducible refine And.intro (fun h=>?_) (fun h=>?_)<;>(try simp only[go_sem] at h)<;>(try exact g_f))|(with_reducible refine And.intro ?_ ?_;· exact g_x)|(with_reducible intro h;(try simp only[go_sem] at h);(try exact g_f))))
      exact CutQ_c rfl rfl
    · have hn := s1 h3 h4
      rw [if_neg h4]
      refine ACalls_of_awp Try.func131 rfl Try.results131 ?_
      simp only [List.length_cons, List.length_nil, Try.ntmps131, Nat.reduceAdd, Nat.reduceSub, enterA]
      refine AWP_seq_k fun K hK => ?_
      (refine AWP_region ?_; simp -implicitDefEqProofs only [go_sem])
      refine hK _ _ ?_; clear hK K
      refine AWP_freezeP 1 rfl (by simp only [st0]; rfl) ?_
      simp only [ss0, List.set_cons_zero]
      (repeat' (first|(refine g_s fun K hK=>?_)|(refine g_b ?_)|(refine g_r ?_)|(refine g_k ?_;simp only[thenQ,blockQ])|(refine g_e ?_;simp only[thenQ,blockQ,↓reduceIte,Nat.reduceEqDiff])|(refine g_c (fun h=>?_) (fun h=>?_)<;>(try simp only[go_sem] at h)<;>(try exact g_f))|((first|refine g_t ?_|refine g_g ?_|refine g_U ?_|refine g_A ?_|refine g_W ?_);(try simp -implicitDefEqProofs only[go_sem,h3, h4]))|(with_reducible refine hK _ _ ?_;clear hK K)|(clear hK K;first|(with_reducible refine hK _ _ ?_;clear hK K)|(clear hK K;with_reducible refine hK _ _ ?_;clear hK K)|(clear hK K;clear hK K;with_reducible refine hK _ _ ?_;clear hK K))|(with_reducible refine splitB_intro (fun h=>?_) (fun h=>?_)<;>(try simp only[go_sem] at h)<;>(try exact g_f)<;>(try simp -implicitDefEqProofs only[go_sem,h3, h4]))|(with_reducible refine And.intro (fun h=>?_) (fun h=>?_)<;>(try simp only[go_sem] at h)<;>(try exact g_f))|(with_reducible refine And.intro ?_ ?_;· exact g_x)|(with_reducible intro h;(try simp only[go_sem] at h);(try exact g_f))))
      exact CutQ_c rfl rfl

theorem shl_one {s : Int} (h0 : 0 ≤ s) (h1 : s ≤ 24) : (1 : Int) * 2 ^ min s.toNat IntKind.i64.bits = 2 ^ s.toNat ∧ 1 ≤ (2 : Int) ^ s.toNat ∧ (2 : Int) ^ s.toNat ≤ 16777216 ∧ IntKind.i64.wrap (2 ^ s.toNat) = 2 ^ s.toNat := by
  have hb : min s.toNat IntKind.i64.bits = s.toNat := by
    have : IntKind.i64.bits = 64 := rfl
    omega
  have h2 : (2 : Nat) ^ s.toNat ≤ 2 ^ 24 := Nat.pow_le_pow_right (by decide) (by omega)
  have h3 : 0 < (2 : Nat) ^ s.toNat := Nat.pow_pos (by decide)
  have h4 : ((2 ^ s.toNat : Nat) : Int) = (2 : Int) ^ s.toNat := by rw [Int.natCast_pow]; rfl
  have h5 : (2 : Nat) ^ 24 = 16777216 := rfl
  refine ⟨by rw [hb, Int.one_mul], by omega, by omega, wrap_of_I64 (by unfold I64; omega)⟩

theorem own_calls' (k n : Int) (e : List Int) (ps : List Pl) (ok : PlOk (.mk k n e ps)) (hps : ∀ x ∈ ps, checkP x = 0) (σ : Store) : ACalls Try.prog 106 [.agg (plC (.mk k n e ps))] σ fun r σ' => σ' = σ ∧ r = intA1 (ownErr k n e ps) := by
  cases ok with
  | mk _ _ _ _ hk hn he hev hpl hp =>
  rw [plC_mk]
  refine ACalls.cutX ?_
  unfold ownErr
  by_cases hk4 : inR k 1 4 = true
  · have hkr := inR_iff.1 hk4
    have hpc := parts_calls k (by omega)
    rw [hk4, if_neg (by decide)]
    by_cases hpn : (ps.length : Int) = partsN k
    · rw [if_neg (not_not_intro hpn)]
      by_cases h3 : k = 3
      · subst h3
        rw [if_pos rfl]
        have hpn2 : (ps.length : Int) = 2 := hpn
        obtain ⟨x, y, rfl⟩ : ∃ x y, ps = [x, y] := by
          match ps, hpn2 with
          | [x, y], _ => exact ⟨x, y, rfl⟩
          | [], h => simp at h
          | [x], h => simp at h
          | x :: y :: z :: r, h => simp at h; omega
        have hcx := hps x (by simp)
        have hcy := hps y (by simp)
        have hEx := edges_calls x hcx
        have hEy := edges_calls y hcy
        have hS := size_calls (.mk 3 n e [x, y]) ⟨hps, fun _ => rfl, fun h => by omega, fun h => absurd rfl h⟩
        have e0 : at0 (edgesL [x, y]) 0 = edgesP x := by rw [edgesL_map]; rfl
        have e1 : at0 (edgesL [x, y]) 1 = edgesP y := by rw [edgesL_map]; rfl
        have s0 : at0 (sizeL [x, y]) 0 = sizeP x := by rw [sizeL_map]; rfl
        have s1 : at0 (sizeL [x, y]) 1 = sizeP y := by rw [sizeL_map]; rfl
        rw [sizeP, if_pos rfl, s0, s1, plC_mk] at hS
        rw [e0, e1, s0, s1]
        have hx0 : at0 [x, y] 0 = x := rfl
        have hy0 : at0 [x, y] 1 = y := rfl
        obtain ⟨E, hE⟩ : ∃ E, edgesP x = E := ⟨_, rfl⟩
        obtain ⟨F, hF⟩ : ∃ F, edgesP y = F := ⟨_, rfl⟩
        obtain ⟨T, hT⟩ : ∃ T, (sizeP x - 1) * (sizeP y - 1) + 1 = T := ⟨_, rfl⟩
        rw [hE] at hEx ⊢
        rw [hF] at hEy ⊢
        rw [hT] at hS ⊢
        obtain ⟨k', n', e', ps'⟩ := x
        obtain ⟨k'', n'', e'', ps''⟩ := y
        simp only [plsA] at hS
        rw [plC_mk] at hEx hEy
        have hW : ∀ S, ACalls Try.prog 128 [intA1 3, intA1 1, intA1 4] S fun r σ' => σ' = S ∧ r = .c (.bool true) := fun S => by
          have := pwithin_calls 3 1 4 S
          rw [hk4] at this
          exact this
        refine ACalls_of_awp Try.func106 rfl Try.results106 ?_
        simp only [List.length_cons, List.length_nil, Try.ntmps106, Nat.reduceAdd, Nat.reduceSub, enterA]
        refine AWP_seq_k fun K hK => ?_
        (refine AWP_region ?_; simp -implicitDefEqProofs only [go_sem])
        refine hK _ _ ?_; clear hK K
        refine AWP_freezeP 1 rfl (by simp only [st0]; rfl) ?_
        simp only [ss0, List.set_cons_zero]
        (repeat' (first|(refine g_s fun K hK=>?_)|(refine g_b ?_)|(refine g_r ?_)|(refine g_k ?_;simp only[thenQ,blockQ])|(refine g_e ?_;simp only[thenQ,blockQ,↓reduceIte,Nat.reduceEqDiff])|(refine g_c (fun h=>?_) (fun h=>?_)<;>(try simp only[go_sem] at h)<;>(try exact g_f))|((first|refine g_t ?_|refine g_g ?_|refine g_U ?_|refine g_A ?_|refine (hW _).use ?_|refine g_q (fun τ=>hW _) ?_|refine (hpc _).use ?_|refine g_q (fun τ=>hpc _) ?_|refine (hEx _).use ?_|refine g_q (fun τ=>hEx _) ?_|refine (hEy _).use ?_|refine g_q (fun τ=>hEy _) ?_|refine (hS _).use ?_|refine g_q (fun τ=>hS _) ?_|refine g_W ?_);(try simp -implicitDefEqProofs only[go_sem,hx0, hy0]))|(with_reducible refine hK _ _ ?_;clear hK K)|(clear hK K;first|(with_reducible refine hK _ _ ?_;clear hK K)|(clear hK K;with_reducible refine hK _ _ ?_;clear hK K)|(clear hK K;clear hK K;with_reducible refine hK _ _ ?_;clear hK K))|(with_reducible refine splitB_intro (fun h=>?_) (fun h=>?_)<;>(try simp only[go_sem] at h)<;>(try exact g_f)<;>(try simp -implicitDefEqProofs only[go_sem,hx0, hy0]))|(with_reducible refine And.intro (fun h=>?_) (fun h=>?_)<;>(try simp only[go_sem] at h)<;>(try exact g_f))|(with_reducible refine And.intro ?_ ?_;· exact g_x)|(with_reducible intro h;(try simp only[go_sem] at h);(try exact g_f))))
        all_goals (refine CutQ_c rfl ?_; repeat first | rw [if_pos (by first | assumption | omega)] | rw [if_neg (by first | assumption | omega)])
      · rw [if_neg h3]
        by_cases h4 : k = 4
        · subst h4
          rw [if_pos rfl]
          have hpn2 : (ps.length : Int) = 1 := hpn
          obtain ⟨x, rfl⟩ : ∃ x, ps = [x] := by
            match ps, hpn2 with
            | [x], _ => exact ⟨x, rfl⟩
            | [], h => simp at h
            | x :: y :: r, h => simp at h; omega
          have hcx := hps x (by simp)
          have hEx := edges_calls x hcx
          have hSx := size_calls x (shape_of hcx)
          have hS := size_calls (.mk 4 n e [x]) ⟨hps, fun h => by omega, fun _ => rfl, fun _ h => absurd rfl h⟩
          have e0 : at0 (edgesL [x]) 0 = edgesP x := by rw [edgesL_map]; rfl
          have s0 : at0 (sizeL [x]) 0 = sizeP x := by rw [sizeL_map]; rfl
          have hsr := size_rng hcx
          rw [sizeP, if_neg (by decide), if_pos rfl, s0, plC_mk] at hS
          rw [e0, s0]
          have hx0 : at0 [x] 0 = x := rfl
          obtain ⟨E, hE⟩ : ∃ E, edgesP x = E := ⟨_, rfl⟩
          obtain ⟨G, hG⟩ : ∃ G, sizeP x = G := ⟨_, rfl⟩
          rw [hE] at hEx ⊢
          rw [hG] at hS hSx hsr ⊢
          obtain ⟨z1, z2, z3, z4⟩ := shl_one (s := G) (by omega) (by omega)
          obtain ⟨P2, hP2⟩ : ∃ P2 : Int, (2 : Int) ^ G.toNat = P2 := ⟨_, rfl⟩
          rw [hP2] at z1 z2 z3 z4 ⊢
          obtain ⟨k', n', e', ps'⟩ := x
          simp only [plsA] at hS
          rw [plC_mk] at hEx hSx
          have z1 : 1 * 2 ^ min G.toNat 64 = P2 := z1
          have z5 : I64 (P2 - 1) := by unfold I64; omega
          have hW : ∀ S, ACalls Try.prog 128 [intA1 4, intA1 1, intA1 4] S fun r σ' => σ' = S ∧ r = .c (.bool true) := fun S => by
            have := pwithin_calls 4 1 4 S
            rw [hk4] at this
            exact this
          refine ACalls_of_awp Try.func106 rfl Try.results106 ?_
          simp only [List.length_cons, List.length_nil, Try.ntmps106, Nat.reduceAdd, Nat.reduceSub, enterA]
          refine AWP_seq_k fun K hK => ?_
          (refine AWP_region ?_; simp -implicitDefEqProofs only [go_sem])
          refine hK _ _ ?_; clear hK K
          refine AWP_freezeP 1 rfl (by simp only [st0]; rfl) ?_
          simp only [ss0, List.set_cons_zero]
          (repeat' (first|(refine g_s fun K hK=>?_)|(refine g_b ?_)|(refine g_r ?_)|(refine g_k ?_;simp only[thenQ,blockQ])|(refine g_e ?_;simp only[thenQ,blockQ,↓reduceIte,Nat.reduceEqDiff])|(refine g_c (fun h=>?_) (fun h=>?_)<;>(try simp only[go_sem] at h)<;>(try exact g_f))|((first|refine g_t ?_|refine g_g ?_|refine g_U ?_|refine g_A ?_|refine (hW _).use ?_|refine g_q (fun τ=>hW _) ?_|refine (hpc _).use ?_|refine g_q (fun τ=>hpc _) ?_|refine (hEx _).use ?_|refine g_q (fun τ=>hEx _) ?_|refine g_W ?_);(try simp -implicitDefEqProofs only[go_sem,hx0]))|(with_reducible refine hK _ _ ?_;clear hK K)|(clear hK K;first|(with_reducible refine hK _ _ ?_;clear hK K)|(clear hK K;with_reducible refine hK _ _ ?_;clear hK K)|(clear hK K;clear hK K;with_reducible refine hK _ _ ?_;clear hK K))|(with_reducible refine splitB_intro (fun h=>?_) (fun h=>?_)<;>(try simp only[go_sem] at h)<;>(try exact g_f)<;>(try simp -implicitDefEqProofs only[go_sem,hx0]))|(with_reducible refine And.intro (fun h=>?_) (fun h=>?_)<;>(try simp only[go_sem] at h)<;>(try exact g_f))|(with_reducible refine And.intro ?_ ?_;· exact g_x)|(with_reducible intro h;(try simp only[go_sem] at h);(try exact g_f))))
          · refine CutQ_c rfl ?_
            rw [if_pos (by omega)]
          · refine CutQ_c rfl ?_
            rw [if_neg (by omega), if_pos (by omega)]
          have hJ := hK
          clear hK
          refine AWP_each e (fun _ r _ => (e.any fun x => !inR x 0 (P2 - 1)) = r.any fun x => !inR x 0 (P2 - 1)) (fun q _ _ => [(78, intA1 q)]) (fun _ _ τ => σ ++ (.dead :: τ)) () [] rfl rfl (ALe_of ?_) ?_ ?_
          · simp -implicitDefEqProofs only [go_sem]
          · rintro q r _ τ hq0 hq1 h5 L hL
            obtain ⟨v, hv⟩ : ∃ v, at0 e q = v := ⟨_, rfl⟩
            rw [hv, List.any_cons] at h5
            have hW2 := pwithin_calls v 0 (P2 - 1)
            simp -implicitDefEqProofs only [go_sem]
            cases hin : inR v 0 (P2 - 1)
            · rw [hin] at hW2 h5
              (repeat' (first|(refine g_s fun K hK=>?_)|(refine g_b ?_)|(refine g_r ?_)|(refine g_k ?_;simp only[thenQ,blockQ])|(refine g_e ?_;simp only[thenQ,blockQ,↓reduceIte,Nat.reduceEqDiff])|(refine g_c (fun h=>?_) (fun h=>?_)<;>(try simp only[go_sem] at h)<;>(try exact g_f))|((first|refine g_t ?_|refine g_g ?_|refine g_U ?_|refine g_A ?_|refine (hSx _).use ?_|refine g_q (fun τ=>hSx _) ?_|refine (hW2 _).use ?_|refine g_q (fun τ=>hW2 _) ?_|refine g_W ?_);(try simp -implicitDefEqProofs only[go_sem,hv, hx0, z1, z4, z5]))|(with_reducible refine hK _ _ ?_;clear hK K)|(clear hK K;first|(with_reducible refine hK _ _ ?_;clear hK K)|(clear hK K;with_reducible refine hK _ _ ?_;clear hK K)|(clear hK K;clear hK K;with_reducible refine hK _ _ ?_;clear hK K))|(with_reducible refine splitB_intro (fun h=>?_) (fun h=>?_)<;>(try simp only[go_sem] at h)<;>(try exact g_f)<;>(try simp -implicitDefEqProofs only[go_sem,hv, hx0, z1, z4, z5]))|(with_reducible refine And.intro (fun h=>?_) (fun h=>?_)<;>(try simp only[go_sem] at h)<;>(try exact g_f))|(with_reducible refine And.intro ?_ ?_;· exact g_x)|(with_reducible intro h;(try simp only[go_sem] at h);(try exact g_f))))
              refine CutQ_c rfl ?_
              rw [if_neg (by omega), if_neg (by omega), h5, Bool.not_false, Bool.true_or, if_pos rfl]
            · rw [hin] at hW2 h5
              (repeat' (first|(refine g_s fun K hK=>?_)|(refine g_b ?_)|(refine g_r ?_)|(refine g_k ?_;simp only[thenQ,blockQ])|(refine g_e ?_;simp only[thenQ,blockQ,↓reduceIte,Nat.reduceEqDiff])|(refine g_c (fun h=>?_) (fun h=>?_)<;>(try simp only[go_sem] at h)<;>(try exact g_f))|((first|refine g_t ?_|refine g_g ?_|refine g_U ?_|refine g_A ?_|refine (hSx _).use ?_|refine g_q (fun τ=>hSx _) ?_|refine (hW2 _).use ?_|refine g_q (fun τ=>hW2 _) ?_|refine g_W ?_);(try simp -implicitDefEqProofs only[go_sem,hv, hx0, z1, z4, z5]))|(with_reducible refine hK _ _ ?_;clear hK K)|(clear hK K;first|(with_reducible refine hK _ _ ?_;clear hK K)|(clear hK K;with_reducible refine hK _ _ ?_;clear hK K)|(clear hK K;clear hK K;with_reducible refine hK _ _ ?_;clear hK K))|(with_reducible refine splitB_intro (fun h=>?_) (fun h=>?_)<;>(try simp only[go_sem] at h)<;>(try exact g_f)<;>(try simp -implicitDefEqProofs only[go_sem,hv, hx0, z1, z4, z5]))|(with_reducible refine And.intro (fun h=>?_) (fun h=>?_)<;>(try simp only[go_sem] at h)<;>(try exact g_f))|(with_reducible refine And.intro ?_ ?_;· exact g_x)|(with_reducible intro h;(try simp only[go_sem] at h);(try exact g_f))))
              refine hL () τ _ _ (by rw [h5, Bool.not_true, Bool.false_or]) (ALe_of ?_) rfl
              simp -implicitDefEqProofs only [go_sem]
          · rintro q _ τ hq h5 L
            simp -implicitDefEqProofs only [go_sem]
            (repeat' (first|(refine g_s fun K hK=>?_)|(refine g_b ?_)|(refine g_r ?_)|(refine g_k ?_;simp only[thenQ,blockQ])|(refine g_e ?_;simp only[thenQ,blockQ,↓reduceIte,Nat.reduceEqDiff])|(refine g_c (fun h=>?_) (fun h=>?_)<;>(try simp only[go_sem] at h)<;>(try exact g_f))|((first|refine g_t ?_|refine g_g ?_|refine g_U ?_|refine g_A ?_|refine g_W ?_);(try simp -implicitDefEqProofs only[go_sem]))|(with_reducible refine hK _ _ ?_;clear hK K)|(clear hK K;first|(with_reducible refine hK _ _ ?_;clear hK K)|(clear hK K;with_reducible refine hK _ _ ?_;clear hK K)|(clear hK K;clear hK K;with_reducible refine hK _ _ ?_;clear hK K))|(with_reducible refine splitB_intro (fun h=>?_) (fun h=>?_)<;>(try simp only[go_sem] at h)<;>(try exact g_f)<;>(try simp -implicitDefEqProofs only[go_sem]))|(with_reducible refine And.intro (fun h=>?_) (fun h=>?_)<;>(try simp only[go_sem] at h)<;>(try exact g_f))|(with_reducible refine And.intro ?_ ?_;· exact g_x)|(with_reducible intro h;(try simp only[go_sem] at h);(try exact g_f))))
            refine hJ _ _ ?_
            clear hJ
            (repeat' (first|(refine g_s fun K hK=>?_)|(refine g_b ?_)|(refine g_r ?_)|(refine g_k ?_;simp only[thenQ,blockQ])|(refine g_e ?_;simp only[thenQ,blockQ,↓reduceIte,Nat.reduceEqDiff])|(refine g_c (fun h=>?_) (fun h=>?_)<;>(try simp only[go_sem] at h)<;>(try exact g_f))|((first|refine g_t ?_|refine g_g ?_|refine g_U ?_|refine g_A ?_|refine (hS _).use ?_|refine g_q (fun τ=>hS _) ?_|refine g_W ?_);(try simp -implicitDefEqProofs only[go_sem]))|(with_reducible refine hK _ _ ?_;clear hK K)|(clear hK K;first|(with_reducible refine hK _ _ ?_;clear hK K)|(clear hK K;with_reducible refine hK _ _ ?_;clear hK K)|(clear hK K;clear hK K;with_reducible refine hK _ _ ?_;clear hK K))|(with_reducible refine splitB_intro (fun h=>?_) (fun h=>?_)<;>(try simp only[go_sem] at h)<;>(try exact g_f)<;>(try simp -implicitDefEqProofs only[go_sem]))|(with_reducible refine And.intro (fun h=>?_) (fun h=>?_)<;>(try simp only[go_sem] at h)<;>(try exact g_f))|(with_reducible refine And.intro ?_ ?_;· exact g_x)|(with_reducible intro h;(try simp only[go_sem] at h);(try exact g_f))))
            refine CutQ_c rfl ?_
            rw [if_neg (by omega), if_neg (by omega), h5, List.any_nil, if_neg (by decide)]
        · rw [if_neg h4]
          have hkn : k = 1 ∨ k = 2 := by omega
          have hW : ∀ S, ACalls Try.prog 128 [intA1 k, intA1 1, intA1 4] S fun r σ' => σ' = S ∧ r = .c (.bool true) := fun S => by
            have := pwithin_calls k 1 4 S
            rw [hk4] at this
            exact this
          have hN := pwithin_calls n 1 22
          cases hin : inR n 1 22
          · rw [hin] at hN
            rw [if_pos (by decide)]
            refine ACalls_of_awp Try.func106 rfl Try.results106 ?_
            simp only [List.length_cons, List.length_nil, Try.ntmps106, Nat.reduceAdd, Nat.reduceSub, enterA]
            refine AWP_seq_k fun K hK => ?_
            (refine AWP_region ?_; simp -implicitDefEqProofs only [go_sem])
            refine hK _ _ ?_; clear hK K
            refine AWP_freezeP 1 rfl (by simp only [st0]; rfl) ?_
            simp only [ss0, List.set_cons_zero]
            (repeat' (first|(refine g_s fun K hK=>?_)|(refine g_b ?_)|(refine g_r ?_)|(refine g_k ?_;simp only[thenQ,blockQ])|(refine g_e ?_;simp only[thenQ,blockQ,↓reduceIte,Nat.reduceEqDiff])|(refine g_c (fun h=>?_) (fun h=>?_)<;>(try simp only[go_sem] at h)<;>(try exact g_f))|((first|refine g_t ?_|refine g_g ?_|refine g_U ?_|refine g_A ?_|refine (hW _).use ?_|refine g_q (fun τ=>hW _) ?_|refine (hpc _).use ?_|refine g_q (fun τ=>hpc _) ?_|refine (hN _).use ?_|refine g_q (fun τ=>hN _) ?_|refine g_W ?_);(try simp -implicitDefEqProofs only[go_sem,h3, h4, hpn]))|(with_reducible refine hK _ _ ?_;clear hK K)|(clear hK K;first|(with_reducible refine hK _ _ ?_;clear hK K)|(clear hK K;with_reducible refine hK _ _ ?_;clear hK K)|(clear hK K;clear hK K;with_reducible refine hK _ _ ?_;clear hK K))|(with_reducible refine splitB_intro (fun h=>?_) (fun h=>?_)<;>(try simp only[go_sem] at h)<;>(try exact g_f)<;>(try simp -implicitDefEqProofs only[go_sem,h3, h4, hpn]))|(with_reducible refine And.intro (fun h=>?_) (fun h=>?_)<;>(try simp only[go_sem] at h)<;>(try exact g_f))|(with_reducible refine And.intro ?_ ?_;· exact g_x)|(with_reducible intro h;(try simp only[go_sem] at h);(try exact g_f))))
            exact CutQ_c rfl rfl
          · rw [hin] at hN
            rw [if_neg (by decide)]
            have hnr := inR_iff.1 hin
            have hS := size_calls (.mk k n e ps) ⟨hps, fun h => absurd h h3, fun h => absurd h h4, fun _ _ => hnr⟩
            rw [sizeP, if_neg h3, if_neg h4, plC_mk] at hS
            simp only [plsA] at hS
            refine ACalls_of_awp Try.func106 rfl Try.results106 ?_
            simp only [List.length_cons, List.length_nil, Try.ntmps106, Nat.reduceAdd, Nat.reduceSub, enterA]
            refine AWP_seq_k fun K hK => ?_
            (refine AWP_region ?_; simp -implicitDefEqProofs only [go_sem])
            refine hK _ _ ?_; clear hK K
            refine AWP_freezeP 1 rfl (by simp only [st0]; rfl) ?_
            simp only [ss0, List.set_cons_zero]
            (repeat' (first|(refine g_s fun K hK=>?_)|(refine g_b ?_)|(refine g_r ?_)|(refine g_k ?_;simp only[thenQ,blockQ])|(refine g_e ?_;simp only[thenQ,blockQ,↓reduceIte,Nat.reduceEqDiff])|(refine g_c (fun h=>?_) (fun h=>?_)<;>(try simp only[go_sem] at h)<;>(try exact g_f))|((first|refine g_t ?_|refine g_g ?_|refine g_U ?_|refine g_A ?_|refine (hW _).use ?_|refine g_q (fun τ=>hW _) ?_|refine (hpc _).use ?_|refine g_q (fun τ=>hpc _) ?_|refine (hN _).use ?_|refine g_q (fun τ=>hN _) ?_|refine g_W ?_);(try simp -implicitDefEqProofs only[go_sem,h3, h4, hpn]))|(with_reducible refine hK _ _ ?_;clear hK K)|(clear hK K;first|(with_reducible refine hK _ _ ?_;clear hK K)|(clear hK K;with_reducible refine hK _ _ ?_;clear hK K)|(clear hK K;clear hK K;with_reducible refine hK _ _ ?_;clear hK K))|(with_reducible refine splitB_intro (fun h=>?_) (fun h=>?_)<;>(try simp only[go_sem] at h)<;>(try exact g_f)<;>(try simp -implicitDefEqProofs only[go_sem,h3, h4, hpn]))|(with_reducible refine And.intro (fun h=>?_) (fun h=>?_)<;>(try simp only[go_sem] at h)<;>(try exact g_f))|(with_reducible refine And.intro ?_ ?_;· exact g_x)|(with_reducible intro h;(try simp only[go_sem] at h);(try exact g_f))))
            have hJ := hK
            clear hK
            refine AWP_each e (fun _ r _ => (e.any fun x => !inR x 1 n) = r.any fun x => !inR x 1 n) (fun q _ _ => [(29, intA1 q)]) (fun _ _ τ => σ ++ (.dead :: τ)) () [] rfl rfl (ALe_of ?_) ?_ ?_
            · simp -implicitDefEqProofs only [go_sem]
            · rintro q r _ τ hq0 hq1 h5 L hL
              obtain ⟨v, hv⟩ : ∃ v, at0 e q = v := ⟨_, rfl⟩
              rw [hv, List.any_cons] at h5
              have hW2 := pwithin_calls v 1 n
              simp -implicitDefEqProofs only [go_sem]
              cases hin2 : inR v 1 n
              · rw [hin2] at hW2 h5
                (repeat' (first|(refine g_s fun K hK=>?_)|(refine g_b ?_)|(refine g_r ?_)|(refine g_k ?_;simp only[thenQ,blockQ])|(refine g_e ?_;simp only[thenQ,blockQ,↓reduceIte,Nat.reduceEqDiff])|(refine g_c (fun h=>?_) (fun h=>?_)<;>(try simp only[go_sem] at h)<;>(try exact g_f))|((first|refine g_t ?_|refine g_g ?_|refine g_U ?_|refine g_A ?_|refine (hW2 _).use ?_|refine g_q (fun τ=>hW2 _) ?_|refine g_W ?_);(try simp -implicitDefEqProofs only[go_sem,hv]))|(with_reducible refine hK _ _ ?_;clear hK K)|(clear hK K;first|(with_reducible refine hK _ _ ?_;clear hK K)|(clear hK K;with_reducible refine hK _ _ ?_;clear hK K)|(clear hK K;clear hK K;with_reducible refine hK _ _ ?_;clear hK K))|(with_reducible refine splitB_intro (fun h=>?_) (fun h=>?_)<;>(try simp only[go_sem] at h)<;>(try exact g_f)<;>(try simp -implicitDefEqProofs only[go_sem,hv]))|(with_reducible refine And.intro (fun h=>?_) (fun h=>?_)<;>(try simp only[go_sem] at h)<;>(try exact g_f))|(with_reducible refine And.intro ?_ ?_;· exact g_x)|(with_reducible intro h;(try simp only[go_sem] at h);(try exact g_f))))
                refine CutQ_c rfl ?_
                rw [h5, Bool.not_false, Bool.true_or, if_pos rfl]
              · rw [hin2] at hW2 h5
                (repeat' (first|(refine g_s fun K hK=>?_)|(refine g_b ?_)|(refine g_r ?_)|(refine g_k ?_;simp only[thenQ,blockQ])|(refine g_e ?_;simp only[thenQ,blockQ,↓reduceIte,Nat.reduceEqDiff])|(refine g_c (fun h=>?_) (fun h=>?_)<;>(try simp only[go_sem] at h)<;>(try exact g_f))|((first|refine g_t ?_|refine g_g ?_|refine g_U ?_|refine g_A ?_|refine (hW2 _).use ?_|refine g_q (fun τ=>hW2 _) ?_|refine g_W ?_);(try simp -implicitDefEqProofs only[go_sem,hv]))|(with_reducible refine hK _ _ ?_;clear hK K)|(clear hK K;first|(with_reducible refine hK _ _ ?_;clear hK K)|(clear hK K;with_reducible refine hK _ _ ?_;clear hK K)|(clear hK K;clear hK K;with_reducible refine hK _ _ ?_;clear hK K))|(with_reducible refine splitB_intro (fun h=>?_) (fun h=>?_)<;>(try simp only[go_sem] at h)<;>(try exact g_f)<;>(try simp -implicitDefEqProofs only[go_sem,hv]))|(with_reducible refine And.intro (fun h=>?_) (fun h=>?_)<;>(try simp only[go_sem] at h)<;>(try exact g_f))|(with_reducible refine And.intro ?_ ?_;· exact g_x)|(with_reducible intro h;(try simp only[go_sem] at h);(try exact g_f))))
                refine hL () τ _ _ (by rw [h5, Bool.not_true, Bool.false_or]) (ALe_of ?_) rfl
                simp -implicitDefEqProofs only [go_sem]
            · rintro q _ τ hq h5 L
              simp -implicitDefEqProofs only [go_sem]
              (repeat' (first|(refine g_s fun K hK=>?_)|(refine g_b ?_)|(refine g_r ?_)|(refine g_k ?_;simp only[thenQ,blockQ])|(refine g_e ?_;simp only[thenQ,blockQ,↓reduceIte,Nat.reduceEqDiff])|(refine g_c (fun h=>?_) (fun h=>?_)<;>(try simp only[go_sem] at h)<;>(try exact g_f))|((first|refine g_t ?_|refine g_g ?_|refine g_U ?_|refine g_A ?_|refine g_W ?_);(try simp -implicitDefEqProofs only[go_sem]))|(with_reducible refine hK _ _ ?_;clear hK K)|(clear hK K;first|(with_reducible refine hK _ _ ?_;clear hK K)|(clear hK K;with_reducible refine hK _ _ ?_;clear hK K)|(clear hK K;clear hK K;with_reducible refine hK _ _ ?_;clear hK K))|(with_reducible refine splitB_intro (fun h=>?_) (fun h=>?_)<;>(try simp only[go_sem] at h)<;>(try exact g_f)<;>(try simp -implicitDefEqProofs only[go_sem]))|(with_reducible refine And.intro (fun h=>?_) (fun h=>?_)<;>(try simp only[go_sem] at h)<;>(try exact g_f))|(with_reducible refine And.intro ?_ ?_;· exact g_x)|(with_reducible intro h;(try simp only[go_sem] at h);(try exact g_f))))
              refine hJ _ _ ?_
              clear hJ
              (repeat' (first|(refine g_s fun K hK=>?_)|(refine g_b ?_)|(refine g_r ?_)|(refine g_k ?_;simp only[thenQ,blockQ])|(refine g_e ?_;simp only[thenQ,blockQ,↓reduceIte,Nat.reduceEqDiff])|(refine g_c (fun h=>?_) (fun h=>?_)<;>(try simp only[go_sem] at h)<;>(try exact g_f))|((first|refine g_t ?_|refine g_g ?_|refine g_U ?_|refine g_A ?_|refine (hS _).use ?_|refine g_q (fun τ=>hS _) ?_|refine g_W ?_);(try simp -implicitDefEqProofs only[go_sem,h3, h4]))|(with_reducible refine hK _ _ ?_;clear hK K)|(clear hK K;first|(with_reducible refine hK _ _ ?_;clear hK K)|(clear hK K;with_reducible refine hK _ _ ?_;clear hK K)|(clear hK K;clear hK K;with_reducible refine hK _ _ ?_;clear hK K))|(with_reducible refine splitB_intro (fun h=>?_) (fun h=>?_)<;>(try simp only[go_sem] at h)<;>(try exact g_f)<;>(try simp -implicitDefEqProofs only[go_sem,h3, h4]))|(with_reducible refine And.intro (fun h=>?_) (fun h=>?_)<;>(try simp only[go_sem] at h)<;>(try exact g_f))|(with_reducible refine And.intro ?_ ?_;· exact g_x)|(with_reducible intro h;(try simp only[go_sem] at h);(try exact g_f))))
              refine CutQ_c rfl ?_
              rw [h5, List.any_nil, if_neg (by decide)]
    · rw [if_pos hpn]
      have hW := fun S => pwithin_calls k 1 4 S
      rw [hk4] at hW
      refine ACalls_of_awp Try.func106 rfl Try.results106 ?_
      simp only [List.length_cons, List.length_nil, Try.ntmps106, Nat.reduceAdd, Nat.reduceSub, enterA]
      refine AWP_seq_k fun K hK => ?_
      (refine AWP_region ?_; simp -implicitDefEqProofs only [go_sem])
      refine hK _ _ ?_; clear hK K
      refine AWP_freezeP 1 rfl (by simp only [st0]; rfl) ?_
      simp only [ss0, List.set_cons_zero]
      (repeat' (first|(refine g_s fun K hK=>?_)|(refine g_b ?_)|(refine g_r ?_)|(refine g_k ?_;simp only[thenQ,blockQ])|(refine g_e ?_;simp only[thenQ,blockQ,↓reduceIte,Nat.reduceEqDiff])|(refine g_c (fun h=>?_) (fun h=>?_)<;>(try simp only[go_sem] at h)<;>(try exact g_f))|((first|refine g_t ?_|refine g_g ?_|refine g_U ?_|refine g_A ?_|refine (hW _).use ?_|refine g_q (fun τ=>hW _) ?_|refine (hpc _).use ?_|refine g_q (fun τ=>hpc _) ?_|refine g_W ?_);(try simp -implicitDefEqProofs only[go_sem,hpn]))|(with_reducible refine hK _ _ ?_;clear hK K)|(clear hK K;first|(with_reducible refine hK _ _ ?_;clear hK K)|(clear hK K;with_reducible refine hK _ _ ?_;clear hK K)|(clear hK K;clear hK K;with_reducible refine hK _ _ ?_;clear hK K))|(with_reducible refine splitB_intro (fun h=>?_) (fun h=>?_)<;>(try simp only[go_sem] at h)<;>(try exact g_f)<;>(try simp -implicitDefEqProofs only[go_sem,hpn]))|(with_reducible refine And.intro (fun h=>?_) (fun h=>?_)<;>(try simp only[go_sem] at h)<;>(try exact g_f))|(with_reducible refine And.intro ?_ ?_;· exact g_x)|(with_reducible intro h;(try simp only[go_sem] at h);(try exact g_f))))
      exact CutQ_c rfl rfl
  · have hk0 : inR k 1 4 = false := by simpa using hk4
    have hW := fun S => pwithin_calls k 1 4 S
    rw [hk0] at hW
    rw [hk0, if_pos (by decide)]
    refine ACalls_of_awp Try.func106 rfl Try.results106 ?_
    simp only [List.length_cons, List.length_nil, Try.ntmps106, Nat.reduceAdd, Nat.reduceSub, enterA]
    (repeat' (first|(refine g_s fun K hK=>?_)|(refine g_b ?_)|(refine g_r ?_)|(refine g_k ?_;simp only[thenQ,blockQ])|(refine g_e ?_;simp only[thenQ,blockQ,↓reduceIte,Nat.reduceEqDiff])|(refine g_c (fun h=>?_) (fun h=>?_)<;>(try simp only[go_sem] at h)<;>(try exact g_f))|((first|refine g_t ?_|refine g_g ?_|refine g_U ?_|refine g_A ?_|refine (hW _).use ?_|refine g_q (fun τ=>hW _) ?_|refine g_W ?_);(try simp -implicitDefEqProofs only[go_sem]))|(with_reducible refine hK _ _ ?_;clear hK K)|(clear hK K;first|(with_reducible refine hK _ _ ?_;clear hK K)|(clear hK K;with_reducible refine hK _ _ ?_;clear hK K)|(clear hK K;clear hK K;with_reducible refine hK _ _ ?_;clear hK K))|(with_reducible refine splitB_intro (fun h=>?_) (fun h=>?_)<;>(try simp only[go_sem] at h)<;>(try exact g_f)<;>(try simp -implicitDefEqProofs only[go_sem]))|(with_reducible refine And.intro (fun h=>?_) (fun h=>?_)<;>(try simp only[go_sem] at h)<;>(try exact g_f))|(with_reducible refine And.intro ?_ ?_;· exact g_x)|(with_reducible intro h;(try simp only[go_sem] at h);(try exact g_f))))
    exact CutQ_c rfl rfl
end Go.Proofs.Ytephecognbbaoaa
