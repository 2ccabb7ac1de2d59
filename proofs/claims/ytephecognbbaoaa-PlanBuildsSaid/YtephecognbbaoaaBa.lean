/- Plans: how deep, how wide they are; what is wrong with one: as the program finds it. -/
import Derived.Test.YtephecognbbaoaaAb
import Derived.Test.YtephecognbbaoaaVs
namespace Go.Proofs.Ytephecognbbaoaa
open Go
set_option linter.all false
set_option maxRecDepth 100000
set_option maxHeartbeats 4000000

mutual
def plC : Pl → List AV
  | .mk k n e ps => [intA1 k, intA1 n, intsA e, .sl (plCs ps)]
def plCs : List Pl → List (List AV)
  | [] => []
  | x :: r => plC x :: plCs r
end
theorem plCs_map : ∀ ps : List Pl, plCs ps = ps.map plC
  | [] => by rw [plCs]; rfl
  | x :: r => by rw [plCs, plCs_map r]; rfl
def plsA (ps : List Pl) : AV := .sl (ps.map plC)
theorem plC_mk (k n : Int) (e : List Int) (ps : List Pl) : plC (.mk k n e ps) = [intA1 k, intA1 n, intsA e, plsA ps] := by rw [plC, plCs_map]; rfl
theorem plC_length (p : Pl) : (plC p).length = 4 := by
  obtain ⟨k, n, e, ps⟩ := p
  rw [plC_mk]
  rfl
theorem plC_ones (p : Pl) : (plC p).all oneA = true := by
  obtain ⟨k, n, e, ps⟩ := p
  rw [plC_mk]
  rfl
theorem plC_len (l : List Pl) : (∀ e', e' ∈ l.map plC → e'.length = 4) = True := len_map (f := plC) plC_length l
theorem plC_one (l : List Pl) : (∀ e', e' ∈ l.map plC → e'.all oneA = true) = True := one_map (f := plC) plC_ones l
attribute [go_sem] plC_mk plsA plC_len plC_one plC_length

/-- What is known of a plan that came in. -/
inductive PlOk : Pl → Prop
  | mk (k n : Int) (e : List Int) (ps : List Pl) (hk : I64 k) (hn : I64 n) (he : e.length ≤ 17592186044000) (hev : ∀ v ∈ e, I64 v) (hl : ps.length ≤ 2199023255488) (hp : ∀ x ∈ ps, PlOk x) : PlOk (.mk k n e ps)

mutual
theorem Pl.ind {M : Pl → Prop} (h : ∀ k n e ps, (∀ x ∈ ps, M x) → M (.mk k n e ps)) : ∀ p, M p
  | .mk k n e ps => h k n e ps (Pl.inds h ps)
theorem Pl.inds {M : Pl → Prop} (h : ∀ k n e ps, (∀ x ∈ ps, M x) → M (.mk k n e ps)) : ∀ ps : List Pl, ∀ x ∈ ps, M x
  | [], x, hx => by cases hx
  | y :: r, x, hx => by
    rcases List.mem_cons.1 hx with e | hx
    · rw [e]; exact Pl.ind h y
    · exact Pl.inds h r x hx
end

theorem deep_calls : ∀ (l : Nat), l ≤ 4 → ∀ (p : Pl), PlOk p → ∀ σ : Store, ACalls Try.prog 71 [.agg (plC p), intA1 l] σ fun r σ' => σ' = σ ∧ r = intA1 (deepP p l)
  | 0, _, .mk k n e ps, ok, σ => by
    cases ok with
    | mk _ _ _ _ hk hn he hev hpl hp =>
    rw [deepP_mk, deepL_zero, plC_mk]
    have hz0 : ((0 : Nat) : Int) = 0 := rfl
    rw [hz0]
    refine ACalls.cutX ?_
    refine ACalls_of_awp Try.func71 rfl Try.results71 ?_
    simp only [List.length_cons, List.length_nil, Try.ntmps71, Nat.reduceAdd, Nat.reduceSub, enterA]
    refine AWP_seq_k fun K hK => ?_
    (refine AWP_region ?_; simp -implicitDefEqProofs only [go_sem])
    refine hK _ _ ?_; clear hK K
    refine AWP_freezeP 2 rfl (by simp only [st0]; rfl) ?_
    simp only [ss0, List.set_cons_zero]
    (repeat' (first|(refine g_s fun K hK=>?_)|(refine g_b ?_)|(refine g_r ?_)|(refine g_k ?_;simp only[thenQ,blockQ])|(refine g_e ?_;simp only[thenQ,blockQ,↓reduceIte,Nat.reduceEqDiff])|(refine g_c (fun h=>?_) (fun h=>?_)<;>(try simp only[go_sem] at h)<;>(try exact g_f))|((first|refine g_t ?_|refine g_g ?_|refine g_U ?_|refine g_A ?_|refine g_W ?_);(try simp -implicitDefEqProofs only[go_sem]))|(with_reducible refine hK _ _ ?_;clear hK K)|(clear hK K;first|(with_reducible refine hK _ _ ?_;clear hK K)|(clear hK K;with_reducible refine hK _ _ ?_;clear hK K)|(clear hK K;clear hK K;with_reducible refine hK _ _ ?_;clear hK K))|(with_reducible refine splitB_intro (fun h=>?_) (fun h=>?_)<;>(try simp only[go_sem] at h)<;>(try exact g_f)<;>(try simp -implicitDefEqProofs only[go_sem]))|(with_reducible refine And.intro (fun h=>?_) (fun h=>?_)<;>(try simp only[go_sem] at h)<;>(try exact g_f))|(with_reducible refine And.intro ?_ ?_;· exact g_x)|(with_reducible intro h;(try simp only[go_sem] at h);(try exact g_f))))
    have hJ := hK
    clear hK
    refine AWP_each ps (fun _ _ _ => True) (fun k _ _ => [(11, intA1 k), (5, intA1 0)]) (fun _ _ τ => σ ++ (.dead :: τ)) () [] trivial rfl (ALe_of ?_) ?_ ?_
    · simp -implicitDefEqProofs only [go_sem]
    · rintro q r _ τ hq0 hq1 _ L hL
      have hmem := at0_mem ps hq0 hq1
      obtain ⟨x, hx⟩ : ∃ x, at0 ps q = x := ⟨_, rfl⟩
      obtain ⟨k', n', e', ps'⟩ := x
      simp -implicitDefEqProofs only [go_sem]
      (repeat' (first|(refine g_s fun K hK=>?_)|(refine g_b ?_)|(refine g_r ?_)|(refine g_k ?_;simp only[thenQ,blockQ])|(refine g_e ?_;simp only[thenQ,blockQ,↓reduceIte,Nat.reduceEqDiff])|(refine g_c (fun h=>?_) (fun h=>?_)<;>(try simp only[go_sem] at h)<;>(try exact g_f))|((first|refine g_t ?_|refine g_g ?_|refine g_U ?_|refine g_A ?_|refine g_W ?_);(try simp -implicitDefEqProofs only[go_sem,hx]))|(with_reducible refine hK _ _ ?_;clear hK K)|(clear hK K;first|(with_reducible refine hK _ _ ?_;clear hK K)|(clear hK K;with_reducible refine hK _ _ ?_;clear hK K)|(clear hK K;clear hK K;with_reducible refine hK _ _ ?_;clear hK K))|(with_reducible refine splitB_intro (fun h=>?_) (fun h=>?_)<;>(try simp only[go_sem] at h)<;>(try exact g_f)<;>(try simp -implicitDefEqProofs only[go_sem,hx]))|(with_reducible refine And.intro (fun h=>?_) (fun h=>?_)<;>(try simp only[go_sem] at h)<;>(try exact g_f))|(with_reducible refine And.intro ?_ ?_;· exact g_x)|(with_reducible intro h;(try simp only[go_sem] at h);(try exact g_f))))
      refine hJ _ _ ?_
      clear hJ
      (repeat' (first|(refine g_s fun K hK=>?_)|(refine g_b ?_)|(refine g_r ?_)|(refine g_k ?_;simp only[thenQ,blockQ])|(refine g_e ?_;simp only[thenQ,blockQ,↓reduceIte,Nat.reduceEqDiff])|(refine g_c (fun h=>?_) (fun h=>?_)<;>(try simp only[go_sem] at h)<;>(try exact g_f))|((first|refine g_t ?_|refine g_g ?_|refine g_U ?_|refine g_A ?_|refine g_W ?_);(try simp -implicitDefEqProofs only[go_sem]))|(with_reducible refine hK _ _ ?_;clear hK K)|(clear hK K;first|(with_reducible refine hK _ _ ?_;clear hK K)|(clear hK K;with_reducible refine hK _ _ ?_;clear hK K)|(clear hK K;clear hK K;with_reducible refine hK _ _ ?_;clear hK K))|(with_reducible refine splitB_intro (fun h=>?_) (fun h=>?_)<;>(try simp only[go_sem] at h)<;>(try exact g_f)<;>(try simp -implicitDefEqProofs only[go_sem]))|(with_reducible refine And.intro (fun h=>?_) (fun h=>?_)<;>(try simp only[go_sem] at h)<;>(try exact g_f))|(with_reducible refine And.intro ?_ ?_;· exact g_x)|(with_reducible intro h;(try simp only[go_sem] at h);(try exact g_f))))
      exact CutQ_c rfl rfl
    · rintro q _ τ hq _ L
      simp -implicitDefEqProofs only [go_sem]
      (repeat' (first|(refine g_s fun K hK=>?_)|(refine g_b ?_)|(refine g_r ?_)|(refine g_k ?_;simp only[thenQ,blockQ])|(refine g_e ?_;simp only[thenQ,blockQ,↓reduceIte,Nat.reduceEqDiff])|(refine g_c (fun h=>?_) (fun h=>?_)<;>(try simp only[go_sem] at h)<;>(try exact g_f))|((first|refine g_t ?_|refine g_g ?_|refine g_U ?_|refine g_A ?_|refine g_W ?_);(try simp -implicitDefEqProofs only[go_sem]))|(with_reducible refine hK _ _ ?_;clear hK K)|(clear hK K;first|(with_reducible refine hK _ _ ?_;clear hK K)|(clear hK K;with_reducible refine hK _ _ ?_;clear hK K)|(clear hK K;clear hK K;with_reducible refine hK _ _ ?_;clear hK K))|(with_reducible refine splitB_intro (fun h=>?_) (fun h=>?_)<;>(try simp only[go_sem] at h)<;>(try exact g_f)<;>(try simp -implicitDefEqProofs only[go_sem]))|(with_reducible refine And.intro (fun h=>?_) (fun h=>?_)<;>(try simp only[go_sem] at h)<;>(try exact g_f))|(with_reducible refine And.intro ?_ ?_;· exact g_x)|(with_reducible intro h;(try simp only[go_sem] at h);(try exact g_f))))
      refine hJ _ _ ?_
      clear hJ
      (repeat' (first|(refine g_s fun K hK=>?_)|(refine g_b ?_)|(refine g_r ?_)|(refine g_k ?_;simp only[thenQ,blockQ])|(refine g_e ?_;simp only[thenQ,blockQ,↓reduceIte,Nat.reduceEqDiff])|(refine g_c (fun h=>?_) (fun h=>?_)<;>(try simp only[go_sem] at h)<;>(try exact g_f))|((first|refine g_t ?_|refine g_g ?_|refine g_U ?_|refine g_A ?_|refine g_W ?_);(try simp -implicitDefEqProofs only[go_sem]))|(with_reducible refine hK _ _ ?_;clear hK K)|(clear hK K;first|(with_reducible refine hK _ _ ?_;clear hK K)|(clear hK K;with_reducible refine hK _ _ ?_;clear hK K)|(clear hK K;clear hK K;with_reducible refine hK _ _ ?_;clear hK K))|(with_reducible refine splitB_intro (fun h=>?_) (fun h=>?_)<;>(try simp only[go_sem] at h)<;>(try exact g_f)<;>(try simp -implicitDefEqProofs only[go_sem]))|(with_reducible refine And.intro (fun h=>?_) (fun h=>?_)<;>(try simp only[go_sem] at h)<;>(try exact g_f))|(with_reducible refine And.intro ?_ ?_;· exact g_x)|(with_reducible intro h;(try simp only[go_sem] at h);(try exact g_f))))
      exact CutQ_c rfl rfl
  | l + 1, hl4, .mk k n e ps, ok, σ => by
    cases ok with
    | mk _ _ _ _ hk hn he hev hpl hp =>
    have ih := deep_calls l (by omega)
    have hrng := (deep_rng l).1
    rw [deepP_mk, plC_mk]
    have hcast : ((l + 1 : Nat) : Int) - 1 = (l : Int) := by omega
    obtain ⟨m1, hm1⟩ : ∃ m : Int, ((l + 1 : Nat) : Int) = m := ⟨_, rfl⟩
    have hm0 : ¬ m1 = 0 := by omega
    have hm2 : I64 (m1 - 1) := by unfold I64; omega
    have hm3 : m1 - 1 = (l : Int) := by omega
    rw [hm1]
    obtain ⟨V, hV⟩ : ∃ V, deepL ps (l + 1) = V := ⟨_, rfl⟩
    have hV4 := (deep_rng (l + 1)).2 ps
    rw [hV] at hV4 ⊢
    refine ACalls.cutX ?_
    refine ACalls_of_awp Try.func71 rfl Try.results71 ?_
    simp only [List.length_cons, List.length_nil, Try.ntmps71, Nat.reduceAdd, Nat.reduceSub, enterA]
    refine AWP_seq_k fun K hK => ?_
    (refine AWP_region ?_; simp -implicitDefEqProofs only [go_sem])
    refine hK _ _ ?_; clear hK K
    refine AWP_freezeP 2 rfl (by simp only [st0]; rfl) ?_
    simp only [ss0, List.set_cons_zero]
    (repeat' (first|(refine g_s fun K hK=>?_)|(refine g_b ?_)|(refine g_r ?_)|(refine g_k ?_;simp only[thenQ,blockQ])|(refine g_e ?_;simp only[thenQ,blockQ,↓reduceIte,Nat.reduceEqDiff])|(refine g_c (fun h=>?_) (fun h=>?_)<;>(try simp only[go_sem] at h)<;>(try exact g_f))|((first|refine g_t ?_|refine g_g ?_|refine g_U ?_|refine g_A ?_|refine g_W ?_);(try simp -implicitDefEqProofs only[go_sem]))|(with_reducible refine hK _ _ ?_;clear hK K)|(clear hK K;first|(with_reducible refine hK _ _ ?_;clear hK K)|(clear hK K;with_reducible refine hK _ _ ?_;clear hK K)|(clear hK K;clear hK K;with_reducible refine hK _ _ ?_;clear hK K))|(with_reducible refine splitB_intro (fun h=>?_) (fun h=>?_)<;>(try simp only[go_sem] at h)<;>(try exact g_f)<;>(try simp -implicitDefEqProofs only[go_sem]))|(with_reducible refine And.intro (fun h=>?_) (fun h=>?_)<;>(try simp only[go_sem] at h)<;>(try exact g_f))|(with_reducible refine And.intro ?_ ?_;· exact g_x)|(with_reducible intro h;(try simp only[go_sem] at h);(try exact g_f))))
    have hJ := hK
    clear hK
    refine AWP_each ps (fun _ r most => max most (deepL r (l + 1)) = V ∧ 0 ≤ most ∧ most ≤ 5) (fun k most _ => [(11, intA1 k), (5, intA1 most)]) (fun _ _ τ => σ ++ (.dead :: τ)) 0 [] ⟨by rw [hV]; omega, by omega, by omega⟩ rfl (ALe_of ?_) ?_ ?_
    · simp -implicitDefEqProofs only [go_sem]
    · rintro q r most τ hq0 hq1 ⟨h3, h4, h5⟩ L hL
      have hmem := at0_mem ps hq0 hq1
      obtain ⟨x, hx⟩ : ∃ x, at0 ps q = x := ⟨_, rfl⟩
      rw [hx] at h3 hmem
      rw [deepL_cons] at h3
      have hxr := hrng x
      have ihx := fun S => ih x (hp x hmem) S
      obtain ⟨D, hD⟩ : ∃ D, deepP x l = D := ⟨_, rfl⟩
      rw [hD] at ihx h3 hxr
      obtain ⟨k', n', e', ps'⟩ := x
      rw [plC_mk] at ihx
      rw [← hm3] at ihx
      simp -implicitDefEqProofs only [go_sem]
      (repeat' (first|(refine g_s fun K hK=>?_)|(refine g_b ?_)|(refine g_r ?_)|(refine g_k ?_;simp only[thenQ,blockQ])|(refine g_e ?_;simp only[thenQ,blockQ,↓reduceIte,Nat.reduceEqDiff])|(refine g_c (fun h=>?_) (fun h=>?_)<;>(try simp only[go_sem] at h)<;>(try exact g_f))|((first|refine g_t ?_|refine g_g ?_|refine g_U ?_|refine g_A ?_|refine (ihx _).use ?_|refine g_q (fun τ=>ihx _) ?_|refine g_W ?_);(try simp -implicitDefEqProofs only[go_sem,hx, hm0, hm2]))|(with_reducible refine hK _ _ ?_;clear hK K)|(clear hK K;first|(with_reducible refine hK _ _ ?_;clear hK K)|(clear hK K;with_reducible refine hK _ _ ?_;clear hK K)|(clear hK K;clear hK K;with_reducible refine hK _ _ ?_;clear hK K))|(with_reducible refine splitB_intro (fun h=>?_) (fun h=>?_)<;>(try simp only[go_sem] at h)<;>(try exact g_f)<;>(try simp -implicitDefEqProofs only[go_sem,hx, hm0, hm2]))|(with_reducible refine And.intro (fun h=>?_) (fun h=>?_)<;>(try simp only[go_sem] at h)<;>(try exact g_f))|(with_reducible refine And.intro ?_ ?_;· exact g_x)|(with_reducible intro h;(try simp only[go_sem] at h);(try exact g_f))))
      refine hL (max most D) (τ ++ [.cells 4 [plC (.mk k' n' e' ps')]]) _ _ ⟨by omega, by omega, by omega⟩ (ALe_of ?_) ?_
      · simp -implicitDefEqProofs only [go_sem]
      · simp [plC_mk, plsA, intsA, intA1]
    · rintro q most τ hq ⟨h3, h4, h5⟩ L
      have h3 : most = V := by rw [deepL] at h3; omega
      subst h3
      simp -implicitDefEqProofs only [go_sem]
      (repeat' (first|(refine g_s fun K hK=>?_)|(refine g_b ?_)|(refine g_r ?_)|(refine g_k ?_;simp only[thenQ,blockQ])|(refine g_e ?_;simp only[thenQ,blockQ,↓reduceIte,Nat.reduceEqDiff])|(refine g_c (fun h=>?_) (fun h=>?_)<;>(try simp only[go_sem] at h)<;>(try exact g_f))|((first|refine g_t ?_|refine g_g ?_|refine g_U ?_|refine g_A ?_|refine g_W ?_);(try simp -implicitDefEqProofs only[go_sem]))|(with_reducible refine hK _ _ ?_;clear hK K)|(clear hK K;first|(with_reducible refine hK _ _ ?_;clear hK K)|(clear hK K;with_reducible refine hK _ _ ?_;clear hK K)|(clear hK K;clear hK K;with_reducible refine hK _ _ ?_;clear hK K))|(with_reducible refine splitB_intro (fun h=>?_) (fun h=>?_)<;>(try simp only[go_sem] at h)<;>(try exact g_f)<;>(try simp -implicitDefEqProofs only[go_sem]))|(with_reducible refine And.intro (fun h=>?_) (fun h=>?_)<;>(try simp only[go_sem] at h)<;>(try exact g_f))|(with_reducible refine And.intro ?_ ?_;· exact g_x)|(with_reducible intro h;(try simp only[go_sem] at h);(try exact g_f))))
      refine hJ _ _ ?_
      clear hJ
      (repeat' (first|(refine g_s fun K hK=>?_)|(refine g_b ?_)|(refine g_r ?_)|(refine g_k ?_;simp only[thenQ,blockQ])|(refine g_e ?_;simp only[thenQ,blockQ,↓reduceIte,Nat.reduceEqDiff])|(refine g_c (fun h=>?_) (fun h=>?_)<;>(try simp only[go_sem] at h)<;>(try exact g_f))|((first|refine g_t ?_|refine g_g ?_|refine g_U ?_|refine g_A ?_|refine g_W ?_);(try simp -implicitDefEqProofs only[go_sem]))|(with_reducible refine hK _ _ ?_;clear hK K)|(clear hK K;first|(with_reducible refine hK _ _ ?_;clear hK K)|(clear hK K;with_reducible refine hK _ _ ?_;clear hK K)|(clear hK K;clear hK K;with_reducible refine hK _ _ ?_;clear hK K))|(with_reducible refine splitB_intro (fun h=>?_) (fun h=>?_)<;>(try simp only[go_sem] at h)<;>(try exact g_f)<;>(try simp -implicitDefEqProofs only[go_sem]))|(with_reducible refine And.intro (fun h=>?_) (fun h=>?_)<;>(try simp only[go_sem] at h)<;>(try exact g_f))|(with_reducible refine And.intro ?_ ?_;· exact g_x)|(with_reducible intro h;(try simp only[go_sem] at h);(try exact g_f))))
      exact CutQ_c rfl rfl

theorem wide_calls : ∀ (p : Pl), PlOk p → ∀ σ : Store, ACalls Try.prog 72 [.agg (plC p)] σ fun r σ' => σ' = σ ∧ r = .c (.bool (wideP p)) := by
  refine Pl.ind fun k n e ps ih ok σ => ?_
  cases ok with
  | mk _ _ _ _ hk hn he hev hpl hp =>
  rw [wideP, plC_mk]
  obtain ⟨V, hV⟩ : ∃ V, (decide (8 < e.length) || wideL ps) = V := ⟨_, rfl⟩
  rw [hV]
  refine ACalls.cutX ?_
  refine ACalls_of_awp Try.func72 rfl Try.results72 ?_
  simp only [List.length_cons, List.length_nil, Try.ntmps72, Nat.reduceAdd, Nat.reduceSub, enterA]
  refine AWP_seq_k fun K hK => ?_
  (refine AWP_region ?_; simp -implicitDefEqProofs only [go_sem])
  refine hK _ _ ?_; clear hK K
  refine AWP_freezeP 1 rfl (by simp only [st0]; rfl) ?_
  simp only [ss0, List.set_cons_zero]
  (repeat' (first|(refine g_s fun K hK=>?_)|(refine g_b ?_)|(refine g_r ?_)|(refine g_k ?_;simp only[thenQ,blockQ])|(refine g_e ?_;simp only[thenQ,blockQ,↓reduceIte,Nat.reduceEqDiff])|(refine g_c (fun h=>?_) (fun h=>?_)<;>(try simp only[go_sem] at h)<;>(try exact g_f))|((first|refine g_t ?_|refine g_g ?_|refine g_U ?_|refine g_A ?_|refine g_W ?_);(try simp -implicitDefEqProofs only[go_sem]))|(with_reducible refine hK _ _ ?_;clear hK K)|(clear hK K;first|(with_reducible refine hK _ _ ?_;clear hK K)|(clear hK K;with_reducible refine hK _ _ ?_;clear hK K)|(clear hK K;clear hK K;with_reducible refine hK _ _ ?_;clear hK K))|(with_reducible refine splitB_intro (fun h=>?_) (fun h=>?_)<;>(try simp only[go_sem] at h)<;>(try exact g_f)<;>(try simp -implicitDefEqProofs only[go_sem]))|(with_reducible refine And.intro (fun h=>?_) (fun h=>?_)<;>(try simp only[go_sem] at h)<;>(try exact g_f))|(with_reducible refine And.intro ?_ ?_;· exact g_x)|(with_reducible intro h;(try simp only[go_sem] at h);(try exact g_f))))
  have hJ := hK
  clear hK
  refine AWP_each ps (fun _ r many => (many || wideL r) = V) (fun k many _ => [(13, intA1 k), (3, .c (.bool many))]) (fun _ _ τ => σ ++ (.dead :: τ)) (decide (8 < e.length)) [] hV rfl (ALe_of ?_) ?_ ?_
  · simp -implicitDefEqProofs only [go_sem]
    simp
    omega
  · rintro q r many τ hq0 hq1 h3 L hL
    have hmem := at0_mem ps hq0 hq1
    obtain ⟨x, hx⟩ : ∃ x, at0 ps q = x := ⟨_, rfl⟩
    rw [hx] at h3 hmem
    rw [wideL] at h3
    have ihx := ih x hmem (hp x hmem)
    obtain ⟨D, hD⟩ : ∃ D, wideP x = D := ⟨_, rfl⟩
    rw [hD] at ihx h3
    obtain ⟨k', n', e', ps'⟩ := x
    rw [plC_mk] at ihx
    simp -implicitDefEqProofs only [go_sem]
    cases many
    · (repeat' (first|(refine g_s fun K hK=>?_)|(refine g_b ?_)|(refine g_r ?_)|(refine g_k ?_;simp only[thenQ,blockQ])|(refine g_e ?_;simp only[thenQ,blockQ,↓reduceIte,Nat.reduceEqDiff])|(refine g_c (fun h=>?_) (fun h=>?_)<;>(try simp only[go_sem] at h)<;>(try exact g_f))|((first|refine g_t ?_|refine g_g ?_|refine g_U ?_|refine g_A ?_|refine (ihx _).use ?_|refine g_q (fun τ=>ihx _) ?_|refine g_W ?_);(try simp -implicitDefEqProofs only[go_sem,hx]))|(with_reducible refine hK _ _ ?_;clear hK K)|(clear hK K;first|(with_reducible refine hK _ _ ?_;clear hK K)|(clear hK K;with_reducible refine hK _ _ ?_;clear hK K)|(clear hK K;clear hK K;with_reducible refine hK _ _ ?_;clear hK K))|(with_reducible refine splitB_intro (fun h=>?_) (fun h=>?_)<;>(try simp only[go_sem] at h)<;>(try exact g_f)<;>(try simp -implicitDefEqProofs only[go_sem,hx]))|(with_reducible refine And.intro (fun h=>?_) (fun h=>?_)<;>(try simp only[go_sem] at h)<;>(try exact g_f))|(with_reducible refine And.intro ?_ ?_;· exact g_x)|(with_reducible intro h;(try simp only[go_sem] at h);(try exact g_f))))
      refine hL D (τ ++ [.cells 4 [plC (.mk k' n' e' ps')]]) _ _ (by simpa using h3) (ALe_of ?_) ?_
      · simp -implicitDefEqProofs only [go_sem]
      · simp [plC_mk, plsA, intsA, intA1]
    · (repeat' (first|(refine g_s fun K hK=>?_)|(refine g_b ?_)|(refine g_r ?_)|(refine g_k ?_;simp only[thenQ,blockQ])|(refine g_e ?_;simp only[thenQ,blockQ,↓reduceIte,Nat.reduceEqDiff])|(refine g_c (fun h=>?_) (fun h=>?_)<;>(try simp only[go_sem] at h)<;>(try exact g_f))|((first|refine g_t ?_|refine g_g ?_|refine g_U ?_|refine g_A ?_|refine (ihx _).use ?_|refine g_q (fun τ=>ihx _) ?_|refine g_W ?_);(try simp -implicitDefEqProofs only[go_sem,hx]))|(with_reducible refine hK _ _ ?_;clear hK K)|(clear hK K;first|(with_reducible refine hK _ _ ?_;clear hK K)|(clear hK K;with_reducible refine hK _ _ ?_;clear hK K)|(clear hK K;clear hK K;with_reducible refine hK _ _ ?_;clear hK K))|(with_reducible refine splitB_intro (fun h=>?_) (fun h=>?_)<;>(try simp only[go_sem] at h)<;>(try exact g_f)<;>(try simp -implicitDefEqProofs only[go_sem,hx]))|(with_reducible refine And.intro (fun h=>?_) (fun h=>?_)<;>(try simp only[go_sem] at h)<;>(try exact g_f))|(with_reducible refine And.intro ?_ ?_;· exact g_x)|(with_reducible intro h;(try simp only[go_sem] at h);(try exact g_f))))
      refine hL true (τ ++ [.cells 4 [plC (.mk k' n' e' ps')]]) _ _ (by simpa using h3) (ALe_of ?_) ?_
      · simp -implicitDefEqProofs only [go_sem]
      · simp [plC_mk, plsA, intsA, intA1]
  · rintro q many τ hq h3 L
    have h3 : many = V := by rw [wideL, Bool.or_false] at h3; exact h3
    subst h3
    simp -implicitDefEqProofs only [go_sem]
    (repeat' (first|(refine g_s fun K hK=>?_)|(refine g_b ?_)|(refine g_r ?_)|(refine g_k ?_;simp only[thenQ,blockQ])|(refine g_e ?_;simp only[thenQ,blockQ,↓reduceIte,Nat.reduceEqDiff])|(refine g_c (fun h=>?_) (fun h=>?_)<;>(try simp only[go_sem] at h)<;>(try exact g_f))|((first|refine g_t ?_|refine g_g ?_|refine g_U ?_|refine g_A ?_|refine g_W ?_);(try simp -implicitDefEqProofs only[go_sem]))|(with_reducible refine hK _ _ ?_;clear hK K)|(clear hK K;first|(with_reducible refine hK _ _ ?_;clear hK K)|(clear hK K;with_reducible refine hK _ _ ?_;clear hK K)|(clear hK K;clear hK K;with_reducible refine hK _ _ ?_;clear hK K))|(with_reducible refine splitB_intro (fun h=>?_) (fun h=>?_)<;>(try simp only[go_sem] at h)<;>(try exact g_f)<;>(try simp -implicitDefEqProofs only[go_sem]))|(with_reducible refine And.intro (fun h=>?_) (fun h=>?_)<;>(try simp only[go_sem] at h)<;>(try exact g_f))|(with_reducible refine And.intro ?_ ?_;· exact g_x)|(with_reducible intro h;(try simp only[go_sem] at h);(try exact g_f))))
    refine hJ _ _ ?_
    clear hJ
    (repeat' (first|(refine g_s fun K hK=>?_)|(refine g_b ?_)|(refine g_r ?_)|(refine g_k ?_;simp only[thenQ,blockQ])|(refine g_e ?_;simp only[thenQ,blockQ,↓reduceIte,Nat.reduceEqDiff])|(refine g_c (fun h=>?_) (fun h=>?_)<;>(try simp only[go_sem] at h)<;>(try exact g_f))|((first|refine g_t ?_|refine g_g ?_|refine g_U ?_|refine g_A ?_|refine g_W ?_);(try simp -implicitDefEqProofs only[go_sem]))|(with_reducible refine hK _ _ ?_;clear hK K)|(clear hK K;first|(with_reducible refine hK _ _ ?_;clear hK K)|(clear hK K;with_reducible refine hK _ _ ?_;clear hK K)|(clear hK K;clear hK K;with_reducible refine hK _ _ ?_;clear hK K))|(with_reducible refine splitB_intro (fun h=>?_) (fun h=>?_)<;>(try simp only[go_sem] at h)<;>(try exact g_f)<;>(try simp -implicitDefEqProofs only[go_sem]))|(with_reducible refine And.intro (fun h=>?_) (fun h=>?_)<;>(try simp only[go_sem] at h)<;>(try exact g_f))|(with_reducible refine And.intro ?_ ?_;· exact g_x)|(with_reducible intro h;(try simp only[go_sem] at h);(try exact g_f))))
    exact CutQ_c rfl rfl

end Go.Proofs.Ytephecognbbaoaa
