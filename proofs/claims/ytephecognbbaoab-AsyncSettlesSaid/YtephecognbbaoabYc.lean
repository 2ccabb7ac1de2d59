/- Schedules, as the program runs them. -/
import Derived.Test.YtephecognbbaoabNk
import Derived.Test.YtephecognbbaoabYa
import Derived.Test.YtephecognbbaoabMv
namespace Go.Proofs.Ytephecognbbaoab
open Go
set_option linter.all false
set_option maxRecDepth 100000
set_option maxHeartbeats 4000000

def stC (s : List (List Int)) : List AV := [rowsC s]
def statesA (l : List (List (List Int))) : AV := .sl (l.map stC)
attribute [go_sem] stC statesA
theorem stC_len (l : List (List (List Int))) : (∀ e', e' ∈ l.map stC → e'.length = 1) = True := len_map (f := stC) (fun _ => rfl) l
theorem stC_one (l : List (List (List Int))) : (∀ e', e' ∈ l.map stC → e'.all oneA = true) = True := one_map (f := stC) (fun _ => rfl) l
attribute [go_sem] stC_len stC_one
theorem Bd.states {n : Nat} (l : List (List (List Int))) : Bd n (.sl (l.map stC)) := .slL (fun r => .cons (Bd.rows r) .nil) l

theorem get_mapF {X : Type} [Inhabited X] (f : X → List AV) (l : List X) {k : Int} (h0 : 0 ≤ k) (h : k < l.length) : (l.map f)[k.toNat]? = some (f (at0 l k)) := by
  have : k.toNat < l.length := by omega
  simp [at0, List.getD_eq_getElem?_getD, this]
theorem set_mapF {X : Type} (f : X → List AV) (l : List X) (k : Nat) (v : X) : (l.map f).set k (f v) = (l.set k v).map f := by
  rw [List.map_set]
theorem at0_setX {X : Type} [Inhabited X] (l : List X) {k q : Int} (v : X) (h0 : 0 ≤ k) (hq : 0 ≤ q) (h : k < l.length) : at0 (l.set k.toNat v) q = if q = k then v else at0 l q := by
  simp only [at0, List.getD_eq_getElem?_getD, List.getElem?_set]
  by_cases e : q = k
  · subst e
    have : q.toNat < l.length := by omega
    simp [this]
  · have : ¬ k.toNat = q.toNat := by omega
    simp [this, e]

theorem Ext.get {S S' : Store} (h : Ext S S') {b : Nat} {o : Ob} (ho : S[b]? = some o) : S'[b]? = some o := by
  obtain ⟨τ, rfl⟩ := h
  obtain ⟨hlt, _⟩ := List.getElem?_eq_some_iff.1 ho
  rw [List.getElem?_append_left hlt, ho]

/-- The copy is the caller's own. -/
theorem ownW_calls (x : List (List Int)) (ok : StOk x) (hne : x ≠ []) (σ : Store) : ACalls Try.prog 86 [rowsC x] σ fun r σ' => ∃ τ, σ' = σ ++ τ ∧ ∃ τ0, τ = τ0 ++ [.cells 1 (x.map rowC)] ∧ r = .own (σ.length + τ0.length) 1 0 x.length x.length := by
  have hlen := ok.len
  refine ACalls_of_awp Try.func86 rfl Try.results86 ?_
  simp only [List.length_cons, List.length_nil, Try.ntmps86, Nat.reduceAdd, Nat.reduceSub, enterA]
  (repeat' (first|(refine g_s fun K hK=>?_)|(refine g_b ?_)|(refine g_r ?_)|(refine g_k ?_;simp only[thenQ,blockQ])|(refine g_e ?_;simp only[thenQ,blockQ,↓reduceIte,Nat.reduceEqDiff])|(refine g_c (fun h=>?_) (fun h=>?_)<;>(try simp only[go_sem] at h)<;>(try exact g_f))|((first|refine g_t ?_|refine g_G ?_|refine g_U ?_|refine g_A ?_|refine g_W ?_);(try simp -implicitDefEqProofs only[go_sem]))|(with_reducible refine hK _ _ ?_;clear hK K)|(clear hK K;first|(with_reducible refine hK _ _ ?_;clear hK K)|(clear hK K;with_reducible refine hK _ _ ?_;clear hK K)|(clear hK K;clear hK K;with_reducible refine hK _ _ ?_;clear hK K))|(with_reducible refine splitB_intro (fun h=>?_) (fun h=>?_)<;>(try simp only[go_sem] at h)<;>(try exact g_f)<;>(try simp -implicitDefEqProofs only[go_sem]))|(with_reducible refine And.intro (fun h=>?_) (fun h=>?_)<;>(try simp only[go_sem] at h)<;>(try exact g_f))|(with_reducible refine And.intro ?_ ?_;· exact g_x)|(with_reducible intro h;(try simp only[go_sem] at h);(try exact g_f))))
  refine AWP_pad ?_
  have hJ := hK
  clear hK
  refine AWP_each x (fun k r acc => acc ++ r = x) (fun k acc τ => [(8, intA1 k), (3, accV 1 (σ.length + τ.length) acc)]) (fun _ acc τ => σ ++ (τ ++ [accO rowC 1 acc])) [] [] rfl ?_ (ALe_of ?_) ?_ ?_
  · simp [accO]
  · simp -implicitDefEqProofs only [go_sem, accV, accO]
  · rintro k r acc τ hk0 hk1 h3 L hL
    have hmem := at0_mem x hk0 hk1
    obtain ⟨w, hw⟩ : ∃ w, at0 x k = w := ⟨_, rfl⟩
    rw [hw] at h3 hmem
    have hwl := ok.row w hmem
    have hal : acc.length + 1 ≤ x.length := by rw [← h3]; simp
    rcases acc with _ | ⟨y, acc⟩ <;> simp only [List.length_cons, List.length_nil] at hal <;> simp -implicitDefEqProofs only [go_sem, accV, accO]
    all_goals (repeat' (first|(refine g_s fun K hK=>?_)|(refine g_b ?_)|(refine g_r ?_)|(refine g_k ?_;simp only[thenQ,blockQ])|(refine g_e ?_;simp only[thenQ,blockQ,↓reduceIte,Nat.reduceEqDiff])|(refine g_c (fun h=>?_) (fun h=>?_)<;>(try simp only[go_sem] at h)<;>(try exact g_f))|((first|refine g_t ?_|refine g_G ?_|refine g_U ?_|refine g_A ?_|refine (clone_calls w hwl _).use ?_|refine g_q (fun τ=>clone_calls w hwl _) ?_|refine g_W ?_);(try simp -implicitDefEqProofs only[go_sem,hw]))|(with_reducible refine hK _ _ ?_;clear hK K)|(clear hK K;first|(with_reducible refine hK _ _ ?_;clear hK K)|(clear hK K;with_reducible refine hK _ _ ?_;clear hK K)|(clear hK K;clear hK K;with_reducible refine hK _ _ ?_;clear hK K))|(with_reducible refine splitB_intro (fun h=>?_) (fun h=>?_)<;>(try simp only[go_sem] at h)<;>(try exact g_f)<;>(try simp -implicitDefEqProofs only[go_sem,hw]))|(with_reducible refine And.intro (fun h=>?_) (fun h=>?_)<;>(try simp only[go_sem] at h)<;>(try exact g_f))|(with_reducible refine And.intro ?_ ?_;· exact g_x)|(with_reducible intro h;(try simp only[go_sem] at h);(try exact g_f))))
    · refine hL [w] (τ ++ [.dead]) _ _ (by simpa using h3) (ALe_of ?_) ?_
      · simp -implicitDefEqProofs only [go_sem, accV]
      · simp [accO, rowC, intsA]
    · refine hL (y :: acc ++ [w]) (τ ++ [.dead]) _ _ (by simpa using h3) (ALe_of ?_) ?_
      · simp -implicitDefEqProofs only [go_sem, accV]
      · simp [accO, rowC, intsA]
  · rintro k acc τ hk h3 L
    rw [List.append_nil] at h3
    subst h3
    simp -implicitDefEqProofs only [go_sem]
    (repeat' (first|(refine g_s fun K hK=>?_)|(refine g_b ?_)|(refine g_r ?_)|(refine g_k ?_;simp only[thenQ,blockQ])|(refine g_e ?_;simp only[thenQ,blockQ,↓reduceIte,Nat.reduceEqDiff])|(refine g_c (fun h=>?_) (fun h=>?_)<;>(try simp only[go_sem] at h)<;>(try exact g_f))|((first|refine g_g ?_|refine g_U ?_|refine g_A ?_|refine g_W ?_);(try simp -implicitDefEqProofs only[go_sem]))|(with_reducible refine hK _ _ ?_;clear hK K)|(clear hK K;first|(with_reducible refine hK _ _ ?_;clear hK K)|(clear hK K;with_reducible refine hK _ _ ?_;clear hK K)|(clear hK K;clear hK K;with_reducible refine hK _ _ ?_;clear hK K))|(with_reducible refine splitB_intro (fun h=>?_) (fun h=>?_)<;>(try simp only[go_sem] at h)<;>(try exact g_f)<;>(try simp -implicitDefEqProofs only[go_sem]))|(with_reducible refine And.intro (fun h=>?_) (fun h=>?_)<;>(try simp only[go_sem] at h)<;>(try exact g_f))|(with_reducible refine And.intro ?_ ?_;· exact g_x)|(with_reducible intro h;(try simp only[go_sem] at h);(try exact g_f))))
    refine hJ _ _ ?_
    clear hJ
    rcases acc with _ | ⟨y, acc⟩
    · exact absurd rfl hne
    simp -implicitDefEqProofs only [go_sem, accV, accO]
    (repeat' (first|(refine g_s fun K hK=>?_)|(refine g_b ?_)|(refine g_r ?_)|(refine g_k ?_;simp only[thenQ,blockQ])|(refine g_e ?_;simp only[thenQ,blockQ,↓reduceIte,Nat.reduceEqDiff])|(refine g_c (fun h=>?_) (fun h=>?_)<;>(try simp only[go_sem] at h)<;>(try exact g_f))|((first|refine g_t ?_|refine g_g ?_|refine g_U ?_|refine g_A ?_|refine g_W ?_);(try simp -implicitDefEqProofs only[go_sem]))|(with_reducible refine hK _ _ ?_;clear hK K)|(clear hK K;first|(with_reducible refine hK _ _ ?_;clear hK K)|(clear hK K;with_reducible refine hK _ _ ?_;clear hK K)|(clear hK K;clear hK K;with_reducible refine hK _ _ ?_;clear hK K))|(with_reducible refine splitB_intro (fun h=>?_) (fun h=>?_)<;>(try simp only[go_sem] at h)<;>(try exact g_f)<;>(try simp -implicitDefEqProofs only[go_sem]))|(with_reducible refine And.intro (fun h=>?_) (fun h=>?_)<;>(try simp only[go_sem] at h)<;>(try exact g_f))|(with_reducible refine And.intro ?_ ?_;· exact g_x)|(with_reducible intro h;(try simp only[go_sem] at h);(try exact g_f))))
    exact ⟨_, rfl, τ, rfl, rfl⟩

theorem run1_calls (outs : List (List (List Int))) (k i to j : Int) (u : Trn) (L b9 b10 b11 b13 bo : Nat) (S : Store) (hL : L = outs.length)
    (h9 : S[b9]? = some (.cells 1 [[.own bo 1 0 L L]])) (ho : S[bo]? = some (.cells 1 (outs.map stC))) (h10 : S[b10]? = some (.cells 1 [[intA1 k]])) (h11 : S[b11]? = some (.cells 2 [trnC u])) (h13 : S[b13]? = some (.cells 1 [[intA1 i]]))
    (hk0 : 0 ≤ k) (hk1 : k < outs.length) (hol : outs.length ≤ 201) (hi0 : 0 ≤ i) (hi1 : i < u.ages.length) (ht0 : 0 ≤ to) (ht1 : to < (at0 u.ages i).length) (ha : 1 ≤ at2 u.ages i to ∧ at2 u.ages i to ≤ 20)
    (ht2 : to < (at0 outs (usedA u k i to)).length) (hj0 : 0 ≤ j) (hj1 : j < (at0 (at0 outs (usedA u k i to)) to).length) :
    ACalls Try.prog 88 [intA1 to, intA1 j, .ptr b9 1 0 0, .ptr b10 1 0 0, .ptr b11 2 0 0, .ptr b13 1 0 0] S fun r σ' => σ' = S ∧ r = intA1 (at2 (at0 outs (usedA u k i to)) to j) := by
  subst hL
  obtain ⟨v, hv⟩ : ∃ v, usedA u k i to = v := ⟨_, rfl⟩
  have hv0 : 0 ≤ v ∧ v ≤ k := by rw [← hv]; unfold usedA; omega
  have hg := get_mapF stC outs (k := v) hv0.1 (by omega)
  have hv2 : max 0 (k + 1 - at0 (at0 u.ages i) to) = v := hv
  rw [hv] at ht2 hj1 ⊢
  unfold at2 at ha
  refine ACalls_of_awp Try.func88 rfl Try.results88 ?_
  simp only [List.length_cons, List.length_nil, Try.ntmps88, Nat.reduceAdd, Nat.reduceSub, enterA]
  (repeat' (first|(refine g_s fun K hK=>?_)|(refine g_b ?_)|(refine g_r ?_)|(refine g_k ?_;simp only[thenQ,blockQ])|(refine g_e ?_;simp only[thenQ,blockQ,↓reduceIte,Nat.reduceEqDiff])|(refine g_c (fun h=>?_) (fun h=>?_)<;>(try simp only[go_sem] at h)<;>(try exact g_f))|((first|refine g_t ?_|refine g_g ?_|refine g_U ?_|refine g_A ?_|refine g_W ?_);(try simp -implicitDefEqProofs only[go_sem,h9, ho, h10, h11, h13, hv2, hg]))|(with_reducible refine hK _ _ ?_;clear hK K)|(clear hK K;first|(with_reducible refine hK _ _ ?_;clear hK K)|(clear hK K;with_reducible refine hK _ _ ?_;clear hK K)|(clear hK K;clear hK K;with_reducible refine hK _ _ ?_;clear hK K))|(with_reducible refine splitB_intro (fun h=>?_) (fun h=>?_)<;>(try simp only[go_sem] at h)<;>(try exact g_f)<;>(try simp -implicitDefEqProofs only[go_sem,h9, ho, h10, h11, h13, hv2, hg]))|(with_reducible refine And.intro (fun h=>?_) (fun h=>?_)<;>(try simp only[go_sem] at h)<;>(try exact g_f))|(with_reducible refine And.intro ?_ ?_;· exact g_x)|(with_reducible intro h;(try simp only[go_sem] at h);(try exact g_f))))
end Go.Proofs.Ytephecognbbaoab
