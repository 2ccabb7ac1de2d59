/- Walks by tables: gone. -/
import Derived.Test.YtephecognbbaoabTd
namespace Go.Proofs.Ytephecognbbaoab
open Go
set_option linter.all false
set_option maxRecDepth 100000
set_option maxHeartbeats 4000000

def walkRC (r : List Int × Bool) : AV := .tup [intsA r.1, .c (.bool r.2)]

/-- What holds as one walks. -/
structure Walks (n : Net) (t : List (List Int)) (to : Int) (R : List Int × Bool) (k : Int) (out : List Int) (at' : Int) : Prop where
  len : (out.length : Int) = k + 1
  one : out.Nodup
  rng : ∀ x ∈ out, 0 ≤ x ∧ x < n.nodes
  a0 : 0 ≤ at'
  a1 : at' < n.nodes
  eq : walkF t to (7 - k).toNat at' out = R

theorem walks_step {n : Net} {t : List (List Int)} (ht : TabIn n t) {to : Int} (ht0 : 0 ≤ to) (ht1 : to < n.nodes) {R : List Int × Bool} {k : Int} {out : List Int} {at' : Int} (hk0 : 0 ≤ k) (h : Walks n t to R k out at') :
    k < 6 ∧ (at' = to → R = (out, true)) ∧ (at' ≠ to → (at2 t at' to < 0 ∨ at2 t at' to ∈ out → R = (out, false)) ∧ (0 ≤ at2 t at' to → at2 t at' to ∉ out → Walks n t to R (k + 1) (out ++ [at2 t at' to]) (at2 t at' to))) := by
  have hn := netIn_of ht.chk
  have n1 := hn.n1
  have n6 := hn.n6
  have h1 := nodup_len (by omega) h.one h.rng
  have h2 := h.len
  have h3 := h.eq
  have hf : (7 - k).toNat = (7 - (k + 1)).toNat + 1 := by omega
  rw [hf, walkF] at h3
  refine ⟨by omega, fun e => ?_, fun e => ⟨fun hc => ?_, fun hc0 hc1 => ?_⟩⟩
  · rw [if_pos e] at h3
    exact h3.symm
  · rw [if_neg e, if_pos hc] at h3
    exact h3.symm
  · rw [if_neg e, if_neg (by rw [not_or]; exact ⟨by omega, hc1⟩)] at h3
    have hv := tab_at2 ht ⟨h.a0, h.a1⟩ ⟨ht0, ht1⟩
    refine ⟨by simp; omega, ?_, fun x hx => ?_, hc0, by omega, h3⟩
    · refine List.nodup_append.2 ⟨h.one, by simp, fun x hx y hy => ?_⟩
      rw [List.mem_singleton.1 hy]
      rintro rfl
      exact hc1 hx
    · rcases List.mem_append.1 hx with hx | hx
      · exact h.rng x hx
      · rw [List.mem_singleton.1 hx]; omega

def walkErr (n : Net) (t : List (List Int)) (fr to : Int) : Int := if tabErr n t ≠ 0 then tabErr n t else if !(inR fr 0 (n.nodes - 1)) || !(inR to 0 (n.nodes - 1)) then 5 else 0
def walkA (n : Net) (t : List (List Int)) (fr to : Int) : List Int × Bool := if walkErr n t fr to = 0 then walkF t to 7 fr [fr] else ([], false)
def walkC (n : Net) (t : List (List Int)) (fr to : Int) : AV := .tup [intsA (walkA n t fr to).1, .c (.bool (walkA n t fr to).2), intA1 (walkErr n t fr to)]

theorem walkC_bad {n : Net} {t : List (List Int)} {fr to e : Int} (h : walkErr n t fr to = e) (he : e ≠ 0) : walkC n t fr to = .tup [.sl [], .c (.bool false), intA1 e] := by
  rw [walkC, walkA, h, if_neg he]
  rfl

theorem walk_calls (n : Net) (t : List (List Int)) (okn : NetOk n) (ok : StOk t) (fr to : Int) (σ : Store) : ACalls Try.prog 57 [.agg (netC n), rowsC t, intA1 fr, intA1 to] σ fun r σ' => σ' = σ ∧ r = walkC n t fr to := by
  have hC := netCheck_calls n okn
  have hlen := ok.len
  refine ACalls.cutX ?_
  by_cases h0 : checkN n = 0
  · have hn := netIn_of h0
    have n1 := hn.n1
    have n6 := hn.n6
    rw [h0] at hC
    refine ACalls_of_awp Try.func57 rfl Try.results57 ?_
    simp only [List.length_cons, List.length_nil, Try.ntmps57, Nat.reduceAdd, Nat.reduceSub, enterA]
    refine AWP_seq_k fun K hK => ?_
    (refine AWP_region ?_; simp -implicitDefEqProofs only [go_sem])
    refine hK _ _ ?_; clear hK K
    refine AWP_freezeP 4 rfl (by simp only [st0]; rfl) ?_
    simp only [ss0, List.set_cons_zero]
    (repeat' (first|(refine g_s fun K hK=>?_)|(refine g_b ?_)|(refine g_r ?_)|(refine g_k ?_;simp only[thenQ,blockQ])|(refine g_e ?_;simp only[thenQ,blockQ,↓reduceIte,Nat.reduceEqDiff])|(refine g_c (fun h=>?_) (fun h=>?_)<;>(try simp only[go_sem] at h)<;>(try exact g_f))|((first|refine g_t ?_|refine g_g ?_|refine g_U ?_|refine g_A ?_|refine (hC _).use ?_|refine g_q (fun τ=>hC _) ?_|refine (containsFunc_rows t (fun r => (r.length : Int) != n.nodes) _ [] [.cp (netC n) 0] _ (by omega) (by kernel_rfl) (fun r hr => walk1_calls n r _)).use ?_|refine g_q (fun τ=>containsFunc_rows t (fun r => (r.length : Int) != n.nodes) _ [] [.cp (netC n) 0] _ (by omega) (by kernel_rfl) (fun r hr => walk1_calls n r _)) ?_|refine g_W ?_);(try simp -implicitDefEqProofs only[go_sem]))|(with_reducible refine hK _ _ ?_;clear hK K)|(clear hK K;first|(with_reducible refine hK _ _ ?_;clear hK K)|(clear hK K;with_reducible refine hK _ _ ?_;clear hK K)|(clear hK K;clear hK K;with_reducible refine hK _ _ ?_;clear hK K))|(with_reducible refine splitB_intro (fun h=>?_) (fun h=>?_)<;>(try simp only[go_sem] at h)<;>(try exact g_f)<;>(try simp -implicitDefEqProofs only[go_sem]))|(with_reducible refine And.intro (fun h=>?_) (fun h=>?_)<;>(try simp only[go_sem] at h)<;>(try exact g_f))|(with_reducible refine And.intro ?_ ?_;· exact g_x)|(with_reducible intro h;(try simp only[go_sem] at h);(try exact g_f))))
    · refine CutQ_w rfl ?_ ?_
      · (repeat' (first | exact Bd.c _ | exact Bd.emp | exact BdL.nil | exact Bd.ints _ | refine Bd.aggL ?_ | refine Bd.tupL ?_ | refine BdL.cons ?_ ?_))
      · have hT : tabErr n t = 1 := by rw [tabErr, if_neg (not_not_intro h0), if_pos (.inl (by assumption))]
        rw [walkC_bad (e := 1) (by rw [walkErr, hT]; rfl) (by decide)]
        exact .tup (.cons .nil (.cons (.refl _) (.cons (.refl _) .nil)))
    · refine CutQ_w rfl ?_ ?_
      · (repeat' (first | exact Bd.c _ | exact Bd.emp | exact BdL.nil | exact Bd.ints _ | refine Bd.aggL ?_ | refine Bd.tupL ?_ | refine BdL.cons ?_ ?_))
      · have hT : tabErr n t = 1 := by rw [tabErr, if_neg (not_not_intro h0), if_pos (.inr (by rw [← any_ne]; exact h))]
        rw [walkC_bad (e := 1) (by rw [walkErr, hT]; rfl) (by decide)]
        exact .tup (.cons .nil (.cons (.refl _) (.cons (.refl _) .nil)))
    have htl : (t.length : Int) = n.nodes := by assumption
    have hne : ¬ ((t.length : Int) ≠ n.nodes ∨ t.any (fun r => decide ((r.length : Int) ≠ n.nodes)) = true) := by
      rw [not_or, ← any_ne, h]
      exact ⟨not_not_intro (by assumption), by simp⟩
    have hrow : ∀ r ∈ t, r.length ≤ 1000000000000000000 := fun r hr => by have := ok.row r hr; omega
    have hJ := hK
    clear hK
    refine AWP_each t (fun _ r _ => (t.any fun w => w.any fun v => badT n v) = r.any fun w => w.any fun v => badT n v) (fun k _ _ => [(33, intA1 k)]) (fun _ _ _ => σ ++ [.dead]) () [] rfl rfl (ALe_of ?_) ?_ ?_
    · simp -implicitDefEqProofs only [go_sem]
    · rintro k r _ τ hk0 hk1 hH L hL
      have hmem := at0_mem t hk0 hk1
      obtain ⟨w, hw⟩ : ∃ w, at0 t k = w := ⟨_, rfl⟩
      rw [hw] at hH hmem
      rw [List.any_cons] at hH
      simp -implicitDefEqProofs only [go_sem]
      (repeat' (first|(refine g_s fun K hK=>?_)|(refine g_b ?_)|(refine g_r ?_)|(refine g_k ?_;simp only[thenQ,blockQ])|(refine g_e ?_;simp only[thenQ,blockQ,↓reduceIte,Nat.reduceEqDiff])|(refine g_c (fun h=>?_) (fun h=>?_)<;>(try simp only[go_sem] at h)<;>(try exact g_f))|((first|refine g_t ?_|refine g_g ?_|refine g_U ?_|refine g_A ?_|refine (containsFunc_int w (fun v => badT n v) _ [] [.cp (netC n) 0] _ (hrow w hmem) (by kernel_rfl) (fun v hv => walk2_calls n v _)).use ?_|refine g_q (fun τ=>containsFunc_int w (fun v => badT n v) _ [] [.cp (netC n) 0] _ (hrow w hmem) (by kernel_rfl) (fun v hv => walk2_calls n v _)) ?_|refine g_W ?_);(try simp -implicitDefEqProofs only[go_sem,hw]))|(with_reducible refine hK _ _ ?_;clear hK K)|(clear hK K;first|(with_reducible refine hK _ _ ?_;clear hK K)|(clear hK K;with_reducible refine hK _ _ ?_;clear hK K)|(clear hK K;clear hK K;with_reducible refine hK _ _ ?_;clear hK K))|(with_reducible refine splitB_intro (fun h=>?_) (fun h=>?_)<;>(try simp only[go_sem] at h)<;>(try exact g_f)<;>(try simp -implicitDefEqProofs only[go_sem,hw]))|(with_reducible refine And.intro (fun h=>?_) (fun h=>?_)<;>(try simp only[go_sem] at h)<;>(try exact g_f))|(with_reducible refine And.intro ?_ ?_;· exact g_x)|(with_reducible intro h;(try simp only[go_sem] at h);(try exact g_f))))
      · refine CutQ_w rfl ?_ ?_
        · (repeat' (first | exact Bd.c _ | exact Bd.emp | exact BdL.nil | exact Bd.ints _ | refine Bd.aggL ?_ | refine Bd.tupL ?_ | refine BdL.cons ?_ ?_))
        · have ha : (t.any fun w => w.any fun v => badT n v) = true := by rw [hH, h, Bool.true_or]
          have hT : tabErr n t = 5 := by rw [tabErr, if_neg (not_not_intro h0), if_neg hne, if_pos (show (t.any fun r => r.any fun v => !(decide (v = -1) || inR v 0 (n.nodes - 1))) = true from ha)]
          rw [walkC_bad (e := 5) (by rw [walkErr, hT]; rfl) (by decide)]
          exact .tup (.cons .nil (.cons (.refl _) (.cons (.refl _) .nil)))
      · refine hL () [] _ _ (by rw [hH, h, Bool.false_or]) (ALe_of ?_) rfl
        simp -implicitDefEqProofs only [go_sem]
    · rintro k _ τ hk hH L
      have h9 : tabErr n t = 0 := by
        rw [tabErr, if_neg (not_not_intro h0), if_neg hne, if_neg]
        show ¬ (t.any fun w => w.any fun v => badT n v) = true
        rw [hH]
        simp
      have ht := tabIn_of h9
      simp -implicitDefEqProofs only [go_sem]
      (repeat' (first|(refine g_s fun K hK=>?_)|(refine g_b ?_)|(refine g_r ?_)|(refine g_k ?_;simp only[thenQ,blockQ])|(refine g_e ?_;simp only[thenQ,blockQ,↓reduceIte,Nat.reduceEqDiff])|(refine g_c (fun h=>?_) (fun h=>?_)<;>(try simp only[go_sem] at h)<;>(try exact g_f))|((first|refine g_t ?_|refine g_g ?_|refine g_U ?_|refine g_A ?_|refine g_W ?_);(try simp -implicitDefEqProofs only[go_sem]))|(with_reducible refine hK _ _ ?_;clear hK K)|(clear hK K;first|(with_reducible refine hK _ _ ?_;clear hK K)|(clear hK K;with_reducible refine hK _ _ ?_;clear hK K)|(clear hK K;clear hK K;with_reducible refine hK _ _ ?_;clear hK K))|(with_reducible refine splitB_intro (fun h=>?_) (fun h=>?_)<;>(try simp only[go_sem] at h)<;>(try exact g_f)<;>(try simp -implicitDefEqProofs only[go_sem]))|(with_reducible refine And.intro (fun h=>?_) (fun h=>?_)<;>(try simp only[go_sem] at h)<;>(try exact g_f))|(with_reducible refine And.intro ?_ ?_;· exact g_x)|(with_reducible intro h;(try simp only[go_sem] at h);(try exact g_f))))
      refine hJ _ _ ?_
      clear hJ
      by_cases hb : (!(inR fr 0 (n.nodes - 1)) || !(inR to 0 (n.nodes - 1))) = true
      · have hz := walkC_bad (n := n) (t := t) (fr := fr) (to := to) (e := 5) (by rw [walkErr, if_neg (not_not_intro h9), if_pos hb]) (by decide)
        by_cases hfr : inR fr 0 (n.nodes - 1) = true
        · have hto : inR to 0 (n.nodes - 1) = false := by simpa [hfr] using hb
          (repeat' (first|(refine g_s fun K hK=>?_)|(refine g_b ?_)|(refine g_r ?_)|(refine g_k ?_;simp only[thenQ,blockQ])|(refine g_e ?_;simp only[thenQ,blockQ,↓reduceIte,Nat.reduceEqDiff])|(refine g_c (fun h=>?_) (fun h=>?_)<;>(try simp only[go_sem] at h)<;>(try exact g_f))|((first|refine g_t ?_|refine g_g ?_|refine g_U ?_|refine g_A ?_|refine (tisNode_calls n _ _).use ?_|refine g_q (fun τ=>tisNode_calls n _ _) ?_|refine g_W ?_);(try simp -implicitDefEqProofs only[go_sem,hfr, hto]))|(with_reducible refine hK _ _ ?_;clear hK K)|(clear hK K;first|(with_reducible refine hK _ _ ?_;clear hK K)|(clear hK K;with_reducible refine hK _ _ ?_;clear hK K)|(clear hK K;clear hK K;with_reducible refine hK _ _ ?_;clear hK K))|(with_reducible refine splitB_intro (fun h=>?_) (fun h=>?_)<;>(try simp only[go_sem] at h)<;>(try exact g_f)<;>(try simp -implicitDefEqProofs only[go_sem,hfr, hto]))|(with_reducible refine And.intro (fun h=>?_) (fun h=>?_)<;>(try simp only[go_sem] at h)<;>(try exact g_f))|(with_reducible refine And.intro ?_ ?_;· exact g_x)|(with_reducible intro h;(try simp only[go_sem] at h);(try exact g_f))))
          refine CutQ_w rfl ?_ ?_
          · (repeat' (first | exact Bd.c _ | exact Bd.emp | exact BdL.nil | exact Bd.ints _ | refine Bd.aggL ?_ | refine Bd.tupL ?_ | refine BdL.cons ?_ ?_))
          · rw [hz]
            exact .tup (.cons .nil (.cons (.refl _) (.cons (.refl _) .nil)))
        · (repeat' (first|(refine g_s fun K hK=>?_)|(refine g_b ?_)|(refine g_r ?_)|(refine g_k ?_;simp only[thenQ,blockQ])|(refine g_e ?_;simp only[thenQ,blockQ,↓reduceIte,Nat.reduceEqDiff])|(refine g_c (fun h=>?_) (fun h=>?_)<;>(try simp only[go_sem] at h)<;>(try exact g_f))|((first|refine g_t ?_|refine g_g ?_|refine g_U ?_|refine g_A ?_|refine (tisNode_calls n _ _).use ?_|refine g_q (fun τ=>tisNode_calls n _ _) ?_|refine g_W ?_);(try simp -implicitDefEqProofs only[go_sem,hfr]))|(with_reducible refine hK _ _ ?_;clear hK K)|(clear hK K;first|(with_reducible refine hK _ _ ?_;clear hK K)|(clear hK K;with_reducible refine hK _ _ ?_;clear hK K)|(clear hK K;clear hK K;with_reducible refine hK _ _ ?_;clear hK K))|(with_reducible refine splitB_intro (fun h=>?_) (fun h=>?_)<;>(try simp only[go_sem] at h)<;>(try exact g_f)<;>(try simp -implicitDefEqProofs only[go_sem,hfr]))|(with_reducible refine And.intro (fun h=>?_) (fun h=>?_)<;>(try simp only[go_sem] at h)<;>(try exact g_f))|(with_reducible refine And.intro ?_ ?_;· exact g_x)|(with_reducible intro h;(try simp only[go_sem] at h);(try exact g_f))))
          refine CutQ_w rfl ?_ ?_
          · (repeat' (first | exact Bd.c _ | exact Bd.emp | exact BdL.nil | exact Bd.ints _ | refine Bd.aggL ?_ | refine Bd.tupL ?_ | refine BdL.cons ?_ ?_))
          · rw [hz]
            exact .tup (.cons .nil (.cons (.refl _) (.cons (.refl _) .nil)))
      · have hfr : inR fr 0 (n.nodes - 1) = true := by
          cases e : inR fr 0 (n.nodes - 1) <;> simp [e] at hb ⊢
        have hto : inR to 0 (n.nodes - 1) = true := by
          cases e : inR to 0 (n.nodes - 1) <;> simp [e] at hb ⊢
        have hfr2 := inR_iff.1 hfr
        have hto2 := inR_iff.1 hto
        have hf0 := hfr2.1
        have hf1 : fr < n.nodes := by omega
        have ht0 := hto2.1
        have ht1 : to < n.nodes := by omega
        have hwe : walkErr n t fr to = 0 := by rw [walkErr, if_neg (not_not_intro h9), if_neg hb]
        obtain ⟨R, hR⟩ : ∃ R, walkF t to 7 fr [fr] = R := ⟨_, rfl⟩
        have hwc : walkC n t fr to = .tup [intsA R.1, .c (.bool R.2), intA1 0] := by rw [walkC, walkA, hwe, if_pos rfl, hR]
        rw [hwc]
        (repeat' (first|(refine g_s fun K hK=>?_)|(refine g_b ?_)|(refine g_r ?_)|(refine g_k ?_;simp only[thenQ,blockQ])|(refine g_e ?_;simp only[thenQ,blockQ,↓reduceIte,Nat.reduceEqDiff])|(refine g_c (fun h=>?_) (fun h=>?_)<;>(try simp only[go_sem] at h)<;>(try exact g_f))|((first|refine g_t ?_|refine g_g ?_|refine g_U ?_|refine g_A ?_|refine (tisNode_calls n _ _).use ?_|refine g_q (fun τ=>tisNode_calls n _ _) ?_|refine g_W ?_);(try simp -implicitDefEqProofs only[go_sem,hfr, hto]))|(with_reducible refine hK _ _ ?_;clear hK K)|(clear hK K;first|(with_reducible refine hK _ _ ?_;clear hK K)|(clear hK K;with_reducible refine hK _ _ ?_;clear hK K)|(clear hK K;clear hK K;with_reducible refine hK _ _ ?_;clear hK K))|(with_reducible refine splitB_intro (fun h=>?_) (fun h=>?_)<;>(try simp only[go_sem] at h)<;>(try exact g_f)<;>(try simp -implicitDefEqProofs only[go_sem,hfr, hto]))|(with_reducible refine And.intro (fun h=>?_) (fun h=>?_)<;>(try simp only[go_sem] at h)<;>(try exact g_f))|(with_reducible refine And.intro ?_ ?_;· exact g_x)|(with_reducible intro h;(try simp only[go_sem] at h);(try exact g_f))))
        have hJ := hK
        clear hK
        refine AWP_for 6 (fun k (s : List Int × Int) => Walks n t to R k s.1 s.2) (fun _ s τ => [(15, intA1 s.2), (14, accV 1 (σ.length + (τ.length + 1)) s.1)]) (fun _ s τ => σ ++ (.dead :: (τ ++ [accO intC 1 s.1]))) ([fr], fr) [] (by omega) ⟨rfl, by simp, fun x hx => by rw [List.mem_singleton.1 hx]; exact ⟨hf0, hf1⟩, hf0, hf1, hR⟩ (by simp [accO, intC, intA1]) (ALe_of ?_) ?_
        · simp -implicitDefEqProofs only [go_sem, accV]
        · rintro k ⟨out, at'⟩ τ hk0 hk1 hW L hL
          have hW : Walks n t to R k out at' := hW
          obtain ⟨hk6, hend, hgo⟩ := walks_step ht ht0 ht1 hk0 hW
          have ha0 := hW.a0
          have ha1 := hW.a1
          have hlen := hW.len
          have hrow := ht.row _ (at0_mem t ha0 (by omega))
          have hval := tab_at2 ht ⟨ha0, ha1⟩ ⟨ht0, ht1⟩
          obtain ⟨v, hv⟩ : ∃ v, at2 t at' to = v := ⟨_, rfl⟩
          have hv2 : at0 (at0 t at') to = v := hv
          rw [hv] at hgo hval
          rcases out with _ | ⟨y, out⟩
          · simp at hlen; omega
          simp only [List.length_cons] at hlen
          simp -implicitDefEqProofs only [go_sem, accV, accO]
          by_cases hat : at' = to
          · (repeat' (first|(refine g_s fun K hK=>?_)|(refine g_b ?_)|(refine g_r ?_)|(refine g_k ?_;simp only[thenQ,blockQ])|(refine g_e ?_;simp only[thenQ,blockQ,↓reduceIte,Nat.reduceEqDiff])|(refine g_c (fun h=>?_) (fun h=>?_)<;>(try simp only[go_sem] at h)<;>(try exact g_f))|((first|refine g_g ?_|refine g_U ?_|refine g_A ?_|refine g_W ?_);(try simp -implicitDefEqProofs only[go_sem,hat]))|(with_reducible refine hK _ _ ?_;clear hK K)|(clear hK K;first|(with_reducible refine hK _ _ ?_;clear hK K)|(clear hK K;with_reducible refine hK _ _ ?_;clear hK K)|(clear hK K;clear hK K;with_reducible refine hK _ _ ?_;clear hK K))|(with_reducible refine splitB_intro (fun h=>?_) (fun h=>?_)<;>(try simp only[go_sem] at h)<;>(try exact g_f)<;>(try simp -implicitDefEqProofs only[go_sem,hat]))|(with_reducible refine And.intro (fun h=>?_) (fun h=>?_)<;>(try simp only[go_sem] at h)<;>(try exact g_f))|(with_reducible refine And.intro ?_ ?_;· exact g_x)|(with_reducible intro h;(try simp only[go_sem] at h);(try exact g_f))))
            refine hJ _ _ ?_
            clear hJ
            have hz := hend hat
            refine AWP_freezeAcc 14 intC 1 (y :: out) σ (.dead :: τ) [] (by simp [look, accV, Nat.add_assoc]) ?_
            (repeat' (first|(refine g_s fun K hK=>?_)|(refine g_b ?_)|(refine g_r ?_)|(refine g_k ?_;simp only[thenQ,blockQ])|(refine g_e ?_;simp only[thenQ,blockQ,↓reduceIte,Nat.reduceEqDiff])|(refine g_c (fun h=>?_) (fun h=>?_)<;>(try simp only[go_sem] at h)<;>(try exact g_f))|((first|refine g_t ?_|refine g_G ?_|refine g_U ?_|refine g_A ?_|refine g_W ?_);(try simp -implicitDefEqProofs only[go_sem]))|(with_reducible refine hK _ _ ?_;clear hK K)|(clear hK K;first|(with_reducible refine hK _ _ ?_;clear hK K)|(clear hK K;with_reducible refine hK _ _ ?_;clear hK K)|(clear hK K;clear hK K;with_reducible refine hK _ _ ?_;clear hK K))|(with_reducible refine splitB_intro (fun h=>?_) (fun h=>?_)<;>(try simp only[go_sem] at h)<;>(try exact g_f)<;>(try simp -implicitDefEqProofs only[go_sem]))|(with_reducible refine And.intro (fun h=>?_) (fun h=>?_)<;>(try simp only[go_sem] at h)<;>(try exact g_f))|(with_reducible refine And.intro ?_ ?_;· exact g_x)|(with_reducible intro h;(try simp only[go_sem] at h);(try exact g_f))))
            rw [hz]
            refine CutQ_w rfl ?_ (.eq rfl)
            exact .tupL (.cons (.ints _) (.cons (.c _) (.cons (.c _) .nil)))
          · obtain ⟨hstop, hgo⟩ := hgo hat
            by_cases hneg : v < 0
            · (repeat' (first|(refine g_s fun K hK=>?_)|(refine g_b ?_)|(refine g_r ?_)|(refine g_k ?_;simp only[thenQ,blockQ])|(refine g_e ?_;simp only[thenQ,blockQ,↓reduceIte,Nat.reduceEqDiff])|(refine g_c (fun h=>?_) (fun h=>?_)<;>(try simp only[go_sem] at h)<;>(try exact g_f))|((first|refine g_g ?_|refine g_U ?_|refine g_A ?_|refine g_W ?_);(try simp -implicitDefEqProofs only[go_sem,hat, hv2, hneg]))|(with_reducible refine hK _ _ ?_;clear hK K)|(clear hK K;first|(with_reducible refine hK _ _ ?_;clear hK K)|(clear hK K;with_reducible refine hK _ _ ?_;clear hK K)|(clear hK K;clear hK K;with_reducible refine hK _ _ ?_;clear hK K))|(with_reducible refine splitB_intro (fun h=>?_) (fun h=>?_)<;>(try simp only[go_sem] at h)<;>(try exact g_f)<;>(try simp -implicitDefEqProofs only[go_sem,hat, hv2, hneg]))|(with_reducible refine And.intro (fun h=>?_) (fun h=>?_)<;>(try simp only[go_sem] at h)<;>(try exact g_f))|(with_reducible refine And.intro ?_ ?_;· exact g_x)|(with_reducible intro h;(try simp only[go_sem] at h);(try exact g_f))))
              have hz := hstop (.inl hneg)
              refine AWP_freezeAcc 8 intC 1 (y :: out) σ (.dead :: τ) [] (by simp [look, accV, Nat.add_assoc]) ?_
              (repeat' (first|(refine g_s fun K hK=>?_)|(refine g_b ?_)|(refine g_r ?_)|(refine g_k ?_;simp only[thenQ,blockQ])|(refine g_e ?_;simp only[thenQ,blockQ,↓reduceIte,Nat.reduceEqDiff])|(refine g_c (fun h=>?_) (fun h=>?_)<;>(try simp only[go_sem] at h)<;>(try exact g_f))|((first|refine g_t ?_|refine g_G ?_|refine g_U ?_|refine g_A ?_|refine g_W ?_);(try simp -implicitDefEqProofs only[go_sem]))|(with_reducible refine hK _ _ ?_;clear hK K)|(clear hK K;first|(with_reducible refine hK _ _ ?_;clear hK K)|(clear hK K;with_reducible refine hK _ _ ?_;clear hK K)|(clear hK K;clear hK K;with_reducible refine hK _ _ ?_;clear hK K))|(with_reducible refine splitB_intro (fun h=>?_) (fun h=>?_)<;>(try simp only[go_sem] at h)<;>(try exact g_f)<;>(try simp -implicitDefEqProofs only[go_sem]))|(with_reducible refine And.intro (fun h=>?_) (fun h=>?_)<;>(try simp only[go_sem] at h)<;>(try exact g_f))|(with_reducible refine And.intro ?_ ?_;· exact g_x)|(with_reducible intro h;(try simp only[go_sem] at h);(try exact g_f))))
              rw [hz]
              refine CutQ_w rfl ?_ (.eq rfl)
              exact .tupL (.cons (.ints _) (.cons (.c _) (.cons (.c _) .nil)))
            · by_cases hm : v ∈ y :: out
              · (repeat' (first|(refine g_s fun K hK=>?_)|(refine g_b ?_)|(refine g_r ?_)|(refine g_k ?_;simp only[thenQ,blockQ])|(refine g_e ?_;simp only[thenQ,blockQ,↓reduceIte,Nat.reduceEqDiff])|(refine g_c (fun h=>?_) (fun h=>?_)<;>(try simp only[go_sem] at h)<;>(try exact g_f))|((first|refine g_g ?_|refine g_U ?_|refine g_A ?_|refine (contains_own (y :: out) v (by simp; omega) _ (elemsA_st σ (.dead :: τ) [] _ (by simp))).use ?_|refine g_q (fun τ=>contains_own (y :: out) v (by simp; omega) _ (elemsA_st σ (.dead :: τ) [] _ (by simp))) ?_|refine g_W ?_);(try simp -implicitDefEqProofs only[go_sem,hat, hv2, hneg, hm]))|(with_reducible refine hK _ _ ?_;clear hK K)|(clear hK K;first|(with_reducible refine hK _ _ ?_;clear hK K)|(clear hK K;with_reducible refine hK _ _ ?_;clear hK K)|(clear hK K;clear hK K;with_reducible refine hK _ _ ?_;clear hK K))|(with_reducible refine splitB_intro (fun h=>?_) (fun h=>?_)<;>(try simp only[go_sem] at h)<;>(try exact g_f)<;>(try simp -implicitDefEqProofs only[go_sem,hat, hv2, hneg, hm]))|(with_reducible refine And.intro (fun h=>?_) (fun h=>?_)<;>(try simp only[go_sem] at h)<;>(try exact g_f))|(with_reducible refine And.intro ?_ ?_;· exact g_x)|(with_reducible intro h;(try simp only[go_sem] at h);(try exact g_f))))
                have hz := hstop (.inr hm)
                refine AWP_freezeAcc 8 intC 1 (y :: out) σ (.dead :: τ) [] (by simp [look, accV, Nat.add_assoc]) ?_
                (repeat' (first|(refine g_s fun K hK=>?_)|(refine g_b ?_)|(refine g_r ?_)|(refine g_k ?_;simp only[thenQ,blockQ])|(refine g_e ?_;simp only[thenQ,blockQ,↓reduceIte,Nat.reduceEqDiff])|(refine g_c (fun h=>?_) (fun h=>?_)<;>(try simp only[go_sem] at h)<;>(try exact g_f))|((first|refine g_t ?_|refine g_G ?_|refine g_U ?_|refine g_A ?_|refine g_W ?_);(try simp -implicitDefEqProofs only[go_sem]))|(with_reducible refine hK _ _ ?_;clear hK K)|(clear hK K;first|(with_reducible refine hK _ _ ?_;clear hK K)|(clear hK K;with_reducible refine hK _ _ ?_;clear hK K)|(clear hK K;clear hK K;with_reducible refine hK _ _ ?_;clear hK K))|(with_reducible refine splitB_intro (fun h=>?_) (fun h=>?_)<;>(try simp only[go_sem] at h)<;>(try exact g_f)<;>(try simp -implicitDefEqProofs only[go_sem]))|(with_reducible refine And.intro (fun h=>?_) (fun h=>?_)<;>(try simp only[go_sem] at h)<;>(try exact g_f))|(with_reducible refine And.intro ?_ ?_;· exact g_x)|(with_reducible intro h;(try simp only[go_sem] at h);(try exact g_f))))
                rw [hz]
                refine CutQ_w rfl ?_ (.eq rfl)
                exact .tupL (.cons (.ints _) (.cons (.c _) (.cons (.c _) .nil)))
              · (repeat' (first|(refine g_s fun K hK=>?_)|(refine g_b ?_)|(refine g_r ?_)|(refine g_k ?_;simp only[thenQ,blockQ])|(refine g_e ?_;simp only[thenQ,blockQ,↓reduceIte,Nat.reduceEqDiff])|(refine g_c (fun h=>?_) (fun h=>?_)<;>(try simp only[go_sem] at h)<;>(try exact g_f))|((first|refine g_t ?_|refine g_G ?_|refine g_U ?_|refine g_A ?_|refine (contains_own (y :: out) v (by simp; omega) _ (elemsA_st σ (.dead :: τ) [] _ (by simp))).use ?_|refine g_q (fun τ=>contains_own (y :: out) v (by simp; omega) _ (elemsA_st σ (.dead :: τ) [] _ (by simp))) ?_|refine g_W ?_);(try simp -implicitDefEqProofs only[go_sem,hat, hv2, hneg, hm]))|(with_reducible refine hK _ _ ?_;clear hK K)|(clear hK K;first|(with_reducible refine hK _ _ ?_;clear hK K)|(clear hK K;with_reducible refine hK _ _ ?_;clear hK K)|(clear hK K;clear hK K;with_reducible refine hK _ _ ?_;clear hK K))|(with_reducible refine splitB_intro (fun h=>?_) (fun h=>?_)<;>(try simp only[go_sem] at h)<;>(try exact g_f)<;>(try simp -implicitDefEqProofs only[go_sem,hat, hv2, hneg, hm]))|(with_reducible refine And.intro (fun h=>?_) (fun h=>?_)<;>(try simp only[go_sem] at h)<;>(try exact g_f))|(with_reducible refine And.intro ?_ ?_;· exact g_x)|(with_reducible intro h;(try simp only[go_sem] at h);(try exact g_f))))
                refine hL (by omega) (y :: out ++ [v], v) (τ ++ [.dead]) _ _ (hgo (by omega) hm) (ALe_of ?_) ?_
                · simp -implicitDefEqProofs only [go_sem, accV]
                · simp [accO, intC, intA1]
  · refine ACalls_of_awp Try.func57 rfl Try.results57 ?_
    simp only [List.length_cons, List.length_nil, Try.ntmps57, Nat.reduceAdd, Nat.reduceSub, enterA]
    (repeat' (first|(refine g_s fun K hK=>?_)|(refine g_b ?_)|(refine g_r ?_)|(refine g_k ?_;simp only[thenQ,blockQ])|(refine g_e ?_;simp only[thenQ,blockQ,↓reduceIte,Nat.reduceEqDiff])|(refine g_c (fun h=>?_) (fun h=>?_)<;>(try simp only[go_sem] at h)<;>(try exact g_f))|((first|refine g_t ?_|refine g_g ?_|refine g_U ?_|refine g_A ?_|refine (hC _).use ?_|refine g_q (fun τ=>hC _) ?_|refine g_W ?_);(try simp -implicitDefEqProofs only[go_sem]))|(with_reducible refine hK _ _ ?_;clear hK K)|(clear hK K;first|(with_reducible refine hK _ _ ?_;clear hK K)|(clear hK K;with_reducible refine hK _ _ ?_;clear hK K)|(clear hK K;clear hK K;with_reducible refine hK _ _ ?_;clear hK K))|(with_reducible refine splitB_intro (fun h=>?_) (fun h=>?_)<;>(try simp only[go_sem] at h)<;>(try exact g_f)<;>(try simp -implicitDefEqProofs only[go_sem]))|(with_reducible refine And.intro (fun h=>?_) (fun h=>?_)<;>(try simp only[go_sem] at h)<;>(try exact g_f))|(with_reducible refine And.intro ?_ ?_;· exact g_x)|(with_reducible intro h;(try simp only[go_sem] at h);(try exact g_f))))
    refine CutQ_w rfl ?_ ?_
    · (repeat' (first | exact Bd.c _ | exact Bd.emp | exact BdL.nil | exact Bd.ints _ | refine Bd.aggL ?_ | refine Bd.tupL ?_ | refine BdL.cons ?_ ?_))
    · rw [walkC_bad (e := checkN n) (by rw [walkErr, tabErr, if_pos h0, if_pos h0]) h0]
      exact .tup (.cons .nil (.cons (.refl _) (.cons (.refl _) .nil)))
end Go.Proofs.Ytephecognbbaoab
