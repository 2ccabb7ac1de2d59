/- Algebras: the laws' shapes, what a law is asked of, and Holds. -/
import Derived.Test.YtephecognbbaoaaAb
import Derived.Test.YtephecognbbaoaaGr
import Derived.Test.YtephecognbbaoaaSy
namespace Go.Proofs.Ytephecognbbaoaa
open Go
set_option linter.all false
set_option maxRecDepth 100000
set_option maxHeartbeats 4000000

theorem YCalls.mono {P : Program} {l : Nat} {args : List AV} {σ : Store} {R R' : AV → Store → Prop} (h : YCalls P l args σ R) (hr : ∀ r σ', R r σ' → R' r σ') : YCalls P l args σ R' :=
  fun K imm m w vs hs hv => let ⟨rc, h1, h2, h3⟩ := h K imm m w vs hs hv
    ⟨rc, h1, h2, h3.mono fun _ _ ⟨i, m', v, r, s, a, b, c, d, e, f⟩ => ⟨i, m', v, r, s, a, b, c, d, e, hr _ _ f⟩⟩

def FC (good : Brk → Bool) (l : List Brk) : Option Brk := l.find? fun b => !good b
theorem FC_good {good : Brk → Bool} {b : Brk} (h : good b = true) (l : List Brk) : FC good (b :: l) = FC good l := by simp [FC, h]
theorem FC_bad {good : Brk → Bool} {b : Brk} (h : good b = false) (l : List Brk) : FC good (b :: l) = some b := by simp [FC, h]

theorem at0_ints {n k : Int} (h0 : 0 ≤ k) (h1 : k < n) : at0 (ints n) k = k := by
  have : k.toNat < (ints n).length := by rw [ints_length]; omega
  rw [at0, List.getD_eq_getElem?_getD, List.getElem?_eq_getElem this]
  simp [ints]
  omega

def sh3 (x : Alg) (law a b c : Int) : List Brk := (ints (upN (edgeA law) x.edges.length)).map fun e => ⟨law, a, b, c, e⟩
def sh2 (x : Alg) (law a b : Int) : List Brk := (ints (upN (decide (2 < manyA law)) x.size)).flatMap (sh3 x law a b)
def sh1 (x : Alg) (law a : Int) : List Brk := (ints (upN (decide (1 < manyA law)) x.size)).flatMap (sh2 x law a)
theorem casesA_eq (x : Alg) (law : Int) : casesA x law = (ints (upN (decide (0 < manyA law)) x.size)).flatMap (sh1 x law) := rfl

theorem upN_bd {b : Bool} {n : Int} (h : 0 ≤ n ∧ n ≤ 24) : 0 ≤ upN b n ∧ upN b n ≤ 24 := by unfold upN; split <;> omega

theorem cases1_calls (x : Alg) (law : Int) (hr : Right x) (l : Nat) (σ : Store) (good : Brk → Bool) (E : Brk → Store → Prop)
    (hy : ∀ b ∈ casesA x law, ∀ τ, YCalls Try.prog l [.agg (brkC b)] (σ ++ τ) fun r σ' => (good b = true ∧ r = .c (.bool true) ∧ ∃ τ', σ' = σ ++ τ') ∨ (good b = false ∧ r = .c (.bool false) ∧ E b σ')) :
    ACalls Try.prog 135 [.c (.func (.yield l) #[] #[]), .cp [intA1 (manyA law), .c (.bool (edgeA law))] 0, .cp (algC x) 0, .cp [intA1 law] 0] σ fun _ σ' => match FC good (casesA x law) with | none => ∃ τ', σ' = σ ++ τ' | some b => E b σ' := by
  have hm := many_bd law
  have s2 := hr.s2
  have s24 := hr.s24
  have e8 := hr.e8
  have nA := upN_bd (b := decide (0 < manyA law)) (n := x.size) (by omega)
  have nB := upN_bd (b := decide (1 < manyA law)) (n := x.size) (by omega)
  have nC := upN_bd (b := decide (2 < manyA law)) (n := x.size) (by omega)
  have nE := upN_bd (b := edgeA law) (n := x.edges.length) (by omega)
  refine ACalls_of_awp Try.func135 rfl Try.results135 ?_
  simp only [List.length_cons, List.length_nil, Try.ntmps135, Nat.reduceAdd, Nat.reduceSub, enterA]
  (repeat' (first|(refine g_s fun K hK=>?_)|(refine g_b ?_)|(refine g_r ?_)|(refine g_k ?_;simp only[thenQ,blockQ])|(refine g_e ?_;simp only[thenQ,blockQ,↓reduceIte,Nat.reduceEqDiff])|(refine g_c (fun h=>?_) (fun h=>?_)<;>(try simp only[go_sem] at h)<;>(try exact g_f))|((first|refine g_t ?_|refine g_g ?_|refine g_U ?_|refine g_A ?_|refine (upTo_calls _ _ _).use ?_|refine g_q (fun τ=>upTo_calls _ _ _) ?_|refine g_W ?_);(try simp -implicitDefEqProofs only[go_sem]))|(with_reducible refine hK _ _ ?_;clear hK K)|(clear hK K;first|(with_reducible refine hK _ _ ?_;clear hK K)|(clear hK K;with_reducible refine hK _ _ ?_;clear hK K)|(clear hK K;clear hK K;with_reducible refine hK _ _ ?_;clear hK K))|(with_reducible refine splitB_intro (fun h=>?_) (fun h=>?_)<;>(try simp only[go_sem] at h)<;>(try exact g_f)<;>(try simp -implicitDefEqProofs only[go_sem]))|(with_reducible refine And.intro (fun h=>?_) (fun h=>?_)<;>(try simp only[go_sem] at h)<;>(try exact g_f))|(with_reducible refine And.intro ?_ ?_;· exact g_x)|(with_reducible intro h;(try simp only[go_sem] at h);(try exact g_f))))
  refine AWP_each (ints (upN (decide (0 < manyA law)) x.size)) (fun _ r _ => FC good (casesA x law) = FC good (r.flatMap (sh1 x law))) (fun k _ _ => [(15, intA1 k)]) (fun _ _ τ => σ ++ τ) () [] rfl ?_ (ALe_of ?_) ?_ ?_
  · simp
  · simp -implicitDefEqProofs only [go_sem]
  · rintro ka ra _ τa hka0 hka1 hHa La hLa
    rw [ints_length] at hka1
    rw [at0_ints hka0 (by omega), List.flatMap_cons] at hHa
    simp -implicitDefEqProofs only [go_sem]
    (repeat' (first|(refine g_s fun K hK=>?_)|(refine g_b ?_)|(refine g_r ?_)|(refine g_k ?_;simp only[thenQ,blockQ])|(refine g_e ?_;simp only[thenQ,blockQ,↓reduceIte,Nat.reduceEqDiff])|(refine g_c (fun h=>?_) (fun h=>?_)<;>(try simp only[go_sem] at h)<;>(try exact g_f))|((first|refine g_t ?_|refine g_g ?_|refine g_U ?_|refine g_A ?_|refine (upTo_calls _ _ _).use ?_|refine g_q (fun τ=>upTo_calls _ _ _) ?_|refine g_W ?_);(try simp -implicitDefEqProofs only[go_sem]))|(with_reducible refine hK _ _ ?_;clear hK K)|(clear hK K;first|(with_reducible refine hK _ _ ?_;clear hK K)|(clear hK K;with_reducible refine hK _ _ ?_;clear hK K)|(clear hK K;clear hK K;with_reducible refine hK _ _ ?_;clear hK K))|(with_reducible refine splitB_intro (fun h=>?_) (fun h=>?_)<;>(try simp only[go_sem] at h)<;>(try exact g_f)<;>(try simp -implicitDefEqProofs only[go_sem]))|(with_reducible refine And.intro (fun h=>?_) (fun h=>?_)<;>(try simp only[go_sem] at h)<;>(try exact g_f))|(with_reducible refine And.intro ?_ ?_;· exact g_x)|(with_reducible intro h;(try simp only[go_sem] at h);(try exact g_f))))
    refine AWP_each (ints (upN (decide (1 < manyA law)) x.size)) (fun _ r _ => FC good (casesA x law) = FC good (r.flatMap (sh2 x law ka) ++ ra.flatMap (sh1 x law))) (fun k _ _ => [(24, intA1 k)]) (fun _ _ τ => σ ++ τ) () τa hHa rfl (ALe_of ?_) ?_ ?_
    · simp -implicitDefEqProofs only [go_sem]
    · rintro kb rb _ τb hkb0 hkb1 hHb Lb hLb
      rw [ints_length] at hkb1
      rw [at0_ints hkb0 (by omega), List.flatMap_cons, List.append_assoc] at hHb
      simp -implicitDefEqProofs only [go_sem]
      (repeat' (first|(refine g_s fun K hK=>?_)|(refine g_b ?_)|(refine g_r ?_)|(refine g_k ?_;simp only[thenQ,blockQ])|(refine g_e ?_;simp only[thenQ,blockQ,↓reduceIte,Nat.reduceEqDiff])|(refine g_c (fun h=>?_) (fun h=>?_)<;>(try simp only[go_sem] at h)<;>(try exact g_f))|((first|refine g_t ?_|refine g_g ?_|refine g_U ?_|refine g_A ?_|refine (upTo_calls _ _ _).use ?_|refine g_q (fun τ=>upTo_calls _ _ _) ?_|refine g_W ?_);(try simp -implicitDefEqProofs only[go_sem]))|(with_reducible refine hK _ _ ?_;clear hK K)|(clear hK K;first|(with_reducible refine hK _ _ ?_;clear hK K)|(clear hK K;with_reducible refine hK _ _ ?_;clear hK K)|(clear hK K;clear hK K;with_reducible refine hK _ _ ?_;clear hK K))|(with_reducible refine splitB_intro (fun h=>?_) (fun h=>?_)<;>(try simp only[go_sem] at h)<;>(try exact g_f)<;>(try simp -implicitDefEqProofs only[go_sem]))|(with_reducible refine And.intro (fun h=>?_) (fun h=>?_)<;>(try simp only[go_sem] at h)<;>(try exact g_f))|(with_reducible refine And.intro ?_ ?_;· exact g_x)|(with_reducible intro h;(try simp only[go_sem] at h);(try exact g_f))))
      refine AWP_each (ints (upN (decide (2 < manyA law)) x.size)) (fun _ r _ => FC good (casesA x law) = FC good (r.flatMap (sh3 x law ka kb) ++ (rb.flatMap (sh2 x law ka) ++ ra.flatMap (sh1 x law)))) (fun k _ _ => [(33, intA1 k)]) (fun _ _ τ => σ ++ τ) () τb hHb rfl (ALe_of ?_) ?_ ?_
      · simp -implicitDefEqProofs only [go_sem]
      · rintro kc rc _ τc hkc0 hkc1 hHc Lc hLc
        rw [ints_length] at hkc1
        rw [at0_ints hkc0 (by omega), List.flatMap_cons, List.append_assoc] at hHc
        simp -implicitDefEqProofs only [go_sem]
        (repeat' (first|(refine g_s fun K hK=>?_)|(refine g_b ?_)|(refine g_r ?_)|(refine g_k ?_;simp only[thenQ,blockQ])|(refine g_e ?_;simp only[thenQ,blockQ,↓reduceIte,Nat.reduceEqDiff])|(refine g_c (fun h=>?_) (fun h=>?_)<;>(try simp only[go_sem] at h)<;>(try exact g_f))|((first|refine g_t ?_|refine g_g ?_|refine g_U ?_|refine g_A ?_|refine (upTo_calls _ _ _).use ?_|refine g_q (fun τ=>upTo_calls _ _ _) ?_|refine g_W ?_);(try simp -implicitDefEqProofs only[go_sem]))|(with_reducible refine hK _ _ ?_;clear hK K)|(clear hK K;first|(with_reducible refine hK _ _ ?_;clear hK K)|(clear hK K;with_reducible refine hK _ _ ?_;clear hK K)|(clear hK K;clear hK K;with_reducible refine hK _ _ ?_;clear hK K))|(with_reducible refine splitB_intro (fun h=>?_) (fun h=>?_)<;>(try simp only[go_sem] at h)<;>(try exact g_f)<;>(try simp -implicitDefEqProofs only[go_sem]))|(with_reducible refine And.intro (fun h=>?_) (fun h=>?_)<;>(try simp only[go_sem] at h)<;>(try exact g_f))|(with_reducible refine And.intro ?_ ?_;· exact g_x)|(with_reducible intro h;(try simp only[go_sem] at h);(try exact g_f))))
        refine AWP_each (ints (upN (edgeA law) x.edges.length)) (fun _ r _ => FC good (casesA x law) = FC good (r.map (fun e => (⟨law, ka, kb, kc, e⟩ : Brk)) ++ (rc.flatMap (sh3 x law ka kb) ++ (rb.flatMap (sh2 x law ka) ++ ra.flatMap (sh1 x law))))) (fun k _ _ => [(42, intA1 k)]) (fun _ _ τ => σ ++ τ) () τc hHc rfl (ALe_of ?_) ?_ ?_
        · simp -implicitDefEqProofs only [go_sem]
        · rintro ke re _ τe hke0 hke1 hHe Le hLe
          rw [ints_length] at hke1
          rw [at0_ints hke0 (by omega), List.map_cons, List.cons_append] at hHe
          have hmem : (⟨law, ka, kb, kc, ke⟩ : Brk) ∈ casesA x law := mem_cases.2 ⟨rfl, ⟨hka0, by simp only; omega⟩, ⟨hkb0, by simp only; omega⟩, ⟨hkc0, by simp only; omega⟩, ⟨hke0, by simp only; omega⟩⟩
          simp -implicitDefEqProofs only [go_sem]
          (repeat' (first|(refine g_s fun K hK=>?_)|(refine g_b ?_)|(refine g_r ?_)|(refine g_k ?_;simp only[thenQ,blockQ])|(refine g_e ?_;simp only[thenQ,blockQ,↓reduceIte,Nat.reduceEqDiff])|(refine g_c (fun h=>?_) (fun h=>?_)<;>(try simp only[go_sem] at h)<;>(try exact g_f))|((first|refine g_t ?_|refine g_g ?_|refine g_U ?_|refine g_A ?_|refine g_W ?_);(try simp -implicitDefEqProofs only[go_sem]))|(with_reducible refine hK _ _ ?_;clear hK K)|(clear hK K;first|(with_reducible refine hK _ _ ?_;clear hK K)|(clear hK K;with_reducible refine hK _ _ ?_;clear hK K)|(clear hK K;clear hK K;with_reducible refine hK _ _ ?_;clear hK K))|(with_reducible refine splitB_intro (fun h=>?_) (fun h=>?_)<;>(try simp only[go_sem] at h)<;>(try exact g_f)<;>(try simp -implicitDefEqProofs only[go_sem]))|(with_reducible refine And.intro (fun h=>?_) (fun h=>?_)<;>(try simp only[go_sem] at h)<;>(try exact g_f))|(with_reducible refine And.intro ?_ ?_;· exact g_x)|(with_reducible intro h;(try simp only[go_sem] at h);(try exact g_f))))
          refine YCalls.mono (hy _ hmem τe) (fun r9 σ9 hr9 => ?_)
          rcases hr9 with ⟨hg, rfl, τ9, rfl⟩ | ⟨hg, rfl, hE⟩
          · simp -implicitDefEqProofs only [go_sem]
            (repeat' (first|(refine g_s fun K hK=>?_)|(refine g_b ?_)|(refine g_r ?_)|(refine g_k ?_;simp only[thenQ,blockQ])|(refine g_e ?_;simp only[thenQ,blockQ,↓reduceIte,Nat.reduceEqDiff])|(refine g_c (fun h=>?_) (fun h=>?_)<;>(try simp only[go_sem] at h)<;>(try exact g_f))|((first|refine g_t ?_|refine g_g ?_|refine g_U ?_|refine g_A ?_|refine g_W ?_);(try simp -implicitDefEqProofs only[go_sem]))|(with_reducible refine hK _ _ ?_;clear hK K)|(clear hK K;first|(with_reducible refine hK _ _ ?_;clear hK K)|(clear hK K;with_reducible refine hK _ _ ?_;clear hK K)|(clear hK K;clear hK K;with_reducible refine hK _ _ ?_;clear hK K))|(with_reducible refine splitB_intro (fun h=>?_) (fun h=>?_)<;>(try simp only[go_sem] at h)<;>(try exact g_f)<;>(try simp -implicitDefEqProofs only[go_sem]))|(with_reducible refine And.intro (fun h=>?_) (fun h=>?_)<;>(try simp only[go_sem] at h)<;>(try exact g_f))|(with_reducible refine And.intro ?_ ?_;· exact g_x)|(with_reducible intro h;(try simp only[go_sem] at h);(try exact g_f))))
            refine hLe () τ9 _ _ (by rw [hHe, FC_good hg]) (ALe_of ?_) rfl
            simp -implicitDefEqProofs only [go_sem]
          · simp -implicitDefEqProofs only [go_sem]
            (repeat' (first|(refine g_s fun K hK=>?_)|(refine g_b ?_)|(refine g_r ?_)|(refine g_k ?_;simp only[thenQ,blockQ])|(refine g_e ?_;simp only[thenQ,blockQ,↓reduceIte,Nat.reduceEqDiff])|(refine g_c (fun h=>?_) (fun h=>?_)<;>(try simp only[go_sem] at h)<;>(try exact g_f))|((first|refine g_t ?_|refine g_g ?_|refine g_U ?_|refine g_A ?_|refine g_W ?_);(try simp -implicitDefEqProofs only[go_sem]))|(with_reducible refine hK _ _ ?_;clear hK K)|(clear hK K;first|(with_reducible refine hK _ _ ?_;clear hK K)|(clear hK K;with_reducible refine hK _ _ ?_;clear hK K)|(clear hK K;clear hK K;with_reducible refine hK _ _ ?_;clear hK K))|(with_reducible refine splitB_intro (fun h=>?_) (fun h=>?_)<;>(try simp only[go_sem] at h)<;>(try exact g_f)<;>(try simp -implicitDefEqProofs only[go_sem]))|(with_reducible refine And.intro (fun h=>?_) (fun h=>?_)<;>(try simp only[go_sem] at h)<;>(try exact g_f))|(with_reducible refine And.intro ?_ ?_;· exact g_x)|(with_reducible intro h;(try simp only[go_sem] at h);(try exact g_f))))
            rw [hHe, FC_bad hg]
            exact hE
        · rintro ke _ τe hke hHe Le
          rw [ints_length] at hke
          simp -implicitDefEqProofs only [go_sem]
          (repeat' (first|(refine g_s fun K hK=>?_)|(refine g_b ?_)|(refine g_r ?_)|(refine g_k ?_;simp only[thenQ,blockQ])|(refine g_e ?_;simp only[thenQ,blockQ,↓reduceIte,Nat.reduceEqDiff])|(refine g_c (fun h=>?_) (fun h=>?_)<;>(try simp only[go_sem] at h)<;>(try exact g_f))|((first|refine g_t ?_|refine g_g ?_|refine g_U ?_|refine g_A ?_|refine g_W ?_);(try simp -implicitDefEqProofs only[go_sem]))|(with_reducible refine hK _ _ ?_;clear hK K)|(clear hK K;first|(with_reducible refine hK _ _ ?_;clear hK K)|(clear hK K;with_reducible refine hK _ _ ?_;clear hK K)|(clear hK K;clear hK K;with_reducible refine hK _ _ ?_;clear hK K))|(with_reducible refine splitB_intro (fun h=>?_) (fun h=>?_)<;>(try simp only[go_sem] at h)<;>(try exact g_f)<;>(try simp -implicitDefEqProofs only[go_sem]))|(with_reducible refine And.intro (fun h=>?_) (fun h=>?_)<;>(try simp only[go_sem] at h)<;>(try exact g_f))|(with_reducible refine And.intro ?_ ?_;· exact g_x)|(with_reducible intro h;(try simp only[go_sem] at h);(try exact g_f))))
          refine hLc () τe _ _ hHe (ALe_of ?_) rfl
          simp -implicitDefEqProofs only [go_sem]
      · rintro kc _ τc hkc hHc Lc
        rw [ints_length] at hkc
        simp -implicitDefEqProofs only [go_sem]
        (repeat' (first|(refine g_s fun K hK=>?_)|(refine g_b ?_)|(refine g_r ?_)|(refine g_k ?_;simp only[thenQ,blockQ])|(refine g_e ?_;simp only[thenQ,blockQ,↓reduceIte,Nat.reduceEqDiff])|(refine g_c (fun h=>?_) (fun h=>?_)<;>(try simp only[go_sem] at h)<;>(try exact g_f))|((first|refine g_t ?_|refine g_g ?_|refine g_U ?_|refine g_A ?_|refine g_W ?_);(try simp -implicitDefEqProofs only[go_sem]))|(with_reducible refine hK _ _ ?_;clear hK K)|(clear hK K;first|(with_reducible refine hK _ _ ?_;clear hK K)|(clear hK K;with_reducible refine hK _ _ ?_;clear hK K)|(clear hK K;clear hK K;with_reducible refine hK _ _ ?_;clear hK K))|(with_reducible refine splitB_intro (fun h=>?_) (fun h=>?_)<;>(try simp only[go_sem] at h)<;>(try exact g_f)<;>(try simp -implicitDefEqProofs only[go_sem]))|(with_reducible refine And.intro (fun h=>?_) (fun h=>?_)<;>(try simp only[go_sem] at h)<;>(try exact g_f))|(with_reducible refine And.intro ?_ ?_;· exact g_x)|(with_reducible intro h;(try simp only[go_sem] at h);(try exact g_f))))
        refine hLb () τc _ _ hHc (ALe_of ?_) rfl
        simp -implicitDefEqProofs only [go_sem]
    · rintro kb _ τb hkb hHb Lb
      rw [ints_length] at hkb
      simp -implicitDefEqProofs only [go_sem]
      (repeat' (first|(refine g_s fun K hK=>?_)|(refine g_b ?_)|(refine g_r ?_)|(refine g_k ?_;simp only[thenQ,blockQ])|(refine g_e ?_;simp only[thenQ,blockQ,↓reduceIte,Nat.reduceEqDiff])|(refine g_c (fun h=>?_) (fun h=>?_)<;>(try simp only[go_sem] at h)<;>(try exact g_f))|((first|refine g_t ?_|refine g_g ?_|refine g_U ?_|refine g_A ?_|refine g_W ?_);(try simp -implicitDefEqProofs only[go_sem]))|(with_reducible refine hK _ _ ?_;clear hK K)|(clear hK K;first|(with_reducible refine hK _ _ ?_;clear hK K)|(clear hK K;with_reducible refine hK _ _ ?_;clear hK K)|(clear hK K;clear hK K;with_reducible refine hK _ _ ?_;clear hK K))|(with_reducible refine splitB_intro (fun h=>?_) (fun h=>?_)<;>(try simp only[go_sem] at h)<;>(try exact g_f)<;>(try simp -implicitDefEqProofs only[go_sem]))|(with_reducible refine And.intro (fun h=>?_) (fun h=>?_)<;>(try simp only[go_sem] at h)<;>(try exact g_f))|(with_reducible refine And.intro ?_ ?_;· exact g_x)|(with_reducible intro h;(try simp only[go_sem] at h);(try exact g_f))))
      refine hLa () τb _ _ hHb (ALe_of ?_) rfl
      simp -implicitDefEqProofs only [go_sem]
  · rintro ka _ τa hka hHa La
    rw [ints_length] at hka
    simp -implicitDefEqProofs only [go_sem]
    (repeat' (first|(refine g_s fun K hK=>?_)|(refine g_b ?_)|(refine g_r ?_)|(refine g_k ?_;simp only[thenQ,blockQ])|(refine g_e ?_;simp only[thenQ,blockQ,↓reduceIte,Nat.reduceEqDiff])|(refine g_c (fun h=>?_) (fun h=>?_)<;>(try simp only[go_sem] at h)<;>(try exact g_f))|((first|refine g_t ?_|refine g_g ?_|refine g_U ?_|refine g_A ?_|refine g_W ?_);(try simp -implicitDefEqProofs only[go_sem]))|(with_reducible refine hK _ _ ?_;clear hK K)|(clear hK K;first|(with_reducible refine hK _ _ ?_;clear hK K)|(clear hK K;with_reducible refine hK _ _ ?_;clear hK K)|(clear hK K;clear hK K;with_reducible refine hK _ _ ?_;clear hK K))|(with_reducible refine splitB_intro (fun h=>?_) (fun h=>?_)<;>(try simp only[go_sem] at h)<;>(try exact g_f)<;>(try simp -implicitDefEqProofs only[go_sem]))|(with_reducible refine And.intro (fun h=>?_) (fun h=>?_)<;>(try simp only[go_sem] at h)<;>(try exact g_f))|(with_reducible refine And.intro ?_ ?_;· exact g_x)|(with_reducible intro h;(try simp only[go_sem] at h);(try exact g_f))))
    simp -implicitDefEqProofs only [go_sem]
    rw [hHa]
    exact ⟨τa, rfl⟩
end Go.Proofs.Ytephecognbbaoaa
namespace Go.Proofs.Ytephecognbbaoaa
open Go
set_option linter.all false
set_option maxRecDepth 100000
set_option maxHeartbeats 4000000

theorem FC_first (x : Alg) (l : List Brk) : firstB x l = (FC (holdsA x) l).getD zeroB := rfl
theorem FC_app (good : Brk → Bool) (l r : List Brk) : FC good (l ++ r) = (FC good l).or (FC good r) := by simp [FC]

theorem lp_same {r : Loop} (h : r.state = .ready) (h2 : r.pending = none) : ({ r with state := .ready, pending := none } : Loop) = r := by
  cases r; simp_all

def caseFn (x : Alg) (law : Int) : AV := .fn 135 [] [.cp [intA1 (manyA law), .c (.bool (edgeA law))] 0, .cp (algC x) 0, .cp [intA1 law] 0]

theorem broken_calls' (x : Alg) (laws : List Int) (hr : Right x) (hl : laws.length ≤ 100) (hlaw : ∀ law ∈ laws, 1 ≤ law ∧ law ≤ 9)
    (hcases : ∀ law ∈ laws, ∀ σ, ACalls Try.prog 120 [.agg (algC x), intA1 law] σ fun r σ' => σ' = σ ∧ r = caseFn x law) (σ : Store) :
    ACalls Try.prog 100 [.agg (algC x), intsA laws] σ fun r σ' => σ' = σ ∧ r = .agg (brkC (brokenA x laws)) := by
  refine ACalls.cutX ?_
  refine ACalls_of_awp Try.func100 rfl Try.results100 ?_
  simp only [List.length_cons, List.length_nil, Try.ntmps100, Nat.reduceAdd, Nat.reduceSub, enterA]
  refine AWP_seq_k fun K hK => ?_
  (refine AWP_region ?_; simp -implicitDefEqProofs only [go_sem])
  refine hK _ _ ?_; clear hK K
  refine AWP_freezeP 2 rfl (by simp only [st0]; rfl) ?_
  simp only [ss0, List.set_cons_zero]
  (repeat' (first|(refine g_s fun K hK=>?_)|(refine g_b ?_)|(refine g_r ?_)|(refine g_k ?_;simp only[thenQ,blockQ])|(refine g_e ?_;simp only[thenQ,blockQ,↓reduceIte,Nat.reduceEqDiff])|(refine g_c (fun h=>?_) (fun h=>?_)<;>(try simp only[go_sem] at h)<;>(try exact g_f))|((first|refine g_t ?_|refine g_g ?_|refine g_U ?_|refine g_A ?_|refine g_W ?_);(try simp -implicitDefEqProofs only[go_sem]))|(with_reducible refine hK _ _ ?_;clear hK K)|(clear hK K;first|(with_reducible refine hK _ _ ?_;clear hK K)|(clear hK K;with_reducible refine hK _ _ ?_;clear hK K)|(clear hK K;clear hK K;with_reducible refine hK _ _ ?_;clear hK K))|(with_reducible refine splitB_intro (fun h=>?_) (fun h=>?_)<;>(try simp only[go_sem] at h)<;>(try exact g_f)<;>(try simp -implicitDefEqProofs only[go_sem]))|(with_reducible refine And.intro (fun h=>?_) (fun h=>?_)<;>(try simp only[go_sem] at h)<;>(try exact g_f))|(with_reducible refine And.intro ?_ ?_;· exact g_x)|(with_reducible intro h;(try simp only[go_sem] at h);(try exact g_f))))
  have hJ := hK
  clear hK
  refine AWP_each laws (fun _ r _ => FC (holdsA x) (laws.flatMap (casesA x)) = FC (holdsA x) (r.flatMap (casesA x))) (fun k _ _ => [(10, intA1 k)]) (fun _ _ τ => σ ++ (.dead :: .cells 5 [brkC zeroB] :: τ)) () [] rfl rfl (ALe_of ?_) ?_ ?_
  · simp -implicitDefEqProofs only [go_sem]
  · rintro k r _ τ hk0 hk1 hH L hL
    have hmem := at0_mem laws hk0 hk1
    obtain ⟨law, hla⟩ : ∃ law, at0 laws k = law := ⟨_, rfl⟩
    rw [hla] at hH hmem
    simp -implicitDefEqProofs only [go_sem]
    (repeat' (first|(refine g_s fun K hK=>?_)|(refine g_b ?_)|(refine g_r ?_)|(refine g_k ?_;simp only[thenQ,blockQ])|(refine g_e ?_;simp only[thenQ,blockQ,↓reduceIte,Nat.reduceEqDiff])|(refine g_c (fun h=>?_) (fun h=>?_)<;>(try simp only[go_sem] at h)<;>(try exact g_f))|((first|refine g_t ?_|refine g_g ?_|refine g_U ?_|refine g_A ?_|refine (hcases law hmem _).use ?_|refine g_q (fun τ=>hcases law hmem _) ?_|refine g_W ?_);(try simp -implicitDefEqProofs only[go_sem,hla]))|(with_reducible refine hK _ _ ?_;clear hK K)|(clear hK K;first|(with_reducible refine hK _ _ ?_;clear hK K)|(clear hK K;with_reducible refine hK _ _ ?_;clear hK K)|(clear hK K;clear hK K;with_reducible refine hK _ _ ?_;clear hK K))|(with_reducible refine splitB_intro (fun h=>?_) (fun h=>?_)<;>(try simp only[go_sem] at h)<;>(try exact g_f)<;>(try simp -implicitDefEqProofs only[go_sem,hla]))|(with_reducible refine And.intro (fun h=>?_) (fun h=>?_)<;>(try simp only[go_sem] at h)<;>(try exact g_f))|(with_reducible refine And.intro ?_ ?_;· exact g_x)|(with_reducible intro h;(try simp only[go_sem] at h);(try exact g_f))))
    refine AWPr.weak (β := [(16, caseFn x law), (10, intA1 k), (9, intA1 laws.length), (8, intsA laws), (2, .cp (algC x) 0), (4, .ptr (σ.length + 1) 5 0 0), (0, .agg (algC x)), (1, intsA laws)]) (ALe_of ?_) ?_
    · simp -implicitDefEqProofs only [go_sem]
    refine AWP_range (g := 135) rfl (by simp only [go_sem]) (fun l rc g1 g2 g3 g4 g5 => ?_)
    obtain ⟨rd, hrd⟩ : ∃ q : Loop, q = { rc with state := .done, pending := some .ret } := ⟨_, rfl⟩
    have hy : ∀ b ∈ casesA x law, ∀ S : Store, S[σ.length + 1]? = some (.cells 5 [brkC zeroB]) → S[σ.length + (τ.length + 2)]? = some (.lp l [(16, caseFn x law), (10, intA1 k), (9, intA1 laws.length), (8, intsA laws), (2, .cp (algC x) 0), (4, .ptr (σ.length + 1) 5 0 0), (0, .agg (algC x)), (1, intsA laws)] 25 rc) → YCalls Try.prog l [.agg (brkC b)] S fun r σ' =>
        (holdsA x b = true ∧ r = .c (.bool true) ∧ ∃ τ', σ' = S ++ τ') ∨
        (holdsA x b = false ∧ r = .c (.bool false) ∧ ∃ τ', σ' = (S.set (σ.length + 1) (.cells 5 [brkC b])).set (σ.length + (τ.length + 2)) (.lp l [(16, caseFn x law), (10, intA1 k), (9, intA1 laws.length), (8, intsA laws), (2, .cp (algC x) 0), (4, .ptr (σ.length + 1) 5 0 0), (0, .agg (algC x)), (1, intsA laws)] 25 rd) ++ τ') := by
      intro b hb S hS1 hS2
      have hbl := (mem_cases.1 hb).1
      have hin : InR x b := inR_of hr (checkB_iff.2 ⟨by rw [hbl]; exact hlaw law hmem, by rw [hbl]; exact hb⟩)
      have hlt1 : σ.length + 1 < S.length := (List.getElem?_eq_some_iff.1 hS1).1
      have hlt2 : σ.length + (τ.length + 2) < S.length := (List.getElem?_eq_some_iff.1 hS2).1
      refine YCalls_of (b := σ.length + (τ.length + 2)) (N := 25) (al := [(16, caseFn x law), (10, intA1 k), (9, intA1 laws.length), (8, intsA laws), (2, .cp (algC x) 0), (4, .ptr (σ.length + 1) 5 0 0), (0, .agg (algC x)), (1, intsA laws)]) hS2 g1 g3 (by omega) ?_
      clear hJ hL hK
      obtain ⟨rb, hrb⟩ : ∃ q : Loop, q = { rc with state := .busy } := ⟨_, rfl⟩
      rw [← hrb, g4, g5]
      (refine AWP_region ?_; simp -implicitDefEqProofs only [go_sem])
      refine ⟨by rw [List.getElem?_append_left hlt2]; exact hS2, ?_⟩
      rw [List.set_append_left _ _ hlt2]
      obtain ⟨S2, hS⟩ : ∃ q : Store, q = S.set (σ.length + (τ.length + 2)) (.lp l [(16, caseFn x law), (10, intA1 k), (9, intA1 laws.length), (8, intsA laws), (2, .cp (algC x) 0), (4, .ptr (σ.length + 1) 5 0 0), (0, .agg (algC x)), (1, intsA laws)] 25 rb) := ⟨_, rfl⟩
      have hlen : S.length = S2.length := by rw [hS]; simp
      have h21 : S2[σ.length + 1]? = some (.cells 5 [brkC zeroB]) := by rw [hS, List.getElem?_set_ne (by omega)]; exact hS1
      have h22 : S2[σ.length + (τ.length + 2)]? = some (.lp l [(16, caseFn x law), (10, intA1 k), (9, intA1 laws.length), (8, intsA laws), (2, .cp (algC x) 0), (4, .ptr (σ.length + 1) 5 0 0), (0, .agg (algC x)), (1, intsA laws)] 25 rb) := by rw [hS, List.getElem?_set_self (by omega)]
      have h4 : ∀ ρ : Store, (S2 ++ ρ)[σ.length + 1]? = some (.cells 5 [brkC zeroB]) := fun ρ => by rw [List.getElem?_append_left (by omega)]; exact h21
      have h5 : ∀ (ρ : Store) (ob : Ob), (S2 ++ ρ).set (σ.length + 1) ob = S2.set (σ.length + 1) ob ++ ρ := fun ρ ob => List.set_append_left _ _ (by omega)
      have hback : S2.set (σ.length + (τ.length + 2)) (.lp l [(16, caseFn x law), (10, intA1 k), (9, intA1 laws.length), (8, intsA laws), (2, .cp (algC x) 0), (4, .ptr (σ.length + 1) 5 0 0), (0, .agg (algC x)), (1, intsA laws)] 25 { rc with state := .ready, pending := none }) = S := by
        rw [hS, List.set_set, lp_same g1 g2]
        apply List.ext_getElem?
        intro i
        by_cases e : i = σ.length + (τ.length + 2)
        · rw [e, List.getElem?_set_self (by omega), hS2]
        · rw [List.getElem?_set_ne (by omega)]
      have hgo : AWPr (some l) Try.prog 25 rc.body (roundQ l (σ.length + (τ.length + 2)) [(16, caseFn x law), (10, intA1 k), (9, intA1 laws.length), (8, intsA laws), (2, .cp (algC x) 0), (4, .ptr (σ.length + 1) 5 0 0), (0, .agg (algC x)), (1, intsA laws)] 25 rc fun r σ' =>
        (holdsA x b = true ∧ r = .c (.bool true) ∧ ∃ τ', σ' = S ++ τ') ∨
        (holdsA x b = false ∧ r = .c (.bool false) ∧ ∃ τ', σ' = (S.set (σ.length + 1) (.cells 5 [brkC b])).set (σ.length + (τ.length + 2)) (.lp l [(16, caseFn x law), (10, intA1 k), (9, intA1 laws.length), (8, intsA laws), (2, .cp (algC x) 0), (4, .ptr (σ.length + 1) 5 0 0), (0, .agg (algC x)), (1, intsA laws)] 25 rd) ++ τ'))
        [(7, .ptr S2.length 5 0 0), (2, .cp (algC x) 0), (4, .ptr (σ.length + 1) 5 0 0), (0, .agg (algC x)), (1, intsA laws)] (S2 ++ [.cells 5 [brkC b]]) := by
        rw [g5]
        (repeat' (first|(refine g_s fun K hK=>?_)|(refine g_b ?_)|(refine g_r ?_)|(refine g_k ?_;simp only[thenQ,blockQ])|(refine g_e ?_;simp only[thenQ,blockQ,↓reduceIte,Nat.reduceEqDiff])|(refine g_c (fun h=>?_) (fun h=>?_)<;>(try simp only[go_sem] at h)<;>(try exact g_f))|((first|refine g_t ?_|refine g_g ?_|refine g_U ?_|refine g_A ?_|refine (holds_calls x b hr hin _).use ?_|refine g_q (fun τ=>holds_calls x b hr hin _) ?_|refine g_W ?_);(try simp -implicitDefEqProofs only[go_sem,h4, h5]))|(with_reducible refine hK _ _ ?_;clear hK K)|(clear hK K;first|(with_reducible refine hK _ _ ?_;clear hK K)|(clear hK K;with_reducible refine hK _ _ ?_;clear hK K)|(clear hK K;clear hK K;with_reducible refine hK _ _ ?_;clear hK K))|(with_reducible refine splitB_intro (fun h=>?_) (fun h=>?_)<;>(try simp only[go_sem] at h)<;>(try exact g_f)<;>(try simp -implicitDefEqProofs only[go_sem,h4, h5]))|(with_reducible refine And.intro (fun h=>?_) (fun h=>?_)<;>(try simp only[go_sem] at h)<;>(try exact g_f))|(with_reducible refine And.intro ?_ ?_;· exact g_x)|(with_reducible intro h;(try simp only[go_sem] at h);(try exact g_f))))
        · simp only [roundQ]
          refine ⟨?_, .inr ⟨by assumption, trivial, [.cells 5 [brkC b]], ?_⟩⟩
          · rw [List.getElem?_append_left (by simp; omega), List.getElem?_set_ne (by omega)]
            rw [hrb] at h22
            exact h22
          · rw [← hrd, List.set_append_left _ _ (by simp; omega)]
            have e : (S2.set (σ.length + 1) (.cells 5 [brkC b])).set (σ.length + (τ.length + 2)) (.lp l [(16, caseFn x law), (10, intA1 k), (9, intA1 laws.length), (8, intsA laws), (2, .cp (algC x) 0), (4, .ptr (σ.length + 1) 5 0 0), (0, .agg (algC x)), (1, intsA laws)] 25 rd) = (S.set (σ.length + 1) (.cells 5 [brkC b])).set (σ.length + (τ.length + 2)) (.lp l [(16, caseFn x law), (10, intA1 k), (9, intA1 laws.length), (8, intsA laws), (2, .cp (algC x) 0), (4, .ptr (σ.length + 1) 5 0 0), (0, .agg (algC x)), (1, intsA laws)] 25 rd) := by
              rw [hS, List.set_comm _ _ (by omega), List.set_set]
              exact List.set_comm _ _ (by omega)
            exact congrArg (· ++ [Ob.cells 5 [brkC b]]) e
        · simp only [roundQ]
          refine ⟨?_, .inl ⟨by assumption, trivial, [.cells 5 [brkC b]], ?_⟩⟩
          · rw [List.getElem?_append_left (by omega)]
            rw [hrb] at h22
            exact h22
          · rw [List.set_append_left _ _ (by omega)]
            exact congrArg (· ++ [Ob.cells 5 [brkC b]]) hback
      rw [g5, hS] at hgo
      refine AWPr.weak (ALe_of ?_) hgo
      simp -implicitDefEqProofs only [go_sem, List.length_set]
    have hc1 := cases1_calls x law hr l (σ ++ (.dead :: .cells 5 [brkC zeroB] :: (τ ++ [.lp l [(16, caseFn x law), (10, intA1 k), (9, intA1 laws.length), (8, intsA laws), (2, .cp (algC x) 0), (4, .ptr (σ.length + 1) 5 0 0), (0, .agg (algC x)), (1, intsA laws)] 25 rc]))) (holdsA x) (fun b σ' => ∃ τ', σ' = σ ++ (.dead :: .cells 5 [brkC b] :: (τ ++ (.lp l [(16, caseFn x law), (10, intA1 k), (9, intA1 laws.length), (8, intsA laws), (2, .cp (algC x) 0), (4, .ptr (σ.length + 1) 5 0 0), (0, .agg (algC x)), (1, intsA laws)] 25 rd :: τ'))))
      (fun b hb τ2 => YCalls.mono (hy b hb _ (by simp) (by simp)) (fun r9 σ9 h9 => by
        rcases h9 with ⟨h1, h2, τ', h3⟩ | ⟨h1, h2, τ', h3⟩
        · exact .inl ⟨h1, h2, τ2 ++ τ', by rw [h3]; simp⟩
        · exact .inr ⟨h1, h2, τ2 ++ τ', by rw [h3]; simp⟩))
    have e : σ ++ (.dead :: .cells 5 [brkC zeroB] :: τ) ++ [.lp l [(16, caseFn x law), (10, intA1 k), (9, intA1 laws.length), (8, intsA laws), (2, .cp (algC x) 0), (4, .ptr (σ.length + 1) 5 0 0), (0, .agg (algC x)), (1, intsA laws)] 25 rc] = σ ++ (.dead :: .cells 5 [brkC zeroB] :: (τ ++ [.lp l [(16, caseFn x law), (10, intA1 k), (9, intA1 laws.length), (8, intsA laws), (2, .cp (algC x) 0), (4, .ptr (σ.length + 1) 5 0 0), (0, .agg (algC x)), (1, intsA laws)] 25 rc])) := by simp
    rw [← e] at hc1
    rw [List.flatMap_cons, FC_app] at hH
    refine ACalls.mono hc1 (fun r9 σ9 h9 => ?_)
    cases hF : FC (holdsA x) (casesA x law) with
    | none =>
      rw [hF] at h9 hH
      obtain ⟨τ', rfl⟩ := h9
      refine ⟨rc, by simp, by rw [g1]; simp, ?_⟩
      rw [g2]
      simp only [blockQ, thenQ]
      simp -implicitDefEqProofs only [go_sem]
      refine hK _ _ ?_
      clear hK
      (repeat' (first|(refine g_s fun K hK=>?_)|(refine g_b ?_)|(refine g_r ?_)|(refine g_k ?_;simp only[thenQ,blockQ])|(refine g_e ?_;simp only[thenQ,blockQ,↓reduceIte,Nat.reduceEqDiff])|(refine g_c (fun h=>?_) (fun h=>?_)<;>(try simp only[go_sem] at h)<;>(try exact g_f))|((first|refine g_t ?_|refine g_g ?_|refine g_U ?_|refine g_A ?_|refine g_W ?_);(try simp -implicitDefEqProofs only[go_sem]))|(with_reducible refine hK _ _ ?_;clear hK K)|(clear hK K;first|(with_reducible refine hK _ _ ?_;clear hK K)|(clear hK K;with_reducible refine hK _ _ ?_;clear hK K)|(clear hK K;clear hK K;with_reducible refine hK _ _ ?_;clear hK K))|(with_reducible refine splitB_intro (fun h=>?_) (fun h=>?_)<;>(try simp only[go_sem] at h)<;>(try exact g_f)<;>(try simp -implicitDefEqProofs only[go_sem]))|(with_reducible refine And.intro (fun h=>?_) (fun h=>?_)<;>(try simp only[go_sem] at h)<;>(try exact g_f))|(with_reducible refine And.intro ?_ ?_;· exact g_x)|(with_reducible intro h;(try simp only[go_sem] at h);(try exact g_f))))
      refine hL () (τ ++ .dead :: τ') _ _ (by rw [hH]; rfl) (ALe_of ?_) (by simp [brkC, intA1])
      simp -implicitDefEqProofs only [go_sem]
    | some b =>
      rw [hF] at h9 hH
      obtain ⟨τ', rfl⟩ := h9
      refine ⟨rd, by simp, by rw [hrd]; simp, ?_⟩
      rw [hrd]
      simp only
      refine AWP_ret ?_
      simp -implicitDefEqProofs only [go_sem]
      have hb : brokenA x laws = b := by
        show (FC (holdsA x) (laws.flatMap (casesA x))).getD zeroB = b
        rw [hH]
        rfl
      rw [hb]
      refine CutQ_w rfl ?_ ?_
      · (repeat' (first | exact Bd.c _ | exact Bd.emp | exact BdL.nil | exact Bd.ints _ | refine Bd.aggL ?_ | refine Bd.tupL ?_ | refine BdL.cons ?_ ?_))
      · (repeat' (first | exact Wk.nil | exact Wk.emp | exact WkL.nil | (with_reducible exact Wk.refl _) | refine Wk.agg ?_ | refine Wk.tup ?_ | refine WkL.cons ?_ ?_ | (refine Wk.eq ?_; rfl)))
  · rintro k _ τ hk hH L
    simp -implicitDefEqProofs only [go_sem]
    (repeat' (first|(refine g_s fun K hK=>?_)|(refine g_b ?_)|(refine g_r ?_)|(refine g_k ?_;simp only[thenQ,blockQ])|(refine g_e ?_;simp only[thenQ,blockQ,↓reduceIte,Nat.reduceEqDiff])|(refine g_c (fun h=>?_) (fun h=>?_)<;>(try simp only[go_sem] at h)<;>(try exact g_f))|((first|refine g_t ?_|refine g_g ?_|refine g_U ?_|refine g_A ?_|refine g_W ?_);(try simp -implicitDefEqProofs only[go_sem]))|(with_reducible refine hK _ _ ?_;clear hK K)|(clear hK K;first|(with_reducible refine hK _ _ ?_;clear hK K)|(clear hK K;with_reducible refine hK _ _ ?_;clear hK K)|(clear hK K;clear hK K;with_reducible refine hK _ _ ?_;clear hK K))|(with_reducible refine splitB_intro (fun h=>?_) (fun h=>?_)<;>(try simp only[go_sem] at h)<;>(try exact g_f)<;>(try simp -implicitDefEqProofs only[go_sem]))|(with_reducible refine And.intro (fun h=>?_) (fun h=>?_)<;>(try simp only[go_sem] at h)<;>(try exact g_f))|(with_reducible refine And.intro ?_ ?_;· exact g_x)|(with_reducible intro h;(try simp only[go_sem] at h);(try exact g_f))))
    refine hJ _ _ ?_
    clear hJ
    (repeat' (first|(refine g_s fun K hK=>?_)|(refine g_b ?_)|(refine g_r ?_)|(refine g_k ?_;simp only[thenQ,blockQ])|(refine g_e ?_;simp only[thenQ,blockQ,↓reduceIte,Nat.reduceEqDiff])|(refine g_c (fun h=>?_) (fun h=>?_)<;>(try simp only[go_sem] at h)<;>(try exact g_f))|((first|refine g_t ?_|refine g_g ?_|refine g_U ?_|refine g_A ?_|refine g_W ?_);(try simp -implicitDefEqProofs only[go_sem]))|(with_reducible refine hK _ _ ?_;clear hK K)|(clear hK K;first|(with_reducible refine hK _ _ ?_;clear hK K)|(clear hK K;with_reducible refine hK _ _ ?_;clear hK K)|(clear hK K;clear hK K;with_reducible refine hK _ _ ?_;clear hK K))|(with_reducible refine splitB_intro (fun h=>?_) (fun h=>?_)<;>(try simp only[go_sem] at h)<;>(try exact g_f)<;>(try simp -implicitDefEqProofs only[go_sem]))|(with_reducible refine And.intro (fun h=>?_) (fun h=>?_)<;>(try simp only[go_sem] at h)<;>(try exact g_f))|(with_reducible refine And.intro ?_ ?_;· exact g_x)|(with_reducible intro h;(try simp only[go_sem] at h);(try exact g_f))))
    have hb : brokenA x laws = zeroB := by
      show (FC (holdsA x) (laws.flatMap (casesA x))).getD zeroB = zeroB
      rw [hH]
      rfl
    rw [hb]
    refine CutQ_w rfl ?_ ?_
    · (repeat' (first | exact Bd.c _ | exact Bd.emp | exact BdL.nil | exact Bd.ints _ | refine Bd.aggL ?_ | refine Bd.tupL ?_ | refine BdL.cons ?_ ?_))
    · (repeat' (first | exact Wk.nil | exact Wk.emp | exact WkL.nil | (with_reducible exact Wk.refl _) | refine Wk.agg ?_ | refine Wk.tup ?_ | refine WkL.cons ?_ ?_ | (refine Wk.eq ?_; rfl)))
end Go.Proofs.Ytephecognbbaoaa
namespace Go.Proofs.Ytephecognbbaoaa
open Go
set_option linter.all false
set_option maxRecDepth 100000
set_option maxHeartbeats 4000000

def shapeC (n : Int) (e : Bool) : AV := .agg [intA1 n, .c (.bool e)]
def shapesE : List (Value × AV) := [(.int .i64 1, shapeC 2 false), (.int .i64 2, shapeC 3 false), (.int .i64 3, shapeC 2 false), (.int .i64 4, shapeC 1 false), (.int .i64 5, shapeC 1 false),
  (.int .i64 6, shapeC 0 true), (.int .i64 7, shapeC 1 true), (.int .i64 8, shapeC 1 true), (.int .i64 9, shapeC 2 true)]

def BdM (n : Nat) : List (Value × AV) → Prop
  | [] => True
  | e :: r => Bd n e.2 ∧ BdM n r
theorem BdM.get {n : Nat} : ∀ {es : List (Value × AV)}, BdM n es → ∀ i (h : i < es.length), Bd n es[i].2
  | [], _, i, h => by simp at h
  | e :: r, hb, 0, _ => hb.1
  | e :: r, hb, i + 1, h => BdM.get hb.2 i (by simpa using h)
theorem Bd.cmL {n : Nat} {es : List (Value × AV)} (h : BdM n es) : Bd n (.cm es) := .cm _ h.get
theorem Bd.cpL {n : Nat} {l : List AV} {off : Nat} (h : BdL n l) : Bd n (.cp l off) := .cp _ _ h
theorem Bd.fnL {n : Nat} {f : FuncId} {l l' : List AV} (h : BdL n l) (h' : BdL n l') : Bd n (.fn f l l') := .fn _ _ _ h h'

theorem shapes_KK : KK Try.prog 3 shapesE = True := by simp [KK, shapesE, keyK_int, I64]
theorem shapes_DK : DK shapesE = True := by simp [DK, NK, shapesE]
theorem shapes_find (law : Int) (h : 1 ≤ law ∧ law ≤ 9) : findK shapesE (.int .i64 law) = some (shapeC (manyA law) (edgeA law)) := by
  have : law = 1 ∨ law = 2 ∨ law = 3 ∨ law = 4 ∨ law = 5 ∨ law = 6 ∨ law = 7 ∨ law = 8 ∨ law = 9 := by omega
  rcases this with rfl | rfl | rfl | rfl | rfl | rfl | rfl | rfl | rfl <;> simp [findK, shapesE, manyA, edgeA]
theorem shapes_none (law : Int) (h : law < 1 ∨ 9 < law) : findK shapesE (.int .i64 law) = none := by
  refine findK_none fun e he => ?_
  simp only [shapesE, List.mem_cons, List.not_mem_nil, or_false] at he
  rcases he with rfl | rfl | rfl | rfl | rfl | rfl | rfl | rfl | rfl <;> simp <;> omega
attribute [go_sem] shapes_KK shapes_DK

theorem shapes_calls (σ : Store) : ACalls Try.prog 60 [] σ fun r σ' => σ' = σ ∧ r = .cm shapesE := by
  refine ACalls.cutX ?_
  refine ACalls_of_awp Try.func60 rfl Try.results60 ?_
  simp only [List.length_cons, List.length_nil, Try.ntmps60, Nat.reduceAdd, Nat.reduceSub, enterA]
  refine AWP_seq_k fun K hK => ?_
  (refine AWP_region ?_; simp -implicitDefEqProofs only [go_sem])
  refine hK _ _ ?_; clear hK K
  refine AWP_seq_k fun K hK => ?_
  (refine AWP_region ?_; simp -implicitDefEqProofs only [go_sem, putK, Value.int.injEq, I64])
  refine hK _ _ ?_; clear hK K
  refine AWP_freezeM 0 rfl (by first | rfl | (simp -implicitDefEqProofs only [go_sem]; done) | (simp -implicitDefEqProofs only [go_sem]; rfl)) ?_
  (repeat' (first|(refine g_s fun K hK=>?_)|(refine g_b ?_)|(refine g_r ?_)|(refine g_k ?_;simp only[thenQ,blockQ])|(refine g_e ?_;simp only[thenQ,blockQ,↓reduceIte,Nat.reduceEqDiff])|(refine g_c (fun h=>?_) (fun h=>?_)<;>(try simp only[go_sem] at h)<;>(try exact g_f))|((first|refine g_t ?_|refine g_g ?_|refine g_U ?_|refine g_A ?_|refine g_W ?_);(try simp -implicitDefEqProofs only[go_sem]))|(with_reducible refine hK _ _ ?_;clear hK K)|(clear hK K;first|(with_reducible refine hK _ _ ?_;clear hK K)|(clear hK K;with_reducible refine hK _ _ ?_;clear hK K)|(clear hK K;clear hK K;with_reducible refine hK _ _ ?_;clear hK K))|(with_reducible refine splitB_intro (fun h=>?_) (fun h=>?_)<;>(try simp only[go_sem] at h)<;>(try exact g_f)<;>(try simp -implicitDefEqProofs only[go_sem]))|(with_reducible refine And.intro (fun h=>?_) (fun h=>?_)<;>(try simp only[go_sem] at h)<;>(try exact g_f))|(with_reducible refine And.intro ?_ ?_;· exact g_x)|(with_reducible intro h;(try simp only[go_sem] at h);(try exact g_f))))
  refine CutQ_w rfl ?_ ?_
  · refine .cmL ⟨?_, ?_, ?_, ?_, ?_, ?_, ?_, ?_, ?_, trivial⟩
    all_goals (repeat' (first | exact Bd.c _ | exact Bd.emp | exact BdL.nil | exact Bd.ints _ | refine Bd.aggL ?_ | refine Bd.tupL ?_ | refine BdL.cons ?_ ?_))
  · exact .eq rfl

theorem bd_caseFn {n : Nat} (x : Alg) (law : Int) : Bd n (caseFn x law) := by
  refine .fnL .nil (.cons (.cpL (.cons (.c _) (.cons (.c _) .nil))) (.cons (.cpL (.cons (.c _) (.cons (.rows _) (.cons (.rows _) .nil)))) (.cons (.cpL (.cons (.c _) .nil)) .nil)))

theorem cases_calls (x : Alg) (law : Int) (hl : 1 ≤ law ∧ law ≤ 9) (σ : Store) : ACalls Try.prog 120 [.agg (algC x), intA1 law] σ fun r σ' => σ' = σ ∧ r = caseFn x law := by
  have hf := shapes_find law hl
  have hi : I64 law := by unfold I64; omega
  refine ACalls.cutX ?_
  refine ACalls_of_awp Try.func120 rfl Try.results120 ?_
  simp only [List.length_cons, List.length_nil, Try.ntmps120, Nat.reduceAdd, Nat.reduceSub, enterA]
  refine AWP_seq_k fun K hK => ?_
  (refine AWP_region ?_; simp -implicitDefEqProofs only [go_sem])
  refine hK _ _ ?_; clear hK K
  refine AWP_freezeP 2 rfl (by simp only [st0]; rfl) ?_
  simp only [ss0, List.set_cons_zero]
  refine AWP_freezeP 3 rfl (by simp only [st1]; rfl) ?_
  simp only [ss1, List.set_cons_zero, List.set_cons_succ]
  refine AWP_seq_k fun K hK => ?_
  refine AWP_drawA tab_mixed (by decide +kernel) (by rfl) ?_
  simp -implicitDefEqProofs only [go_sem]
  refine callQ_use (fun τ => shapes_calls _) ?_
  simp -implicitDefEqProofs only [go_sem, hf, shapeC, hi]
  refine hK _ _ ?_; clear hK K
  refine AWP_freezeP 5 rfl (by first | rfl | (simp -implicitDefEqProofs only [go_sem]; done) | (simp -implicitDefEqProofs only [go_sem]; rfl)) ?_
  (repeat' (first|(refine g_s fun K hK=>?_)|(refine g_b ?_)|(refine g_r ?_)|(refine g_k ?_;simp only[thenQ,blockQ])|(refine g_e ?_;simp only[thenQ,blockQ,↓reduceIte,Nat.reduceEqDiff])|(refine g_c (fun h=>?_) (fun h=>?_)<;>(try simp only[go_sem] at h)<;>(try exact g_f))|((first|refine g_t ?_|refine g_g ?_|refine g_U ?_|refine g_A ?_|refine g_W ?_);(try simp -implicitDefEqProofs only[go_sem]))|(with_reducible refine hK _ _ ?_;clear hK K)|(clear hK K;first|(with_reducible refine hK _ _ ?_;clear hK K)|(clear hK K;with_reducible refine hK _ _ ?_;clear hK K)|(clear hK K;clear hK K;with_reducible refine hK _ _ ?_;clear hK K))|(with_reducible refine splitB_intro (fun h=>?_) (fun h=>?_)<;>(try simp only[go_sem] at h)<;>(try exact g_f)<;>(try simp -implicitDefEqProofs only[go_sem]))|(with_reducible refine And.intro (fun h=>?_) (fun h=>?_)<;>(try simp only[go_sem] at h)<;>(try exact g_f))|(with_reducible refine And.intro ?_ ?_;· exact g_x)|(with_reducible intro h;(try simp only[go_sem] at h);(try exact g_f))))
  refine CutQ_w rfl ?_ ?_
  · exact bd_caseFn x law
  · exact .eq rfl
end Go.Proofs.Ytephecognbbaoaa
