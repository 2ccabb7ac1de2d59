/- Algebras: the laws' shapes, what a law is asked of, and Holds. -/
import Derived.Test.YtephecognbbaoabZAb
import Derived.Test.YtephecognbbaoabZGr
import Derived.DeepKeys5
open Go
set_option linter.all false
set_option maxRecDepth 100000
set_option maxHeartbeats 4000000
namespace Go.Proofs.Ytephecognbbaoab
open Go
set_option linter.all false
set_option maxRecDepth 100000
set_option maxHeartbeats 4000000
theorem YCalls.mono {P : Program} {l : Nat} {args : List AV} {σ : Store} {R R' : AV → Store → Prop} (h : YCalls P l args σ R) (hr : ∀ r σ', R r σ' → R' r σ') : YCalls P l args σ R' :=
  fun K imm m w vs hs hv => let ⟨rc, h1, h2, h3⟩ := h K imm m w vs hs hv
    ⟨rc, h1, h2, h3.mono fun _ _ ⟨i, m', v, r, s, a, b, c, d, e, f⟩ => ⟨i, m', v, r, s, a, b, c, d, e, hr _ _ f⟩⟩
def FC (good : Brk → Bool) (l : List Brk) : Option Brk := l.find? fun b => !good b
theorem FC_good {good : Brk → Bool} {b : Brk} (h : good b = true) (l : List Brk) : FC good (b :: l) = FC good l := by simp [FC, h]
theorem FC_bad {good : Brk → Bool} {b : Brk} (h : good b = false) (l : List Brk) : FC good (b :: l) = some b := by simp [FC, h]
theorem at0_ints {n k : Int} (h0 : 0 ≤ k) (h1 : k < n) : at0 (ints n) k = k := by
  have : k.toNat < (ints n).length := by rw [ints_length]; omega
  rw [at0, List.getD_eq_getElem?_getD, List.getElem?_eq_getElem this]
  simp [ints]
  omega
def sh3 (x : Alg) (law a b c : Int) : List Brk := (ints (upN (edgeA law) x.edges.length)).map fun e => ⟨law, a, b, c, e⟩
def sh2 (x : Alg) (law a b : Int) : List Brk := (ints (upN (decide (2 < manyA law)) x.size)).flatMap (sh3 x law a b)
def sh1 (x : Alg) (law a : Int) : List Brk := (ints (upN (decide (1 < manyA law)) x.size)).flatMap (sh2 x law a)
theorem upN_bd {b : Bool} {n : Int} (h : 0 ≤ n ∧ n ≤ 24) : 0 ≤ upN b n ∧ upN b n ≤ 24 := by unfold upN; split <;> omega
theorem cases1_calls (x : Alg) (law : Int) (hr : Right x) (l : Nat) (σ : Store) (good : Brk → Bool) (E : Brk → Store → Prop)
    (hy : ∀ b ∈ casesA x law, ∀ τ, YCalls Try.prog l [.agg (brkC b)] (σ ++ τ) fun r σ' => (good b = true ∧ r = .c (.bool true) ∧ ∃ τ', σ' = σ ++ τ') ∨ (good b = false ∧ r = .c (.bool false) ∧ E b σ')) :
    ACalls Try.prog 199 [.c (.func (.yield l) #[] #[]), .cp [intA1 (manyA law), .c (.bool (edgeA law))] 0, .cp (algC x) 0, .cp [intA1 law] 0] σ fun _ σ' => match FC good (casesA x law) with | none => ∃ τ', σ' = σ ++ τ' | some b => E b σ' := by
  have hm := many_bd law
  have s2 := hr.s2
  have s24 := hr.s24
  have e8 := hr.e8
  have nA := upN_bd (b := decide (0 < manyA law)) (n := x.size) (by omega)
  have nB := upN_bd (b := decide (1 < manyA law)) (n := x.size) (by omega)
  have nC := upN_bd (b := decide (2 < manyA law)) (n := x.size) (by omega)
  have nE := upN_bd (b := edgeA law) (n := x.edges.length) (by omega)
  refine ACalls_of_awp Try.func199 rfl Try.results199 ?_
  simp only [List.length_cons, List.length_nil, Try.ntmps199, Nat.reduceAdd, Nat.reduceSub, enterA]
  (repeat' (first|(refine g_s fun K hK=>?_)|(refine g_b ?_)|(refine g_r ?_)|(refine g_k ?_;simp only[thenQ,blockQ])|(refine g_e ?_;simp only[thenQ,blockQ,↓reduceIte,Nat.reduceEqDiff])|(refine g_c (fun h=>?_) (fun h=>?_)<;>(try simp only[go_sem] at h)<;>(try exact g_f))|((first|refine g_t ?_|refine g_g ?_|refine g_U ?_|refine g_A ?_|refine (upTo_calls _ _ _).use ?_|refine g_q (fun τ=>upTo_calls _ _ _) ?_|refine g_W ?_);(try simp -implicitDefEqProofs only[go_sem]))|(with_reducible refine hK _ _ ?_;clear hK K)|(clear hK K;first|(with_reducible refine hK _ _ ?_;clear hK K)|(clear hK K;with_reducible refine hK _ _ ?_;clear hK K)|(clear hK K;clear hK K;with_reducible refine hK _ _ ?_;clear hK K))|(with_reducible refine splitB_intro (fun h=>?_) (fun h=>?_)<;>(try simp only[go_sem] at h)<;>(try exact g_f)<;>(try simp -implicitDefEqProofs only[go_sem]))|(with_reducible refine And.intro (fun h=>?_) (fun h=>?_)<;>(try simp only[go_sem] at h)<;>(try exact g_f))|(with_reducible refine And.intro ?_ ?_;· exact g_x)|(with_reducible intro h;(try simp only[go_sem] at h);(try exact g_f))))
  refine AWP_each (ints (upN (decide (0 < manyA law)) x.size)) (fun _ r _ => FC good (casesA x law) = FC good (r.flatMap (sh1 x law))) (fun k _ _ => [(15, intA1 k)]) (fun _ _ τ => σ ++ τ) () [] rfl ?_ (ALe_of ?_) ?_ ?_
  · simp
  · simp -implicitDefEqProofs only [go_sem]
  · rintro ka ra _ τa hka0 hka1 hHa La hLa
    rw [ints_length] at hka1
    rw [at0_ints hka0 (by omega), List.flatMap_cons] at hHa
    simp -implicitDefEqProofs only [go_sem]
    (repeat' (first|(refine g_s fun K hK=>?_)|(refine g_b ?_)|(refine g_r ?_)|(refine g_k ?_;simp only[thenQ,blockQ])|(refine g_e ?_;simp only[thenQ,blockQ,↓reduceIte,Nat.reduceEqDiff])|(refine g_c (fun h=>?_) (fun h=>?_)<;>(try simp only[go_sem] at h)<;>(try exact g_f))|((first|refine g_t ?_|refine g_g ?_|refine g_U ?_|refine g_A ?_|refine (upTo_calls _ _ _).use ?_|refine g_q (fun τ=>upTo_calls _ _ _) ?_|refine g_W ?_);(try simp -implicitDefEqProofs only[go_sem]))|(with_reducible refine hK _ _ ?_;clear hK K)|(clear hK K;first|(with_reducible refine hK _ _ ?_;clear hK K)|(clear hK K;with_reducible refine hK _ _ ?_;clear hK K)|(clear hK K;clear hK K;with_reducible refine hK _ _ ?_;clear hK K))|(with_reducible refine splitB_intro (fun h=>?_) (fun h=>?_)<;>(try simp only[go_sem] at h)<;>(try exact g_f)<;>(try simp -implicitDefEqProofs only[go_sem]))|(with_reducible refine And.intro (fun h=>?_) (fun h=>?_)<;>(try simp only[go_sem] at h)<;>(try exact g_f))|(with_reducible refine And.intro ?_ ?_;· exact g_x)|(with_reducible intro h;(try simp only[go_sem] at h);(try exact g_f))))
    refine AWP_each (ints (upN (decide (1 < manyA law)) x.size)) (fun _ r _ => FC good (casesA x law) = FC good (r.flatMap (sh2 x law ka) ++ ra.flatMap (sh1 x law))) (fun k _ _ => [(24, intA1 k)]) (fun _ _ τ => σ ++ τ) () τa hHa rfl (ALe_of ?_) ?_ ?_
    · simp -implicitDefEqProofs only [go_sem]
    · rintro kb rb _ τb hkb0 hkb1 hHb Lb hLb
      rw [ints_length] at hkb1
      rw [at0_ints hkb0 (by omega), List.flatMap_cons, List.append_assoc] at hHb
      simp -implicitDefEqProofs only [go_sem]
      (repeat' (first|(refine g_s fun K hK=>?_)|(refine g_b ?_)|(refine g_r ?_)|(refine g_k ?_;simp only[thenQ,blockQ])|(refine g_e ?_;simp only[thenQ,blockQ,↓reduceIte,Nat.reduceEqDiff])|(refine g_c (fun h=>?_) (fun h=>?_)<;>(try simp only[go_sem] at h)<;>(try exact g_f))|((first|refine g_t ?_|refine g_g ?_|refine g_U ?_|refine g_A ?_|refine (upTo_calls _ _ _).use ?_|refine g_q (fun τ=>upTo_calls _ _ _) ?_|refine g_W ?_);(try simp -implicitDefEqProofs only[go_sem]))|(with_reducible refine hK _ _ ?_;clear hK K)|(clear hK K;first|(with_reducible refine hK _ _ ?_;clear hK K)|(clear hK K;with_reducible refine hK _ _ ?_;clear hK K)|(clear hK K;clear hK K;with_reducible refine hK _ _ ?_;clear hK K))|(with_reducible refine splitB_intro (fun h=>?_) (fun h=>?_)<;>(try simp only[go_sem] at h)<;>(try exact g_f)<;>(try simp -implicitDefEqProofs only[go_sem]))|(with_reducible refine And.intro (fun h=>?_) (fun h=>?_)<;>(try simp only[go_sem] at h)<;>(try exact g_f))|(with_reducible refine And.intro ?_ ?_;· exact g_x)|(with_reducible intro h;(try simp only[go_sem] at h);(try exact g_f))))
      refine AWP_each (ints (upN (decide (2 < manyA law)) x.size)) (fun _ r _ => FC good (casesA x law) = FC good (r.flatMap (sh3 x law ka kb) ++ (rb.flatMap (sh2 x law ka) ++ ra.flatMap (sh1 x law)))) (fun k _ _ => [(33, intA1 k)]) (fun _ _ τ => σ ++ τ) () τb hHb rfl (ALe_of ?_) ?_ ?_
      · simp -implicitDefEqProofs only [go_sem]
      · rintro kc rc _ τc hkc0 hkc1 hHc Lc hLc
        rw [ints_length] at hkc1
        rw [at0_ints hkc0 (by omega), List.flatMap_cons, List.append_assoc] at hHc
        simp -implicitDefEqProofs only [go_sem]
        (repeat' (first|(refine g_s fun K hK=>?_)|(refine g_b ?_)|(refine g_r ?_)|(refine g_k ?_;simp only[thenQ,blockQ])|(refine g_e ?_;simp only[thenQ,blockQ,↓reduceIte,Nat.reduceEqDiff])|(refine g_c (fun h=>?_) (fun h=>?_)<;>(try simp only[go_sem] at h)<;>(try exact g_f))|((first|refine g_t ?_|refine g_g ?_|refine g_U ?_|refine g_A ?_|refine (upTo_calls _ _ _).use ?_|refine g_q (fun τ=>upTo_calls _ _ _) ?_|refine g_W ?_);(try simp -implicitDefEqProofs only[go_sem]))|(with_reducible refine hK _ _ ?_;clear hK K)|(clear hK K;first|(with_reducible refine hK _ _ ?_;clear hK K)|(clear hK K;with_reducible refine hK _ _ ?_;clear hK K)|(clear hK K;clear hK K;with_reducible refine hK _ _ ?_;clear hK K))|(with_reducible refine splitB_intro (fun h=>?_) (fun h=>?_)<;>(try simp only[go_sem] at h)<;>(try exact g_f)<;>(try simp -implicitDefEqProofs only[go_sem]))|(with_reducible refine And.intro (fun h=>?_) (fun h=>?_)<;>(try simp only[go_sem] at h)<;>(try exact g_f))|(with_reducible refine And.intro ?_ ?_;· exact g_x)|(with_reducible intro h;(try simp only[go_sem] at h);(try exact g_f))))
        refine AWP_each (ints (upN (edgeA law) x.edges.length)) (fun _ r _ => FC good (casesA x law) = FC good (r.map (fun e => (⟨law, ka, kb, kc, e⟩ : Brk)) ++ (rc.flatMap (sh3 x law ka kb) ++ (rb.flatMap (sh2 x law ka) ++ ra.flatMap (sh1 x law))))) (fun k _ _ => [(42, intA1 k)]) (fun _ _ τ => σ ++ τ) () τc hHc rfl (ALe_of ?_) ?_ ?_
        · simp -implicitDefEqProofs only [go_sem]
        · rintro ke re _ τe hke0 hke1 hHe Le hLe
          rw [ints_length] at hke1
          rw [at0_ints hke0 (by omega), List.map_cons, List.cons_append] at hHe
          have hmem : (⟨law, ka, kb, kc, ke⟩ : Brk) ∈ casesA x law := mem_cases.2 ⟨rfl, ⟨hka0, by simp only; omega⟩, ⟨hkb0, by simp only; omega⟩, ⟨hkc0, by simp only; omega⟩, ⟨hke0, by simp only; omega⟩⟩
          simp -implicitDefEqProofs only [go_sem]
          (repeat' (first|(refine g_s fun K hK=>?_)|(refine g_b ?_)|(refine g_r ?_)|(refine g_k ?_;simp only[thenQ,blockQ])|(refine g_e ?_;simp only[thenQ,blockQ,↓reduceIte,Nat.reduceEqDiff])|(refine g_c (fun h=>?_) (fun h=>?_)<;>(try simp only[go_sem] at h)<;>(try exact g_f))|((first|refine g_t ?_|refine g_g ?_|refine g_U ?_|refine g_A ?_|refine g_W ?_);(try simp -implicitDefEqProofs only[go_sem]))|(with_reducible refine hK _ _ ?_;clear hK K)|(clear hK K;first|(with_reducible refine hK _ _ ?_;clear hK K)|(clear hK K;with_reducible refine hK _ _ ?_;clear hK K)|(clear hK K;clear hK K;with_reducible refine hK _ _ ?_;clear hK K))|(with_reducible refine splitB_intro (fun h=>?_) (fun h=>?_)<;>(try simp only[go_sem] at h)<;>(try exact g_f)<;>(try simp -implicitDefEqProofs only[go_sem]))|(with_reducible refine And.intro (fun h=>?_) (fun h=>?_)<;>(try simp only[go_sem] at h)<;>(try exact g_f))|(with_reducible refine And.intro ?_ ?_;· exact g_x)|(with_reducible intro h;(try simp only[go_sem] at h);(try exact g_f))))
          refine YCalls.mono (hy _ hmem τe) (fun r9 σ9 hr9 => ?_)
          rcases hr9 with ⟨hg, rfl, τ9, rfl⟩ | ⟨hg, rfl, hE⟩
          · simp -implicitDefEqProofs only [go_sem]
            (repeat' (first|(refine g_s fun K hK=>?_)|(refine g_b ?_)|(refine g_r ?_)|(refine g_k ?_;simp only[thenQ,blockQ])|(refine g_e ?_;simp only[thenQ,blockQ,↓reduceIte,Nat.reduceEqDiff])|(refine g_c (fun h=>?_) (fun h=>?_)<;>(try simp only[go_sem] at h)<;>(try exact g_f))|((first|refine g_t ?_|refine g_g ?_|refine g_U ?_|refine g_A ?_|refine g_W ?_);(try simp -implicitDefEqProofs only[go_sem]))|(with_reducible refine hK _ _ ?_;clear hK K)|(clear hK K;first|(with_reducible refine hK _ _ ?_;clear hK K)|(clear hK K;with_reducible refine hK _ _ ?_;clear hK K)|(clear hK K;clear hK K;with_reducible refine hK _ _ ?_;clear hK K))|(with_reducible refine splitB_intro (fun h=>?_) (fun h=>?_)<;>(try simp only[go_sem] at h)<;>(try exact g_f)<;>(try simp -implicitDefEqProofs only[go_sem]))|(with_reducible refine And.intro (fun h=>?_) (fun h=>?_)<;>(try simp only[go_sem] at h)<;>(try exact g_f))|(with_reducible refine And.intro ?_ ?_;· exact g_x)|(with_reducible intro h;(try simp only[go_sem] at h);(try exact g_f))))
            refine hLe () τ9 _ _ (by rw [hHe, FC_good hg]) (ALe_of ?_) rfl
            simp -implicitDefEqProofs only [go_sem]
          · simp -implicitDefEqProofs only [go_sem]
            (repeat' (first|(refine g_s fun K hK=>?_)|(refine g_b ?_)|(refine g_r ?_)|(refine g_k ?_;simp only[thenQ,blockQ])|(refine g_e ?_;simp only[thenQ,blockQ,↓reduceIte,Nat.reduceEqDiff])|(refine g_c (fun h=>?_) (fun h=>?_)<;>(try simp only[go_sem] at h)<;>(try exact g_f))|((first|refine g_t ?_|refine g_g ?_|refine g_U ?_|refine g_A ?_|refine g_W ?_);(try simp -implicitDefEqProofs only[go_sem]))|(with_reducible refine hK _ _ ?_;clear hK K)|(clear hK K;first|(with_reducible refine hK _ _ ?_;clear hK K)|(clear hK K;with_reducible refine hK _ _ ?_;clear hK K)|(clear hK K;clear hK K;with_reducible refine hK _ _ ?_;clear hK K))|(with_reducible refine splitB_intro (fun h=>?_) (fun h=>?_)<;>(try simp only[go_sem] at h)<;>(try exact g_f)<;>(try simp -implicitDefEqProofs only[go_sem]))|(with_reducible refine And.intro (fun h=>?_) (fun h=>?_)<;>(try simp only[go_sem] at h)<;>(try exact g_f))|(with_reducible refine And.intro ?_ ?_;· exact g_x)|(with_reducible intro h;(try simp only[go_sem] at h);(try exact g_f))))
            rw [hHe, FC_bad hg]
            exact hE
        · rintro ke _ τe hke hHe Le
          rw [ints_length] at hke
          simp -implicitDefEqProofs only [go_sem]
          (repeat' (first|(refine g_s fun K hK=>?_)|(refine g_b ?_)|(refine g_r ?_)|(refine g_k ?_;simp only[thenQ,blockQ])|(refine g_e ?_;simp only[thenQ,blockQ,↓reduceIte,Nat.reduceEqDiff])|(refine g_c (fun h=>?_) (fun h=>?_)<;>(try simp only[go_sem] at h)<;>(try exact g_f))|((first|refine g_t ?_|refine g_g ?_|refine g_U ?_|refine g_A ?_|refine g_W ?_);(try simp -implicitDefEqProofs only[go_sem]))|(with_reducible refine hK _ _ ?_;clear hK K)|(clear hK K;first|(with_reducible refine hK _ _ ?_;clear hK K)|(clear hK K;with_reducible refine hK _ _ ?_;clear hK K)|(clear hK K;clear hK K;with_reducible refine hK _ _ ?_;clear hK K))|(with_reducible refine splitB_intro (fun h=>?_) (fun h=>?_)<;>(try simp only[go_sem] at h)<;>(try exact g_f)<;>(try simp -implicitDefEqProofs only[go_sem]))|(with_reducible refine And.intro (fun h=>?_) (fun h=>?_)<;>(try simp only[go_sem] at h)<;>(try exact g_f))|(with_reducible refine And.intro ?_ ?_;· exact g_x)|(with_reducible intro h;(try simp only[go_sem] at h);(try exact g_f))))
          refine hLc () τe _ _ hHe (ALe_of ?_) rfl
          simp -implicitDefEqProofs only [go_sem]
      · rintro kc _ τc hkc hHc Lc
        rw [ints_length] at hkc
        simp -implicitDefEqProofs only [go_sem]
        (repeat' (first|(refine g_s fun K hK=>?_)|(refine g_b ?_)|(refine g_r ?_)|(refine g_k ?_;simp only[thenQ,blockQ])|(refine g_e ?_;simp only[thenQ,blockQ,↓reduceIte,Nat.reduceEqDiff])|(refine g_c (fun h=>?_) (fun h=>?_)<;>(try simp only[go_sem] at h)<;>(try exact g_f))|((first|refine g_t ?_|refine g_g ?_|refine g_U ?_|refine g_A ?_|refine g_W ?_);(try simp -implicitDefEqProofs only[go_sem]))|(with_reducible refine hK _ _ ?_;clear hK K)|(clear hK K;first|(with_reducible refine hK _ _ ?_;clear hK K)|(clear hK K;with_reducible refine hK _ _ ?_;clear hK K)|(clear hK K;clear hK K;with_reducible refine hK _ _ ?_;clear hK K))|(with_reducible refine splitB_intro (fun h=>?_) (fun h=>?_)<;>(try simp only[go_sem] at h)<;>(try exact g_f)<;>(try simp -implicitDefEqProofs only[go_sem]))|(with_reducible refine And.intro (fun h=>?_) (fun h=>?_)<;>(try simp only[go_sem] at h)<;>(try exact g_f))|(with_reducible refine And.intro ?_ ?_;· exact g_x)|(with_reducible intro h;(try simp only[go_sem] at h);(try exact g_f))))
        refine hLb () τc _ _ hHc (ALe_of ?_) rfl
        simp -implicitDefEqProofs only [go_sem]
    · rintro kb _ τb hkb hHb Lb
      rw [ints_length] at hkb
      simp -implicitDefEqProofs only [go_sem]
      (repeat' (first|(refine g_s fun K hK=>?_)|(refine g_b ?_)|(refine g_r ?_)|(refine g_k ?_;simp only[thenQ,blockQ])|(refine g_e ?_;simp only[thenQ,blockQ,↓reduceIte,Nat.reduceEqDiff])|(refine g_c (fun h=>?_) (fun h=>?_)<;>(try simp only[go_sem] at h)<;>(try exact g_f))|((first|refine g_t ?_|refine g_g ?_|refine g_U ?_|refine g_A ?_|refine g_W ?_);(try simp -implicitDefEqProofs only[go_sem]))|(with_reducible refine hK _ _ ?_;clear hK K)|(clear hK K;first|(with_reducible refine hK _ _ ?_;clear hK K)|(clear hK K;with_reducible refine hK _ _ ?_;clear hK K)|(clear hK K;clear hK K;with_reducible refine hK _ _ ?_;clear hK K))|(with_reducible refine splitB_intro (fun h=>?_) (fun h=>?_)<;>(try simp only[go_sem] at h)<;>(try exact g_f)<;>(try simp -implicitDefEqProofs only[go_sem]))|(with_reducible refine And.intro (fun h=>?_) (fun h=>?_)<;>(try simp only[go_sem] at h)<;>(try exact g_f))|(with_reducible refine And.intro ?_ ?_;· exact g_x)|(with_reducible intro h;(try simp only[go_sem] at h);(try exact g_f))))
      refine hLa () τb _ _ hHb (ALe_of ?_) rfl
      simp -implicitDefEqProofs only [go_sem]
  · rintro ka _ τa hka hHa La
    rw [ints_length] at hka
    simp -implicitDefEqProofs only [go_sem]
    (repeat' (first|(refine g_s fun K hK=>?_)|(refine g_b ?_)|(refine g_r ?_)|(refine g_k ?_;simp only[thenQ,blockQ])|(refine g_e ?_;simp only[thenQ,blockQ,↓reduceIte,Nat.reduceEqDiff])|(refine g_c (fun h=>?_) (fun h=>?_)<;>(try simp only[go_sem] at h)<;>(try exact g_f))|((first|refine g_t ?_|refine g_g ?_|refine g_U ?_|refine g_A ?_|refine g_W ?_);(try simp -implicitDefEqProofs only[go_sem]))|(with_reducible refine hK _ _ ?_;clear hK K)|(clear hK K;first|(with_reducible refine hK _ _ ?_;clear hK K)|(clear hK K;with_reducible refine hK _ _ ?_;clear hK K)|(clear hK K;clear hK K;with_reducible refine hK _ _ ?_;clear hK K))|(with_reducible refine splitB_intro (fun h=>?_) (fun h=>?_)<;>(try simp only[go_sem] at h)<;>(try exact g_f)<;>(try simp -implicitDefEqProofs only[go_sem]))|(with_reducible refine And.intro (fun h=>?_) (fun h=>?_)<;>(try simp only[go_sem] at h)<;>(try exact g_f))|(with_reducible refine And.intro ?_ ?_;· exact g_x)|(with_reducible intro h;(try simp only[go_sem] at h);(try exact g_f))))
    simp -implicitDefEqProofs only [go_sem]
    rw [hHa]
    exact ⟨τa, rfl⟩
end Go.Proofs.Ytephecognbbaoab
namespace Go.Proofs.Ytephecognbbaoab
open Go
set_option linter.all false
set_option maxRecDepth 100000
set_option maxHeartbeats 4000000
theorem FC_app (good : Brk → Bool) (l r : List Brk) : FC good (l ++ r) = (FC good l).or (FC good r) := by simp [FC]
theorem lp_same {r : Loop} (h : r.state = .ready) (h2 : r.pending = none) : ({ r with state := .ready, pending := none } : Loop) = r := by
  cases r; simp_all
def caseFn (x : Alg) (law : Int) : AV := .fn 199 [] [.cp [intA1 (manyA law), .c (.bool (edgeA law))] 0, .cp (algC x) 0, .cp [intA1 law] 0]
theorem broken_calls' (x : Alg) (laws : List Int) (hr : Right x) (hl : laws.length ≤ 100) (hlaw : ∀ law ∈ laws, 1 ≤ law ∧ law ≤ 9)
    (hcases : ∀ law ∈ laws, ∀ σ, ACalls Try.prog 183 [.agg (algC x), intA1 law] σ fun r σ' => σ' = σ ∧ r = caseFn x law) (σ : Store) :
    ACalls Try.prog 141 [.agg (algC x), intsA laws] σ fun r σ' => σ' = σ ∧ r = .agg (brkC (brokenA x laws)) := by
  refine ACalls.cutX ?_
  refine ACalls_of_awp Try.func141 rfl Try.results141 ?_
  simp only [List.length_cons, List.length_nil, Try.ntmps141, Nat.reduceAdd, Nat.reduceSub, enterA]
  refine AWP_seq_k fun K hK => ?_
  (refine AWP_region ?_; simp -implicitDefEqProofs only [go_sem])
  refine hK _ _ ?_; clear hK K
  refine AWP_freezeP 2 rfl (by simp only [st0]; rfl) ?_
  simp only [ss0, List.set_cons_zero]
  (repeat' (first|(refine g_s fun K hK=>?_)|(refine g_b ?_)|(refine g_r ?_)|(refine g_k ?_;simp only[thenQ,blockQ])|(refine g_e ?_;simp only[thenQ,blockQ,↓reduceIte,Nat.reduceEqDiff])|(refine g_c (fun h=>?_) (fun h=>?_)<;>(try simp only[go_sem] at h)<;>(try exact g_f))|((first|refine g_t ?_|refine g_g ?_|refine g_U ?_|refine g_A ?_|refine g_W ?_);(try simp -implicitDefEqProofs only[go_sem]))|(with_reducible refine hK _ _ ?_;clear hK K)|(clear hK K;first|(with_reducible refine hK _ _ ?_;clear hK K)|(clear hK K;with_reducible refine hK _ _ ?_;clear hK K)|(clear hK K;clear hK K;with_reducible refine hK _ _ ?_;clear hK K))|(with_reducible refine splitB_intro (fun h=>?_) (fun h=>?_)<;>(try simp only[go_sem] at h)<;>(try exact g_f)<;>(try simp -implicitDefEqProofs only[go_sem]))|(with_reducible refine And.intro (fun h=>?_) (fun h=>?_)<;>(try simp only[go_sem] at h)<;>(try exact g_f))|(with_reducible refine And.intro ?_ ?_;· exact g_x)|(with_reducible intro h;(try simp only[go_sem] at h);(try exact g_f))))
  have hJ := hK
  clear hK
  refine AWP_each laws (fun _ r _ => FC (holdsA x) (laws.flatMap (casesA x)) = FC (holdsA x) (r.flatMap (casesA x))) (fun k _ _ => [(10, intA1 k)]) (fun _ _ τ => σ ++ (.dead :: .cells 5 [brkC zeroB] :: τ)) () [] rfl rfl (ALe_of ?_) ?_ ?_
  · simp -implicitDefEqProofs only [go_sem]
  · rintro k r _ τ hk0 hk1 hH L hL
    have hmem := at0_mem laws hk0 hk1
    obtain ⟨law, hla⟩ : ∃ law, at0 laws k = law := ⟨_, rfl⟩
    rw [hla] at hH hmem
    simp -implicitDefEqProofs only [go_sem]
    (repeat' (first|(refine g_s fun K hK=>?_)|(refine g_b ?_)|(refine g_r ?_)|(refine g_k ?_;simp only[thenQ,blockQ])|(refine g_e ?_;simp only[thenQ,blockQ,↓reduceIte,Nat.reduceEqDiff])|(refine g_c (fun h=>?_) (fun h=>?_)<;>(try simp only[go_sem] at h)<;>(try exact g_f))|((first|refine g_t ?_|refine g_g ?_|refine g_U ?_|refine g_A ?_|refine (hcases law hmem _).use ?_|refine g_q (fun τ=>hcases law hmem _) ?_|refine g_W ?_);(try simp -implicitDefEqProofs only[go_sem,hla]))|(with_reducible refine hK _ _ ?_;clear hK K)|(clear hK K;first|(with_reducible refine hK _ _ ?_;clear hK K)|(clear hK K;with_reducible refine hK _ _ ?_;clear hK K)|(clear hK K;clear hK K;with_reducible refine hK _ _ ?_;clear hK K))|(with_reducible refine splitB_intro (fun h=>?_) (fun h=>?_)<;>(try simp only[go_sem] at h)<;>(try exact g_f)<;>(try simp -implicitDefEqProofs only[go_sem,hla]))|(with_reducible refine And.intro (fun h=>?_) (fun h=>?_)<;>(try simp only[go_sem] at h)<;>(try exact g_f))|(with_reducible refine And.intro ?_ ?_;· exact g_x)|(with_reducible intro h;(try simp only[go_sem] at h);(try exact g_f))))
    refine AWPr.weak (β := [(16, caseFn x law), (10, intA1 k), (9, intA1 laws.length), (8, intsA laws), (2, .cp (algC x) 0), (4, .ptr (σ.length + 1) 5 0 0), (0, .agg (algC x)), (1, intsA laws)]) (ALe_of ?_) ?_
    · simp -implicitDefEqProofs only [go_sem]
    refine AWP_range (g := 199) rfl (by simp only [go_sem]) (fun l rc g1 g2 g3 g4 g5 => ?_)
    obtain ⟨rd, hrd⟩ : ∃ q : Loop, q = { rc with state := .done, pending := some .ret } := ⟨_, rfl⟩
    have hy : ∀ b ∈ casesA x law, ∀ S : Store, S[σ.length + 1]? = some (.cells 5 [brkC zeroB]) → S[σ.length + (τ.length + 2)]? = some (.lp l [(16, caseFn x law), (10, intA1 k), (9, intA1 laws.length), (8, intsA laws), (2, .cp (algC x) 0), (4, .ptr (σ.length + 1) 5 0 0), (0, .agg (algC x)), (1, intsA laws)] 25 rc) → YCalls Try.prog l [.agg (brkC b)] S fun r σ' =>
        (holdsA x b = true ∧ r = .c (.bool true) ∧ ∃ τ', σ' = S ++ τ') ∨
        (holdsA x b = false ∧ r = .c (.bool false) ∧ ∃ τ', σ' = (S.set (σ.length + 1) (.cells 5 [brkC b])).set (σ.length + (τ.length + 2)) (.lp l [(16, caseFn x law), (10, intA1 k), (9, intA1 laws.length), (8, intsA laws), (2, .cp (algC x) 0), (4, .ptr (σ.length + 1) 5 0 0), (0, .agg (algC x)), (1, intsA laws)] 25 rd) ++ τ') := by
      intro b hb S hS1 hS2
      have hbl := (mem_cases.1 hb).1
      have hin : InR x b := inR_of hr (checkB_iff.2 ⟨by rw [hbl]; exact hlaw law hmem, by rw [hbl]; exact hb⟩)
      have hlt1 : σ.length + 1 < S.length := (List.getElem?_eq_some_iff.1 hS1).1
      have hlt2 : σ.length + (τ.length + 2) < S.length := (List.getElem?_eq_some_iff.1 hS2).1
      refine YCalls_of (b := σ.length + (τ.length + 2)) (N := 25) (al := [(16, caseFn x law), (10, intA1 k), (9, intA1 laws.length), (8, intsA laws), (2, .cp (algC x) 0), (4, .ptr (σ.length + 1) 5 0 0), (0, .agg (algC x)), (1, intsA laws)]) hS2 g1 g3 (by omega) ?_
      clear hJ hL hK
      obtain ⟨rb, hrb⟩ : ∃ q : Loop, q = { rc with state := .busy } := ⟨_, rfl⟩
      rw [← hrb, g4, g5]
      (refine AWP_region ?_; simp -implicitDefEqProofs only [go_sem])
      refine ⟨by rw [List.getElem?_append_left hlt2]; exact hS2, ?_⟩
      rw [List.set_append_left _ _ hlt2]
      obtain ⟨S2, hS⟩ : ∃ q : Store, q = S.set (σ.length + (τ.length + 2)) (.lp l [(16, caseFn x law), (10, intA1 k), (9, intA1 laws.length), (8, intsA laws), (2, .cp (algC x) 0), (4, .ptr (σ.length + 1) 5 0 0), (0, .agg (algC x)), (1, intsA laws)] 25 rb) := ⟨_, rfl⟩
      have hlen : S.length = S2.length := by rw [hS]; simp
      have h21 : S2[σ.length + 1]? = some (.cells 5 [brkC zeroB]) := by rw [hS, List.getElem?_set_ne (by omega)]; exact hS1
      have h22 : S2[σ.length + (τ.length + 2)]? = some (.lp l [(16, caseFn x law), (10, intA1 k), (9, intA1 laws.length), (8, intsA laws), (2, .cp (algC x) 0), (4, .ptr (σ.length + 1) 5 0 0), (0, .agg (algC x)), (1, intsA laws)] 25 rb) := by rw [hS, List.getElem?_set_self (by omega)]
      have h4 : ∀ ρ : Store, (S2 ++ ρ)[σ.length + 1]? = some (.cells 5 [brkC zeroB]) := fun ρ => by rw [List.getElem?_append_left (by omega)]; exact h21
      have h5 : ∀ (ρ : Store) (ob : Ob), (S2 ++ ρ).set (σ.length + 1) ob = S2.set (σ.length + 1) ob ++ ρ := fun ρ ob => List.set_append_left _ _ (by omega)
      have hback : S2.set (σ.length + (τ.length + 2)) (.lp l [(16, caseFn x law), (10, intA1 k), (9, intA1 laws.length), (8, intsA laws), (2, .cp (algC x) 0), (4, .ptr (σ.length + 1) 5 0 0), (0, .agg (algC x)), (1, intsA laws)] 25 { rc with state := .ready, pending := none }) = S := by
        rw [hS, List.set_set, lp_same g1 g2]
        apply List.ext_getElem?
        intro i
        by_cases e : i = σ.length + (τ.length + 2)
        · rw [e, List.getElem?_set_self (by omega), hS2]
        · rw [List.getElem?_set_ne (by omega)]
      have hgo : AWPr (some l) Try.prog 25 rc.body (roundQ l (σ.length + (τ.length + 2)) [(16, caseFn x law), (10, intA1 k), (9, intA1 laws.length), (8, intsA laws), (2, .cp (algC x) 0), (4, .ptr (σ.length + 1) 5 0 0), (0, .agg (algC x)), (1, intsA laws)] 25 rc fun r σ' =>
        (holdsA x b = true ∧ r = .c (.bool true) ∧ ∃ τ', σ' = S ++ τ') ∨
        (holdsA x b = false ∧ r = .c (.bool false) ∧ ∃ τ', σ' = (S.set (σ.length + 1) (.cells 5 [brkC b])).set (σ.length + (τ.length + 2)) (.lp l [(16, caseFn x law), (10, intA1 k), (9, intA1 laws.length), (8, intsA laws), (2, .cp (algC x) 0), (4, .ptr (σ.length + 1) 5 0 0), (0, .agg (algC x)), (1, intsA laws)] 25 rd) ++ τ'))
        [(7, .ptr S2.length 5 0 0), (2, .cp (algC x) 0), (4, .ptr (σ.length + 1) 5 0 0), (0, .agg (algC x)), (1, intsA laws)] (S2 ++ [.cells 5 [brkC b]]) := by
        rw [g5]
        (repeat' (first|(refine g_s fun K hK=>?_)|(refine g_b ?_)|(refine g_r ?_)|(refine g_k ?_;simp only[thenQ,blockQ])|(refine g_e ?_;simp only[thenQ,blockQ,↓reduceIte,Nat.reduceEqDiff])|(refine g_c (fun h=>?_) (fun h=>?_)<;>(try simp only[go_sem] at h)<;>(try exact g_f))|((first|refine g_t ?_|refine g_g ?_|refine g_U ?_|refine g_A ?_|refine (holds_calls x b hr hin _).use ?_|refine g_q (fun τ=>holds_calls x b hr hin _) ?_|refine g_W ?_);(try simp -implicitDefEqProofs only[go_sem,h4, h5]))|(with_reducible refine hK _ _ ?_;clear hK K)|(clear hK K;first|(with_reducible refine hK _ _ ?_;clear hK K)|(clear hK K;with_reducible refine hK _ _ ?_;clear hK K)|(clear hK K;clear hK K;with_reducible refine hK _ _ ?_;clear hK K))|(with_reducible refine splitB_intro (fun h=>?_) (fun h=>?_)<;>(try simp only[go_sem] at h)<;>(try exact g_f)<;>(try simp -implicitDefEqProofs only[go_sem,h4, h5]))|(with_reducible refine And.intro (fun h=>?_) (fun h=>?_)<;>(try simp only[go_sem] at h)<;>(try exact g_f))|(with_reducible refine And.intro ?_ ?_;· exact g_x)|(with_reducible intro h;(try simp only[go_sem] at h);(try exact g_f))))
        · simp only [roundQ]
          refine ⟨?_, .inr ⟨by assumption, trivial, [.cells 5 [brkC b]], ?_⟩⟩
          · rw [List.getElem?_append_left (by simp; omega), List.getElem?_set_ne (by omega)]
            rw [hrb] at h22
            exact h22
          · rw [← hrd, List.set_append_left _ _ (by simp; omega)]
            have e : (S2.set (σ.length + 1) (.cells 5 [brkC b])).set (σ.length + (τ.length + 2)) (.lp l [(16, caseFn x law), (10, intA1 k), (9, intA1 laws.length), (8, intsA laws), (2, .cp (algC x) 0), (4, .ptr (σ.length + 1) 5 0 0), (0, .agg (algC x)), (1, intsA laws)] 25 rd) = (S.set (σ.length + 1) (.cells 5 [brkC b])).set (σ.length + (τ.length + 2)) (.lp l [(16, caseFn x law), (10, intA1 k), (9, intA1 laws.length), (8, intsA laws), (2, .cp (algC x) 0), (4, .ptr (σ.length + 1) 5 0 0), (0, .agg (algC x)), (1, intsA laws)] 25 rd) := by
              rw [hS, List.set_comm _ _ (by omega), List.set_set]
              exact List.set_comm _ _ (by omega)
            exact congrArg (· ++ [Ob.cells 5 [brkC b]]) e
        · simp only [roundQ]
          refine ⟨?_, .inl ⟨by assumption, trivial, [.cells 5 [brkC b]], ?_⟩⟩
          · rw [List.getElem?_append_left (by omega)]
            rw [hrb] at h22
            exact h22
          · rw [List.set_append_left _ _ (by omega)]
            exact congrArg (· ++ [Ob.cells 5 [brkC b]]) hback
      rw [g5, hS] at hgo
      refine AWPr.weak (ALe_of ?_) hgo
      simp -implicitDefEqProofs only [go_sem, List.length_set]
    have hc1 := cases1_calls x law hr l (σ ++ (.dead :: .cells 5 [brkC zeroB] :: (τ ++ [.lp l [(16, caseFn x law), (10, intA1 k), (9, intA1 laws.length), (8, intsA laws), (2, .cp (algC x) 0), (4, .ptr (σ.length + 1) 5 0 0), (0, .agg (algC x)), (1, intsA laws)] 25 rc]))) (holdsA x) (fun b σ' => ∃ τ', σ' = σ ++ (.dead :: .cells 5 [brkC b] :: (τ ++ (.lp l [(16, caseFn x law), (10, intA1 k), (9, intA1 laws.length), (8, intsA laws), (2, .cp (algC x) 0), (4, .ptr (σ.length + 1) 5 0 0), (0, .agg (algC x)), (1, intsA laws)] 25 rd :: τ'))))
      (fun b hb τ2 => YCalls.mono (hy b hb _ (by simp) (by simp)) (fun r9 σ9 h9 => by
        rcases h9 with ⟨h1, h2, τ', h3⟩ | ⟨h1, h2, τ', h3⟩
        · exact .inl ⟨h1, h2, τ2 ++ τ', by rw [h3]; simp⟩
        · exact .inr ⟨h1, h2, τ2 ++ τ', by rw [h3]; simp⟩))
    have e : σ ++ (.dead :: .cells 5 [brkC zeroB] :: τ) ++ [.lp l [(16, caseFn x law), (10, intA1 k), (9, intA1 laws.length), (8, intsA laws), (2, .cp (algC x) 0), (4, .ptr (σ.length + 1) 5 0 0), (0, .agg (algC x)), (1, intsA laws)] 25 rc] = σ ++ (.dead :: .cells 5 [brkC zeroB] :: (τ ++ [.lp l [(16, caseFn x law), (10, intA1 k), (9, intA1 laws.length), (8, intsA laws), (2, .cp (algC x) 0), (4, .ptr (σ.length + 1) 5 0 0), (0, .agg (algC x)), (1, intsA laws)] 25 rc])) := by simp
    rw [← e] at hc1
    rw [List.flatMap_cons, FC_app] at hH
    refine ACalls.mono hc1 (fun r9 σ9 h9 => ?_)
    cases hF : FC (holdsA x) (casesA x law) with
    | none =>
      rw [hF] at h9 hH
      obtain ⟨τ', rfl⟩ := h9
      refine ⟨rc, by simp, by rw [g1]; simp, ?_⟩
      rw [g2]
      simp only [blockQ, thenQ]
      simp -implicitDefEqProofs only [go_sem]
      refine hK _ _ ?_
      clear hK
      (repeat' (first|(refine g_s fun K hK=>?_)|(refine g_b ?_)|(refine g_r ?_)|(refine g_k ?_;simp only[thenQ,blockQ])|(refine g_e ?_;simp only[thenQ,blockQ,↓reduceIte,Nat.reduceEqDiff])|(refine g_c (fun h=>?_) (fun h=>?_)<;>(try simp only[go_sem] at h)<;>(try exact g_f))|((first|refine g_t ?_|refine g_g ?_|refine g_U ?_|refine g_A ?_|refine g_W ?_);(try simp -implicitDefEqProofs only[go_sem]))|(with_reducible refine hK _ _ ?_;clear hK K)|(clear hK K;first|(with_reducible refine hK _ _ ?_;clear hK K)|(clear hK K;with_reducible refine hK _ _ ?_;clear hK K)|(clear hK K;clear hK K;with_reducible refine hK _ _ ?_;clear hK K))|(with_reducible refine splitB_intro (fun h=>?_) (fun h=>?_)<;>(try simp only[go_sem] at h)<;>(try exact g_f)<;>(try simp -implicitDefEqProofs only[go_sem]))|(with_reducible refine And.intro (fun h=>?_) (fun h=>?_)<;>(try simp only[go_sem] at h)<;>(try exact g_f))|(with_reducible refine And.intro ?_ ?_;· exact g_x)|(with_reducible intro h;(try simp only[go_sem] at h);(try exact g_f))))
      refine hL () (τ ++ .dead :: τ') _ _ (by rw [hH]; rfl) (ALe_of ?_) (by simp [brkC, intA1])
      simp -implicitDefEqProofs only [go_sem]
    | some b =>
      rw [hF] at h9 hH
      obtain ⟨τ', rfl⟩ := h9
      refine ⟨rd, by simp, by rw [hrd]; simp, ?_⟩
      rw [hrd]
      simp only
      refine AWP_ret ?_
      simp -implicitDefEqProofs only [go_sem]
      have hb : brokenA x laws = b := by
        show (FC (holdsA x) (laws.flatMap (casesA x))).getD zeroB = b
        rw [hH]
        rfl
      rw [hb]
      refine CutQ_w rfl ?_ ?_
      · (repeat' (first | exact Bd.c _ | exact Bd.emp | exact BdL.nil | exact Bd.ints _ | refine Bd.aggL ?_ | refine Bd.tupL ?_ | refine BdL.cons ?_ ?_))
      · (repeat' (first | exact Wk.nil | exact Wk.emp | exact WkL.nil | (with_reducible exact Wk.refl _) | refine Wk.agg ?_ | refine Wk.tup ?_ | refine WkL.cons ?_ ?_ | (refine Wk.eq ?_; rfl)))
  · rintro k _ τ hk hH L
    simp -implicitDefEqProofs only [go_sem]
    (repeat' (first|(refine g_s fun K hK=>?_)|(refine g_b ?_)|(refine g_r ?_)|(refine g_k ?_;simp only[thenQ,blockQ])|(refine g_e ?_;simp only[thenQ,blockQ,↓reduceIte,Nat.reduceEqDiff])|(refine g_c (fun h=>?_) (fun h=>?_)<;>(try simp only[go_sem] at h)<;>(try exact g_f))|((first|refine g_t ?_|refine g_g ?_|refine g_U ?_|refine g_A ?_|refine g_W ?_);(try simp -implicitDefEqProofs only[go_sem]))|(with_reducible refine hK _ _ ?_;clear hK K)|(clear hK K;first|(with_reducible refine hK _ _ ?_;clear hK K)|(clear hK K;with_reducible refine hK _ _ ?_;clear hK K)|(clear hK K;clear hK K;with_reducible refine hK _ _ ?_;clear hK K))|(with_reducible refine splitB_intro (fun h=>?_) (fun h=>?_)<;>(try simp only[go_sem] at h)<;>(try exact g_f)<;>(try simp -implicitDefEqProofs only[go_sem]))|(with_reducible refine And.intro (fun h=>?_) (fun h=>?_)<;>(try simp only[go_sem] at h)<;>(try exact g_f))|(with_reducible refine And.intro ?_ ?_;· exact g_x)|(with_reducible intro h;(try simp only[go_sem] at h);(try exact g_f))))
    refine hJ _ _ ?_
    clear hJ
    (repeat' (first|(refine g_s fun K hK=>?_)|(refine g_b ?_)|(refine g_r ?_)|(refine g_k ?_;simp only[thenQ,blockQ])|(refine g_e ?_;simp only[thenQ,blockQ,↓reduceIte,Nat.reduceEqDiff])|(refine g_c (fun h=>?_) (fun h=>?_)<;>(try simp only[go_sem] at h)<;>(try exact g_f))|((first|refine g_t ?_|refine g_g ?_|refine g_U ?_|refine g_A ?_|refine g_W ?_);(try simp -implicitDefEqProofs only[go_sem]))|(with_reducible refine hK _ _ ?_;clear hK K)|(clear hK K;first|(with_reducible refine hK _ _ ?_;clear hK K)|(clear hK K;with_reducible refine hK _ _ ?_;clear hK K)|(clear hK K;clear hK K;with_reducible refine hK _ _ ?_;clear hK K))|(with_reducible refine splitB_intro (fun h=>?_) (fun h=>?_)<;>(try simp only[go_sem] at h)<;>(try exact g_f)<;>(try simp -implicitDefEqProofs only[go_sem]))|(with_reducible refine And.intro (fun h=>?_) (fun h=>?_)<;>(try simp only[go_sem] at h)<;>(try exact g_f))|(with_reducible refine And.intro ?_ ?_;· exact g_x)|(with_reducible intro h;(try simp only[go_sem] at h);(try exact g_f))))
    have hb : brokenA x laws = zeroB := by
      show (FC (holdsA x) (laws.flatMap (casesA x))).getD zeroB = zeroB
      rw [hH]
      rfl
    rw [hb]
    refine CutQ_w rfl ?_ ?_
    · (repeat' (first | exact Bd.c _ | exact Bd.emp | exact BdL.nil | exact Bd.ints _ | refine Bd.aggL ?_ | refine Bd.tupL ?_ | refine BdL.cons ?_ ?_))
    · (repeat' (first | exact Wk.nil | exact Wk.emp | exact WkL.nil | (with_reducible exact Wk.refl _) | refine Wk.agg ?_ | refine Wk.tup ?_ | refine WkL.cons ?_ ?_ | (refine Wk.eq ?_; rfl)))
end Go.Proofs.Ytephecognbbaoab
namespace Go.Proofs.Ytephecognbbaoab
open Go
set_option linter.all false
set_option maxRecDepth 100000
set_option maxHeartbeats 4000000
def shapeC (n : Int) (e : Bool) : AV := .agg [intA1 n, .c (.bool e)]
def shapesE : List (Value × AV) := [(.int .i64 1, shapeC 2 false), (.int .i64 2, shapeC 3 false), (.int .i64 3, shapeC 2 false), (.int .i64 4, shapeC 1 false), (.int .i64 5, shapeC 1 false),
  (.int .i64 6, shapeC 0 true), (.int .i64 7, shapeC 1 true), (.int .i64 8, shapeC 1 true), (.int .i64 9, shapeC 2 true)]
def BdM (n : Nat) : List (Value × AV) → Prop
  | [] => True
  | e :: r => Bd n e.2 ∧ BdM n r
theorem BdM.get {n : Nat} : ∀ {es : List (Value × AV)}, BdM n es → ∀ i (h : i < es.length), Bd n es[i].2
  | [], _, i, h => by simp at h
  | e :: r, hb, 0, _ => hb.1
  | e :: r, hb, i + 1, h => BdM.get hb.2 i (by simpa using h)
theorem Bd.cmL {n : Nat} {es : List (Value × AV)} (h : BdM n es) : Bd n (.cm es) := .cm _ h.get
theorem Bd.cpL {n : Nat} {l : List AV} {off : Nat} (h : BdL n l) : Bd n (.cp l off) := .cp _ _ h
theorem Bd.fnL {n : Nat} {f : FuncId} {l l' : List AV} (h : BdL n l) (h' : BdL n l') : Bd n (.fn f l l') := .fn _ _ _ h h'
theorem shapes_KK : KK Try.prog 3 shapesE = True := by simp [KK, shapesE, keyK_int, I64]
theorem shapes_DK : DK shapesE = True := by simp [DK, NK, shapesE]
theorem shapes_find (law : Int) (h : 1 ≤ law ∧ law ≤ 9) : findK shapesE (.int .i64 law) = some (shapeC (manyA law) (edgeA law)) := by
  have : law = 1 ∨ law = 2 ∨ law = 3 ∨ law = 4 ∨ law = 5 ∨ law = 6 ∨ law = 7 ∨ law = 8 ∨ law = 9 := by omega
  rcases this with rfl | rfl | rfl | rfl | rfl | rfl | rfl | rfl | rfl <;> simp [findK, shapesE, manyA, edgeA]
attribute [go_sem] shapes_KK shapes_DK
theorem shapes_calls (σ : Store) : ACalls Try.prog 133 [] σ fun r σ' => σ' = σ ∧ r = .cm shapesE := by
  refine ACalls.cutX ?_
  refine ACalls_of_awp Try.func133 rfl Try.results133 ?_
  simp only [List.length_cons, List.length_nil, Try.ntmps133, Nat.reduceAdd, Nat.reduceSub, enterA]
  refine AWP_seq_k fun K hK => ?_
  (refine AWP_region ?_; simp -implicitDefEqProofs only [go_sem])
  refine hK _ _ ?_; clear hK K
  refine AWP_seq_k fun K hK => ?_
  (refine AWP_region ?_; simp -implicitDefEqProofs only [go_sem, putK, Value.int.injEq, I64])
  refine hK _ _ ?_; clear hK K
  refine AWP_freezeM 0 rfl (by first | rfl | (simp -implicitDefEqProofs only [go_sem]; done) | (simp -implicitDefEqProofs only [go_sem]; rfl)) ?_
  (repeat' (first|(refine g_s fun K hK=>?_)|(refine g_b ?_)|(refine g_r ?_)|(refine g_k ?_;simp only[thenQ,blockQ])|(refine g_e ?_;simp only[thenQ,blockQ,↓reduceIte,Nat.reduceEqDiff])|(refine g_c (fun h=>?_) (fun h=>?_)<;>(try simp only[go_sem] at h)<;>(try exact g_f))|((first|refine g_t ?_|refine g_g ?_|refine g_U ?_|refine g_A ?_|refine g_W ?_);(try simp -implicitDefEqProofs only[go_sem]))|(with_reducible refine hK _ _ ?_;clear hK K)|(clear hK K;first|(with_reducible refine hK _ _ ?_;clear hK K)|(clear hK K;with_reducible refine hK _ _ ?_;clear hK K)|(clear hK K;clear hK K;with_reducible refine hK _ _ ?_;clear hK K))|(with_reducible refine splitB_intro (fun h=>?_) (fun h=>?_)<;>(try simp only[go_sem] at h)<;>(try exact g_f)<;>(try simp -implicitDefEqProofs only[go_sem]))|(with_reducible refine And.intro (fun h=>?_) (fun h=>?_)<;>(try simp only[go_sem] at h)<;>(try exact g_f))|(with_reducible refine And.intro ?_ ?_;· exact g_x)|(with_reducible intro h;(try simp only[go_sem] at h);(try exact g_f))))
  refine CutQ_w rfl ?_ ?_
  · refine .cmL ⟨?_, ?_, ?_, ?_, ?_, ?_, ?_, ?_, ?_, trivial⟩
    all_goals (repeat' (first | exact Bd.c _ | exact Bd.emp | exact BdL.nil | exact Bd.ints _ | refine Bd.aggL ?_ | refine Bd.tupL ?_ | refine BdL.cons ?_ ?_))
  · exact .eq rfl
theorem bd_caseFn {n : Nat} (x : Alg) (law : Int) : Bd n (caseFn x law) := by
  refine .fnL .nil (.cons (.cpL (.cons (.c _) (.cons (.c _) .nil))) (.cons (.cpL (.cons (.c _) (.cons (.rows _) (.cons (.rows _) .nil)))) (.cons (.cpL (.cons (.c _) .nil)) .nil)))
theorem cases_calls (x : Alg) (law : Int) (hl : 1 ≤ law ∧ law ≤ 9) (σ : Store) : ACalls Try.prog 183 [.agg (algC x), intA1 law] σ fun r σ' => σ' = σ ∧ r = caseFn x law := by
  have hf := shapes_find law hl
  have hi : I64 law := by unfold I64; omega
  refine ACalls.cutX ?_
  refine ACalls_of_awp Try.func183 rfl Try.results183 ?_
  simp only [List.length_cons, List.length_nil, Try.ntmps183, Nat.reduceAdd, Nat.reduceSub, enterA]
  refine AWP_seq_k fun K hK => ?_
  (refine AWP_region ?_; simp -implicitDefEqProofs only [go_sem])
  refine hK _ _ ?_; clear hK K
  refine AWP_freezeP 2 rfl (by simp only [st0]; rfl) ?_
  simp only [ss0, List.set_cons_zero]
  refine AWP_freezeP 3 rfl (by simp only [st1]; rfl) ?_
  simp only [ss1, List.set_cons_zero, List.set_cons_succ]
  refine AWP_seq_k fun K hK => ?_
  refine AWP_drawA tab_mixed (by decide +kernel) (by rfl) ?_
  simp -implicitDefEqProofs only [go_sem]
  refine callQ_use (fun τ => shapes_calls _) ?_
  simp -implicitDefEqProofs only [go_sem, hf, shapeC, hi]
  refine hK _ _ ?_; clear hK K
  refine AWP_freezeP 5 rfl (by first | rfl | (simp -implicitDefEqProofs only [go_sem]; done) | (simp -implicitDefEqProofs only [go_sem]; rfl)) ?_
  (repeat' (first|(refine g_s fun K hK=>?_)|(refine g_b ?_)|(refine g_r ?_)|(refine g_k ?_;simp only[thenQ,blockQ])|(refine g_e ?_;simp only[thenQ,blockQ,↓reduceIte,Nat.reduceEqDiff])|(refine g_c (fun h=>?_) (fun h=>?_)<;>(try simp only[go_sem] at h)<;>(try exact g_f))|((first|refine g_t ?_|refine g_g ?_|refine g_U ?_|refine g_A ?_|refine g_W ?_);(try simp -implicitDefEqProofs only[go_sem]))|(with_reducible refine hK _ _ ?_;clear hK K)|(clear hK K;first|(with_reducible refine hK _ _ ?_;clear hK K)|(clear hK K;with_reducible refine hK _ _ ?_;clear hK K)|(clear hK K;clear hK K;with_reducible refine hK _ _ ?_;clear hK K))|(with_reducible refine splitB_intro (fun h=>?_) (fun h=>?_)<;>(try simp only[go_sem] at h)<;>(try exact g_f)<;>(try simp -implicitDefEqProofs only[go_sem]))|(with_reducible refine And.intro (fun h=>?_) (fun h=>?_)<;>(try simp only[go_sem] at h)<;>(try exact g_f))|(with_reducible refine And.intro ?_ ?_;· exact g_x)|(with_reducible intro h;(try simp only[go_sem] at h);(try exact g_f))))
  refine CutQ_w rfl ?_ ?_
  · exact bd_caseFn x law
  · exact .eq rfl
end Go.Proofs.Ytephecognbbaoab
namespace Go.Proofs.Ytephecognbbaoab
theorem checkA_size {x : Alg} (h : x.size < 2 ∨ 24 < x.size) : checkA x = 3 := by
  unfold checkA
  rw [if_pos (not_inR.2 h)]
theorem checkA_many {x : Alg} (h : 2 ≤ x.size ∧ x.size ≤ 24) (h2 : 8 < x.edges.length) : checkA x = 2 := by
  unfold checkA
  rw [if_neg (by rw [not_inR]; omega), if_pos h2]
theorem checkA_best {x : Alg} (h : 2 ≤ x.size ∧ x.size ≤ 24) (h2 : x.edges.length ≤ 8) (h3 : (x.best.length : Int) ≠ x.size) : checkA x = 1 := by
  unfold checkA
  rw [if_neg (by rw [not_inR]; omega), if_neg (by omega), if_pos h3]
theorem checkA_row {x : Alg} (h : 2 ≤ x.size ∧ x.size ≤ 24) (h2 : x.edges.length ≤ 8) (h3 : (x.best.length : Int) = x.size) {r : List Int} (hr : r ∈ x.best ++ x.edges) (hn : (r.length : Int) ≠ x.size) : checkA x = 1 := by
  unfold checkA
  rw [if_neg (by rw [not_inR]; omega), if_neg (by omega), if_neg (by omega), if_pos (List.any_eq_true.2 ⟨r, hr, by simpa using hn⟩)]
theorem checkA_val {x : Alg} (h : 2 ≤ x.size ∧ x.size ≤ 24) (h2 : x.edges.length ≤ 8) (h3 : (x.best.length : Int) = x.size) (h4 : ∀ r ∈ x.best ++ x.edges, (r.length : Int) = x.size) {r : List Int} (hr : r ∈ x.best ++ x.edges) {n : Int} (hn : n ∈ r)
    (hb : n < 0 ∨ x.size - 1 < n) : checkA x = 5 := by
  unfold checkA
  rw [if_neg (by rw [not_inR]; omega), if_neg (by omega), if_neg (by omega), if_neg, if_pos (List.any_eq_true.2 ⟨r, hr, List.any_eq_true.2 ⟨n, hn, not_inR.2 hb⟩⟩)]
  intro hc
  obtain ⟨r, hr, hn⟩ := List.any_eq_true.1 hc
  exact (of_decide_eq_true hn) (h4 r hr)
def rows1 (l : List (List Int)) : List AV := [rowsC l]
attribute [go_sem] rows1
theorem check_calls (x : Alg) (hb : x.best.length ≤ 5864062014634) (he : x.edges.length ≤ 5864062014634) (hs : I64 x.size) (hrow : ∀ r ∈ x.best ++ x.edges, r.length ≤ 17592186044000) (σ : Store) :
    ACalls Try.prog 70 [.agg (algC x)] σ fun r σ' => σ' = σ ∧ r = intA1 (checkA x) := by
  refine ACalls.cutX ?_
  refine ACalls_of_awp Try.func70 rfl Try.results70 ?_
  simp only [List.length_cons, List.length_nil, Try.ntmps70, Nat.reduceAdd, Nat.reduceSub, enterA]
  refine AWP_seq_k fun K hK => ?_
  (refine AWP_region ?_; simp -implicitDefEqProofs only [go_sem])
  refine hK _ _ ?_; clear hK K
  refine AWP_freezeP 1 rfl (by simp only [st0]; rfl) ?_
  simp only [ss0, List.set_cons_zero]
  (repeat' (first|(refine g_s fun K hK=>?_)|(refine g_b ?_)|(refine g_r ?_)|(refine g_k ?_;simp only[thenQ,blockQ])|(refine g_e ?_;simp only[thenQ,blockQ,↓reduceIte,Nat.reduceEqDiff])|(refine g_c (fun h=>?_) (fun h=>?_)<;>(try simp only[go_sem] at h)<;>(try exact g_f))|((first|refine g_t ?_|refine g_g ?_|refine g_U ?_|refine g_A ?_|refine (within_calls _ _ _ _).use ?_|refine g_q (fun τ=>within_calls _ _ _ _) ?_|refine g_W ?_);(try simp -implicitDefEqProofs only[go_sem]))|(with_reducible refine hK _ _ ?_;clear hK K)|(clear hK K;first|(with_reducible refine hK _ _ ?_;clear hK K)|(clear hK K;with_reducible refine hK _ _ ?_;clear hK K)|(clear hK K;clear hK K;with_reducible refine hK _ _ ?_;clear hK K))|(with_reducible refine splitB_intro (fun h=>?_) (fun h=>?_)<;>(try simp only[go_sem] at h)<;>(try exact g_f)<;>(try simp -implicitDefEqProofs only[go_sem]))|(with_reducible refine And.intro (fun h=>?_) (fun h=>?_)<;>(try simp only[go_sem] at h)<;>(try exact g_f))|(with_reducible refine And.intro ?_ ?_;· exact g_x)|(with_reducible intro h;(try simp only[go_sem] at h);(try exact g_f))))
  · exact CutQ_c rfl (by rw [checkA_size (not_inR.1 (by rw [h]; rfl))])
  · rename_i h1
    exact CutQ_c rfl (by rw [checkA_many (inR_iff.1 h1) (by omega)])
  · rename_i h1 h2
    exact CutQ_c rfl (by rw [checkA_best (inR_iff.1 h1) (by omega) h])
  rename_i h1 h2
  have hsz := inR_iff.1 h1
  have hbl := h
  have he8 : x.edges.length ≤ 8 := by omega
  clear h h1 h2
  have hJ := hK
  clear hK
  generalize hls : [x.best, x.edges] = ls
  have hlsm : ∀ l ∈ ls, ∀ r ∈ l, r ∈ x.best ++ x.edges := by
    subst hls
    intro l hl r hr
    simp only [List.mem_cons, List.not_mem_nil, or_false] at hl
    rcases hl with rfl | rfl
    · exact List.mem_append_left _ hr
    · exact List.mem_append_right _ hr
  have hlsl : ∀ l ∈ ls, l.length ≤ 24 := by
    subst hls
    intro l hl
    simp only [List.mem_cons, List.not_mem_nil, or_false] at hl
    rcases hl with rfl | rfl <;> omega
  have hst : σ ++ [Ob.dead, Ob.cells 1 [[AV.sl (List.map rowC x.best)], [AV.sl (List.map rowC x.edges)]]] = σ ++ [Ob.dead, Ob.cells 1 (ls.map rows1)] := by subst hls; rfl
  have hll : ls.length = 2 := by subst hls; rfl
  rw [hst]
  refine AWP_each ls (fun k r _ => ∀ l ∈ ls, l ∈ r ∨ ∀ w ∈ l, (w.length : Int) = x.size) (fun k _ _ => [(38, intA1 k)]) (fun _ _ _ => σ ++ [.dead, .cells 1 (ls.map rows1)]) () [] (fun l hl => .inl hl) rfl (ALe_of ?_) ?_ ?_
  · simp -implicitDefEqProofs only [go_sem]
  · rintro k r _ τ hk0 hk1 hH L hL
    have hmem := at0_mem ls hk0 hk1
    obtain ⟨l, hl⟩ : ∃ l, at0 ls k = l := ⟨_, rfl⟩
    rw [hl] at hH hmem
    simp -implicitDefEqProofs only [go_sem]
    (repeat' (first|(refine g_s fun K hK=>?_)|(refine g_b ?_)|(refine g_r ?_)|(refine g_k ?_;simp only[thenQ,blockQ])|(refine g_e ?_;simp only[thenQ,blockQ,↓reduceIte,Nat.reduceEqDiff])|(refine g_c (fun h=>?_) (fun h=>?_)<;>(try simp only[go_sem] at h)<;>(try exact g_f))|((first|refine g_t ?_|refine g_g ?_|refine g_U ?_|refine g_A ?_|refine g_W ?_);(try simp -implicitDefEqProofs only[go_sem,hl]))|(with_reducible refine hK _ _ ?_;clear hK K)|(clear hK K;first|(with_reducible refine hK _ _ ?_;clear hK K)|(clear hK K;with_reducible refine hK _ _ ?_;clear hK K)|(clear hK K;clear hK K;with_reducible refine hK _ _ ?_;clear hK K))|(with_reducible refine splitB_intro (fun h=>?_) (fun h=>?_)<;>(try simp only[go_sem] at h)<;>(try exact g_f)<;>(try simp -implicitDefEqProofs only[go_sem,hl]))|(with_reducible refine And.intro (fun h=>?_) (fun h=>?_)<;>(try simp only[go_sem] at h)<;>(try exact g_f))|(with_reducible refine And.intro ?_ ?_;· exact g_x)|(with_reducible intro h;(try simp only[go_sem] at h);(try exact g_f))))
    refine AWP_each l (fun _ r' _ => ∀ w ∈ l, w ∈ r' ∨ (w.length : Int) = x.size) (fun k' _ _ => [(44, intA1 k')]) (fun _ _ _ => σ ++ [.dead, .cells 1 (ls.map rows1)]) () [] (fun w hw => .inl hw) rfl (ALe_of ?_) ?_ ?_
    · simp -implicitDefEqProofs only [go_sem]
    · rintro k' r' _ τ' hk0' hk1' hH' L' hL'
      have hmem' := at0_mem l hk0' hk1'
      have h24 := hlsl l hmem
      simp -implicitDefEqProofs only [go_sem]
      (repeat' (first|(refine g_s fun K hK=>?_)|(refine g_b ?_)|(refine g_r ?_)|(refine g_k ?_;simp only[thenQ,blockQ])|(refine g_e ?_;simp only[thenQ,blockQ,↓reduceIte,Nat.reduceEqDiff])|(refine g_c (fun h=>?_) (fun h=>?_)<;>(try simp only[go_sem] at h)<;>(try exact g_f))|((first|refine g_t ?_|refine g_g ?_|refine g_U ?_|refine g_A ?_|refine g_W ?_);(try simp -implicitDefEqProofs only[go_sem]))|(with_reducible refine hK _ _ ?_;clear hK K)|(clear hK K;first|(with_reducible refine hK _ _ ?_;clear hK K)|(clear hK K;with_reducible refine hK _ _ ?_;clear hK K)|(clear hK K;clear hK K;with_reducible refine hK _ _ ?_;clear hK K))|(with_reducible refine splitB_intro (fun h=>?_) (fun h=>?_)<;>(try simp only[go_sem] at h)<;>(try exact g_f)<;>(try simp -implicitDefEqProofs only[go_sem]))|(with_reducible refine And.intro (fun h=>?_) (fun h=>?_)<;>(try simp only[go_sem] at h)<;>(try exact g_f))|(with_reducible refine And.intro ?_ ?_;· exact g_x)|(with_reducible intro h;(try simp only[go_sem] at h);(try exact g_f))))
      · exact CutQ_c rfl (by rw [checkA_row hsz he8 hbl (hlsm l hmem _ hmem') h])
      · refine hL' () [] _ _ (fun w hw => ?_) (ALe_of ?_) rfl
        · rcases hH' w hw with h9 | h9
          · rcases List.mem_cons.1 h9 with rfl | h9
            · exact .inr h
            · exact .inl h9
          · exact .inr h9
        · simp -implicitDefEqProofs only [go_sem]
    · rintro k' _ τ' hk' hH' L'
      simp -implicitDefEqProofs only [go_sem]
      (repeat' (first|(refine g_s fun K hK=>?_)|(refine g_b ?_)|(refine g_r ?_)|(refine g_k ?_;simp only[thenQ,blockQ])|(refine g_e ?_;simp only[thenQ,blockQ,↓reduceIte,Nat.reduceEqDiff])|(refine g_c (fun h=>?_) (fun h=>?_)<;>(try simp only[go_sem] at h)<;>(try exact g_f))|((first|refine g_t ?_|refine g_g ?_|refine g_U ?_|refine g_A ?_|refine g_W ?_);(try simp -implicitDefEqProofs only[go_sem]))|(with_reducible refine hK _ _ ?_;clear hK K)|(clear hK K;first|(with_reducible refine hK _ _ ?_;clear hK K)|(clear hK K;with_reducible refine hK _ _ ?_;clear hK K)|(clear hK K;clear hK K;with_reducible refine hK _ _ ?_;clear hK K))|(with_reducible refine splitB_intro (fun h=>?_) (fun h=>?_)<;>(try simp only[go_sem] at h)<;>(try exact g_f)<;>(try simp -implicitDefEqProofs only[go_sem]))|(with_reducible refine And.intro (fun h=>?_) (fun h=>?_)<;>(try simp only[go_sem] at h)<;>(try exact g_f))|(with_reducible refine And.intro ?_ ?_;· exact g_x)|(with_reducible intro h;(try simp only[go_sem] at h);(try exact g_f))))
      refine hL () [] _ _ (fun l' hl' => ?_) (ALe_of ?_) rfl
      · rcases hH l' hl' with h9 | h9
        · rcases List.mem_cons.1 h9 with rfl | h9
          · exact .inr fun w hw => (hH' w hw).resolve_left (by simp)
          · exact .inl h9
        · exact .inr h9
      · simp -implicitDefEqProofs only [go_sem]
  · rintro k _ τ hk hH L
    have hgood : ∀ r ∈ x.best ++ x.edges, (r.length : Int) = x.size := fun r hr => by
      subst hls
      rcases List.mem_append.1 hr with h | h
      · exact (hH x.best (by simp)).resolve_left (by simp) r h
      · exact (hH x.edges (by simp)).resolve_left (by simp) r h
    simp -implicitDefEqProofs only [go_sem]
    (repeat' (first|(refine g_s fun K hK=>?_)|(refine g_b ?_)|(refine g_r ?_)|(refine g_k ?_;simp only[thenQ,blockQ])|(refine g_e ?_;simp only[thenQ,blockQ,↓reduceIte,Nat.reduceEqDiff])|(refine g_c (fun h=>?_) (fun h=>?_)<;>(try simp only[go_sem] at h)<;>(try exact g_f))|((first|refine g_t ?_|refine g_g ?_|refine g_U ?_|refine g_A ?_|refine g_W ?_);(try simp -implicitDefEqProofs only[go_sem]))|(with_reducible refine hK _ _ ?_;clear hK K)|(clear hK K;first|(with_reducible refine hK _ _ ?_;clear hK K)|(clear hK K;with_reducible refine hK _ _ ?_;clear hK K)|(clear hK K;clear hK K;with_reducible refine hK _ _ ?_;clear hK K))|(with_reducible refine splitB_intro (fun h=>?_) (fun h=>?_)<;>(try simp only[go_sem] at h)<;>(try exact g_f)<;>(try simp -implicitDefEqProofs only[go_sem]))|(with_reducible refine And.intro (fun h=>?_) (fun h=>?_)<;>(try simp only[go_sem] at h)<;>(try exact g_f))|(with_reducible refine And.intro ?_ ?_;· exact g_x)|(with_reducible intro h;(try simp only[go_sem] at h);(try exact g_f))))
    refine hJ _ _ ?_
    clear hJ
    (repeat' (first|(refine g_s fun K hK=>?_)|(refine g_b ?_)|(refine g_r ?_)|(refine g_k ?_;simp only[thenQ,blockQ])|(refine g_e ?_;simp only[thenQ,blockQ,↓reduceIte,Nat.reduceEqDiff])|(refine g_c (fun h=>?_) (fun h=>?_)<;>(try simp only[go_sem] at h)<;>(try exact g_f))|((first|refine g_t ?_|refine g_g ?_|refine g_U ?_|refine g_A ?_|refine g_W ?_);(try simp -implicitDefEqProofs only[go_sem]))|(with_reducible refine hK _ _ ?_;clear hK K)|(clear hK K;first|(with_reducible refine hK _ _ ?_;clear hK K)|(clear hK K;with_reducible refine hK _ _ ?_;clear hK K)|(clear hK K;clear hK K;with_reducible refine hK _ _ ?_;clear hK K))|(with_reducible refine splitB_intro (fun h=>?_) (fun h=>?_)<;>(try simp only[go_sem] at h)<;>(try exact g_f)<;>(try simp -implicitDefEqProofs only[go_sem]))|(with_reducible refine And.intro (fun h=>?_) (fun h=>?_)<;>(try simp only[go_sem] at h)<;>(try exact g_f))|(with_reducible refine And.intro ?_ ?_;· exact g_x)|(with_reducible intro h;(try simp only[go_sem] at h);(try exact g_f))))
    have hJ := hK
    clear hK
    refine AWP_each ls (fun _ r _ => ∀ l ∈ ls, l ∈ r ∨ ∀ w ∈ l, ∀ n ∈ w, inR n 0 (x.size - 1) = true) (fun k _ _ => [(57, intA1 k)]) (fun _ _ _ => σ ++ [.dead, .cells 1 (ls.map rows1)]) () [] (fun l hl => .inl hl) rfl (ALe_of ?_) ?_ ?_
    · simp -implicitDefEqProofs only [go_sem]
    · rintro k r _ τ hk0 hk1 hH L hL
      have hmem := at0_mem ls hk0 hk1
      obtain ⟨l, hl⟩ : ∃ l, at0 ls k = l := ⟨_, rfl⟩
      rw [hl] at hH hmem
      simp -implicitDefEqProofs only [go_sem]
      (repeat' (first|(refine g_s fun K hK=>?_)|(refine g_b ?_)|(refine g_r ?_)|(refine g_k ?_;simp only[thenQ,blockQ])|(refine g_e ?_;simp only[thenQ,blockQ,↓reduceIte,Nat.reduceEqDiff])|(refine g_c (fun h=>?_) (fun h=>?_)<;>(try simp only[go_sem] at h)<;>(try exact g_f))|((first|refine g_t ?_|refine g_g ?_|refine g_U ?_|refine g_A ?_|refine g_W ?_);(try simp -implicitDefEqProofs only[go_sem,hl]))|(with_reducible refine hK _ _ ?_;clear hK K)|(clear hK K;first|(with_reducible refine hK _ _ ?_;clear hK K)|(clear hK K;with_reducible refine hK _ _ ?_;clear hK K)|(clear hK K;clear hK K;with_reducible refine hK _ _ ?_;clear hK K))|(with_reducible refine splitB_intro (fun h=>?_) (fun h=>?_)<;>(try simp only[go_sem] at h)<;>(try exact g_f)<;>(try simp -implicitDefEqProofs only[go_sem,hl]))|(with_reducible refine And.intro (fun h=>?_) (fun h=>?_)<;>(try simp only[go_sem] at h)<;>(try exact g_f))|(with_reducible refine And.intro ?_ ?_;· exact g_x)|(with_reducible intro h;(try simp only[go_sem] at h);(try exact g_f))))
      refine AWP_each l (fun _ r' _ => ∀ w ∈ l, w ∈ r' ∨ ∀ n ∈ w, inR n 0 (x.size - 1) = true) (fun k' _ _ => [(63, intA1 k')]) (fun _ _ _ => σ ++ [.dead, .cells 1 (ls.map rows1)]) () [] (fun w hw => .inl hw) rfl (ALe_of ?_) ?_ ?_
      · simp -implicitDefEqProofs only [go_sem]
      · rintro k' r' _ τ' hk0' hk1' hH' L' hL'
        have hmem' := at0_mem l hk0' hk1'
        have h24 := hlsl l hmem
        obtain ⟨w, hw⟩ : ∃ w, at0 l k' = w := ⟨_, rfl⟩
        rw [hw] at hH' hmem'
        have hwl := hgood w (hlsm l hmem w hmem')
        simp -implicitDefEqProofs only [go_sem]
        (repeat' (first|(refine g_s fun K hK=>?_)|(refine g_b ?_)|(refine g_r ?_)|(refine g_k ?_;simp only[thenQ,blockQ])|(refine g_e ?_;simp only[thenQ,blockQ,↓reduceIte,Nat.reduceEqDiff])|(refine g_c (fun h=>?_) (fun h=>?_)<;>(try simp only[go_sem] at h)<;>(try exact g_f))|((first|refine g_t ?_|refine g_g ?_|refine g_U ?_|refine g_A ?_|refine g_W ?_);(try simp -implicitDefEqProofs only[go_sem,hw]))|(with_reducible refine hK _ _ ?_;clear hK K)|(clear hK K;first|(with_reducible refine hK _ _ ?_;clear hK K)|(clear hK K;with_reducible refine hK _ _ ?_;clear hK K)|(clear hK K;clear hK K;with_reducible refine hK _ _ ?_;clear hK K))|(with_reducible refine splitB_intro (fun h=>?_) (fun h=>?_)<;>(try simp only[go_sem] at h)<;>(try exact g_f)<;>(try simp -implicitDefEqProofs only[go_sem,hw]))|(with_reducible refine And.intro (fun h=>?_) (fun h=>?_)<;>(try simp only[go_sem] at h)<;>(try exact g_f))|(with_reducible refine And.intro ?_ ?_;· exact g_x)|(with_reducible intro h;(try simp only[go_sem] at h);(try exact g_f))))
        refine AWP_each w (fun _ r9 _ => ∀ n ∈ w, n ∈ r9 ∨ inR n 0 (x.size - 1) = true) (fun k9 _ _ => [(69, intA1 k9)]) (fun _ _ _ => σ ++ [.dead, .cells 1 (ls.map rows1)]) () [] (fun n hn => .inl hn) rfl (ALe_of ?_) ?_ ?_
        · simp -implicitDefEqProofs only [go_sem]
        · rintro k9 r9 _ τ9 hk09 hk19 hH9 L9 hL9
          have hmem9 := at0_mem w hk09 hk19
          simp -implicitDefEqProofs only [go_sem]
          (repeat' (first|(refine g_s fun K hK=>?_)|(refine g_b ?_)|(refine g_r ?_)|(refine g_k ?_;simp only[thenQ,blockQ])|(refine g_e ?_;simp only[thenQ,blockQ,↓reduceIte,Nat.reduceEqDiff])|(refine g_c (fun h=>?_) (fun h=>?_)<;>(try simp only[go_sem] at h)<;>(try exact g_f))|((first|refine g_t ?_|refine g_g ?_|refine g_U ?_|refine g_A ?_|refine (is_calls x _ (by unfold I64; omega) _).use ?_|refine g_q (fun τ=>is_calls x _ (by unfold I64; omega) _) ?_|refine g_W ?_);(try simp -implicitDefEqProofs only[go_sem]))|(with_reducible refine hK _ _ ?_;clear hK K)|(clear hK K;first|(with_reducible refine hK _ _ ?_;clear hK K)|(clear hK K;with_reducible refine hK _ _ ?_;clear hK K)|(clear hK K;clear hK K;with_reducible refine hK _ _ ?_;clear hK K))|(with_reducible refine splitB_intro (fun h=>?_) (fun h=>?_)<;>(try simp only[go_sem] at h)<;>(try exact g_f)<;>(try simp -implicitDefEqProofs only[go_sem]))|(with_reducible refine And.intro (fun h=>?_) (fun h=>?_)<;>(try simp only[go_sem] at h)<;>(try exact g_f))|(with_reducible refine And.intro ?_ ?_;· exact g_x)|(with_reducible intro h;(try simp only[go_sem] at h);(try exact g_f))))
          · exact CutQ_c rfl (by rw [checkA_val hsz he8 hbl hgood (hlsm l hmem _ hmem') hmem9 (not_inR.1 (by rw [h]; rfl))])
          · refine hL9 () [] _ _ (fun n hn => ?_) (ALe_of ?_) rfl
            · rcases hH9 n hn with g | g
              · rcases List.mem_cons.1 g with rfl | g
                · exact .inr h
                · exact .inl g
              · exact .inr g
            · simp -implicitDefEqProofs only [go_sem]
        · rintro k9 _ τ9 hk9 hH9 L9
          simp -implicitDefEqProofs only [go_sem]
          (repeat' (first|(refine g_s fun K hK=>?_)|(refine g_b ?_)|(refine g_r ?_)|(refine g_k ?_;simp only[thenQ,blockQ])|(refine g_e ?_;simp only[thenQ,blockQ,↓reduceIte,Nat.reduceEqDiff])|(refine g_c (fun h=>?_) (fun h=>?_)<;>(try simp only[go_sem] at h)<;>(try exact g_f))|((first|refine g_t ?_|refine g_g ?_|refine g_U ?_|refine g_A ?_|refine g_W ?_);(try simp -implicitDefEqProofs only[go_sem]))|(with_reducible refine hK _ _ ?_;clear hK K)|(clear hK K;first|(with_reducible refine hK _ _ ?_;clear hK K)|(clear hK K;with_reducible refine hK _ _ ?_;clear hK K)|(clear hK K;clear hK K;with_reducible refine hK _ _ ?_;clear hK K))|(with_reducible refine splitB_intro (fun h=>?_) (fun h=>?_)<;>(try simp only[go_sem] at h)<;>(try exact g_f)<;>(try simp -implicitDefEqProofs only[go_sem]))|(with_reducible refine And.intro (fun h=>?_) (fun h=>?_)<;>(try simp only[go_sem] at h)<;>(try exact g_f))|(with_reducible refine And.intro ?_ ?_;· exact g_x)|(with_reducible intro h;(try simp only[go_sem] at h);(try exact g_f))))
          refine hL' () [] _ _ (fun w' hw' => ?_) (ALe_of ?_) rfl
          · rcases hH' w' hw' with g | g
            · rcases List.mem_cons.1 g with rfl | g
              · exact .inr fun n hn => (hH9 n hn).resolve_left (by simp)
              · exact .inl g
            · exact .inr g
          · simp -implicitDefEqProofs only [go_sem]
      · rintro k' _ τ' hk' hH' L'
        simp -implicitDefEqProofs only [go_sem]
        (repeat' (first|(refine g_s fun K hK=>?_)|(refine g_b ?_)|(refine g_r ?_)|(refine g_k ?_;simp only[thenQ,blockQ])|(refine g_e ?_;simp only[thenQ,blockQ,↓reduceIte,Nat.reduceEqDiff])|(refine g_c (fun h=>?_) (fun h=>?_)<;>(try simp only[go_sem] at h)<;>(try exact g_f))|((first|refine g_t ?_|refine g_g ?_|refine g_U ?_|refine g_A ?_|refine g_W ?_);(try simp -implicitDefEqProofs only[go_sem]))|(with_reducible refine hK _ _ ?_;clear hK K)|(clear hK K;first|(with_reducible refine hK _ _ ?_;clear hK K)|(clear hK K;with_reducible refine hK _ _ ?_;clear hK K)|(clear hK K;clear hK K;with_reducible refine hK _ _ ?_;clear hK K))|(with_reducible refine splitB_intro (fun h=>?_) (fun h=>?_)<;>(try simp only[go_sem] at h)<;>(try exact g_f)<;>(try simp -implicitDefEqProofs only[go_sem]))|(with_reducible refine And.intro (fun h=>?_) (fun h=>?_)<;>(try simp only[go_sem] at h)<;>(try exact g_f))|(with_reducible refine And.intro ?_ ?_;· exact g_x)|(with_reducible intro h;(try simp only[go_sem] at h);(try exact g_f))))
        refine hL () [] _ _ (fun l' hl' => ?_) (ALe_of ?_) rfl
        · rcases hH l' hl' with g | g
          · rcases List.mem_cons.1 g with rfl | g
            · exact .inr fun w hw => (hH' w hw).resolve_left (by simp)
            · exact .inl g
          · exact .inr g
        · simp -implicitDefEqProofs only [go_sem]
    · rintro k _ τ hk hH L
      have hright : Right x := ⟨hsz.1, hsz.2, he8, hbl, hgood, fun r hr n hn => by
        subst hls
        rcases List.mem_append.1 hr with g | g
        · exact inR_iff.1 ((hH x.best (by simp)).resolve_left (by simp) r g n hn)
        · exact inR_iff.1 ((hH x.edges (by simp)).resolve_left (by simp) r g n hn)⟩
      simp -implicitDefEqProofs only [go_sem]
      (repeat' (first|(refine g_s fun K hK=>?_)|(refine g_b ?_)|(refine g_r ?_)|(refine g_k ?_;simp only[thenQ,blockQ])|(refine g_e ?_;simp only[thenQ,blockQ,↓reduceIte,Nat.reduceEqDiff])|(refine g_c (fun h=>?_) (fun h=>?_)<;>(try simp only[go_sem] at h)<;>(try exact g_f))|((first|refine g_t ?_|refine g_g ?_|refine g_U ?_|refine g_A ?_|refine g_W ?_);(try simp -implicitDefEqProofs only[go_sem]))|(with_reducible refine hK _ _ ?_;clear hK K)|(clear hK K;first|(with_reducible refine hK _ _ ?_;clear hK K)|(clear hK K;with_reducible refine hK _ _ ?_;clear hK K)|(clear hK K;clear hK K;with_reducible refine hK _ _ ?_;clear hK K))|(with_reducible refine splitB_intro (fun h=>?_) (fun h=>?_)<;>(try simp only[go_sem] at h)<;>(try exact g_f)<;>(try simp -implicitDefEqProofs only[go_sem]))|(with_reducible refine And.intro (fun h=>?_) (fun h=>?_)<;>(try simp only[go_sem] at h)<;>(try exact g_f))|(with_reducible refine And.intro ?_ ?_;· exact g_x)|(with_reducible intro h;(try simp only[go_sem] at h);(try exact g_f))))
      refine hJ _ _ ?_
      clear hJ
      (repeat' (first|(refine g_s fun K hK=>?_)|(refine g_b ?_)|(refine g_r ?_)|(refine g_k ?_;simp only[thenQ,blockQ])|(refine g_e ?_;simp only[thenQ,blockQ,↓reduceIte,Nat.reduceEqDiff])|(refine g_c (fun h=>?_) (fun h=>?_)<;>(try simp only[go_sem] at h)<;>(try exact g_f))|((first|refine g_t ?_|refine g_g ?_|refine g_U ?_|refine g_A ?_|refine g_W ?_);(try simp -implicitDefEqProofs only[go_sem]))|(with_reducible refine hK _ _ ?_;clear hK K)|(clear hK K;first|(with_reducible refine hK _ _ ?_;clear hK K)|(clear hK K;with_reducible refine hK _ _ ?_;clear hK K)|(clear hK K;clear hK K;with_reducible refine hK _ _ ?_;clear hK K))|(with_reducible refine splitB_intro (fun h=>?_) (fun h=>?_)<;>(try simp only[go_sem] at h)<;>(try exact g_f)<;>(try simp -implicitDefEqProofs only[go_sem]))|(with_reducible refine And.intro (fun h=>?_) (fun h=>?_)<;>(try simp only[go_sem] at h)<;>(try exact g_f))|(with_reducible refine And.intro ?_ ?_;· exact g_x)|(with_reducible intro h;(try simp only[go_sem] at h);(try exact g_f))))
      exact CutQ_c rfl (by rw [right_iff.2 hright])
end Go.Proofs.Ytephecognbbaoab
namespace Go.Proofs.Ytephecognbbaoab
/-- What is known of an algebra that came in. -/
structure AlgOk (x : Alg) : Prop where
  hb : x.best.length ≤ 5864062014634
  he : x.edges.length ≤ 5864062014634
  hs : I64 x.size
  hrow : ∀ r ∈ x.best ++ x.edges, r.length ≤ 17592186044000
theorem broken_calls (x : Alg) (laws : List Int) (hr : Right x) (hl : laws.length ≤ 100) (hlaw : ∀ law ∈ laws, 1 ≤ law ∧ law ≤ 9) (σ : Store) :
    ACalls Try.prog 141 [.agg (algC x), intsA laws] σ fun r σ' => σ' = σ ∧ r = .agg (brkC (brokenA x laws)) :=
  broken_calls' x laws hr hl hlaw (fun law h σ => cases_calls x law (hlaw law h) σ) σ
def hopsX : Alg := ⟨3, [[0, 0, 0], [0, 1, 1], [0, 1, 2]], [[1, 2, 2]]⟩
def hopsY : Alg := ⟨3, [[0, 0, 0], [0, 1, 1], [0, 1, 2]], [[0, 1, 2]]⟩
theorem algC_bd {n : Nat} (x : Alg) : Bd n (.agg (algC x)) := .aggL (.cons (.c _) (.cons (.rows _) (.cons (.rows _) .nil)))
theorem hops_calls (σ : Store) : ACalls Try.prog 67 [] σ fun r σ' => σ' = σ ∧ r = .agg (algC hopsX) := by
  refine ACalls.cutX ?_
  refine ACalls_of_awp Try.func67 rfl Try.results67 ?_
  simp only [List.length_cons, List.length_nil, Try.ntmps67, Nat.reduceAdd, Nat.reduceSub, enterA]
  (repeat' (first|(refine g_s fun K hK=>?_)|(refine g_b ?_)|(refine g_r ?_)|(refine g_k ?_;simp only[thenQ,blockQ])|(refine g_e ?_;simp only[thenQ,blockQ,↓reduceIte,Nat.reduceEqDiff])|(refine g_c (fun h=>?_) (fun h=>?_)<;>(try simp only[go_sem] at h)<;>(try exact g_f))|((first|refine g_t ?_|refine g_G ?_|refine g_U ?_|refine g_A ?_|refine g_W ?_);(try simp -implicitDefEqProofs only[go_sem]))|(with_reducible refine hK _ _ ?_;clear hK K)|(clear hK K;first|(with_reducible refine hK _ _ ?_;clear hK K)|(clear hK K;with_reducible refine hK _ _ ?_;clear hK K)|(clear hK K;clear hK K;with_reducible refine hK _ _ ?_;clear hK K))|(with_reducible refine splitB_intro (fun h=>?_) (fun h=>?_)<;>(try simp only[go_sem] at h)<;>(try exact g_f)<;>(try simp -implicitDefEqProofs only[go_sem]))|(with_reducible refine And.intro (fun h=>?_) (fun h=>?_)<;>(try simp only[go_sem] at h)<;>(try exact g_f))|(with_reducible refine And.intro ?_ ?_;· exact g_x)|(with_reducible intro h;(try simp only[go_sem] at h);(try exact g_f))))
  refine CutQ_w rfl (algC_bd hopsX) (.eq rfl)
end Go.Proofs.Ytephecognbbaoab
namespace Go.Proofs.Ytephecognbbaoab
end Go.Proofs.Ytephecognbbaoab
namespace Go.Proofs.Ytephecognbbaoab
end Go.Proofs.Ytephecognbbaoab
namespace Go.Proofs.Ytephecognbbaoab
def lnkC (l : Lnk) : List AV := [intA1 l.fr, intA1 l.dst, intA1 l.edge]
def linksV (l : List Lnk) : AV := .sl (l.map lnkC)
def netC (n : Net) : List AV := [intA1 n.alg.size, rowsC n.alg.best, rowsC n.alg.edges, intA1 n.nodes, linksV n.links]
attribute [go_sem] lnkC linksV netC
/-- What is known of a net that came in. -/
structure NetOk (n : Net) : Prop where
  alg : AlgOk n.alg
  nodes : I64 n.nodes
  len : n.links.length ≤ 5864062014634
  lnk : ∀ l ∈ n.links, I64 l.fr ∧ I64 l.dst ∧ I64 l.edge
/- Keys that are pairs of numbers. -/
theorem wf_I64 (n : Int) : (Lit.int IntKind.i64 n).wf = true ↔ I64 n := by simp [Lit.wf, IntKind.min, IntKind.max, IntKind.bits, IntKind.signed, I64]
theorem keyLits_pair (d : Nat) (a b : Int) (ha : I64 a) (hb : I64 b) : Try.prog.keyLits (d + 2) 182 [.int .i64 a, .int .i64 b] = some [.int .i64 a, .int .i64 b] := by
  have hc : Try.prog.cellsOf 182 = 2 := by kernel_rfl
  have hi : Try.prog.cellsOf 3 = 1 := by kernel_rfl
  simp [Program.keyLits, Try.underlying182, Try.underlying3, hc, hi, List.range_succ, (wf_I64 a).2 ha, (wf_I64 b).2 hb]
theorem keyK_pair {a b : Int} (ha : I64 a) (hb : I64 b) : keyK Try.prog 182 (.agg #[.int .i64 a, .int .i64 b]) = True := by
  refine eq_true ?_
  have hk : Try.prog.keyType 182 = true := by kernel_rfl
  have hc : Try.prog.cellsOf 182 = 2 := by kernel_rfl
  have hf : (Value.agg #[.int .i64 a, .int .i64 b]).formed Try.prog 182 = true := by simp [Value.formed, Try.underlying182, hc]
  have hd : Try.prog.types.size + 1 = (Try.prog.types.size - 1) + 2 := by kernel_rfl
  have hl := keyLits_pair (Try.prog.types.size - 1) a b ha hb
  rw [← hd] at hl
  refine ⟨.string (keyBytes [.int .i64 a, .int .i64 b]), ?_⟩
  simp only [keyOf, Try.underlying182, hk, hf, Bool.and_self, if_true]
  rw [show (Value.agg #[.int .i64 a, .int .i64 b]).cells.toList = [.int .i64 a, .int .i64 b] from rfl, hl]
  rfl
theorem laidOutT : laidOutB Try.prog = true := by kernel_rfl
theorem keyed_pair : Go.Maps.Keyed Try.prog 182 = True :=
  eq_true (Go.Maps.Keyed.of_law (deep_law_gate laidOutT (by decide +kernel) (by decide +kernel) (by kernel_rfl) (by kernel_rfl)))
theorem tab_map_pair : mapT Try.prog 181 = some (182, 4) := by kernel_rfl
theorem tab_places_pair : placesA Try.prog 182 = some [(0, 1), (1, 1)] := by kernel_rfl
attribute [go_sem] keyed_pair tab_map_pair tab_places_pair
theorem tab_fone_Broken : fieldOne Try.prog 34 0 = some 0 := by kernel_rfl
theorem tab_eq_Broken : eqPlan Try.prog 34 = some [(0, false), (1, false), (2, false), (3, false), (4, false)] := by kernel_rfl
attribute [go_sem] tab_fone_Broken tab_eq_Broken
theorem lawful_calls (x : Alg) (hr : Right x) (σ : Store) : ACalls Try.prog 82 [.agg (algC x)] σ fun r σ' => σ' = σ ∧ r = .c (.bool (decide ((brokenA x seven).law = 0))) := by
  refine ACalls.cutX ?_
  refine ACalls_of_awp Try.func82 rfl Try.results82 ?_
  simp only [List.length_cons, List.length_nil, Try.ntmps82, Nat.reduceAdd, Nat.reduceSub, enterA]
  (repeat' (first|(refine g_s fun K hK=>?_)|(refine g_b ?_)|(refine g_r ?_)|(refine g_k ?_;simp only[thenQ,blockQ])|(refine g_e ?_;simp only[thenQ,blockQ,↓reduceIte,Nat.reduceEqDiff])|(refine g_c (fun h=>?_) (fun h=>?_)<;>(try simp only[go_sem] at h)<;>(try exact g_f))|((first|refine g_t ?_|refine g_G ?_|refine g_U ?_|refine g_A ?_|refine (broken_calls x seven hr (by decide) (by decide) _).use ?_|refine g_q (fun τ=>broken_calls x seven hr (by decide) (by decide) _) ?_|refine g_W ?_);(try simp -implicitDefEqProofs only[go_sem]))|(with_reducible refine hK _ _ ?_;clear hK K)|(clear hK K;first|(with_reducible refine hK _ _ ?_;clear hK K)|(clear hK K;with_reducible refine hK _ _ ?_;clear hK K)|(clear hK K;clear hK K;with_reducible refine hK _ _ ?_;clear hK K))|(with_reducible refine splitB_intro (fun h=>?_) (fun h=>?_)<;>(try simp only[go_sem] at h)<;>(try exact g_f)<;>(try simp -implicitDefEqProofs only[go_sem]))|(with_reducible refine And.intro (fun h=>?_) (fun h=>?_)<;>(try simp only[go_sem] at h)<;>(try exact g_f))|(with_reducible refine And.intro ?_ ?_;· exact g_x)|(with_reducible intro h;(try simp only[go_sem] at h);(try exact g_f))))
  refine CutQ_c rfl ?_
  by_cases h : (brokenA x seven).law = 0
  · rw [broken_zero h]
    rfl
  · simp [h]
theorem nwithin_calls (n a b : Int) (σ : Store) : ACalls Try.prog 83 [intA1 n, intA1 a, intA1 b] σ fun r σ' => σ' = σ ∧ r = .c (.bool (inR n a b)) := by
  refine ACalls_of_awp Try.func83 rfl Try.results83 ?_
  simp only [List.length_cons, List.length_nil, Try.ntmps83, Nat.reduceAdd, Nat.reduceSub, enterA]
  (repeat' (first|(refine g_s fun K hK=>?_)|(refine g_b ?_)|(refine g_r ?_)|(refine g_k ?_;simp only[thenQ,blockQ])|(refine g_e ?_;simp only[thenQ,blockQ,↓reduceIte,Nat.reduceEqDiff])|(refine g_c (fun h=>?_) (fun h=>?_)<;>(try simp only[go_sem] at h)<;>(try exact g_f))|((first|refine g_t ?_|refine g_g ?_|refine g_U ?_|refine g_A ?_|refine g_W ?_);(try simp -implicitDefEqProofs only[go_sem]))|(with_reducible refine hK _ _ ?_;clear hK K)|(clear hK K;first|(with_reducible refine hK _ _ ?_;clear hK K)|(clear hK K;with_reducible refine hK _ _ ?_;clear hK K)|(clear hK K;clear hK K;with_reducible refine hK _ _ ?_;clear hK K))|(with_reducible refine splitB_intro (fun h=>?_) (fun h=>?_)<;>(try simp only[go_sem] at h)<;>(try exact g_f)<;>(try simp -implicitDefEqProofs only[go_sem]))|(with_reducible refine And.intro (fun h=>?_) (fun h=>?_)<;>(try simp only[go_sem] at h)<;>(try exact g_f))|(with_reducible refine And.intro ?_ ?_;· exact g_x)|(with_reducible intro h;(try simp only[go_sem] at h);(try exact g_f))))
  all_goals (simp [inR]; omega)
end Go.Proofs.Ytephecognbbaoab
namespace Go.Proofs.Ytephecognbbaoab
def keyP (l : Lnk) : Value := .agg #[.int .i64 l.fr, .int .i64 l.dst]
def metE (pre : List Lnk) : List (Value × AV) := pre.map fun l => (keyP l, .c (.bool true))
theorem keyP_like (l x : Lnk) : keyP x = keyP l ↔ l.like x = true := by simp [keyP, Lnk.like]
theorem met_find (l : Lnk) : ∀ pre : List Lnk, (findK (metE pre) (keyP l)).getD (.c (.bool false)) = .c (.bool (pre.any l.like))
  | [] => rfl
  | x :: r => by
    have ih := met_find l r
    simp only [metE, List.map_cons, findK, List.any_cons] at ih ⊢
    by_cases h : keyP x = keyP l
    · rw [if_pos h, (keyP_like l x).1 h]
      rfl
    · rw [if_neg h, Bool.eq_false_iff.2 (fun e => h ((keyP_like l x).2 e)), ih]
      rfl
theorem met_new {l : Lnk} {pre : List Lnk} (h : pre.any l.like = false) : ∀ e ∈ metE pre, e.1 ≠ keyP l := by
  intro e he
  obtain ⟨x, hx, rfl⟩ := List.mem_map.1 he
  intro hc
  have := List.any_eq_false.1 h x hx
  exact this ((keyP_like l x).1 hc)
theorem met_put {l : Lnk} {pre : List Lnk} (h : pre.any l.like = false) : putK (metE pre) (keyP l) (.c (.bool true)) = metE (pre ++ [l]) := by
  rw [putK_none (met_new h)]
  simp [metE]
theorem DK_snoc {e : Value × AV} : ∀ {es : List (Value × AV)}, DK es → (∀ f ∈ es, f.1 ≠ e.1) → DK (es ++ [e])
  | [], _, _ => ⟨trivial, trivial⟩
  | f :: r, h, hn => by
    refine ⟨NK_iff.2 fun g hg => ?_, DK_snoc h.2 fun g hg => hn g (by simp [hg])⟩
    rcases List.mem_append.1 hg with hg | hg
    · exact NK_iff.1 h.1 g hg
    · rw [List.mem_singleton.1 hg]
      exact (hn f (by simp)).symm
theorem met_DK {l : Lnk} {pre : List Lnk} (h : pre.any l.like = false) (hd : DK (metE pre)) : DK (metE (pre ++ [l])) := by
  have : metE (pre ++ [l]) = metE pre ++ [(keyP l, .c (.bool true))] := by simp [metE]
  rw [this]
  exact DK_snoc hd (met_new h)
theorem met_KK {pre : List Lnk} (h : ∀ l ∈ pre, I64 l.fr ∧ I64 l.dst) : KK Try.prog 182 (metE pre) = True :=
  eq_true (KK_iff.2 fun e he => by
    obtain ⟨x, hx, rfl⟩ := List.mem_map.1 he
    exact of_eq_true (keyK_pair (h x hx).1 (h x hx).2))
theorem links_calls (n : Net) (ok : NetOk n) (h1 : 1 ≤ n.nodes) (h6 : n.nodes ≤ 6) (h8 : n.alg.edges.length ≤ 8) (σ : Store) :
    ACalls Try.prog 84 [.agg (netC n)] σ fun r σ' => σ' = σ ∧ r = intA1 (linksErr n [] n.links) := by
  have hlen := ok.len
  refine ACalls.cutX ?_
  refine ACalls_of_awp Try.func84 rfl Try.results84 ?_
  simp only [List.length_cons, List.length_nil, Try.ntmps84, Nat.reduceAdd, Nat.reduceSub, enterA]
  refine AWP_seq_k fun K hK => ?_
  (refine AWP_region ?_; simp -implicitDefEqProofs only [go_sem])
  refine hK _ _ ?_; clear hK K
  refine AWP_freezeP 1 rfl (by simp only [st0]; rfl) ?_
  simp only [ss0, List.set_cons_zero]
  (repeat' (first|(refine g_s fun K hK=>?_)|(refine g_b ?_)|(refine g_r ?_)|(refine g_k ?_;simp only[thenQ,blockQ])|(refine g_e ?_;simp only[thenQ,blockQ,↓reduceIte,Nat.reduceEqDiff])|(refine g_c (fun h=>?_) (fun h=>?_)<;>(try simp only[go_sem] at h)<;>(try exact g_f))|((first|refine g_t ?_|refine g_g ?_|refine g_U ?_|refine g_A ?_|refine g_W ?_);(try simp -implicitDefEqProofs only[go_sem]))|(with_reducible refine hK _ _ ?_;clear hK K)|(clear hK K;first|(with_reducible refine hK _ _ ?_;clear hK K)|(clear hK K;with_reducible refine hK _ _ ?_;clear hK K)|(clear hK K;clear hK K;with_reducible refine hK _ _ ?_;clear hK K))|(with_reducible refine splitB_intro (fun h=>?_) (fun h=>?_)<;>(try simp only[go_sem] at h)<;>(try exact g_f)<;>(try simp -implicitDefEqProofs only[go_sem]))|(with_reducible refine And.intro (fun h=>?_) (fun h=>?_)<;>(try simp only[go_sem] at h)<;>(try exact g_f))|(with_reducible refine And.intro ?_ ?_;· exact g_x)|(with_reducible intro h;(try simp only[go_sem] at h);(try exact g_f))))
  have hJ := hK
  clear hK
  refine AWP_each n.links (fun k r pre => n.links = pre ++ r ∧ linksErr n [] n.links = linksErr n pre r ∧ DK (metE pre)) (fun k _ _ => [(11, intA1 k)]) (fun _ pre τ => σ ++ (.dead :: .map (metE pre) :: τ)) [] [] ⟨rfl, rfl, trivial⟩ rfl (ALe_of ?_) ?_ ?_
  · simp -implicitDefEqProofs only [go_sem]
  · rintro k r pre τ hk0 hk1 ⟨hP, hE, hD⟩ L hL
    have hmem := at0_mem n.links hk0 hk1
    obtain ⟨l, hl⟩ : ∃ l, at0 n.links k = l := ⟨_, rfl⟩
    rw [hl] at hP hE hmem
    have hi := ok.lnk l hmem
    have hkk := keyK_pair hi.1 hi.2.1
    have hKK := met_KK (pre := pre) fun x hx => let h := ok.lnk x (by rw [hP]; simp [hx]); ⟨h.1, h.2.1⟩
    have hDK := eq_true hD
    have hfind := met_find l pre
    unfold keyP at hfind
    simp -implicitDefEqProofs only [go_sem]
    (repeat' (first|(refine g_s fun K hK=>?_)|(refine g_b ?_)|(refine g_r ?_)|(refine g_k ?_;simp only[thenQ,blockQ])|(refine g_e ?_;simp only[thenQ,blockQ,↓reduceIte,Nat.reduceEqDiff])|(refine g_c (fun h=>?_) (fun h=>?_)<;>(try simp only[go_sem] at h)<;>(try exact g_f))|((first|refine g_t ?_|refine g_g ?_|refine g_U ?_|refine g_A ?_|refine (nwithin_calls _ _ _ _).use ?_|refine g_q (fun τ=>nwithin_calls _ _ _ _) ?_|refine g_W ?_);(try simp -implicitDefEqProofs only[go_sem,hl, hkk, hKK, hDK, hfind]))|(with_reducible refine hK _ _ ?_;clear hK K)|(clear hK K;first|(with_reducible refine hK _ _ ?_;clear hK K)|(clear hK K;with_reducible refine hK _ _ ?_;clear hK K)|(clear hK K;clear hK K;with_reducible refine hK _ _ ?_;clear hK K))|(with_reducible refine splitB_intro (fun h=>?_) (fun h=>?_)<;>(try simp only[go_sem] at h)<;>(try exact g_f)<;>(try simp -implicitDefEqProofs only[go_sem,hl, hkk, hKK, hDK, hfind]))|(with_reducible refine And.intro (fun h=>?_) (fun h=>?_)<;>(try simp only[go_sem] at h)<;>(try exact g_f))|(with_reducible refine And.intro ?_ ?_;· exact g_x)|(with_reducible intro h;(try simp only[go_sem] at h);(try exact g_f))))
    all_goals first
      | (have e : lnkErr n pre l = 5 := by clear hL hJ hfind hkk hKK hDK; simp [lnkErr, *]
         refine CutQ_c rfl ?_
         rw [hE, linksErr_bad (by rw [e]; decide), e]
         done)
      | (have e : lnkErr n pre l = 1 := by clear hL hJ hfind hkk hKK hDK; simp [lnkErr, *]
         refine CutQ_c rfl ?_
         rw [hE, linksErr_bad (by rw [e]; decide), e]
         done)
      | (have e : lnkErr n pre l = 6 := by clear hL hJ hfind hkk hKK hDK; simp [lnkErr, *]
         refine CutQ_c rfl ?_
         rw [hE, linksErr_bad (by rw [e]; decide), e]
         done)
      | skip
    all_goals
      have e : lnkErr n pre l = 0 := by clear hL hJ hfind hkk hKK hDK; simp [lnkErr, *]
      have hn := (lnkIn_of e).2
      have hput := met_put hn
      unfold keyP at hput
      rw [hput]
      refine hL (pre ++ [l]) _ _ _ ⟨by rw [hP]; simp, by rw [hE, linksErr_good e], met_DK hn hD⟩ (ALe_of ?_) rfl
      simp -implicitDefEqProofs only [go_sem]
  · rintro k pre τ hk ⟨hP, hE, hD⟩ L
    simp -implicitDefEqProofs only [go_sem]
    (repeat' (first|(refine g_s fun K hK=>?_)|(refine g_b ?_)|(refine g_r ?_)|(refine g_k ?_;simp only[thenQ,blockQ])|(refine g_e ?_;simp only[thenQ,blockQ,↓reduceIte,Nat.reduceEqDiff])|(refine g_c (fun h=>?_) (fun h=>?_)<;>(try simp only[go_sem] at h)<;>(try exact g_f))|((first|refine g_t ?_|refine g_g ?_|refine g_U ?_|refine g_A ?_|refine g_W ?_);(try simp -implicitDefEqProofs only[go_sem]))|(with_reducible refine hK _ _ ?_;clear hK K)|(clear hK K;first|(with_reducible refine hK _ _ ?_;clear hK K)|(clear hK K;with_reducible refine hK _ _ ?_;clear hK K)|(clear hK K;clear hK K;with_reducible refine hK _ _ ?_;clear hK K))|(with_reducible refine splitB_intro (fun h=>?_) (fun h=>?_)<;>(try simp only[go_sem] at h)<;>(try exact g_f)<;>(try simp -implicitDefEqProofs only[go_sem]))|(with_reducible refine And.intro (fun h=>?_) (fun h=>?_)<;>(try simp only[go_sem] at h)<;>(try exact g_f))|(with_reducible refine And.intro ?_ ?_;· exact g_x)|(with_reducible intro h;(try simp only[go_sem] at h);(try exact g_f))))
    refine hJ _ _ ?_
    clear hJ
    (repeat' (first|(refine g_s fun K hK=>?_)|(refine g_b ?_)|(refine g_r ?_)|(refine g_k ?_;simp only[thenQ,blockQ])|(refine g_e ?_;simp only[thenQ,blockQ,↓reduceIte,Nat.reduceEqDiff])|(refine g_c (fun h=>?_) (fun h=>?_)<;>(try simp only[go_sem] at h)<;>(try exact g_f))|((first|refine g_t ?_|refine g_g ?_|refine g_U ?_|refine g_A ?_|refine g_W ?_);(try simp -implicitDefEqProofs only[go_sem]))|(with_reducible refine hK _ _ ?_;clear hK K)|(clear hK K;first|(with_reducible refine hK _ _ ?_;clear hK K)|(clear hK K;with_reducible refine hK _ _ ?_;clear hK K)|(clear hK K;clear hK K;with_reducible refine hK _ _ ?_;clear hK K))|(with_reducible refine splitB_intro (fun h=>?_) (fun h=>?_)<;>(try simp only[go_sem] at h)<;>(try exact g_f)<;>(try simp -implicitDefEqProofs only[go_sem]))|(with_reducible refine And.intro (fun h=>?_) (fun h=>?_)<;>(try simp only[go_sem] at h)<;>(try exact g_f))|(with_reducible refine And.intro ?_ ?_;· exact g_x)|(with_reducible intro h;(try simp only[go_sem] at h);(try exact g_f))))
    refine CutQ_c rfl ?_
    rw [hE]
    rfl
end Go.Proofs.Ytephecognbbaoab
namespace Go.Proofs.Ytephecognbbaoab
theorem netCheck_calls (n : Net) (ok : NetOk n) (σ : Store) : ACalls Try.prog 26 [.agg (netC n)] σ fun r σ' => σ' = σ ∧ r = intA1 (checkN n) := by
  have hC := check_calls n.alg ok.alg.hb ok.alg.he ok.alg.hs ok.alg.hrow
  refine ACalls.cutX ?_
  by_cases h1 : checkA n.alg = 0
  · have hr := right_iff.1 h1
    rw [h1] at hC
    by_cases h2 : inR n.nodes 1 6 = true
    · have h3 := inR_iff.1 h2
      refine ACalls_of_awp Try.func26 rfl Try.results26 ?_
      simp only [List.length_cons, List.length_nil, Try.ntmps26, Nat.reduceAdd, Nat.reduceSub, enterA]
      (repeat' (first|(refine g_s fun K hK=>?_)|(refine g_b ?_)|(refine g_r ?_)|(refine g_k ?_;simp only[thenQ,blockQ])|(refine g_e ?_;simp only[thenQ,blockQ,↓reduceIte,Nat.reduceEqDiff])|(refine g_c (fun h=>?_) (fun h=>?_)<;>(try simp only[go_sem] at h)<;>(try exact g_f))|((first|refine g_t ?_|refine g_g ?_|refine g_U ?_|refine g_A ?_|refine (hC _).use ?_|refine g_q (fun τ=>hC _) ?_|refine (lawful_calls n.alg hr _).use ?_|refine g_q (fun τ=>lawful_calls n.alg hr _) ?_|refine (nwithin_calls _ _ _ _).use ?_|refine g_q (fun τ=>nwithin_calls _ _ _ _) ?_|refine (links_calls n ok h3.1 h3.2 hr.e8 _).use ?_|refine g_q (fun τ=>links_calls n ok h3.1 h3.2 hr.e8 _) ?_|refine g_W ?_);(try simp -implicitDefEqProofs only[go_sem]))|(with_reducible refine hK _ _ ?_;clear hK K)|(clear hK K;first|(with_reducible refine hK _ _ ?_;clear hK K)|(clear hK K;with_reducible refine hK _ _ ?_;clear hK K)|(clear hK K;clear hK K;with_reducible refine hK _ _ ?_;clear hK K))|(with_reducible refine splitB_intro (fun h=>?_) (fun h=>?_)<;>(try simp only[go_sem] at h)<;>(try exact g_f)<;>(try simp -implicitDefEqProofs only[go_sem]))|(with_reducible refine And.intro (fun h=>?_) (fun h=>?_)<;>(try simp only[go_sem] at h)<;>(try exact g_f))|(with_reducible refine And.intro ?_ ?_;· exact g_x)|(with_reducible intro h;(try simp only[go_sem] at h);(try exact g_f))))
      all_goals first
        | (rw [h2] at h; cases h; done)
        | (refine CutQ_c rfl ?_; simp [checkN, h1, h2, *]; done)
    · refine ACalls_of_awp Try.func26 rfl Try.results26 ?_
      simp only [List.length_cons, List.length_nil, Try.ntmps26, Nat.reduceAdd, Nat.reduceSub, enterA]
      (repeat' (first|(refine g_s fun K hK=>?_)|(refine g_b ?_)|(refine g_r ?_)|(refine g_k ?_;simp only[thenQ,blockQ])|(refine g_e ?_;simp only[thenQ,blockQ,↓reduceIte,Nat.reduceEqDiff])|(refine g_c (fun h=>?_) (fun h=>?_)<;>(try simp only[go_sem] at h)<;>(try exact g_f))|((first|refine g_t ?_|refine g_g ?_|refine g_U ?_|refine g_A ?_|refine (hC _).use ?_|refine g_q (fun τ=>hC _) ?_|refine (lawful_calls n.alg hr _).use ?_|refine g_q (fun τ=>lawful_calls n.alg hr _) ?_|refine (nwithin_calls _ _ _ _).use ?_|refine g_q (fun τ=>nwithin_calls _ _ _ _) ?_|refine g_W ?_);(try simp -implicitDefEqProofs only[go_sem]))|(with_reducible refine hK _ _ ?_;clear hK K)|(clear hK K;first|(with_reducible refine hK _ _ ?_;clear hK K)|(clear hK K;with_reducible refine hK _ _ ?_;clear hK K)|(clear hK K;clear hK K;with_reducible refine hK _ _ ?_;clear hK K))|(with_reducible refine splitB_intro (fun h=>?_) (fun h=>?_)<;>(try simp only[go_sem] at h)<;>(try exact g_f)<;>(try simp -implicitDefEqProofs only[go_sem]))|(with_reducible refine And.intro (fun h=>?_) (fun h=>?_)<;>(try simp only[go_sem] at h)<;>(try exact g_f))|(with_reducible refine And.intro ?_ ?_;· exact g_x)|(with_reducible intro h;(try simp only[go_sem] at h);(try exact g_f))))
      all_goals first
        | (refine CutQ_c rfl ?_; simp [checkN, h1, h2, *]; done)
        | (exact absurd (inR_iff.2 (by assumption)) h2)
  · refine ACalls_of_awp Try.func26 rfl Try.results26 ?_
    simp only [List.length_cons, List.length_nil, Try.ntmps26, Nat.reduceAdd, Nat.reduceSub, enterA]
    (repeat' (first|(refine g_s fun K hK=>?_)|(refine g_b ?_)|(refine g_r ?_)|(refine g_k ?_;simp only[thenQ,blockQ])|(refine g_e ?_;simp only[thenQ,blockQ,↓reduceIte,Nat.reduceEqDiff])|(refine g_c (fun h=>?_) (fun h=>?_)<;>(try simp only[go_sem] at h)<;>(try exact g_f))|((first|refine g_t ?_|refine g_g ?_|refine g_U ?_|refine g_A ?_|refine (hC _).use ?_|refine g_q (fun τ=>hC _) ?_|refine g_W ?_);(try simp -implicitDefEqProofs only[go_sem]))|(with_reducible refine hK _ _ ?_;clear hK K)|(clear hK K;first|(with_reducible refine hK _ _ ?_;clear hK K)|(clear hK K;with_reducible refine hK _ _ ?_;clear hK K)|(clear hK K;clear hK K;with_reducible refine hK _ _ ?_;clear hK K))|(with_reducible refine splitB_intro (fun h=>?_) (fun h=>?_)<;>(try simp only[go_sem] at h)<;>(try exact g_f)<;>(try simp -implicitDefEqProofs only[go_sem]))|(with_reducible refine And.intro (fun h=>?_) (fun h=>?_)<;>(try simp only[go_sem] at h)<;>(try exact g_f))|(with_reducible refine And.intro ?_ ?_;· exact g_x)|(with_reducible intro h;(try simp only[go_sem] at h);(try exact g_f))))
    all_goals (refine CutQ_c rfl ?_; simp [checkN, h1])
end Go.Proofs.Ytephecognbbaoab
