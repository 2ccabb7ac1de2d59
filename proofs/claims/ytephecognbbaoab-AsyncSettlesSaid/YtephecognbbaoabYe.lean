/- Cycles of schedules: as the program counts them. -/
import Derived.Test.YtephecognbbaoabYb
import Derived.Test.YtephecognbbaoabTd
import Derived.Test.YtephecognbbaoabIm
import Derived.Test.YtephecognbbaoabNg
import Derived.Test.YtephecognbbaoabPs
import Derived.Test.YtephecognbbaoabPx
namespace Go.Proofs.Ytephecognbbaoab
open Go
set_option linter.all false
set_option maxRecDepth 100000
set_option maxHeartbeats 4000000

/-- The oldest state that a turn uses. -/
def oldA (n : Net) (u : Trn) (k : Int) : Int := n.links.foldl (fun out l => if at0 u.act l.fr = true then min out (usedA u k l.fr l.dst) else out) k

theorem fold_min (P : Lnk → Bool) (g : Lnk → Int) (e : Int) : ∀ (L : List Lnk) (k : Int), (L.foldl (fun out l => if P l = true then min out (g l) else out) k < e) ↔ k < e ∨ (L.any fun l => P l && decide (g l < e)) = true
  | [], k => by simp
  | l :: L, k => by
    rw [List.foldl_cons, fold_min P g e L, List.any_cons]
    by_cases h : P l = true
    · rw [if_pos h, h]
      simp only [Bool.true_and, Bool.or_eq_true, decide_eq_true_eq]
      have hm : min k (g l) < e ↔ k < e ∨ g l < e := by omega
      rw [hm, or_assoc]
    · rw [if_neg h]
      simp only [Bool.not_eq_true] at h
      rw [h, Bool.false_and, Bool.false_or]

theorem oldA_lt {n : Net} {u : Trn} {k e : Int} (h : e ≤ k) : oldA n u k < e ↔ olderA n u k e = true := by
  have := fold_min (fun l => at0 u.act l.fr) (fun l => usedA u k l.fr l.dst) e n.links k
  rw [oldA, this, olderA]
  constructor
  · rintro (h1 | h1)
    · omega
    · exact h1
  · exact Or.inr

theorem oldest_calls (n : Net) (t : List Trn) (k : Int) (u : Trn) (hn : NetIn n) (hl : n.links.length ≤ 5864062014634) (htl : t.length ≤ 200) (hk0 : 0 ≤ k) (hk1 : k < t.length) (hu : TrnIn n u) (he : at0 t k = u) (σ : Store) :
    ACalls Try.prog 151 [.agg (netC n), trnsA t, intA1 k] σ fun r σ' => σ' = σ ∧ r = intA1 (oldA n u k) := by
  have n1 := hn.n1
  have n6 := hn.n6
  obtain ⟨V, hV⟩ : ∃ V, oldA n u k = V := ⟨_, rfl⟩
  rw [hV]
  unfold oldA at hV
  refine ACalls.cutX ?_
  refine ACalls_of_awp Try.func151 rfl Try.results151 ?_
  simp only [List.length_cons, List.length_nil, Try.ntmps151, Nat.reduceAdd, Nat.reduceSub, enterA]
  refine AWP_seq_k fun K hK => ?_
  (refine AWP_region ?_; simp -implicitDefEqProofs only [go_sem])
  refine hK _ _ ?_; clear hK K
  refine AWP_freezeP 3 rfl (by simp only [st0]; rfl) ?_
  simp only [ss0, List.set_cons_zero]
  (repeat' (first|(refine g_s fun K hK=>?_)|(refine g_b ?_)|(refine g_r ?_)|(refine g_k ?_;simp only[thenQ,blockQ])|(refine g_e ?_;simp only[thenQ,blockQ,↓reduceIte,Nat.reduceEqDiff])|(refine g_c (fun h=>?_) (fun h=>?_)<;>(try simp only[go_sem] at h)<;>(try exact g_f))|((first|refine g_t ?_|refine g_g ?_|refine g_U ?_|refine g_A ?_|refine g_W ?_);(try simp -implicitDefEqProofs only[go_sem]))|(with_reducible refine hK _ _ ?_;clear hK K)|(clear hK K;first|(with_reducible refine hK _ _ ?_;clear hK K)|(clear hK K;with_reducible refine hK _ _ ?_;clear hK K)|(clear hK K;clear hK K;with_reducible refine hK _ _ ?_;clear hK K))|(with_reducible refine splitB_intro (fun h=>?_) (fun h=>?_)<;>(try simp only[go_sem] at h)<;>(try exact g_f)<;>(try simp -implicitDefEqProofs only[go_sem]))|(with_reducible refine And.intro (fun h=>?_) (fun h=>?_)<;>(try simp only[go_sem] at h)<;>(try exact g_f))|(with_reducible refine And.intro ?_ ?_;· exact g_x)|(with_reducible intro h;(try simp only[go_sem] at h);(try exact g_f))))
  have hJ := hK
  clear hK
  refine AWP_each n.links (fun _ r out => r.foldl (fun out l => if at0 u.act l.fr = true then min out (usedA u k l.fr l.dst) else out) out = V ∧ 0 ≤ out ∧ out ≤ k) (fun q out _ => [(14, intA1 q), (7, intA1 out)]) (fun _ _ τ => σ ++ (.dead :: τ)) k [] ⟨hV, hk0, Int.le_refl _⟩ rfl (ALe_of ?_) ?_ ?_
  · simp -implicitDefEqProofs only [go_sem]
  · rintro q r out τ hq0 hq1 ⟨h3, h4, h5⟩ L hL
    have hmem := at0_mem n.links hq0 hq1
    obtain ⟨l, hla⟩ : ∃ l, at0 n.links q = l := ⟨_, rfl⟩
    rw [hla] at h3 hmem
    rw [List.foldl_cons] at h3
    have hlk := hn.lnk l hmem
    have hf0 := hlk.f0
    have hf1 := hlk.f1
    have hd0 := hlk.d0
    have hd1 := hlk.d1
    have hal := hu.act
    have hgl := hu.len
    have hgr := hu.row _ (at0_mem u.ages hf0 (by omega))
    have hag := at2_age hu ⟨hf0, hf1⟩ ⟨hd0, hd1⟩
    have hus := used_in hu hk0 ⟨hf0, hf1⟩ ⟨hd0, hd1⟩
    obtain ⟨v, hv⟩ : ∃ v, usedA u k l.fr l.dst = v := ⟨_, rfl⟩
    have hv2 : max 0 (k + 1 - at0 (at0 u.ages l.fr) l.dst) = v := hv
    rw [hv] at h3 hus
    unfold at2 at hag
    obtain ⟨a, ha⟩ : ∃ a, at0 u.act l.fr = a := ⟨_, rfl⟩
    rw [ha] at h3
    simp -implicitDefEqProofs only [go_sem]
    cases a
    · rw [if_neg (by decide)] at h3
      (repeat' (first|(refine g_s fun K hK=>?_)|(refine g_b ?_)|(refine g_r ?_)|(refine g_k ?_;simp only[thenQ,blockQ])|(refine g_e ?_;simp only[thenQ,blockQ,↓reduceIte,Nat.reduceEqDiff])|(refine g_c (fun h=>?_) (fun h=>?_)<;>(try simp only[go_sem] at h)<;>(try exact g_f))|((first|refine g_t ?_|refine g_g ?_|refine g_U ?_|refine g_A ?_|refine g_W ?_);(try simp -implicitDefEqProofs only[go_sem,hla, ha, he]))|(with_reducible refine hK _ _ ?_;clear hK K)|(clear hK K;first|(with_reducible refine hK _ _ ?_;clear hK K)|(clear hK K;with_reducible refine hK _ _ ?_;clear hK K)|(clear hK K;clear hK K;with_reducible refine hK _ _ ?_;clear hK K))|(with_reducible refine splitB_intro (fun h=>?_) (fun h=>?_)<;>(try simp only[go_sem] at h)<;>(try exact g_f)<;>(try simp -implicitDefEqProofs only[go_sem,hla, ha, he]))|(with_reducible refine And.intro (fun h=>?_) (fun h=>?_)<;>(try simp only[go_sem] at h)<;>(try exact g_f))|(with_reducible refine And.intro ?_ ?_;· exact g_x)|(with_reducible intro h;(try simp only[go_sem] at h);(try exact g_f))))
      refine hL out (τ ++ [.cells 3 [lnkC l]]) _ _ ⟨h3, h4, h5⟩ (ALe_of ?_) ?_
      · simp -implicitDefEqProofs only [go_sem]
      · simp [lnkC, intA1]
    · rw [if_pos rfl] at h3
      (repeat' (first|(refine g_s fun K hK=>?_)|(refine g_b ?_)|(refine g_r ?_)|(refine g_k ?_;simp only[thenQ,blockQ])|(refine g_e ?_;simp only[thenQ,blockQ,↓reduceIte,Nat.reduceEqDiff])|(refine g_c (fun h=>?_) (fun h=>?_)<;>(try simp only[go_sem] at h)<;>(try exact g_f))|((first|refine g_t ?_|refine g_g ?_|refine g_U ?_|refine g_A ?_|refine g_W ?_);(try simp -implicitDefEqProofs only[go_sem,hla, ha, he, hv2]))|(with_reducible refine hK _ _ ?_;clear hK K)|(clear hK K;first|(with_reducible refine hK _ _ ?_;clear hK K)|(clear hK K;with_reducible refine hK _ _ ?_;clear hK K)|(clear hK K;clear hK K;with_reducible refine hK _ _ ?_;clear hK K))|(with_reducible refine splitB_intro (fun h=>?_) (fun h=>?_)<;>(try simp only[go_sem] at h)<;>(try exact g_f)<;>(try simp -implicitDefEqProofs only[go_sem,hla, ha, he, hv2]))|(with_reducible refine And.intro (fun h=>?_) (fun h=>?_)<;>(try simp only[go_sem] at h)<;>(try exact g_f))|(with_reducible refine And.intro ?_ ?_;· exact g_x)|(with_reducible intro h;(try simp only[go_sem] at h);(try exact g_f))))
      refine hL (min out v) (τ ++ [.cells 3 [lnkC l]]) _ _ ⟨h3, by omega, by omega⟩ (ALe_of ?_) ?_
      · simp -implicitDefEqProofs only [go_sem]
      · simp [lnkC, intA1]
  · rintro q out τ hq ⟨h3, h4, h5⟩ L
    have h3 : out = V := h3
    subst h3
    simp -implicitDefEqProofs only [go_sem]
    (repeat' (first|(refine g_s fun K hK=>?_)|(refine g_b ?_)|(refine g_r ?_)|(refine g_k ?_;simp only[thenQ,blockQ])|(refine g_e ?_;simp only[thenQ,blockQ,↓reduceIte,Nat.reduceEqDiff])|(refine g_c (fun h=>?_) (fun h=>?_)<;>(try simp only[go_sem] at h)<;>(try exact g_f))|((first|refine g_t ?_|refine g_g ?_|refine g_U ?_|refine g_A ?_|refine g_W ?_);(try simp -implicitDefEqProofs only[go_sem]))|(with_reducible refine hK _ _ ?_;clear hK K)|(clear hK K;first|(with_reducible refine hK _ _ ?_;clear hK K)|(clear hK K;with_reducible refine hK _ _ ?_;clear hK K)|(clear hK K;clear hK K;with_reducible refine hK _ _ ?_;clear hK K))|(with_reducible refine splitB_intro (fun h=>?_) (fun h=>?_)<;>(try simp only[go_sem] at h)<;>(try exact g_f)<;>(try simp -implicitDefEqProofs only[go_sem]))|(with_reducible refine And.intro (fun h=>?_) (fun h=>?_)<;>(try simp only[go_sem] at h)<;>(try exact g_f))|(with_reducible refine And.intro ?_ ?_;· exact g_x)|(with_reducible intro h;(try simp only[go_sem] at h);(try exact g_f))))
    refine hJ _ _ ?_
    clear hJ
    (repeat' (first|(refine g_s fun K hK=>?_)|(refine g_b ?_)|(refine g_r ?_)|(refine g_k ?_;simp only[thenQ,blockQ])|(refine g_e ?_;simp only[thenQ,blockQ,↓reduceIte,Nat.reduceEqDiff])|(refine g_c (fun h=>?_) (fun h=>?_)<;>(try simp only[go_sem] at h)<;>(try exact g_f))|((first|refine g_t ?_|refine g_g ?_|refine g_U ?_|refine g_A ?_|refine g_W ?_);(try simp -implicitDefEqProofs only[go_sem]))|(with_reducible refine hK _ _ ?_;clear hK K)|(clear hK K;first|(with_reducible refine hK _ _ ?_;clear hK K)|(clear hK K;with_reducible refine hK _ _ ?_;clear hK K)|(clear hK K;clear hK K;with_reducible refine hK _ _ ?_;clear hK K))|(with_reducible refine splitB_intro (fun h=>?_) (fun h=>?_)<;>(try simp only[go_sem] at h)<;>(try exact g_f)<;>(try simp -implicitDefEqProofs only[go_sem]))|(with_reducible refine And.intro (fun h=>?_) (fun h=>?_)<;>(try simp only[go_sem] at h)<;>(try exact g_f))|(with_reducible refine And.intro ?_ ?_;· exact g_x)|(with_reducible intro h;(try simp only[go_sem] at h);(try exact g_f))))
    exact CutQ_c rfl rfl

theorem metM_KK {n : Net} (hn : NetIn n) {K : List Int} (h : Met n K) : KK Try.prog 3 (imE (metM K)) = True := im_KK fun e hm => by
  obtain ⟨j, hj, rfl⟩ := List.mem_map.1 hm
  have := h.mem j hj
  have := hn.n6
  show I64 j
  unfold I64
  omega
def optC (o : Option Int) : AV := .tup [intA1 (o.getD 0), .c (.bool o.isSome)]

theorem drop_cons {X : Type} [Inhabited X] (l : List X) {k : Int} (h0 : 0 ≤ k) (h : k < l.length) {x : X} (hx : at0 l k = x) : l.drop k.toNat = x :: l.drop (k + 1).toNat := by
  rw [drop_at l h0 h, hx]

theorem addK_step {K r' : List Int} {i : Int} {a : Bool} {r : List Bool} (h : addK K i (a :: r) = r') : addK (if a = true then (if i ∈ K then K else K ++ [i]) else K) (i + 1) r = r' := by
  rw [addK] at h
  rw [← h]
  congr 1
  by_cases ha : a = true
  · by_cases hi : i ∈ K
    · rw [if_pos ha, if_pos hi, if_neg (fun h => h.2 hi)]
    · rw [if_pos ha, if_neg hi, if_pos ⟨ha, hi⟩]
  · rw [if_neg ha, if_neg (fun h => ha h.1)]

/-- Where a cycle ends. -/
theorem cycle_rng {n : Net} (h1 : 1 ≤ n.nodes) {t : List Trn} (ht : ∀ u ∈ t, TrnIn n u) {fr to : Int} (h0 : 0 ≤ fr) (hl : fr ≤ t.length) (h : cycleA n t fr = some to) : fr < to ∧ to ≤ t.length := by
  unfold cycleA at h
  obtain ⟨e, he, hd⟩ := Option.map_eq_some_iff.1 h
  have hu : ∀ u ∈ t.drop fr.toNat, TrnIn n u := fun u hu => ht u (List.mem_of_mem_drop hu)
  have h3 := endF_more h1 hu he
  have h4 := (endF_facts hu (Met.nil n) he).2.1
  rw [List.length_drop] at h4
  have h5 := doneF_facts (n := n) (e := e) (r := t.drop e.toNat) (Int.le_refl e) (Int.le_refl e)
  rw [List.length_drop, hd] at h5
  omega

theorem cycle_calls (n : Net) (t : List Trn) (fr : Int) (hc : checkN n = 0) (hl : n.links.length ≤ 5864062014634) (htl : t.length ≤ 200) (ht : ∀ u ∈ t, TrnIn n u) (hf0 : 0 ≤ fr) (hf1 : fr ≤ t.length) (σ : Store) :
    ACalls Try.prog 92 [.agg (netC n), trnsA t, intA1 fr] σ fun r σ' => σ' = σ ∧ r = optC (cycleA n t fr) := by
  have hn := netIn_of hc
  have n1 := hn.n1
  have n6 := hn.n6
  obtain ⟨E, hE⟩ : ∃ E, endF n (t.drop fr.toNat) fr [] = E := ⟨_, rfl⟩
  have hcy : cycleA n t fr = E.map fun e => doneF n e (t.drop e.toNat) e e := by rw [cycleA, hE]
  rw [hcy]
  refine ACalls.cutX ?_
  refine ACalls_of_awp Try.func92 rfl Try.results92 ?_
  simp only [List.length_cons, List.length_nil, Try.ntmps92, Nat.reduceAdd, Nat.reduceSub, enterA]
  refine AWP_seq_k fun K hK => ?_
  (refine AWP_region ?_; simp -implicitDefEqProofs only [go_sem])
  refine hK _ _ ?_; clear hK K
  refine AWP_freezeP 3 rfl (by simp only [st0]; rfl) ?_
  simp only [ss0, List.set_cons_zero]
  (repeat' (first|(refine g_s fun K hK=>?_)|(refine g_b ?_)|(refine g_r ?_)|(refine g_k ?_;simp only[thenQ,blockQ])|(refine g_e ?_;simp only[thenQ,blockQ,↓reduceIte,Nat.reduceEqDiff])|(refine g_c (fun h=>?_) (fun h=>?_)<;>(try simp only[go_sem] at h)<;>(try exact g_f))|((first|refine g_t ?_|refine g_g ?_|refine g_U ?_|refine g_A ?_|refine g_W ?_);(try simp -implicitDefEqProofs only[go_sem]))|(with_reducible refine hK _ _ ?_;clear hK K)|(clear hK K;first|(with_reducible refine hK _ _ ?_;clear hK K)|(clear hK K;with_reducible refine hK _ _ ?_;clear hK K)|(clear hK K;clear hK K;with_reducible refine hK _ _ ?_;clear hK K))|(with_reducible refine splitB_intro (fun h=>?_) (fun h=>?_)<;>(try simp only[go_sem] at h)<;>(try exact g_f)<;>(try simp -implicitDefEqProofs only[go_sem]))|(with_reducible refine And.intro (fun h=>?_) (fun h=>?_)<;>(try simp only[go_sem] at h)<;>(try exact g_f))|(with_reducible refine And.intro ?_ ?_;· exact g_x)|(with_reducible intro h;(try simp only[go_sem] at h);(try exact g_f))))
  have hJ := hK
  clear hK
  refine AWP_for ((t.length : Int) - fr) (fun q ms => Met n ms ∧ DK (imE (metM ms)) ∧ endF n (t.drop (fr + q).toNat) (fr + q) ms = E) (fun q _ _ => [(9, intA1 (fr + q))]) (fun _ ms τ => σ ++ (.dead :: .map (imE (metM ms)) :: τ)) [] [] (by omega) ⟨Met.nil n, trivial, by rw [Int.add_zero]; exact hE⟩ rfl (ALe_of ?_) ?_
  · simp -implicitDefEqProofs only [go_sem, Int.add_zero]
  · rintro q ms τ hq0 hq1 ⟨hM, hD, h3⟩ L hL
    have hDa := eq_true hD
    have hKK := metM_KK hn hM
    have hKl := metM_len ms
    have hKb := nodup_len (by omega) hM.nd hM.mem
    obtain ⟨e, he⟩ : ∃ e, fr + q = e := ⟨_, rfl⟩
    rw [he] at h3
    simp -implicitDefEqProofs only [go_sem, he]
    by_cases hdone : n.nodes ≤ ms.length
    · have hE2 : E = some e := by
        rw [← h3]
        cases t.drop e.toNat <;> rw [endF, if_pos hdone]
      (repeat' (first|(refine g_s fun K hK=>?_)|(refine g_b ?_)|(refine g_r ?_)|(refine g_k ?_;simp only[thenQ,blockQ])|(refine g_e ?_;simp only[thenQ,blockQ,↓reduceIte,Nat.reduceEqDiff])|(refine g_c (fun h=>?_) (fun h=>?_)<;>(try simp only[go_sem] at h)<;>(try exact g_f))|((first|refine g_t ?_|refine g_g ?_|refine g_U ?_|refine g_A ?_|refine g_W ?_);(try simp -implicitDefEqProofs only[go_sem,hDa, hKK, hKl]))|(with_reducible refine hK _ _ ?_;clear hK K)|(clear hK K;first|(with_reducible refine hK _ _ ?_;clear hK K)|(clear hK K;with_reducible refine hK _ _ ?_;clear hK K)|(clear hK K;clear hK K;with_reducible refine hK _ _ ?_;clear hK K))|(with_reducible refine splitB_intro (fun h=>?_) (fun h=>?_)<;>(try simp only[go_sem] at h)<;>(try exact g_f)<;>(try simp -implicitDefEqProofs only[go_sem,hDa, hKK, hKl]))|(with_reducible refine And.intro (fun h=>?_) (fun h=>?_)<;>(try simp only[go_sem] at h)<;>(try exact g_f))|(with_reducible refine And.intro ?_ ?_;· exact g_x)|(with_reducible intro h;(try simp only[go_sem] at h);(try exact g_f))))
      refine hJ _ _ ?_
      clear hJ
      obtain ⟨V, hV⟩ : ∃ V, doneF n e (t.drop e.toNat) e e = V := ⟨_, rfl⟩
      rw [hE2, Option.map_some, hV]
      (repeat' (first|(refine g_s fun K hK=>?_)|(refine g_b ?_)|(refine g_r ?_)|(refine g_k ?_;simp only[thenQ,blockQ])|(refine g_e ?_;simp only[thenQ,blockQ,↓reduceIte,Nat.reduceEqDiff])|(refine g_c (fun h=>?_) (fun h=>?_)<;>(try simp only[go_sem] at h)<;>(try exact g_f))|((first|refine g_t ?_|refine g_g ?_|refine g_U ?_|refine g_A ?_|refine g_W ?_);(try simp -implicitDefEqProofs only[go_sem]))|(with_reducible refine hK _ _ ?_;clear hK K)|(clear hK K;first|(with_reducible refine hK _ _ ?_;clear hK K)|(clear hK K;with_reducible refine hK _ _ ?_;clear hK K)|(clear hK K;clear hK K;with_reducible refine hK _ _ ?_;clear hK K))|(with_reducible refine splitB_intro (fun h=>?_) (fun h=>?_)<;>(try simp only[go_sem] at h)<;>(try exact g_f)<;>(try simp -implicitDefEqProofs only[go_sem]))|(with_reducible refine And.intro (fun h=>?_) (fun h=>?_)<;>(try simp only[go_sem] at h)<;>(try exact g_f))|(with_reducible refine And.intro ?_ ?_;· exact g_x)|(with_reducible intro h;(try simp only[go_sem] at h);(try exact g_f))))
      have hJ := hK
      clear hK
      refine AWP_for ((t.length : Int) - e) (fun p d => doneF n e (t.drop (e + p).toNat) (e + p) d = V) (fun p d _ => [(13, intA1 (e + p)), (12, intA1 d)]) (fun _ _ τ2 => σ ++ (.dead :: .map (imE (metM ms)) :: (τ ++ τ2))) e [] (by omega) (by rw [Int.add_zero]; exact hV) (by simp) (ALe_of ?_) ?_
      · simp -implicitDefEqProofs only [go_sem, Int.add_zero]
      · rintro p d τ2 hp0 hp1 h4 L2 hL2
        have hep : e + (p + 1) = e + p + 1 := by omega
        rw [hep] at hL2
        obtain ⟨k, hk⟩ : ∃ k, e + p = k := ⟨_, rfl⟩
        rw [hk] at h4 hL2
        simp -implicitDefEqProofs only [go_sem, hk]
        by_cases hlt : k < t.length
        · obtain ⟨u, hu⟩ : ∃ u, at0 t k = u := ⟨_, rfl⟩
          have hui := ht u (by rw [← hu]; exact at0_mem t (by omega) hlt)
          rw [drop_cons t (by omega) hlt hu, doneF] at h4
          have hO := oldest_calls n t k u hn hl htl (by omega) hlt hui hu
          have hol := oldA_lt (n := n) (u := u) (k := k) (e := e) (by omega)
          obtain ⟨o, ho⟩ : ∃ o, oldA n u k = o := ⟨_, rfl⟩
          rw [ho] at hO hol
          by_cases hoe : o < e
          · rw [if_pos (hol.1 hoe)] at h4
            (repeat' (first|(refine g_s fun K hK=>?_)|(refine g_b ?_)|(refine g_r ?_)|(refine g_k ?_;simp only[thenQ,blockQ])|(refine g_e ?_;simp only[thenQ,blockQ,↓reduceIte,Nat.reduceEqDiff])|(refine g_c (fun h=>?_) (fun h=>?_)<;>(try simp only[go_sem] at h)<;>(try exact g_f))|((first|refine g_t ?_|refine g_g ?_|refine g_U ?_|refine g_A ?_|refine (hO _).use ?_|refine g_q (fun τ=>hO _) ?_|refine g_W ?_);(try simp -implicitDefEqProofs only[go_sem]))|(with_reducible refine hK _ _ ?_;clear hK K)|(clear hK K;first|(with_reducible refine hK _ _ ?_;clear hK K)|(clear hK K;with_reducible refine hK _ _ ?_;clear hK K)|(clear hK K;clear hK K;with_reducible refine hK _ _ ?_;clear hK K))|(with_reducible refine splitB_intro (fun h=>?_) (fun h=>?_)<;>(try simp only[go_sem] at h)<;>(try exact g_f)<;>(try simp -implicitDefEqProofs only[go_sem]))|(with_reducible refine And.intro (fun h=>?_) (fun h=>?_)<;>(try simp only[go_sem] at h)<;>(try exact g_f))|(with_reducible refine And.intro ?_ ?_;· exact g_x)|(with_reducible intro h;(try simp only[go_sem] at h);(try exact g_f))))
            refine hL2 (by omega) (k + 1) τ2 _ _ h4 (ALe_of ?_) (by simp)
            simp -implicitDefEqProofs only [go_sem]
          · rw [if_neg (fun h => hoe (hol.2 h))] at h4
            (repeat' (first|(refine g_s fun K hK=>?_)|(refine g_b ?_)|(refine g_r ?_)|(refine g_k ?_;simp only[thenQ,blockQ])|(refine g_e ?_;simp only[thenQ,blockQ,↓reduceIte,Nat.reduceEqDiff])|(refine g_c (fun h=>?_) (fun h=>?_)<;>(try simp only[go_sem] at h)<;>(try exact g_f))|((first|refine g_t ?_|refine g_g ?_|refine g_U ?_|refine g_A ?_|refine (hO _).use ?_|refine g_q (fun τ=>hO _) ?_|refine g_W ?_);(try simp -implicitDefEqProofs only[go_sem]))|(with_reducible refine hK _ _ ?_;clear hK K)|(clear hK K;first|(with_reducible refine hK _ _ ?_;clear hK K)|(clear hK K;with_reducible refine hK _ _ ?_;clear hK K)|(clear hK K;clear hK K;with_reducible refine hK _ _ ?_;clear hK K))|(with_reducible refine splitB_intro (fun h=>?_) (fun h=>?_)<;>(try simp only[go_sem] at h)<;>(try exact g_f)<;>(try simp -implicitDefEqProofs only[go_sem]))|(with_reducible refine And.intro (fun h=>?_) (fun h=>?_)<;>(try simp only[go_sem] at h)<;>(try exact g_f))|(with_reducible refine And.intro ?_ ?_;· exact g_x)|(with_reducible intro h;(try simp only[go_sem] at h);(try exact g_f))))
            refine hL2 (by omega) d τ2 _ _ h4 (ALe_of ?_) (by simp)
            simp -implicitDefEqProofs only [go_sem]
        · rw [List.drop_of_length_le (by omega), doneF] at h4
          subst h4
          (repeat' (first|(refine g_s fun K hK=>?_)|(refine g_b ?_)|(refine g_r ?_)|(refine g_k ?_;simp only[thenQ,blockQ])|(refine g_e ?_;simp only[thenQ,blockQ,↓reduceIte,Nat.reduceEqDiff])|(refine g_c (fun h=>?_) (fun h=>?_)<;>(try simp only[go_sem] at h)<;>(try exact g_f))|((first|refine g_t ?_|refine g_g ?_|refine g_U ?_|refine g_A ?_|refine g_W ?_);(try simp -implicitDefEqProofs only[go_sem]))|(with_reducible refine hK _ _ ?_;clear hK K)|(clear hK K;first|(with_reducible refine hK _ _ ?_;clear hK K)|(clear hK K;with_reducible refine hK _ _ ?_;clear hK K)|(clear hK K;clear hK K;with_reducible refine hK _ _ ?_;clear hK K))|(with_reducible refine splitB_intro (fun h=>?_) (fun h=>?_)<;>(try simp only[go_sem] at h)<;>(try exact g_f)<;>(try simp -implicitDefEqProofs only[go_sem]))|(with_reducible refine And.intro (fun h=>?_) (fun h=>?_)<;>(try simp only[go_sem] at h)<;>(try exact g_f))|(with_reducible refine And.intro ?_ ?_;· exact g_x)|(with_reducible intro h;(try simp only[go_sem] at h);(try exact g_f))))
          refine hJ _ _ ?_
          clear hJ
          (repeat' (first|(refine g_s fun K hK=>?_)|(refine g_b ?_)|(refine g_r ?_)|(refine g_k ?_;simp only[thenQ,blockQ])|(refine g_e ?_;simp only[thenQ,blockQ,↓reduceIte,Nat.reduceEqDiff])|(refine g_c (fun h=>?_) (fun h=>?_)<;>(try simp only[go_sem] at h)<;>(try exact g_f))|((first|refine g_t ?_|refine g_g ?_|refine g_U ?_|refine g_A ?_|refine g_W ?_);(try simp -implicitDefEqProofs only[go_sem]))|(with_reducible refine hK _ _ ?_;clear hK K)|(clear hK K;first|(with_reducible refine hK _ _ ?_;clear hK K)|(clear hK K;with_reducible refine hK _ _ ?_;clear hK K)|(clear hK K;clear hK K;with_reducible refine hK _ _ ?_;clear hK K))|(with_reducible refine splitB_intro (fun h=>?_) (fun h=>?_)<;>(try simp only[go_sem] at h)<;>(try exact g_f)<;>(try simp -implicitDefEqProofs only[go_sem]))|(with_reducible refine And.intro (fun h=>?_) (fun h=>?_)<;>(try simp only[go_sem] at h)<;>(try exact g_f))|(with_reducible refine And.intro ?_ ?_;· exact g_x)|(with_reducible intro h;(try simp only[go_sem] at h);(try exact g_f))))
          exact CutQ_2 (τ := .dead :: .map (imE (metM ms)) :: (τ ++ τ2)) rfl rfl
    · by_cases hend : e = t.length
      · have hE2 : E = none := by
          rw [← h3, List.drop_of_length_le (by omega), endF, if_neg hdone]
        (repeat' (first|(refine g_s fun K hK=>?_)|(refine g_b ?_)|(refine g_r ?_)|(refine g_k ?_;simp only[thenQ,blockQ])|(refine g_e ?_;simp only[thenQ,blockQ,↓reduceIte,Nat.reduceEqDiff])|(refine g_c (fun h=>?_) (fun h=>?_)<;>(try simp only[go_sem] at h)<;>(try exact g_f))|((first|refine g_t ?_|refine g_g ?_|refine g_U ?_|refine g_A ?_|refine g_W ?_);(try simp -implicitDefEqProofs only[go_sem,hDa, hKK, hKl]))|(with_reducible refine hK _ _ ?_;clear hK K)|(clear hK K;first|(with_reducible refine hK _ _ ?_;clear hK K)|(clear hK K;with_reducible refine hK _ _ ?_;clear hK K)|(clear hK K;clear hK K;with_reducible refine hK _ _ ?_;clear hK K))|(with_reducible refine splitB_intro (fun h=>?_) (fun h=>?_)<;>(try simp only[go_sem] at h)<;>(try exact g_f)<;>(try simp -implicitDefEqProofs only[go_sem,hDa, hKK, hKl]))|(with_reducible refine And.intro (fun h=>?_) (fun h=>?_)<;>(try simp only[go_sem] at h)<;>(try exact g_f))|(with_reducible refine And.intro ?_ ?_;· exact g_x)|(with_reducible intro h;(try simp only[go_sem] at h);(try exact g_f))))
        rw [hE2]
        exact CutQ_2 rfl rfl
      · have hlt : e < t.length := by omega
        obtain ⟨u, hu⟩ : ∃ u, at0 t e = u := ⟨_, rfl⟩
        have hui := ht u (by rw [← hu]; exact at0_mem t (by omega) hlt)
        have hal := hui.act
        rw [drop_cons t (by omega) hlt hu, endF, if_neg hdone] at h3
        have hep : fr + (q + 1) = e + 1 := by omega
        rw [hep] at hL
        obtain ⟨M, hMe⟩ : ∃ M, addK ms 0 u.act = M := ⟨_, rfl⟩
        rw [hMe] at h3
        (repeat' (first|(refine g_s fun K hK=>?_)|(refine g_b ?_)|(refine g_r ?_)|(refine g_k ?_;simp only[thenQ,blockQ])|(refine g_e ?_;simp only[thenQ,blockQ,↓reduceIte,Nat.reduceEqDiff])|(refine g_c (fun h=>?_) (fun h=>?_)<;>(try simp only[go_sem] at h)<;>(try exact g_f))|((first|refine g_t ?_|refine g_g ?_|refine g_U ?_|refine g_A ?_|refine g_W ?_);(try simp -implicitDefEqProofs only[go_sem,hDa, hKK, hKl, hu]))|(with_reducible refine hK _ _ ?_;clear hK K)|(clear hK K;first|(with_reducible refine hK _ _ ?_;clear hK K)|(clear hK K;with_reducible refine hK _ _ ?_;clear hK K)|(clear hK K;clear hK K;with_reducible refine hK _ _ ?_;clear hK K))|(with_reducible refine splitB_intro (fun h=>?_) (fun h=>?_)<;>(try simp only[go_sem] at h)<;>(try exact g_f)<;>(try simp -implicitDefEqProofs only[go_sem,hDa, hKK, hKl, hu]))|(with_reducible refine And.intro (fun h=>?_) (fun h=>?_)<;>(try simp only[go_sem] at h)<;>(try exact g_f))|(with_reducible refine And.intro ?_ ?_;· exact g_x)|(with_reducible intro h;(try simp only[go_sem] at h);(try exact g_f))))
        have hJ2 := hK
        clear hK
        refine AWP_each u.act (fun i r ms' => addK ms' i r = M ∧ Met n ms' ∧ DK (imE (metM ms'))) (fun i _ _ => [(31, intA1 i)]) (fun _ ms' τ2 => σ ++ (.dead :: .map (imE (metM ms')) :: (τ ++ τ2))) ms [] ⟨hMe, hM, hD⟩ (by simp) (ALe_of ?_) ?_ ?_
        · simp -implicitDefEqProofs only [go_sem]
        · rintro i r ms' τ2 hi0 hi1 ⟨h4, h5, h6⟩ L2 hL2
          obtain ⟨a, ha⟩ : ∃ a, at0 u.act i = a := ⟨_, rfl⟩
          rw [ha] at h4
          have h4 := addK_step h4
          have hDb := eq_true h6
          have hKK2 := metM_KK hn h5
          have hput := metM_put (K := ms') (i := i)
          have hI : I64 i := by unfold I64; omega
          simp -implicitDefEqProofs only [go_sem]
          cases a
          · (repeat' (first|(refine g_s fun K hK=>?_)|(refine g_b ?_)|(refine g_r ?_)|(refine g_k ?_;simp only[thenQ,blockQ])|(refine g_e ?_;simp only[thenQ,blockQ,↓reduceIte,Nat.reduceEqDiff])|(refine g_c (fun h=>?_) (fun h=>?_)<;>(try simp only[go_sem] at h)<;>(try exact g_f))|((first|refine g_t ?_|refine g_g ?_|refine g_U ?_|refine g_A ?_|refine g_W ?_);(try simp -implicitDefEqProofs only[go_sem,ha]))|(with_reducible refine hK _ _ ?_;clear hK K)|(clear hK K;first|(with_reducible refine hK _ _ ?_;clear hK K)|(clear hK K;with_reducible refine hK _ _ ?_;clear hK K)|(clear hK K;clear hK K;with_reducible refine hK _ _ ?_;clear hK K))|(with_reducible refine splitB_intro (fun h=>?_) (fun h=>?_)<;>(try simp only[go_sem] at h)<;>(try exact g_f)<;>(try simp -implicitDefEqProofs only[go_sem,ha]))|(with_reducible refine And.intro (fun h=>?_) (fun h=>?_)<;>(try simp only[go_sem] at h)<;>(try exact g_f))|(with_reducible refine And.intro ?_ ?_;· exact g_x)|(with_reducible intro h;(try simp only[go_sem] at h);(try exact g_f))))
            refine hL2 ms' τ2 _ _ ⟨h4, h5, h6⟩ (ALe_of ?_) (by simp)
            simp -implicitDefEqProofs only [go_sem]
          · rw [if_pos rfl] at h4
            (repeat' (first|(refine g_s fun K hK=>?_)|(refine g_b ?_)|(refine g_r ?_)|(refine g_k ?_;simp only[thenQ,blockQ])|(refine g_e ?_;simp only[thenQ,blockQ,↓reduceIte,Nat.reduceEqDiff])|(refine g_c (fun h=>?_) (fun h=>?_)<;>(try simp only[go_sem] at h)<;>(try exact g_f))|((first|refine g_t ?_|refine g_g ?_|refine g_U ?_|refine g_A ?_|refine g_W ?_);(try simp -implicitDefEqProofs only[go_sem,ha, hDb, hKK2, hput]))|(with_reducible refine hK _ _ ?_;clear hK K)|(clear hK K;first|(with_reducible refine hK _ _ ?_;clear hK K)|(clear hK K;with_reducible refine hK _ _ ?_;clear hK K)|(clear hK K;clear hK K;with_reducible refine hK _ _ ?_;clear hK K))|(with_reducible refine splitB_intro (fun h=>?_) (fun h=>?_)<;>(try simp only[go_sem] at h)<;>(try exact g_f)<;>(try simp -implicitDefEqProofs only[go_sem,ha, hDb, hKK2, hput]))|(with_reducible refine And.intro (fun h=>?_) (fun h=>?_)<;>(try simp only[go_sem] at h)<;>(try exact g_f))|(with_reducible refine And.intro ?_ ?_;· exact g_x)|(with_reducible intro h;(try simp only[go_sem] at h);(try exact g_f))))
            refine hL2 (if i ∈ ms' then ms' else ms' ++ [i]) τ2 _ _ ⟨h4, ?_, metM_DK h6⟩ (ALe_of ?_) (by simp)
            · split
              · exact h5
              · rename_i hni
                exact h5.add ⟨hi0, by omega⟩ hni
            · simp -implicitDefEqProofs only [go_sem]
        · rintro i ms' τ2 hi ⟨h4, h5, h6⟩ L2
          have h4 : ms' = M := h4
          subst h4
          simp -implicitDefEqProofs only [go_sem]
          (repeat' (first|(refine g_s fun K hK=>?_)|(refine g_b ?_)|(refine g_r ?_)|(refine g_k ?_;simp only[thenQ,blockQ])|(refine g_e ?_;simp only[thenQ,blockQ,↓reduceIte,Nat.reduceEqDiff])|(refine g_c (fun h=>?_) (fun h=>?_)<;>(try simp only[go_sem] at h)<;>(try exact g_f))|((first|refine g_t ?_|refine g_g ?_|refine g_U ?_|refine g_A ?_|refine g_W ?_);(try simp -implicitDefEqProofs only[go_sem]))|(with_reducible refine hK _ _ ?_;clear hK K)|(clear hK K;first|(with_reducible refine hK _ _ ?_;clear hK K)|(clear hK K;with_reducible refine hK _ _ ?_;clear hK K)|(clear hK K;clear hK K;with_reducible refine hK _ _ ?_;clear hK K))|(with_reducible refine splitB_intro (fun h=>?_) (fun h=>?_)<;>(try simp only[go_sem] at h)<;>(try exact g_f)<;>(try simp -implicitDefEqProofs only[go_sem]))|(with_reducible refine And.intro (fun h=>?_) (fun h=>?_)<;>(try simp only[go_sem] at h)<;>(try exact g_f))|(with_reducible refine And.intro ?_ ?_;· exact g_x)|(with_reducible intro h;(try simp only[go_sem] at h);(try exact g_f))))
          refine hJ2 _ _ ?_
          clear hJ2
          (repeat' (first|(refine g_s fun K hK=>?_)|(refine g_b ?_)|(refine g_r ?_)|(refine g_k ?_;simp only[thenQ,blockQ])|(refine g_e ?_;simp only[thenQ,blockQ,↓reduceIte,Nat.reduceEqDiff])|(refine g_c (fun h=>?_) (fun h=>?_)<;>(try simp only[go_sem] at h)<;>(try exact g_f))|((first|refine g_t ?_|refine g_g ?_|refine g_U ?_|refine g_A ?_|refine g_W ?_);(try simp -implicitDefEqProofs only[go_sem]))|(with_reducible refine hK _ _ ?_;clear hK K)|(clear hK K;first|(with_reducible refine hK _ _ ?_;clear hK K)|(clear hK K;with_reducible refine hK _ _ ?_;clear hK K)|(clear hK K;clear hK K;with_reducible refine hK _ _ ?_;clear hK K))|(with_reducible refine splitB_intro (fun h=>?_) (fun h=>?_)<;>(try simp only[go_sem] at h)<;>(try exact g_f)<;>(try simp -implicitDefEqProofs only[go_sem]))|(with_reducible refine And.intro (fun h=>?_) (fun h=>?_)<;>(try simp only[go_sem] at h)<;>(try exact g_f))|(with_reducible refine And.intro ?_ ?_;· exact g_x)|(with_reducible intro h;(try simp only[go_sem] at h);(try exact g_f))))
          refine hL (by omega) ms' (τ ++ τ2) _ _ ⟨h5, h6, h3⟩ (ALe_of ?_) (by simp)
          simp -implicitDefEqProofs only [go_sem]

def cyclesErr (n : Net) (t : List Trn) : AV := .tup [intA1 (if checkT n t = 0 then cyclesA n t else 0), intA1 (checkT n t)]

theorem cycles_calls (n : Net) (t : List Trn) (okn : NetOk n) (okt : TsOk t) (σ : Store) : ACalls Try.prog 36 [.agg (netC n), trnsA t] σ fun r σ' => σ' = σ ∧ r = cyclesErr n t := by
  have hl := okn.len
  have hC := asyncCheck_calls n t okn okt
  unfold cyclesErr
  refine ACalls.cutX ?_
  by_cases h0 : checkT n t = 0
  · obtain ⟨hc, htl, ht⟩ := checkT_zero h0
    have hn := netIn_of hc
    have n1 := hn.n1
    rw [h0] at hC ⊢
    rw [if_pos rfl]
    obtain ⟨V, hV⟩ : ∃ V, cyclesA n t = V := ⟨_, rfl⟩
    rw [hV]
    refine ACalls_of_awp Try.func36 rfl Try.results36 ?_
    simp only [List.length_cons, List.length_nil, Try.ntmps36, Nat.reduceAdd, Nat.reduceSub, enterA]
    refine AWP_seq_k fun K hK => ?_
    (refine AWP_region ?_; simp -implicitDefEqProofs only [go_sem])
    refine hK _ _ ?_; clear hK K
    refine AWP_freezeP 2 rfl (by simp only [st0]; rfl) ?_
    simp only [ss0, List.set_cons_zero]
    (repeat' (first|(refine g_s fun K hK=>?_)|(refine g_b ?_)|(refine g_r ?_)|(refine g_k ?_;simp only[thenQ,blockQ])|(refine g_e ?_;simp only[thenQ,blockQ,↓reduceIte,Nat.reduceEqDiff])|(refine g_c (fun h=>?_) (fun h=>?_)<;>(try simp only[go_sem] at h)<;>(try exact g_f))|((first|refine g_t ?_|refine g_g ?_|refine g_U ?_|refine g_A ?_|refine (hC _).use ?_|refine g_q (fun τ=>hC _) ?_|refine g_W ?_);(try simp -implicitDefEqProofs only[go_sem]))|(with_reducible refine hK _ _ ?_;clear hK K)|(clear hK K;first|(with_reducible refine hK _ _ ?_;clear hK K)|(clear hK K;with_reducible refine hK _ _ ?_;clear hK K)|(clear hK K;clear hK K;with_reducible refine hK _ _ ?_;clear hK K))|(with_reducible refine splitB_intro (fun h=>?_) (fun h=>?_)<;>(try simp only[go_sem] at h)<;>(try exact g_f)<;>(try simp -implicitDefEqProofs only[go_sem]))|(with_reducible refine And.intro (fun h=>?_) (fun h=>?_)<;>(try simp only[go_sem] at h)<;>(try exact g_f))|(with_reducible refine And.intro ?_ ?_;· exact g_x)|(with_reducible intro h;(try simp only[go_sem] at h);(try exact g_f))))
    refine AWP_for ((t.length : Int) + 1) (fun k (s : Int × Int) => cyclesF n t (t.length + 1 - k.toNat) s.1 s.2 = V ∧ k ≤ s.1 ∧ s.1 ≤ t.length ∧ 0 ≤ s.2 ∧ s.2 ≤ k) (fun _ s _ => [(8, intA1 s.1), (7, intA1 s.2)]) (fun _ _ _ => σ ++ [.dead]) (0, 0) [] (by omega) ⟨hV, by simp, by simp, by simp, by simp⟩ rfl (ALe_of ?_) ?_
    · simp -implicitDefEqProofs only [go_sem]
    · rintro k ⟨fr, many⟩ τ hk0 hk1 ⟨h3, h4, h5, h6, h7⟩ L hL
      have h4 : k ≤ fr := h4
      have h5 : fr ≤ t.length := h5
      have h6 : 0 ≤ many := h6
      have h7 : many ≤ k := h7
      have hf : t.length + 1 - k.toNat = (t.length + 1 - (k + 1).toNat) + 1 := by omega
      rw [hf, cyclesF] at h3
      have hCy := cycle_calls n t fr hc hl htl ht (by omega) h5
      unfold optC at hCy
      simp -implicitDefEqProofs only [go_sem]
      cases hcy : cycleA n t fr with
      | none =>
        rw [hcy] at hCy h3
        have h3 : many = V := h3
        subst h3
        (repeat' (first|(refine g_s fun K hK=>?_)|(refine g_b ?_)|(refine g_r ?_)|(refine g_k ?_;simp only[thenQ,blockQ])|(refine g_e ?_;simp only[thenQ,blockQ,↓reduceIte,Nat.reduceEqDiff])|(refine g_c (fun h=>?_) (fun h=>?_)<;>(try simp only[go_sem] at h)<;>(try exact g_f))|((first|refine g_t ?_|refine g_g ?_|refine g_U ?_|refine g_A ?_|refine (hCy _).use ?_|refine g_q (fun τ=>hCy _) ?_|refine g_W ?_);(try simp -implicitDefEqProofs only[go_sem]))|(with_reducible refine hK _ _ ?_;clear hK K)|(clear hK K;first|(with_reducible refine hK _ _ ?_;clear hK K)|(clear hK K;with_reducible refine hK _ _ ?_;clear hK K)|(clear hK K;clear hK K;with_reducible refine hK _ _ ?_;clear hK K))|(with_reducible refine splitB_intro (fun h=>?_) (fun h=>?_)<;>(try simp only[go_sem] at h)<;>(try exact g_f)<;>(try simp -implicitDefEqProofs only[go_sem]))|(with_reducible refine And.intro (fun h=>?_) (fun h=>?_)<;>(try simp only[go_sem] at h)<;>(try exact g_f))|(with_reducible refine And.intro ?_ ?_;· exact g_x)|(with_reducible intro h;(try simp only[go_sem] at h);(try exact g_f))))
        exact CutQ_2 rfl rfl
      | some to =>
        rw [hcy] at hCy h3
        have hr := cycle_rng n1 ht (by omega) h5 hcy
        (repeat' (first|(refine g_s fun K hK=>?_)|(refine g_b ?_)|(refine g_r ?_)|(refine g_k ?_;simp only[thenQ,blockQ])|(refine g_e ?_;simp only[thenQ,blockQ,↓reduceIte,Nat.reduceEqDiff])|(refine g_c (fun h=>?_) (fun h=>?_)<;>(try simp only[go_sem] at h)<;>(try exact g_f))|((first|refine g_t ?_|refine g_g ?_|refine g_U ?_|refine g_A ?_|refine (hCy _).use ?_|refine g_q (fun τ=>hCy _) ?_|refine g_W ?_);(try simp -implicitDefEqProofs only[go_sem]))|(with_reducible refine hK _ _ ?_;clear hK K)|(clear hK K;first|(with_reducible refine hK _ _ ?_;clear hK K)|(clear hK K;with_reducible refine hK _ _ ?_;clear hK K)|(clear hK K;clear hK K;with_reducible refine hK _ _ ?_;clear hK K))|(with_reducible refine splitB_intro (fun h=>?_) (fun h=>?_)<;>(try simp only[go_sem] at h)<;>(try exact g_f)<;>(try simp -implicitDefEqProofs only[go_sem]))|(with_reducible refine And.intro (fun h=>?_) (fun h=>?_)<;>(try simp only[go_sem] at h)<;>(try exact g_f))|(with_reducible refine And.intro ?_ ?_;· exact g_x)|(with_reducible intro h;(try simp only[go_sem] at h);(try exact g_f))))
        refine hL (by omega) (to, many + 1) [] _ _ ⟨h3, ?_, ?_, ?_, ?_⟩ (ALe_of ?_) rfl
        · show k + 1 ≤ to
          omega
        · exact hr.2
        · show 0 ≤ many + 1
          omega
        · show many + 1 ≤ k + 1
          omega
        · simp -implicitDefEqProofs only [go_sem]
  · rw [if_neg h0]
    refine ACalls_of_awp Try.func36 rfl Try.results36 ?_
    simp only [List.length_cons, List.length_nil, Try.ntmps36, Nat.reduceAdd, Nat.reduceSub, enterA]
    (repeat' (first|(refine g_s fun K hK=>?_)|(refine g_b ?_)|(refine g_r ?_)|(refine g_k ?_;simp only[thenQ,blockQ])|(refine g_e ?_;simp only[thenQ,blockQ,↓reduceIte,Nat.reduceEqDiff])|(refine g_c (fun h=>?_) (fun h=>?_)<;>(try simp only[go_sem] at h)<;>(try exact g_f))|((first|refine g_t ?_|refine g_g ?_|refine g_U ?_|refine g_A ?_|refine (hC _).use ?_|refine g_q (fun τ=>hC _) ?_|refine g_W ?_);(try simp -implicitDefEqProofs only[go_sem]))|(with_reducible refine hK _ _ ?_;clear hK K)|(clear hK K;first|(with_reducible refine hK _ _ ?_;clear hK K)|(clear hK K;with_reducible refine hK _ _ ?_;clear hK K)|(clear hK K;clear hK K;with_reducible refine hK _ _ ?_;clear hK K))|(with_reducible refine splitB_intro (fun h=>?_) (fun h=>?_)<;>(try simp only[go_sem] at h)<;>(try exact g_f)<;>(try simp -implicitDefEqProofs only[go_sem]))|(with_reducible refine And.intro (fun h=>?_) (fun h=>?_)<;>(try simp only[go_sem] at h)<;>(try exact g_f))|(with_reducible refine And.intro ?_ ?_;· exact g_x)|(with_reducible intro h;(try simp only[go_sem] at h);(try exact g_f))))
    exact CutQ_2 rfl rfl
end Go.Proofs.Ytephecognbbaoab
