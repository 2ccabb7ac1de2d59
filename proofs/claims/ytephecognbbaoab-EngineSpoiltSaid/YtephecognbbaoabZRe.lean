/- What must be in any case, of engines. -/
import Derived.Test.YtephecognbbaoabZEn
import Derived.Test.YtephecognbbaoabZAb
import Derived.Test.YtephecognbbaoabZEh
import Derived.Test.YtephecognbbaoabZNc
import Derived.Test.YtephecognbbaoabZRd
import Derived.Test.YtephecognbbaoabZEb
open Go
set_option linter.all false
set_option maxRecDepth 100000
set_option maxHeartbeats 4000000
namespace Go.Proofs.Ytephecognbbaoab
open Go
set_option linter.all false
set_option maxRecDepth 100000
set_option maxHeartbeats 4000000
deriving instance DecidableEq for Rtr
deriving instance DecidableEq for Mail
deriving instance DecidableEq for Eng
def twoE0 : Eng := ⟨[⟨[0, 2], [[], []]⟩, ⟨[2, 0], [[], []]⟩], []⟩
def twoE1 : Eng := ⟨[⟨[0, 2], [[], []]⟩, ⟨[2, 0], [[], []]⟩], [⟨1, 0, [83, 1, 0, 2, 2, 0, 253, 126]⟩]⟩
def twoE2 : Eng := ⟨[⟨[0, 1], [[], [2, 0]]⟩, ⟨[2, 0], [[], []]⟩], []⟩
theorem two_new : newR twoN = (twoE0, 0) := by decide +kernel
theorem two_tick : stepR twoN twoE0 ⟨1, 1, 0, 0, []⟩ = (twoE1, 0) := by decide +kernel
theorem two_deliver : stepR twoN twoE1 ⟨2, 0, 0, 0, []⟩ = (twoE2, 0) := by decide +kernel
theorem two_good : checkE twoN twoE2 = 0 := by decide +kernel
theorem twoE0_ok : EngOk twoE0 := ⟨by decide, fun r hr => by
  simp only [twoE0, List.mem_cons, List.not_mem_nil, or_false] at hr
  rcases hr with rfl | rfl <;> exact ⟨by decide, by decide, by decide⟩, by decide, fun m hm => by cases hm⟩
theorem twoE1_ok : EngOk twoE1 := ⟨by decide, fun r hr => by
  simp only [twoE1, List.mem_cons, List.not_mem_nil, or_false] at hr
  rcases hr with rfl | rfl <;> exact ⟨by decide, by decide, by decide⟩, by decide, fun m hm => by
  simp only [twoE1, List.mem_cons, List.not_mem_nil, or_false] at hm
  subst hm
  exact ⟨by unfold I64; decide, by unfold I64; decide, by decide, by decide⟩⟩
theorem twoE2_ok : EngOk twoE2 := ⟨by decide, fun r hr => by
  simp only [twoE2, List.mem_cons, List.not_mem_nil, or_false] at hr
  rcases hr with rfl | rfl <;> exact ⟨by decide, by decide, by decide⟩, by decide, fun m hm => by cases hm⟩
theorem engineBegun_calls (σ : Store) : ACalls Try.prog 62 [] σ fun r σ' => σ' = σ ∧ r = .c (.bool true) := by
  have hB := enew_calls twoN twoN_ok
  rw [two_new] at hB
  have hS1 := estep_calls twoN twoE0 twoN_ok twoE0_ok ⟨1, 1, 0, 0, []⟩ (by decide)
  rw [two_tick] at hS1
  have hS2 := estep_calls twoN twoE1 twoN_ok twoE1_ok ⟨2, 0, 0, 0, []⟩ (by decide)
  rw [two_deliver] at hS2
  have hC := checkE_calls twoN twoE2 twoN_ok twoE2_ok
  rw [two_good] at hC
  have hE : ∀ S, ACalls Try.prog 91 [intsA [0, 1], intsA [0, 1]] S fun r σ' => σ' = S ∧ r = .c (.bool true) := fun S => sameInts_calls [0, 1] [0, 1] (by decide) S
  have hS1' : ∀ S, ACalls Try.prog 64 [.agg (netC twoN), .agg (engC twoE0), .agg [intA1 1, intA1 1, intA1 0, intA1 0, .c (.slice none 0 0)]] S fun r σ' => σ' = S ∧ r = .tup [.agg (engC twoE1), intA1 0] := fun S => ((hS1 S).argW (by (repeat' (first | exact Wk.nil | exact Wk.emp | exact WkL.nil | (with_reducible exact Wk.refl _) | refine Wk.agg ?_ | refine Wk.tup ?_ | refine WkL.cons ?_ ?_ | (refine Wk.eq ?_; rfl)))) )
  have hS2' : ∀ S, ACalls Try.prog 64 [.agg (netC twoN), .agg (engC twoE1), .agg [intA1 2, intA1 0, intA1 0, intA1 0, .c (.slice none 0 0)]] S fun r σ' => σ' = S ∧ r = .tup [.agg (engC twoE2), intA1 0] := fun S => ((hS2 S).argW (by (repeat' (first | exact Wk.nil | exact Wk.emp | exact WkL.nil | (with_reducible exact Wk.refl _) | refine Wk.agg ?_ | refine Wk.tup ?_ | refine WkL.cons ?_ ?_ | (refine Wk.eq ?_; rfl)))) )
  refine ACalls.cutX ?_
  refine ACalls_of_awp Try.func62 rfl Try.results62 ?_
  simp only [List.length_cons, List.length_nil, Try.ntmps62, Nat.reduceAdd, Nat.reduceSub, enterA]
  (repeat' (first|(refine g_s fun K hK=>?_)|(refine g_b ?_)|(refine g_r ?_)|(refine g_k ?_;simp only[thenQ,blockQ])|(refine g_e ?_;simp only[thenQ,blockQ,↓reduceIte,Nat.reduceEqDiff])|(refine g_c (fun h=>?_) (fun h=>?_)<;>(try simp only[go_sem] at h)<;>(try exact g_f))|((first|refine g_t ?_|refine g_G ?_|refine g_U ?_|refine g_A ?_|refine (two_calls _).use ?_|refine g_q (fun τ=>two_calls _) ?_|refine (hB _).use ?_|refine g_q (fun τ=>hB _) ?_|refine (hS1' _).use ?_|refine g_q (fun τ=>hS1' _) ?_|refine (hS2' _).use ?_|refine g_q (fun τ=>hS2' _) ?_|refine (hC _).use ?_|refine g_q (fun τ=>hC _) ?_|refine (hE _).use ?_|refine g_q (fun τ=>hE _) ?_|refine AWP_drawX tab_mixed (by decide +kernel) ?_|refine g_W ?_);(try simp -implicitDefEqProofs only[go_sem,twoE2]))|(with_reducible refine hK _ _ ?_;clear hK K)|(clear hK K;first|(with_reducible refine hK _ _ ?_;clear hK K)|(clear hK K;with_reducible refine hK _ _ ?_;clear hK K)|(clear hK K;clear hK K;with_reducible refine hK _ _ ?_;clear hK K))|(with_reducible refine splitB_intro (fun h=>?_) (fun h=>?_)<;>(try simp only[go_sem] at h)<;>(try exact g_f)<;>(try simp -implicitDefEqProofs only[go_sem,twoE2]))|(with_reducible refine And.intro (fun h=>?_) (fun h=>?_)<;>(try simp only[go_sem] at h)<;>(try exact g_f))|(with_reducible refine And.intro ?_ ?_;· exact g_x)|(with_reducible intro h;(try simp only[go_sem] at h);(try exact g_f))))
  exact CutQ_c rfl rfl
end Go.Proofs.Ytephecognbbaoab
namespace Go.Proofs.Ytephecognbbaoab
theorem choose_calls (c n : Int) (hc : I64 c) (hn : 0 < n ∧ n ≤ 1000000) (σ : Store) : ACalls Try.prog 55 [intA1 c, intA1 n] σ fun r σ' => σ' = σ ∧ r = intA1 ((if c < 0 then -(c + 1) else c) % n) := by
  unfold I64 at hc
  refine ACalls_of_awp Try.func55 rfl Try.results55 ?_
  simp only [List.length_cons, List.length_nil, Try.ntmps55, Nat.reduceAdd, Nat.reduceSub, enterA]
  (repeat' (first|(refine g_s fun K hK=>?_)|(refine g_b ?_)|(refine g_r ?_)|(refine g_k ?_;simp only[thenQ,blockQ])|(refine g_e ?_;simp only[thenQ,blockQ,↓reduceIte,Nat.reduceEqDiff])|(refine g_c (fun h=>?_) (fun h=>?_)<;>(try simp only[go_sem] at h)<;>(try exact g_f))|((first|refine g_t ?_|refine g_g ?_|refine g_U ?_|refine g_A ?_|refine g_W ?_);(try simp -implicitDefEqProofs only[go_sem]))|(with_reducible refine hK _ _ ?_;clear hK K)|(clear hK K;first|(with_reducible refine hK _ _ ?_;clear hK K)|(clear hK K;with_reducible refine hK _ _ ?_;clear hK K)|(clear hK K;clear hK K;with_reducible refine hK _ _ ?_;clear hK K))|(with_reducible refine splitB_intro (fun h=>?_) (fun h=>?_)<;>(try simp only[go_sem] at h)<;>(try exact g_f)<;>(try simp -implicitDefEqProofs only[go_sem]))|(with_reducible refine And.intro (fun h=>?_) (fun h=>?_)<;>(try simp only[go_sem] at h)<;>(try exact g_f))|(with_reducible refine And.intro ?_ ?_;· exact g_x)|(with_reducible intro h;(try simp only[go_sem] at h);(try exact g_f))))
  · rw [if_pos h, Int.tmod_eq_emod_of_nonneg (by omega)]
    congr 3
    omega
  · rw [if_neg (by omega), Int.tmod_eq_emod_of_nonneg (by omega)]
end Go.Proofs.Ytephecognbbaoab
namespace Go.Proofs.Ytephecognbbaoab
theorem engOk_of {n : Net} (hn : NetIn n) {e : Eng} (he : EngIn n e) (hb : EngB e) : EngOk e := by
  have n6 := hn.n6
  have h1 := he.len
  have h2 := he.bag
  refine ⟨by omega, fun r hr => ?_, by omega, fun m hm => ?_⟩
  · have h := he.rtr r hr
    have h3 := h.rl
    have h4 := h.tl
    refine ⟨by omega, by omega, fun l hl => ?_⟩
    rcases h.tr l hl with rfl | ⟨h5, _⟩
    · exact Nat.zero_le _
    · omega
  · have h := he.mail m hm
    have h3 := h.fr
    have h4 := h.dst
    have h5 := h.len
    exact ⟨by unfold I64; omega, by unfold I64; omega, by omega, hb m hm⟩
theorem tickB {n : Net} (hc : checkN n = 0) {e : Eng} (he : EngIn n e) (hb : EngB e) {a : Int} (ha : 0 ≤ a ∧ a < n.nodes) : EngB (tickE n e a).1 := by
  have hn := netIn_of hc
  have n1 := hn.n1
  unfold tickE
  split
  · exact hb
  · intro m hm
    rcases List.mem_append.1 hm with hm | hm
    · exact hb m hm
    · obtain ⟨k, hk, rfl⟩ := List.mem_map.1 hm
      exact writeL_bytes (mail_ok hn (by rw [lookE_len]; omega) (lookE_in hc (rtr_at he ha) a) ha (hears_mem.1 hk).1)
theorem spoilB {n : Net} {e : Eng} (hb : EngB e) {v : Evt} (h0 : 0 ≤ v.at') (h1 : v.at' < e.bag.length) : EngB (spoilE e v).1 := by
  unfold spoilE
  split
  · exact hb
  · intro m hm
    rcases mem_setG hm with hm | rfl
    · exact hb m hm
    · intro c hcm
      rcases mem_setG hcm with hcm | rfl
      · exact hb _ (at0_mem e.bag h0 h1) c hcm
      · exact xorB_rng _ _
theorem takeB {n : Net} {e : Eng} (hb : EngB e) (m : Mail) : EngB (takeE n e m) := by
  unfold takeE
  split
  · exact hb
  · exact hb
theorem stepB {n : Net} (hc : checkN n = 0) {e : Eng} (he : EngIn n e) (hb : EngB e) (v : Evt) : EngB (stepE n e v).1 := by
  unfold stepE
  split
  · exact hb
  · split
    · split
      · exact hb
      · rename_i h1
        rw [not_inR] at h1
        split
        · exact takeB (fun m hm => hb m (List.mem_of_mem_eraseIdx hm)) _
        · split
          · split
            · exact hb
            · intro m hm
              rcases List.mem_append.1 hm with hm | hm
              · exact hb m hm
              · rw [List.mem_singleton.1 hm]
                exact hb _ (at0_mem e.bag (by omega) (by omega))
          · split
            · exact fun m hm => hb m (List.mem_of_mem_eraseIdx hm)
            · exact spoilB (n := n) hb (by omega) (by omega)
    · split
      · exact hb
      · rename_i h1
        rw [not_inR] at h1
        split
        · exact tickB hc he hb (by omega)
        · split
          · split <;> exact hb
          · split <;> exact hb
end Go.Proofs.Ytephecognbbaoab
namespace Go.Proofs.Ytephecognbbaoab
def chooseA (c n : Int) : Int := (if c < 0 then -(c + 1) else c) % n
theorem choose_in {c n : Int} (hn : 0 < n) : 0 ≤ chooseA c n ∧ chooseA c n < n := ⟨Int.emod_nonneg _ (by omega), Int.emod_lt_of_pos _ hn⟩
theorem stepR_ok {n : Net} {e : Eng} (hc : checkE n e = 0) {v : Evt} {e' : Eng} (h : stepE n e v = (e', 0)) : stepR n e v = (e', 0) := by
  rw [stepR, if_neg (not_not_intro hc), h, if_neg (not_not_intro rfl)]
theorem engineSpoilt_calls (n : Net) (x : Eng) (at' b c : Int) (okn : NetOk n) (ok : EngOk x) (h1 : I64 at') (h2 : I64 b) (h3 : I64 c) (σ : Store) : ACalls Try.prog 13 [.agg (netC n), .agg (engC x), intA1 at', intA1 b, intA1 c] σ fun r σ' => σ' = σ ∧ r = .c (.bool true) := by
  have hEB := engineBegun_calls
  have hC := checkE_calls n x okn ok
  have hxl := ok.bl
  refine ACalls.cutX ?_
  by_cases hc0 : checkE n x = 0
  · rw [hc0] at hC
    obtain ⟨hc, he⟩ := engIn_of hc0
    have hn := netIn_of hc
    have n1 := hn.n1
    have n6 := hn.n6
    have hby : EngB x := fun m hm => (ok.mail m hm).rng
    have hbag := he.bag
    have hA := choose_calls at' n.nodes h1 (by omega)
    obtain ⟨a, ha⟩ : ∃ a, chooseA at' n.nodes = a := ⟨_, rfl⟩
    have har : 0 ≤ a ∧ a < n.nodes := by rw [← ha]; exact choose_in (by omega)
    change ∀ S, ACalls Try.prog _ _ S fun r σ' => σ' = S ∧ r = intA1 (chooseA at' n.nodes) at hA
    rw [ha] at hA
    have hE1 : stepE n x ⟨1, a, 0, 0, []⟩ = tickE n x a := by
      have hT : inR a 0 (n.nodes - 1) = true := inR_iff.2 (by omega)
      unfold stepE
      simp only
      rw [hT]
      rfl
    have hR1 : stepR n x ⟨1, a, 0, 0, []⟩ = if (tickE n x a).2 ≠ 0 then (noE, (tickE n x a).2) else tickE n x a := by
      rw [stepR, if_neg (not_not_intro hc0), hE1]
    have hS1 : ∀ S, ACalls Try.prog 64 [.agg (netC n), .agg (engC x), .agg [intA1 1, intA1 a, intA1 0, intA1 0, .c (.slice none 0 0)]] S fun r σ' => σ' = S ∧ r = .tup [.agg (engC (stepR n x ⟨1, a, 0, 0, []⟩).1), intA1 (stepR n x ⟨1, a, 0, 0, []⟩).2] := fun S => ((estep_calls n x okn ok ⟨1, a, 0, 0, []⟩ (Nat.zero_le _) S).argW (by (repeat' (first | exact Wk.nil | exact Wk.emp | exact WkL.nil | (with_reducible exact Wk.refl _) | refine Wk.agg ?_ | refine Wk.tup ?_ | refine WkL.cons ?_ ?_ | (refine Wk.eq ?_; rfl)))) )
    rw [hR1] at hS1
    by_cases hr : (tickE n x a).2 = 0
    · rw [if_neg (not_not_intro hr), hr] at hS1
      by_cases hne : (tickE n x a).1.bag.length = x.bag.length
      · obtain ⟨Y, hY⟩ : ∃ Y, (tickE n x a).1 = Y := ⟨_, rfl⟩
        rw [hY] at hS1 hne
        refine ACalls_of_awp Try.func13 rfl Try.results13 ?_
        simp only [List.length_cons, List.length_nil, Try.ntmps13, Nat.reduceAdd, Nat.reduceSub, enterA]
        (repeat' (first|(refine g_s fun K hK=>?_)|(refine g_b ?_)|(refine g_r ?_)|(refine g_k ?_;simp only[thenQ,blockQ])|(refine g_e ?_;simp only[thenQ,blockQ,↓reduceIte,Nat.reduceEqDiff])|(refine g_c (fun h=>?_) (fun h=>?_)<;>(try simp only[go_sem] at h)<;>(try exact g_f))|((first|refine g_t ?_|refine g_G ?_|refine g_U ?_|refine g_A ?_|refine (hEB _).use ?_|refine g_q (fun τ=>hEB _) ?_|refine (hC _).use ?_|refine g_q (fun τ=>hC _) ?_|refine (hA _).use ?_|refine g_q (fun τ=>hA _) ?_|refine (hS1 _).use ?_|refine g_q (fun τ=>hS1 _) ?_|refine AWP_drawX tab_mixed (by decide +kernel) ?_|refine AWP_drawZ tab_mixed (by decide +kernel) ?_|refine g_W ?_);(try simp -implicitDefEqProofs only[go_sem,hne]))|(with_reducible refine hK _ _ ?_;clear hK K)|(clear hK K;first|(with_reducible refine hK _ _ ?_;clear hK K)|(clear hK K;with_reducible refine hK _ _ ?_;clear hK K)|(clear hK K;clear hK K;with_reducible refine hK _ _ ?_;clear hK K))|(with_reducible refine splitB_intro (fun h=>?_) (fun h=>?_)<;>(try simp only[go_sem] at h)<;>(try exact g_f)<;>(try simp -implicitDefEqProofs only[go_sem,hne]))|(with_reducible refine And.intro (fun h=>?_) (fun h=>?_)<;>(try simp only[go_sem] at h)<;>(try exact g_f))|(with_reducible refine And.intro ?_ ?_;· exact g_x)|(with_reducible intro h;(try simp only[go_sem] at h);(try exact g_f))))
        all_goals exact CutQ_c rfl rfl
      · obtain ⟨hm1, hm2, hm3⟩ := spoilt hc he har hr hne
        have hYi : EngIn n (tickE n x a).1 := by rw [← hE1]; exact step_in hc he _
        have hYb : EngB (tickE n x a).1 := tickB hc he hby har
        have hge : x.bag.length < (tickE n x a).1.bag.length := by
          apply Classical.byContradiction
          intro hcon
          have hz : at0 (tickE n x a).1.bag (x.bag.length : Int) = default := by simp [at0, List.getD_eq_getElem?_getD, Nat.le_of_not_lt hcon]
          rw [hz] at hm1
          simp only [show (default : Mail).bytes = [] from rfl, List.length_nil] at hm1
          omega
        obtain ⟨Y, hY⟩ : ∃ Y, (tickE n x a).1 = Y := ⟨_, rfl⟩
        rw [hY] at hS1 hm1 hm2 hm3 hYi hYb hge hne
        obtain ⟨m, hm⟩ : ∃ m, at0 Y.bag (x.bag.length : Int) = m := ⟨_, rfl⟩
        rw [hm] at hm1 hm2
        have hA2 := choose_calls b (m.bytes.length : Int) h2 (by omega)
        change ∀ S, ACalls Try.prog _ _ S fun r σ' => σ' = S ∧ r = intA1 (chooseA b m.bytes.length) at hA2
        have hA3 := choose_calls c 255 h3 (by omega)
        change ∀ S, ACalls Try.prog _ _ S fun r σ' => σ' = S ∧ r = intA1 (chooseA c 255) at hA3
        have hbr := choose_in (c := b) (n := m.bytes.length) (by omega)
        have hcr := choose_in (c := c) (n := 255) (by omega)
        obtain ⟨b', hb'⟩ : ∃ b', chooseA b m.bytes.length = b' := ⟨_, rfl⟩
        obtain ⟨c', hc'⟩ : ∃ c', chooseA c 255 = c' := ⟨_, rfl⟩
        rw [hb'] at hA2 hbr
        rw [hc'] at hA3 hcr
        obtain ⟨k1, k2, k3⟩ := hm3 b' (1 + c') hbr.1 (by omega) (by omega) (by omega)
        have hc1 := check_of hc hYi
        have hZi := step_in hc hYi ⟨5, x.bag.length, b', 1 + c', []⟩
        have hZb := stepB hc hYi hYb ⟨5, x.bag.length, b', 1 + c', []⟩
        obtain ⟨Z, hZ⟩ : ∃ Z, stepE n Y ⟨5, x.bag.length, b', 1 + c', []⟩ = (Z, 0) := ⟨(stepE n Y ⟨5, x.bag.length, b', 1 + c', []⟩).1, Prod.ext rfl k1⟩
        rw [hZ] at k2 k3 hZi hZb
        simp only at k2 k3 hZi hZb
        have hc2 := check_of hc hZi
        obtain ⟨U, hU⟩ : ∃ U, stepE n Z ⟨2, x.bag.length, 0, 0, []⟩ = (U, 0) := ⟨(stepE n Z ⟨2, x.bag.length, 0, 0, []⟩).1, Prod.ext rfl k2⟩
        have hUi := step_in hc hZi ⟨2, x.bag.length, 0, 0, []⟩
        rw [hU] at k3 hUi
        simp only at k3 hUi
        have r1 := stepR_ok hc1 hZ
        have r2 := stepR_ok hc2 hU
        have hYo := engOk_of hn hYi hYb
        have hS2 : ∀ S, ACalls Try.prog 64 [.agg (netC n), .agg (engC Y), .agg [intA1 5, intA1 x.bag.length, intA1 b', intA1 (1 + c'), .c (.slice none 0 0)]] S fun r σ' => σ' = S ∧ r = .tup [.agg (engC (stepR n Y ⟨5, x.bag.length, b', 1 + c', []⟩).1), intA1 (stepR n Y ⟨5, x.bag.length, b', 1 + c', []⟩).2] := fun S => ((estep_calls n Y okn hYo ⟨5, x.bag.length, b', 1 + c', []⟩ (Nat.zero_le _) S).argW (by (repeat' (first | exact Wk.nil | exact Wk.emp | exact WkL.nil | (with_reducible exact Wk.refl _) | refine Wk.agg ?_ | refine Wk.tup ?_ | refine WkL.cons ?_ ?_ | (refine Wk.eq ?_; rfl)))) )
        have hS3 : ∀ S, ACalls Try.prog 64 [.agg (netC n), .agg (engC Z), .agg [intA1 2, intA1 x.bag.length, intA1 0, intA1 0, .c (.slice none 0 0)]] S fun r σ' => σ' = S ∧ r = .tup [.agg (engC (stepR n Z ⟨2, x.bag.length, 0, 0, []⟩).1), intA1 (stepR n Z ⟨2, x.bag.length, 0, 0, []⟩).2] := fun S => ((estep_calls n Z okn (engOk_of hn hZi hZb) ⟨2, x.bag.length, 0, 0, []⟩ (Nat.zero_le _) S).argW (by (repeat' (first | exact Wk.nil | exact Wk.emp | exact WkL.nil | (with_reducible exact Wk.refl _) | refine Wk.agg ?_ | refine Wk.tup ?_ | refine WkL.cons ?_ ?_ | (refine Wk.eq ?_; rfl)))) )
        rw [r1] at hS2
        rw [r2] at hS3
        have hSE : ∀ S, ACalls Try.prog 65 [.agg [.sl (Y.routers.map rtrC), .c (.slice none 0 0)], .agg [.sl (Y.routers.map rtrC), .c (.slice none 0 0)]] S fun r σ' => σ' = S ∧ r = .c (.bool true) := fun S => ((sameEngine_calls ⟨Y.routers, []⟩ ⟨hYo.rl, hYo.rtr, Nat.zero_le _, fun m hm => by cases hm⟩ S).argW (by (repeat' (first | exact Wk.nil | exact Wk.emp | exact WkL.nil | (with_reducible exact Wk.refl _) | refine Wk.agg ?_ | refine Wk.tup ?_ | refine WkL.cons ?_ ?_ | (refine Wk.eq ?_; rfl)))) )
        have hgm : (Y.bag.map mailC)[x.bag.length]? = some (mailC m) := by
          have := get_mapG mailC Y.bag (k := (x.bag.length : Int)) (by omega) (by omega)
          rw [hm] at this
          exact this
        have hnei : ((Y.bag.length : Int) = x.bag.length) = False := eq_false (by omega)
        refine ACalls_of_awp Try.func13 rfl Try.results13 ?_
        simp only [List.length_cons, List.length_nil, Try.ntmps13, Nat.reduceAdd, Nat.reduceSub, enterA]
        (repeat' (first|(refine g_s fun K hK=>?_)|(refine g_b ?_)|(refine g_r ?_)|(refine g_k ?_;simp only[thenQ,blockQ])|(refine g_e ?_;simp only[thenQ,blockQ,↓reduceIte,Nat.reduceEqDiff])|(refine g_c (fun h=>?_) (fun h=>?_)<;>(try simp only[go_sem] at h)<;>(try exact g_f))|((first|refine g_t ?_|refine g_G ?_|refine g_U ?_|refine g_A ?_|refine (hEB _).use ?_|refine g_q (fun τ=>hEB _) ?_|refine (hC _).use ?_|refine g_q (fun τ=>hC _) ?_|refine (hA _).use ?_|refine g_q (fun τ=>hA _) ?_|refine (hS1 _).use ?_|refine g_q (fun τ=>hS1 _) ?_|refine (hA2 _).use ?_|refine g_q (fun τ=>hA2 _) ?_|refine (hA3 _).use ?_|refine g_q (fun τ=>hA3 _) ?_|refine (hS2 _).use ?_|refine g_q (fun τ=>hS2 _) ?_|refine (hS3 _).use ?_|refine g_q (fun τ=>hS3 _) ?_|refine (hSE _).use ?_|refine g_q (fun τ=>hSE _) ?_|refine AWP_drawX tab_mixed (by decide +kernel) ?_|refine AWP_drawZ tab_mixed (by decide +kernel) ?_|refine g_W ?_);(try simp -implicitDefEqProofs only[go_sem,hnei, hgm, k3]))|(with_reducible refine hK _ _ ?_;clear hK K)|(clear hK K;first|(with_reducible refine hK _ _ ?_;clear hK K)|(clear hK K;with_reducible refine hK _ _ ?_;clear hK K)|(clear hK K;clear hK K;with_reducible refine hK _ _ ?_;clear hK K))|(with_reducible refine splitB_intro (fun h=>?_) (fun h=>?_)<;>(try simp only[go_sem] at h)<;>(try exact g_f)<;>(try simp -implicitDefEqProofs only[go_sem,hnei, hgm, k3]))|(with_reducible refine And.intro (fun h=>?_) (fun h=>?_)<;>(try simp only[go_sem] at h)<;>(try exact g_f))|(with_reducible refine And.intro ?_ ?_;· exact g_x)|(with_reducible intro h;(try simp only[go_sem] at h);(try exact g_f))))
        all_goals exact CutQ_c rfl rfl
    · rw [if_pos hr] at hS1
      refine ACalls_of_awp Try.func13 rfl Try.results13 ?_
      simp only [List.length_cons, List.length_nil, Try.ntmps13, Nat.reduceAdd, Nat.reduceSub, enterA]
      (repeat' (first|(refine g_s fun K hK=>?_)|(refine g_b ?_)|(refine g_r ?_)|(refine g_k ?_;simp only[thenQ,blockQ])|(refine g_e ?_;simp only[thenQ,blockQ,↓reduceIte,Nat.reduceEqDiff])|(refine g_c (fun h=>?_) (fun h=>?_)<;>(try simp only[go_sem] at h)<;>(try exact g_f))|((first|refine g_t ?_|refine g_G ?_|refine g_U ?_|refine g_A ?_|refine (hEB _).use ?_|refine g_q (fun τ=>hEB _) ?_|refine (hC _).use ?_|refine g_q (fun τ=>hC _) ?_|refine (hA _).use ?_|refine g_q (fun τ=>hA _) ?_|refine (hS1 _).use ?_|refine g_q (fun τ=>hS1 _) ?_|refine AWP_drawX tab_mixed (by decide +kernel) ?_|refine AWP_drawZ tab_mixed (by decide +kernel) ?_|refine g_W ?_);(try simp -implicitDefEqProofs only[go_sem,hr]))|(with_reducible refine hK _ _ ?_;clear hK K)|(clear hK K;first|(with_reducible refine hK _ _ ?_;clear hK K)|(clear hK K;with_reducible refine hK _ _ ?_;clear hK K)|(clear hK K;clear hK K;with_reducible refine hK _ _ ?_;clear hK K))|(with_reducible refine splitB_intro (fun h=>?_) (fun h=>?_)<;>(try simp only[go_sem] at h)<;>(try exact g_f)<;>(try simp -implicitDefEqProofs only[go_sem,hr]))|(with_reducible refine And.intro (fun h=>?_) (fun h=>?_)<;>(try simp only[go_sem] at h)<;>(try exact g_f))|(with_reducible refine And.intro ?_ ?_;· exact g_x)|(with_reducible intro h;(try simp only[go_sem] at h);(try exact g_f))))
      all_goals exact CutQ_c rfl rfl
  · refine ACalls_of_awp Try.func13 rfl Try.results13 ?_
    simp only [List.length_cons, List.length_nil, Try.ntmps13, Nat.reduceAdd, Nat.reduceSub, enterA]
    (repeat' (first|(refine g_s fun K hK=>?_)|(refine g_b ?_)|(refine g_r ?_)|(refine g_k ?_;simp only[thenQ,blockQ])|(refine g_e ?_;simp only[thenQ,blockQ,↓reduceIte,Nat.reduceEqDiff])|(refine g_c (fun h=>?_) (fun h=>?_)<;>(try simp only[go_sem] at h)<;>(try exact g_f))|((first|refine g_t ?_|refine g_G ?_|refine g_U ?_|refine g_A ?_|refine (hEB _).use ?_|refine g_q (fun τ=>hEB _) ?_|refine (hC _).use ?_|refine g_q (fun τ=>hC _) ?_|refine g_W ?_);(try simp -implicitDefEqProofs only[go_sem,hc0]))|(with_reducible refine hK _ _ ?_;clear hK K)|(clear hK K;first|(with_reducible refine hK _ _ ?_;clear hK K)|(clear hK K;with_reducible refine hK _ _ ?_;clear hK K)|(clear hK K;clear hK K;with_reducible refine hK _ _ ?_;clear hK K))|(with_reducible refine splitB_intro (fun h=>?_) (fun h=>?_)<;>(try simp only[go_sem] at h)<;>(try exact g_f)<;>(try simp -implicitDefEqProofs only[go_sem,hc0]))|(with_reducible refine And.intro (fun h=>?_) (fun h=>?_)<;>(try simp only[go_sem] at h)<;>(try exact g_f))|(with_reducible refine And.intro ?_ ?_;· exact g_x)|(with_reducible intro h;(try simp only[go_sem] at h);(try exact g_f))))
    all_goals exact CutQ_c rfl rfl
end Go.Proofs.Ytephecognbbaoab
namespace Go.Proofs.Ytephecognbbaoab
/-- What is known of a broken law that came in. -/
def BrkOk (b : Brk) : Prop := I64 b.law ∧ I64 b.a ∧ I64 b.b ∧ I64 b.c ∧ I64 b.edge
theorem readsRows {W : World} : Reads Try.prog W 27 (fun l : List (List Int) => [rowsC l]) (fun l => l.length ≤ 5864062014634 ∧ ∀ r ∈ l, r.length ≤ 17592186044000) :=
  Reads.map (X := List (List Int)) (fun x => x) (fun _ => rfl) (fun x h => by
      have h1 : x.length * Try.prog.bytesOf 22 ≤ reachBytes := h.2
      have h2 : Try.prog.bytesOf 22 = 24 := by kernel_rfl
      have h3 : reachBytes = 140737488351232 := rfl
      rw [h2, h3] at h1
      refine ⟨by omega, fun r hr => ?_⟩
      have h4 : r.length * Try.prog.bytesOf 3 ≤ reachBytes := (h.1 r hr).2
      have h5 : Try.prog.bytesOf 3 = 8 := by kernel_rfl
      rw [h5, h3] at h4
      omega)
    (Reads.slice Try.underlying27 (k := 1) (by kernel_rfl) (by omega) (fun _ => rfl) (Reads.slice Try.underlying22 (k := 1) (by kernel_rfl) (by omega) (fun _ => rfl) (Reads.int Try.underlying3)))
theorem readsAlg {W : World} : Reads Try.prog W 29 algC AlgOk := by
  have h0 := Reads.struct (P := Try.prog) (W := W) (t := 29) (n := 1 + (1 + (1 + 0))) Try.underlying29 (by kernel_rfl) (ReadsF.cons (k := 1) rfl (by kernel_rfl) (Reads.int Try.underlying3) (ReadsF.cons (k := 1) rfl (by kernel_rfl) readsRows (ReadsF.cons (k := 1) rfl (by kernel_rfl) readsRows ReadsF.nil)))
  refine Reads.map (X := Int × List (List Int) × List (List Int) × Unit) (fun x => (⟨x.1, x.2.1, x.2.2.1⟩ : Alg)) (fun _ => rfl) (fun x h => ?_) h0
  obtain ⟨h1, h2, h3, _⟩ := h
  refine ⟨h2.1, h3.1, h1, fun r hr => ?_⟩
  rcases List.mem_append.1 hr with g | g
  · exact h2.2 r g
  · exact h3.2 r g
end Go.Proofs.Ytephecognbbaoab
namespace Go.Proofs.Ytephecognbbaoab
theorem readsLinks {W : World} : Reads Try.prog W 38 (fun l : List Lnk => [linksV l]) (fun l => l.length ≤ 5864062014634 ∧ ∀ x ∈ l, I64 x.fr ∧ I64 x.dst ∧ I64 x.edge) := by
  have h0 := Reads.struct (P := Try.prog) (W := W) (t := 84) (n := 1 + (1 + (1 + 0))) Try.underlying84 (by kernel_rfl) (ReadsF.cons (k := 1) rfl (by kernel_rfl) (Reads.int Try.underlying3) (ReadsF.cons (k := 1) rfl (by kernel_rfl) (Reads.int Try.underlying3) (ReadsF.cons (k := 1) rfl (by kernel_rfl) (Reads.int Try.underlying3) ReadsF.nil)))
  have h1 : Reads Try.prog W 84 lnkC (fun x => I64 x.fr ∧ I64 x.dst ∧ I64 x.edge) := Reads.map (X := Int × Int × Int × Unit) (fun x => (⟨x.1, x.2.1, x.2.2.1⟩ : Lnk)) (fun _ => rfl) (fun x h => ⟨h.1, h.2.1, h.2.2.1⟩) h0
  have h2 := Reads.slice (P := Try.prog) (W := W) (t := 38) (k := 3) Try.underlying38 (by kernel_rfl) (by omega) (fun _ => rfl) h1
  refine Reads.map (X := List Lnk) (fun x => x) (fun _ => rfl) (fun x h => ⟨?_, h.1⟩) h2
  have h1 : x.length * Try.prog.bytesOf 84 ≤ reachBytes := h.2
  have h2 : Try.prog.bytesOf 84 = 24 := by kernel_rfl
  have h3 : reachBytes = 140737488351232 := rfl
  rw [h2, h3] at h1
  omega
theorem readsNet {W : World} : Reads Try.prog W 40 netC NetOk := by
  have h0 := Reads.struct (P := Try.prog) (W := W) (t := 40) (n := 3 + (1 + (1 + 0))) Try.underlying40 (by kernel_rfl) (ReadsF.cons (k := 3) rfl (by kernel_rfl) readsAlg (ReadsF.cons (k := 1) rfl (by kernel_rfl) (Reads.int Try.underlying3) (ReadsF.cons (k := 1) rfl (by kernel_rfl) readsLinks ReadsF.nil)))
  refine Reads.map (X := Alg × Int × List Lnk × Unit) (fun x => (⟨x.1, x.2.1, x.2.2.1⟩ : Net)) (fun _ => rfl) (fun x h => ?_) h0
  obtain ⟨h1, h2, h3, _⟩ := h
  exact ⟨h1, h2, h3.1, h3.2⟩
theorem readsState {W : World} : Reads Try.prog W 27 (fun l : List (List Int) => [rowsC l]) StOk :=
  Reads.map (X := List (List Int)) (fun x => x) (fun _ => rfl) (fun x h => ⟨h.1, h.2⟩) readsRows
theorem readsInts {W : World} : Reads Try.prog W 22 (fun l : List Int => [intsA l]) (fun l => l.length ≤ 17592186044000) :=
  Reads.map (X := List Int) (fun x => x) (fun _ => rfl) (fun x h => by
      have h4 : x.length * Try.prog.bytesOf 3 ≤ reachBytes := h.2
      have h5 : Try.prog.bytesOf 3 = 8 := by kernel_rfl
      have h3 : reachBytes = 140737488351232 := rfl
      rw [h5, h3] at h4
      omega)
    (Reads.slice Try.underlying22 (k := 1) (by kernel_rfl) (by omega) (fun _ => rfl) (Reads.int Try.underlying3))
end Go.Proofs.Ytephecognbbaoab
namespace Go.Proofs.Ytephecognbbaoab
theorem readsRtr {W : World} : Reads Try.prog W 158 rtrC RtrOk := by
  have h0 := Reads.struct (P := Try.prog) (W := W) (t := 158) (n := 1 + (1 + 0)) Try.underlying158 (by kernel_rfl) (ReadsF.cons (k := 1) rfl (by kernel_rfl) readsInts (ReadsF.cons (k := 1) rfl (by kernel_rfl) readsState ReadsF.nil))
  refine Reads.map (X := List Int × List (List Int) × Unit) (fun x => (⟨x.1, x.2.1⟩ : Rtr)) (fun _ => rfl) (fun x h => ?_) h0
  obtain ⟨h1, h2, _⟩ := h
  exact ⟨h1, h2.len, h2.row⟩
theorem readsMail {W : World} : Reads Try.prog W 107 mailC MailOk := by
  have h0 := Reads.struct (P := Try.prog) (W := W) (t := 107) (n := 1 + (1 + (1 + 0))) Try.underlying107 (by kernel_rfl) (ReadsF.cons (k := 1) rfl (by kernel_rfl) (Reads.int Try.underlying3) (ReadsF.cons (k := 1) rfl (by kernel_rfl) (Reads.int Try.underlying3) (ReadsF.cons (k := 1) rfl (by kernel_rfl) (Reads.string Try.underlying9) ReadsF.nil)))
  refine Reads.map (X := Int × Int × ByteArray × Unit) (fun x => (⟨x.1, x.2.1, numsS x.2.2.1⟩ : Mail)) (fun x => by rw [mailC, str_numsS]; rfl) (fun x h => ?_) h0
  obtain ⟨h1, h2, h3, _⟩ := h
  exact ⟨h1, h2, (by show (numsS x.2.2.1).length ≤ 140737488351232; rw [← numsS_size]; exact h3), numsS_range _⟩
theorem readsEng {W : World} : Reads Try.prog W 100 engC EngOk := by
  have h1 := Reads.slice (P := Try.prog) (W := W) (t := 97) (k := 2) Try.underlying97 (by kernel_rfl) (by omega) (fun _ => rfl) readsRtr
  have h2 := Reads.slice (P := Try.prog) (W := W) (t := 98) (k := 3) Try.underlying98 (by kernel_rfl) (by omega) (fun _ => rfl) readsMail
  have h0 := Reads.struct (P := Try.prog) (W := W) (t := 100) (n := 1 + (1 + 0)) Try.underlying100 (by kernel_rfl) (ReadsF.cons (k := 1) rfl (by kernel_rfl) h1 (ReadsF.cons (k := 1) rfl (by kernel_rfl) h2 ReadsF.nil))
  refine Reads.map (X := List Rtr × List Mail × Unit) (fun x => (⟨x.1, x.2.1⟩ : Eng)) (fun _ => rfl) (fun x h => ?_) h0
  obtain ⟨⟨h3, h4⟩, ⟨h5, h6⟩, _⟩ := h
  have e1 : Try.prog.bytesOf 158 = 48 := by kernel_rfl
  have e2 : Try.prog.bytesOf 107 = 32 := by kernel_rfl
  have e3 : reachBytes = 140737488351232 := rfl
  rw [e1, e3] at h4
  rw [e2, e3] at h6
  exact ⟨by simp only; omega, h3, by simp only; omega, h5⟩
end Go.Proofs.Ytephecognbbaoab
