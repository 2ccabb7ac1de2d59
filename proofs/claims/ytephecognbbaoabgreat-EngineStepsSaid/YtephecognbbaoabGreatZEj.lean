/- What changes in a machine. -/
import Derived.Test.YtephecognbbaoabGreatZEe
import Derived.Test.YtephecognbbaoabGreatZLo
import Derived.Test.YtephecognbbaoabGreatZCo
open Go
set_option linter.all false
set_option maxRecDepth 100000
set_option maxHeartbeats 4000000
namespace Go.Proofs.YtephecognbbaoabGreat
open Go
set_option linter.all false
set_option maxRecDepth 100000
set_option maxHeartbeats 4000000
def Keeps (ρ S : Store) : Prop := ∃ T, S = ρ ++ T
theorem Keeps.app {ρ S τ : Store} (h : Keeps ρ S) : Keeps ρ (S ++ τ) := by
  obtain ⟨T, rfl⟩ := h
  exact ⟨T ++ τ, List.append_assoc ..⟩
theorem Keeps.set {ρ S : Store} {x : Nat} {o : Ob} (h : Keeps ρ S) (hx : ρ.length ≤ x) : Keeps ρ (S.set x o) := by
  obtain ⟨T, rfl⟩ := h
  exact ⟨T.set (x - ρ.length) o, List.set_append_right _ _ hx⟩
theorem Keeps.len {ρ S : Store} (h : Keeps ρ S) : ρ.length ≤ S.length := by
  obtain ⟨T, rfl⟩ := h
  simp
theorem st_app {S τ : Store} {x : Nat} {o : Ob} (h : S[x]? = some o) : (S ++ τ)[x]? = some o := by
  rw [List.getElem?_append_left (List.getElem?_eq_some_iff.1 h).1]
  exact h
theorem st_set {S : Store} {x y : Nat} {o o' : Ob} (h : S[x]? = some o) (hne : y ≠ x) : (S.set y o')[x]? = some o := by
  rw [List.getElem?_set_ne hne]
  exact h
theorem st_setApp {S τ : Store} {x : Nat} {o o' : Ob} (h : S[x]? = some o) : (S ++ τ).set x o' = S.set x o' ++ τ :=
  List.set_append_left _ _ (List.getElem?_eq_some_iff.1 h).1
theorem st_self {S : Store} {x : Nat} {o o' : Ob} (h : S[x]? = some o) : (S.set x o')[x]? = some o' :=
  List.getElem?_set_self (List.getElem?_eq_some_iff.1 h).1
theorem zipW_set {X Y Z : Type} (f : X → Y → Z) : ∀ (i : Nat) (x : X) (y : Y) (l : List X) (l' : List Y), List.zipWith f (l.set i x) (l'.set i y) = (List.zipWith f l l').set i (f x y)
  | _, _, _, [], _ => by simp
  | _, _, _, _ :: _, [] => by simp
  | 0, _, _, _ :: _, _ :: _ => rfl
  | i + 1, x, y, _ :: l, _ :: l' => by simp [zipW_set f i x y l l']
theorem nodup_inj {X : Type} : ∀ {l : List X}, l.Nodup → ∀ (i j : Nat) (hi : i < l.length) (hj : j < l.length), l[i] = l[j] → i = j
  | [], _, i, _, hi, _, _ => absurd hi (Nat.not_lt_zero i)
  | x :: l, h, 0, 0, _, _, _ => rfl
  | x :: l, h, 0, j + 1, hi, hj, e => absurd ((show x = l[j]'(Nat.lt_of_succ_lt_succ hj) from e).symm ▸ List.getElem_mem (Nat.lt_of_succ_lt_succ hj) : x ∈ l) (List.nodup_cons.1 h).1
  | x :: l, h, i + 1, 0, hi, hj, e => absurd ((show l[i]'(Nat.lt_of_succ_lt_succ hi) = x from e) ▸ List.getElem_mem (Nat.lt_of_succ_lt_succ hi) : x ∈ l) (List.nodup_cons.1 h).1
  | x :: l, h, i + 1, j + 1, hi, hj, e => by
    rw [nodup_inj (List.nodup_cons.1 h).2 i j (Nat.lt_of_succ_lt_succ hi) (Nat.lt_of_succ_lt_succ hj) e]
theorem tabR_known : knownT Tryz.prog 121 = true := by kernel_rfl
theorem tabR_agg : aggSize Tryz.prog 121 = none := by kernel_rfl
theorem tabR_info : (Tryz.prog.info? 121).isSome = true := by kernel_rfl
theorem tabR_cells : Tryz.prog.cellsOf 121 = 1 := by kernel_rfl
theorem tabR_bytes : Tryz.prog.bytesOf 121 = 8 := by kernel_rfl
theorem tabR_zero : zeroA Tryz.prog 121 = some [.c (.pointer none)] := by kernel_rfl
attribute [go_sem] Tryz.underlying121 tabR_known tabR_agg tabR_info tabR_cells tabR_bytes tabR_zero
section
variable {S : Store} {lo b : Nat} {n : Net} {e : Eng} {rb : Nat} {tb : List Nat} {gv : AV} {gi : List Nat}
theorem BagAt.app {bag : List Mail} {τ : Store} (h : BagAt S gv bag gi) : BagAt (S ++ τ) gv bag gi := by
  rcases h with ⟨h1, h2, h3⟩ | ⟨gb, rest, h1, h2, h3, h4, h5⟩
  · exact .inl ⟨h1, h2, h3⟩
  · exact .inr ⟨gb, rest, h1, h2, st_app h3, h4, h5⟩
theorem BagAt.set {bag : List Mail} {x : Nat} {o : Ob} (h : BagAt S gv bag gi) (hx : x ∉ gi) : BagAt (S.set x o) gv bag gi := by
  rcases h with ⟨h1, h2, h3⟩ | ⟨gb, rest, h1, h2, h3, h4, h5⟩
  · exact .inl ⟨h1, h2, h3⟩
  · exact .inr ⟨gb, rest, h1, h2, st_set h3 (fun e => hx (by rw [h1, e]; simp)), h4, h5⟩
theorem MachW.app {τ : Store} (h : MachW S lo b n e rb tb gv gi) : MachW (S ++ τ) lo b n e rb tb gv gi :=
  ⟨st_app h.hb, st_app h.hrb, h.tl, fun i h1 h2 => st_app (h.ht i h1 h2), h.bag.app, h.nd, h.lo⟩
theorem MachW.ne (h : MachW S lo b n e rb tb gv gi) : b ≠ rb ∧ b ∉ tb ∧ b ∉ gi ∧ rb ∉ tb ∧ rb ∉ gi ∧ tb.Nodup ∧ gi.Nodup ∧ ∀ x ∈ tb, x ∉ gi := by
  have := h.nd
  rw [List.nodup_cons, List.nodup_cons, List.nodup_append] at this
  simp only [List.mem_cons, List.mem_append, not_or] at this
  obtain ⟨⟨h1, h2, h3⟩, ⟨h4, h5⟩, h6, h7, h8⟩ := this
  exact ⟨h1, h2, h3, h4, h5, h6, h7, fun x hx hg => h8 x hx x hg rfl⟩
theorem MachW.row (h : MachW S lo b n e rb tb gv gi) {i : Int} (h0 : 0 ≤ i) (h1 : i < e.routers.length) : ∃ t, tb[i.toNat]? = some t ∧ t ∈ tb ∧ (List.zipWith rtrV e.routers tb)[i.toNat]? = some (rtrV (at0 e.routers i) t) ∧ S[t]? = some (.cells 1 ((at0 e.routers i).told.map rowC)) := by
  have hi : i.toNat < e.routers.length := by omega
  have hi2 : i.toNat < tb.length := by rw [h.tl]; exact hi
  have e1 : at0 e.routers i = e.routers[i.toNat] := by simp [at0, List.getD_eq_getElem?_getD, hi]
  refine ⟨tb[i.toNat], List.getElem?_eq_getElem hi2, List.getElem_mem hi2, ?_, ?_⟩
  · rw [List.getElem?_zipWith, List.getElem?_eq_getElem hi, List.getElem?_eq_getElem hi2, e1]
  · rw [e1]
    exact h.ht _ hi2 hi
/-- A router's routes are changed. -/
theorem MachW.routes (h : MachW S lo b n e rb tb gv gi) {i : Int} {t : Nat} (h0 : 0 ≤ i) (h1 : i < e.routers.length) (ht : tb[i.toNat]? = some t) (r' : Rtr) (hr : r'.told = (at0 e.routers i).told) :
    MachW (S.set rb (.cells 2 ((List.zipWith rtrV e.routers tb).set i.toNat (rtrV r' t)))) lo b n (setR e i r') rb tb gv gi := by
  obtain ⟨n1, n2, n3, n4, n5, n6, n7, n8⟩ := h.ne
  have hi : i.toNat < e.routers.length := by omega
  have hi2 : i.toNat < tb.length := by rw [h.tl]; exact hi
  have e1 : at0 e.routers i = e.routers[i.toNat] := by simp [at0, List.getD_eq_getElem?_getD, hi]
  refine ⟨?_, ?_, ?_, fun k h2 h3 => ?_, h.bag.set n5, h.nd, h.lo⟩
  · rw [setR, List.length_set]
    exact st_set h.hb n1.symm
  · rw [st_self h.hrb, setR]
    congr 2
    have : tb = tb.set i.toNat t := by
      have := (List.getElem?_eq_some_iff.1 ht).2
      rw [← this, List.set_getElem_self]
    conv => rhs; rw [this]
    exact (zipW_set rtrV i.toNat r' t e.routers tb).symm
  · rw [setR, List.length_set]
    exact h.tl
  · have h3' : k < e.routers.length := by simpa [setR] using h3
    have := h.ht k h2 h3'
    have e2 : (setR e i r').routers[k].told = e.routers[k].told := by
      simp only [setR, List.getElem_set]
      split
      · rename_i e; subst e; rw [hr, e1]
      · rfl
    rw [e2]
    exact st_set this (fun e => n4 (by rw [e]; exact List.getElem_mem h2))
/-- A router's told rows are changed. -/
theorem MachW.told (h : MachW S lo b n e rb tb gv gi) {i : Int} {t : Nat} (h0 : 0 ≤ i) (h1 : i < e.routers.length) (ht : tb[i.toNat]? = some t) (told : List (List Int)) (hl : told.length = (at0 e.routers i).told.length) :
    MachW (S.set t (.cells 1 (told.map rowC))) lo b n (setR e i ⟨(at0 e.routers i).routes, told⟩) rb tb gv gi := by
  obtain ⟨n1, n2, n3, n4, n5, n6, n7, n8⟩ := h.ne
  have hi : i.toNat < e.routers.length := by omega
  have hi2 : i.toNat < tb.length := by rw [h.tl]; exact hi
  have htm : t ∈ tb := List.mem_of_getElem? ht
  have e1 : at0 e.routers i = e.routers[i.toNat] := by simp [at0, List.getD_eq_getElem?_getD, hi]
  refine ⟨?_, ?_, ?_, fun k h2 h3 => ?_, h.bag.set (n8 t htm), h.nd, h.lo⟩
  · rw [setR, List.length_set]
    exact st_set h.hb (fun e => n2 (e ▸ htm))
  · rw [st_set h.hrb (fun e => n4 (e ▸ htm)), setR]
    congr 2
    have : tb = tb.set i.toNat t := by
      have := (List.getElem?_eq_some_iff.1 ht).2
      rw [← this, List.set_getElem_self]
    conv => rhs; rw [this]
    rw [zipW_set]
    refine (List.ext_getElem? fun k => ?_).symm
    rw [List.getElem?_set]
    split
    · rename_i hk
      subst hk
      obtain ⟨t', h5, _, h6, _⟩ := h.row h0 h1
      rw [ht] at h5
      cases h5
      rw [h6]
      split
      · rw [rtrV, rtrV, hl]
      · rename_i h7
        rw [List.length_zipWith] at h7
        omega
    · rfl
  · rw [setR, List.length_set]
    exact h.tl
  · have h3' : k < e.routers.length := by simpa [setR] using h3
    have := h.ht k h2 h3'
    by_cases hk : i.toNat = k
    · subst hk
      have e2 : (setR e i ⟨(at0 e.routers i).routes, told⟩).routers[i.toNat].told = told := by simp [setR]
      have e3 : tb[i.toNat] = t := (List.getElem?_eq_some_iff.1 ht).2
      rw [e2, e3]
      rw [e3] at this
      exact st_self this
    · have e2 : (setR e i ⟨(at0 e.routers i).routes, told⟩).routers[k].told = e.routers[k].told := by
        simp only [setR, List.getElem_set]
        rw [if_neg hk]
      rw [e2]
      refine st_set this fun e => hk ?_
      have h4 := (List.getElem?_eq_some_iff.1 ht).2
      rw [← h4] at e
      exact nodup_inj n6 _ _ _ _ e
/-- Another bag. -/
theorem MachW.bagged (h : MachW S lo b n e rb tb gv gi) {gv' : AV} {gi' : List Nat} {bag : List Mail} {S' : Store} (hb : S'[b]? = some (.cells 7 [netC n ++ [.own rb 2 0 e.routers.length e.routers.length, gv']]))
    (hs : ∀ x ∈ rb :: tb, S'[x]? = S[x]?) (hbag : BagAt S' gv' bag gi') (hn : gi'.Nodup) (hg : ∀ x ∈ gi', x ∉ b :: rb :: tb ∧ lo ≤ x) : MachW S' lo b n ⟨e.routers, bag⟩ rb tb gv' gi' := by
  obtain ⟨n1, n2, n3, n4, n5, n6, n7, n8⟩ := h.ne
  refine ⟨hb, ?_, h.tl, fun k h2 h3 => ?_, hbag, ?_, ?_⟩
  · rw [hs rb (by simp)]
    exact h.hrb
  · rw [hs _ (List.mem_cons_of_mem _ (List.getElem_mem h2))]
    exact h.ht k h2 h3
  · rw [List.nodup_cons, List.nodup_cons, List.nodup_append]
    simp only [List.mem_cons, List.mem_append, not_or]
    have hg' : ∀ x ∈ gi', x ≠ b ∧ x ≠ rb ∧ x ∉ tb := fun x hx => by
      have := (hg x hx).1
      simpa [not_or] using this
    exact ⟨⟨n1, n2, fun hc => (hg' b hc).1 rfl⟩, ⟨n4, fun hc => (hg' rb hc).2.1 rfl⟩, n6, hn, fun x hx y hy e => (hg' y hy).2.2 (e ▸ hx)⟩
  · intro x hx
    simp only [List.mem_cons, List.mem_append] at hx
    rcases hx with rfl | rfl | hx | hx
    · exact h.lo _ (by simp)
    · exact h.lo _ (by simp)
    · exact h.lo _ (by simp [hx])
    · exact (hg x hx).2
end
def MachK (ρ S : Store) (b : Nat) (n : Net) (e : Eng) : Prop := Keeps ρ S ∧ Mach S ρ.length b n e
theorem elook_calls (n : Net) (e : Eng) (hc : checkN n = 0) (hl : n.links.length ≤ 5864062014634) (he : EngIn n e) (ρ S : Store) (b : Nat) (hS : MachK ρ S b n e) (i : Int) (h0 : 0 ≤ i) (h1 : i < n.nodes) :
    ACalls Tryz.prog 67 [.ptr b 7 0 0, intA1 i] S fun r S' => MachK ρ S' b n (lookedE n e i) ∧ r = .tup [] := by
  obtain ⟨hK0, rb, tb, gv, gi, M⟩ := hS
  have hn := netIn_of hc
  have n6 := hn.n6
  have hel := he.len
  have hir : i < e.routers.length := by omega
  obtain ⟨t, ht1, ht2, hR, ht3⟩ := M.row h0 hir
  have hr := rtr_at he ⟨h0, h1⟩
  have hHH : ∀ k j, 0 ≤ k → k < n.nodes → 0 ≤ j → j < n.nodes → 0 ≤ toldAt n (at0 e.routers i) k j ∧ toldAt n (at0 e.routers i) k j < n.alg.size := fun k j a b c d => toldAt_in hn hr ⟨a, b⟩ ⟨c, d⟩
  have hlk := fun τ => look_calls n i (fun k j => toldAt n (at0 e.routers i) k j) 83 [.cp [.ptr rb 2 i.toNat 0] 0, .cp [.ptr b 7 0 0] 0] ((S ++ [.dead, .dead]) ++ τ) hn hl h0 h1 (by kernel_rfl) hHH (fun k j a b c d S' hS' => by
    obtain ⟨τ', rfl⟩ := hS'
    rw [List.append_assoc, List.append_assoc]
    exact elook1_calls n (at0 e.routers i) S _ rb t i.toNat _ gv _ _ hn hr M.hb M.hrb hR ht3 k j a b c d ([.dead, .dead] ++ (τ ++ τ')))
  have hbL : ∀ τ, (S ++ τ)[b]? = some (.cells 7 [netC n ++ [.own rb 2 0 e.routers.length e.routers.length, gv]]) := fun τ => st_app M.hb
  have hrL : ∀ τ, (S ++ τ)[rb]? = some (.cells 2 (List.zipWith rtrV e.routers tb)) := fun τ => st_app M.hrb
  have hrS : ∀ τ o, (S ++ τ).set rb o = S.set rb o ++ τ := fun τ o => st_setApp M.hrb
  have hzl : (List.zipWith rtrV e.routers tb).length = e.routers.length := by rw [List.length_zipWith, M.tl, Nat.min_self]
  refine ACalls_of_awp Tryz.func67 rfl Tryz.results67 ?_
  simp only [List.length_cons, List.length_nil, Tryz.ntmps67, Nat.reduceAdd, Nat.reduceSub, enterA]
  refine AWP_seq_k fun K hK => ?_
  (refine AWP_region ?_; simp -implicitDefEqProofs only [go_sem])
  refine hK _ _ ?_; clear hK K
  refine AWP_freezeP 2 rfl (by simp only [st0]; rfl) ?_
  simp only [ss0, List.set_cons_zero]
  refine AWP_seq_k fun K hK => ?_
  (refine AWP_region ?_; simp -implicitDefEqProofs only [go_sem, hbL, hrL])
  refine ⟨h0, hir, ?_⟩
  refine hK _ _ ?_; clear hK K
  refine AWP_freezeP 4 rfl (by simp only [st1]; rfl) ?_
  simp only [ss1, List.set_cons_zero, List.set_cons_succ]
  (repeat' (first|((first|refine g_U ?_|refine g_q hlk ?_);(try simp -implicitDefEqProofs only[go_sem,hbL, hrL, hrS, hR, hzl]))|fail))
  exact ⟨(hK0.set (M.lo rb (by simp))).app, rb, tb, gv, gi, (M.routes h0 hir ht1 (lookedR n (at0 e.routers i) i) rfl).app⟩
end Go.Proofs.YtephecognbbaoabGreat
namespace Go.Proofs.YtephecognbbaoabGreat
theorem BagAt.len {S : Store} {gv : AV} {bag : List Mail} {gi : List Nat} (h : BagAt S gv bag gi) : lenA gv = some bag.length := by
  rcases h with ⟨h1, h2, h3⟩ | ⟨gb, rest, h1, h2, h3, h4, h5⟩
  · subst h3; subst h1; rfl
  · subst h2; rfl
theorem MachW.lt {S : Store} {lo b : Nat} {n : Net} {e : Eng} {rb : Nat} {tb : List Nat} {gv : AV} {gi : List Nat} (h : MachW S lo b n e rb tb gv gi) : ∀ x ∈ b :: rb :: tb, x < S.length := fun x hx => by
  rcases List.mem_cons.1 hx with rfl | hx
  · exact (List.getElem?_eq_some_iff.1 h.hb).1
  · rcases List.mem_cons.1 hx with rfl | hx
    · exact (List.getElem?_eq_some_iff.1 h.hrb).1
    · obtain ⟨k, hk, rfl⟩ := List.mem_iff_getElem.1 hx
      exact (List.getElem?_eq_some_iff.1 (h.ht k hk (by have := h.tl; omega))).1
theorem MachW.push_nil {S : Store} {lo b : Nat} {n : Net} {R : List Rtr} {bag : List Mail} {rb : Nat} {tb : List Nat} {gv : AV} {gi : List Nat} (h : MachW S lo b n ⟨R, bag⟩ rb tb gv gi) (hlo : lo ≤ S.length) (hb : bag = []) (m : Mail) :
    MachW (S.set b (.cells 7 [netC n ++ [.own rb 2 0 R.length R.length, .own S.length 3 0 1 1]]) ++ [.cells 3 [mailC m]]) lo b n ⟨R, [m]⟩ rb tb (.own S.length 3 0 1 1) [S.length] := by
  obtain ⟨n1, n2, n3, n4, n5, n6, n7, n8⟩ := h.ne
  have hlt := h.lt
  refine h.bagged (st_app (st_self h.hb)) (fun x hx => ?_) (.inr ⟨S.length, [], rfl, rfl, ?_, fun _ h => absurd h List.not_mem_nil, by simp⟩) (by simp) (fun x hx => ?_)
  · rw [List.getElem?_append_left (by rw [List.length_set]; exact hlt x (List.mem_cons_of_mem _ hx)), List.getElem?_set_ne]
    rcases List.mem_cons.1 hx with rfl | hx
    · exact n1
    · exact fun e => n2 (e ▸ hx)
  · rw [List.getElem?_append_right (by simp)]
    simp
  · rw [List.mem_singleton.1 hx]
    exact ⟨fun hc => absurd (hlt _ hc) (Nat.lt_irrefl _), hlo⟩
theorem MachW.push_own {S : Store} {lo b : Nat} {n : Net} {R : List Rtr} {bag : List Mail} {rb : Nat} {tb : List Nat} {gb c : Nat} (h : MachW S lo b n ⟨R, bag⟩ rb tb (.own gb 3 0 bag.length c) [gb]) (hlo : lo ≤ S.length) (m : Mail) (hl : bag.length + 1 ≤ 120) :
    MachW ((S.set gb .dead).set b (.cells 7 [netC n ++ [.own rb 2 0 R.length R.length, .own S.length 3 0 (bag.length + 1) (bag.length + 1)]]) ++ [.cells 3 (bag.map mailC ++ [mailC m])]) lo b n ⟨R, bag ++ [m]⟩ rb tb (.own S.length 3 0 (bag.length + 1) (bag.length + 1)) [S.length] := by
  obtain ⟨n1, n2, n3, n4, n5, n6, n7, n8⟩ := h.ne
  have hlt := h.lt
  have hgb : gb ≠ b := fun e => n3 (by rw [e]; simp)
  refine h.bagged (st_app (st_self (st_set h.hb hgb))) (fun x hx => ?_) (.inr ⟨S.length, [], rfl, by simp, ?_, fun _ h => absurd h List.not_mem_nil, by simpa using hl⟩) (by simp) (fun x hx => ?_)
  · rw [List.getElem?_append_left (by simp only [List.length_set]; exact hlt x (List.mem_cons_of_mem _ hx)), List.getElem?_set_ne, List.getElem?_set_ne]
    · rcases List.mem_cons.1 hx with rfl | hx
      · exact fun e => n5 (by rw [e]; simp)
      · exact fun e => n8 x hx (by rw [e]; simp)
    · rcases List.mem_cons.1 hx with rfl | hx
      · exact n1
      · exact fun e => n2 (e ▸ hx)
  · rw [List.getElem?_append_right (by simp)]
    simp
  · rw [List.mem_singleton.1 hx]
    exact ⟨fun hc => absurd (hlt _ hc) (Nat.lt_irrefl _), hlo⟩
theorem MachW.bag_in {S : Store} {lo b : Nat} {n : Net} {R : List Rtr} {bag : List Mail} {rb : Nat} {tb : List Nat} {gv : AV} {gb : Nat} (h : MachW S lo b n ⟨R, bag⟩ rb tb gv [gb]) (bag' : List Mail) (rest : List (List AV)) (hl : bag'.length + rest.length ≤ 120) (hr : ∀ e ∈ rest, e.length = 3 ∧ e.all oneA = true) (hg : ∃ o, S[gb]? = some o) :
    MachW ((S.set gb (.cells 3 (bag'.map mailC ++ rest))).set b (.cells 7 [netC n ++ [.own rb 2 0 R.length R.length, .own gb 3 0 bag'.length (bag'.length + rest.length)]])) lo b n ⟨R, bag'⟩ rb tb (.own gb 3 0 bag'.length (bag'.length + rest.length)) [gb] := by
  obtain ⟨n1, n2, n3, n4, n5, n6, n7, n8⟩ := h.ne
  have hgb : gb ≠ b := fun e => n3 (by rw [e]; simp)
  obtain ⟨o, hg⟩ := hg
  refine h.bagged (st_self (st_set h.hb hgb)) (fun x hx => ?_) (.inr ⟨gb, rest, rfl, rfl, st_set (st_self hg) (Ne.symm hgb), hr, hl⟩) (by simp) (fun x hx => ?_)
  · rw [List.getElem?_set_ne, List.getElem?_set_ne]
    · rcases List.mem_cons.1 hx with rfl | hx
      · exact fun e => n5 (by rw [e]; simp)
      · exact fun e => n8 x hx (by rw [e]; simp)
    · rcases List.mem_cons.1 hx with rfl | hx
      · exact n1
      · exact fun e => n2 (e ▸ hx)
  · rw [List.mem_singleton.1 hx]
    refine ⟨?_, h.lo _ (by simp)⟩
    simp only [List.mem_cons, not_or]
    exact ⟨hgb, fun e => n5 (by rw [e]; simp), fun e => n8 _ e (by simp)⟩
theorem MachW.push_in {S : Store} {lo b : Nat} {n : Net} {R : List Rtr} {bag : List Mail} {rb : Nat} {tb : List Nat} {gv : AV} {gb : Nat} (h : MachW S lo b n ⟨R, bag⟩ rb tb gv [gb]) (m : Mail) (rest : List (List AV)) (hl : bag.length + (rest.length + 1) ≤ 120) (hr : ∀ e ∈ rest, e.length = 3 ∧ e.all oneA = true) (hg : ∃ o, S[gb]? = some o) :
    MachW ((S.set gb (.cells 3 (bag.map mailC ++ mailC m :: rest))).set b (.cells 7 [netC n ++ [.own rb 2 0 R.length R.length, .own gb 3 0 (bag.length + 1) (bag.length + (rest.length + 1))]])) lo b n ⟨R, bag ++ [m]⟩ rb tb (.own gb 3 0 (bag.length + 1) (bag.length + (rest.length + 1))) [gb] := by
  have e1 : (bag ++ [m]).length = bag.length + 1 := by simp
  have := h.bag_in (bag ++ [m]) rest (by rw [e1]; omega) hr hg
  rw [e1, List.map_append, List.append_assoc, show bag.length + 1 + rest.length = bag.length + (rest.length + 1) by omega] at this
  exact this
theorem tick_calls (n : Net) (e : Eng) (hc : checkN n = 0) (hl : n.links.length ≤ 5864062014634) (he : EngIn n e) (ρ S : Store) (b : Nat) (hS : MachK ρ S b n e) (i : Int) (h0 : 0 ≤ i) (h1 : i < n.nodes) :
    ACalls Tryz.prog 40 [.ptr b 7 0 0, intA1 i] S fun r S' => MachK ρ S' b n (tickE n e i).1 ∧ r = intA1 (tickE n e i).2 := by
  have hn := netIn_of hc
  have n1 := hn.n1
  have n6 := hn.n6
  have hel := he.len
  have hir : i < e.routers.length := by omega
  have hbag := he.bag
  have hHl := hears_len hn i
  have hLK := elook_calls n e hc hl he ρ S b hS i h0 h1
  have hS0 := hS
  obtain ⟨hK0, rb, tb, gv, gi, M⟩ := hS
  have hH := hears_calls n i S b _ gv hc hl M.hb
  have hb := M.hb
  have hlen := M.bag.len
  unfold tickE
  obtain ⟨H, hHe⟩ : ∃ H, hearsA n i = H := ⟨_, rfl⟩
  have hHin : ∀ k ∈ H, 0 ≤ k ∧ k < n.nodes := fun k hk => (hears_mem.1 (by rw [hHe]; exact hk)).1
  rw [hHe] at hHl hH ⊢
  obtain ⟨Lk, hLk⟩ : ∃ Lk, lookE n (at0 e.routers i) i = Lk := ⟨_, rfl⟩
  obtain ⟨R, hR⟩ : ∃ R, (lookedE n e i).routers = R := ⟨_, rfl⟩
  rw [hLk, hR]
  have hgl : ∃ a c, (gv = .c (.slice none 0 0) ∧ e.bag.length = 0) ∨ (gv = .own a 3 0 e.bag.length c ∧ e.bag.length = e.bag.length) := by
    rcases M.bag with ⟨h1, h2, h3⟩ | ⟨gb, rest, h1, h2, h3, h4, h5⟩
    · exact ⟨0, 0, .inl ⟨h3, by rw [h1]; rfl⟩⟩
    · exact ⟨gb, _, .inr ⟨h2, rfl⟩⟩
  clear M hlen
  obtain ⟨a, c, ⟨rfl, hq⟩ | ⟨rfl, hq⟩⟩ := hgl
  all_goals by_cases hbig : 120 < e.bag.length + H.length
  · omega
  rotate_left 1
  · rw [if_pos hbig]
    refine ACalls_of_awp Tryz.func40 rfl Tryz.results40 ?_
    simp only [List.length_cons, List.length_nil, Tryz.ntmps40, Nat.reduceAdd, Nat.reduceSub, enterA]
    (repeat' (first|(refine g_s fun K hK=>?_)|(refine g_c (fun h=>?_) (fun h=>?_)<;>(try simp only[go_sem] at h)<;>(try exact g_f))|((first|refine g_t ?_|refine g_g ?_|refine (hH).use ?_);(try simp -implicitDefEqProofs only[go_sem,hb]))|(with_reducible refine hK _ _ ?_;clear hK K)|(with_reducible refine And.intro ?_ ?_;· exact g_x)|fail))
    exact hS0
  all_goals
    rw [if_neg hbig]
    refine ACalls_of_awp Tryz.func40 rfl Tryz.results40 ?_
    simp only [List.length_cons, List.length_nil, Tryz.ntmps40, Nat.reduceAdd, Nat.reduceSub, enterA]
    (repeat' (first|(refine g_s fun K hK=>?_)|(refine g_k ?_;simp only[thenQ,blockQ])|(refine g_c (fun h=>?_) (fun h=>?_)<;>(try simp only[go_sem] at h)<;>(try exact g_f))|((first|refine g_g ?_|refine (hH).use ?_);(try simp -implicitDefEqProofs only[go_sem,hb]))|(with_reducible refine hK _ _ ?_;clear hK K)|(with_reducible refine And.intro ?_ ?_;· exact g_x)|fail))
    refine hLK.mono ?_
    clear hb hH hLK
    rintro r S1 ⟨⟨hK1, rb1, tb1, gv1, gi1, M1⟩, rfl⟩
    have hRl : R.length = e.routers.length := by rw [← hR]; simp [lookedE, setR]
    have hRi : (at0 R i).routes = Lk := by
      rw [← hR, ← hLk]
      simp only [lookedE, setR]
      rw [at0_setG _ _ h0 h0 hir, if_pos rfl]
      rfl
    have hLl : Lk.length ≤ 6 := by rw [← hLk, lookE_len]; omega
    have hEb : (lookedE n e i).bag = e.bag := rfl
    have M2 : MachW S1 ρ.length b n ⟨R, e.bag⟩ rb1 tb1 gv1 gi1 := by rw [← hR]; exact M1
    clear M1
    (repeat' (first|(refine g_s fun K hK=>?_)|(refine g_b ?_)|(refine g_g ?_;(try simp -implicitDefEqProofs only[go_sem]))|(with_reducible refine hK _ _ ?_;clear hK K)|fail))
    have hJ := hK
    clear hK
    refine AWP_each H (fun k r (s : Store × AV × List Nat × List Mail) => Keeps ρ s.1 ∧ MachW s.1 ρ.length b n ⟨R, s.2.2.2⟩ rb1 tb1 s.2.1 s.2.2.1 ∧ s.2.2.2 ++ r.map (mailA Lk i) = e.bag ++ H.map (mailA Lk i)) (fun k _ _ => [(28, intA1 k)]) (fun _ s _ => s.1) (S1, gv1, gi1, e.bag) [] ⟨hK1, M2, rfl⟩ rfl (ALe_of ?_) ?_ ?_
    · simp -implicitDefEqProofs only [go_sem]
    · rintro k r ⟨S2, gv2, gi2, bag⟩ τ hk0 hk1 ⟨hK2, M3, h5⟩ L hL
      simp only at hK2 M3 h5
      obtain ⟨w, hw⟩ : ∃ w, at0 H k = w := ⟨_, rfl⟩
      rw [hw] at h5
      have hwr := write_calls ⟨i, w, Lk⟩ (by simp only; omega)
      have hbl : bag.length + 1 ≤ 120 := by
        have := congrArg List.length h5
        simp at this
        omega
      have hb := M3.hb
      have hrb := M3.hrb
      have hlen := M3.bag.len
      obtain ⟨t, ht1, ht2, hRr, ht3⟩ := M3.row h0 (by simp only; omega)
      simp only at hRr
      rw [rtrV, hRi] at hRr
      have hzl : (List.zipWith rtrV R tb1).length = R.length := by have := M3.tl; simp only at this; rw [List.length_zipWith, this, Nat.min_self]
      have hmk : mailA Lk i w = ⟨i, w, (writeL ⟨i, w, Lk⟩).1⟩ := rfl
      have hbL : ∀ τ, (S2 ++ τ)[b]? = some (.cells 7 [netC n ++ [.own rb1 2 0 R.length R.length, gv2]]) := fun τ => st_app hb
      have hbS : ∀ τ o, (S2 ++ τ).set b o = S2.set b o ++ τ := fun τ o => st_setApp hb
      rcases M3.bag with ⟨hb1, rfl, rfl⟩ | ⟨gb, rest, rfl, rfl, hb3, hb4, hb5⟩
      · have h6 : [mailA Lk i w] ++ r.map (mailA Lk i) = e.bag ++ H.map (mailA Lk i) := by
          have hb1 : bag = [] := hb1
          rw [hb1] at h5
          exact h5
        simp -implicitDefEqProofs only [go_sem]
        (repeat' (first|(refine g_s fun K hK=>?_)|(refine g_b ?_)|(refine g_k ?_;simp only[thenQ,blockQ])|(refine g_c (fun h=>?_) (fun h=>?_)<;>(try simp only[go_sem] at h)<;>(try exact g_f))|((first|refine g_G ?_|refine (hwr _).use ?_);(try simp -implicitDefEqProofs only[go_sem,hb, hrb, hRr, hzl, hw, hbL, hbS]))|(with_reducible refine hK _ _ ?_;clear hK K)|(with_reducible refine And.intro ?_ ?_;· exact g_x)|fail))
        refine hL (_, .own S2.length 3 0 1 1, [S2.length], [mailA Lk i w]) [] _ _ ⟨(hK2.set (M3.lo b (by simp))).app, ?_, h6⟩ (ALe_of ?_) rfl
        · exact M3.push_nil hK2.len hb1 (mailA Lk i w)
        · simp -implicitDefEqProofs only [go_sem]
      · have hne := M3.ne
        have hgb : gb ≠ b := fun e => hne.2.2.1 (by rw [e]; simp)
        have hbG : ∀ o, (S2.set gb o)[b]? = some (.cells 7 [netC n ++ [.own rb1 2 0 R.length R.length, .own gb 3 0 bag.length (bag.length + rest.length)]]) := fun o => st_set hb hgb
        have hbD : ∀ o τ, (S2.set gb o ++ τ)[b]? = some (.cells 7 [netC n ++ [.own rb1 2 0 R.length R.length, .own gb 3 0 bag.length (bag.length + rest.length)]]) := fun o τ => st_app (hbG o)
        have hbE : ∀ o τ o', (S2.set gb o ++ τ).set b o' = (S2.set gb o).set b o' ++ τ := fun o τ o' => st_setApp (hbG o)
        rcases rest with _ | ⟨x, rest⟩
        · rw [List.append_nil] at hb3
          simp -implicitDefEqProofs only [go_sem]
          (repeat' (first|(refine g_s fun K hK=>?_)|(refine g_b ?_)|(refine g_k ?_;simp only[thenQ,blockQ])|(refine g_c (fun h=>?_) (fun h=>?_)<;>(try simp only[go_sem] at h)<;>(try exact g_f))|((first|refine g_G ?_|refine (hwr _).use ?_);(try simp -implicitDefEqProofs only[go_sem,hb, hrb, hRr, hzl, hw, hb3, hbD, hbE]))|(with_reducible refine hK _ _ ?_;clear hK K)|(with_reducible refine And.intro (fun h=>?_) (fun h=>?_)<;>(try simp only[go_sem] at h)<;>(try exact g_f))|(with_reducible refine And.intro ?_ ?_;· exact g_x)|fail))
          refine hL (_, .own S2.length 3 0 (bag.length + 1) (bag.length + 1), [S2.length], bag ++ [mailA Lk i w]) [] _ _ ⟨((hK2.set (M3.lo gb (by simp))).set (M3.lo b (by simp))).app, M3.push_own hK2.len (mailA Lk i w) hbl, by simpa using h5⟩ (ALe_of ?_) rfl
          simp -implicitDefEqProofs only [go_sem]
        · have htk : List.take bag.length (bag.map mailC ++ x :: rest) = bag.map mailC := List.take_left' (by simp)
          have hdr : List.drop (bag.length + 1) (bag.map mailC ++ x :: rest) = rest := by
            rw [List.drop_append]
            simp
          have g1 : (bag.length = bag.length + (rest.length + 1)) = False := eq_false (by omega)
          have g2 : (bag.length ≤ bag.length + (rest.length + 1)) = True := eq_true (by omega)
          have g3 : (bag.length + 1 ≤ bag.length + (rest.length + 1)) = True := eq_true (by omega)
          have g4 : (bag.length + (rest.length + 1) < bag.length + 1) = False := eq_false (by omega)
          have hb5' : bag.length + (rest.length + 1) ≤ 120 := hb5
          simp -implicitDefEqProofs only [go_sem]
          (repeat' (first|(refine g_s fun K hK=>?_)|(refine g_b ?_)|(refine g_k ?_;simp only[thenQ,blockQ])|(refine g_c (fun h=>?_) (fun h=>?_)<;>(try simp only[go_sem] at h)<;>(try exact g_f))|((first|refine g_G ?_|refine (hwr _).use ?_);(try simp -implicitDefEqProofs only[go_sem,hb, hrb, hRr, hzl, hw, hb3, hbG, htk, hdr, g1, g2, g3, g4]))|(with_reducible refine hK _ _ ?_;clear hK K)|(with_reducible refine And.intro ?_ ?_;· exact g_x)|fail))
          refine hL (_, .own gb 3 0 (bag.length + 1) (bag.length + (rest.length + 1)), [gb], bag ++ [mailA Lk i w]) [] _ _ ⟨(hK2.set (M3.lo gb (by simp))).set (M3.lo b (by simp)), M3.push_in (mailA Lk i w) rest hb5' (fun e he => hb4 e (List.mem_cons_of_mem _ he)) ⟨_, hb3⟩, by simpa using h5⟩ (ALe_of ?_) rfl
          simp -implicitDefEqProofs only [go_sem]
    · rintro k ⟨S2, gv2, gi2, bag⟩ τ hk ⟨hK2, M3, h5⟩ L
      simp only [List.map_nil, List.append_nil] at hK2 M3 h5
      subst h5
      simp -implicitDefEqProofs only [go_sem]
      (repeat' (first|(refine g_s fun K hK=>?_)|(refine g_e ?_;simp only[thenQ,blockQ,↓reduceIte,Nat.reduceEqDiff])|(refine g_c (fun h=>?_) (fun h=>?_)<;>(try simp only[go_sem] at h)<;>(try exact g_f))|(refine g_g ?_;(try simp -implicitDefEqProofs only[go_sem]))|(with_reducible refine hK _ _ ?_;clear hK K)|fail))
      refine hJ _ _ ?_
      clear hJ
      (repeat' (first|(refine g_s fun K hK=>?_)|((first|refine g_t ?_|refine g_g ?_);(try simp -implicitDefEqProofs only[go_sem]))|(with_reducible refine hK _ _ ?_;clear hK K)|fail))
      exact ⟨hK2, rb1, tb1, gv2, gi2, M3⟩
end Go.Proofs.YtephecognbbaoabGreat
namespace Go.Proofs.YtephecognbbaoabGreat
def EngB (e : Eng) : Prop := ∀ m ∈ e.bag, ∀ c ∈ m.bytes, 0 ≤ c ∧ c ≤ 255
theorem set_rowC (l : List (List Int)) (k : Nat) (v : List Int) : (l.map rowC).set k [.sl (v.map intC)] = (l.set k v).map rowC := by
  rw [List.map_set]
  rfl
theorem MachW.drop {S : Store} {lo b : Nat} {n : Net} {R : List Rtr} {bag : List Mail} {rb : Nat} {tb : List Nat} {gv : AV} {gb : Nat} {rest : List (List AV)} (h : MachW S lo b n ⟨R, bag⟩ rb tb gv [gb]) (m : Nat) (hm : m < bag.length) (hl : bag.length + rest.length ≤ 120) (hr : ∀ e ∈ rest, e.length = 3 ∧ e.all oneA = true) (hg : ∃ o, S[gb]? = some o) :
    MachW ((S.set gb (.cells 3 ((bag.eraseIdx m).map mailC ++ (zeroM :: rest)))).set b (.cells 7 [netC n ++ [.own rb 2 0 R.length R.length, .own gb 3 0 (bag.length - 1) (bag.length + rest.length)]])) lo b n ⟨R, bag.eraseIdx m⟩ rb tb (.own gb 3 0 (bag.length - 1) (bag.length + rest.length)) [gb] := by
  have e1 : (bag.eraseIdx m).length = bag.length - 1 := by rw [List.length_eraseIdx, if_pos hm]
  have := h.bag_in (bag.eraseIdx m) (zeroM :: rest) (by rw [e1, List.length_cons]; omega) (fun e he => by
    rcases List.mem_cons.1 he with rfl | he
    · exact ⟨rfl, rfl⟩
    · exact hr e he) hg
  rw [e1, List.length_cons, show bag.length - 1 + (rest.length + 1) = bag.length + rest.length by omega] at this
  exact this
theorem deliver_calls (n : Net) (e : Eng) (hc : checkN n = 0) (hl : n.links.length ≤ 5864062014634) (he : EngIn n e) (hby : EngB e) (ρ S : Store) (b : Nat) (hS : MachK ρ S b n e) (i : Int) (h0 : 0 ≤ i) (h1 : i < e.bag.length) :
    ACalls Tryz.prog 41 [.ptr b 7 0 0, intA1 i] S fun r S' => MachK ρ S' b n (deliverE n e i) ∧ r = .tup [] := by
  have hn := netIn_of hc
  have n1 := hn.n1
  have n6 := hn.n6
  have s2 := hn.alg.s2
  have s24 := hn.alg.s24
  have hx : I64 (n.alg.size - 1) := by unfold I64; omega
  have hel := he.len
  have hbag := he.bag
  obtain ⟨R, bag⟩ := e
  simp only at hel hbag h1
  obtain ⟨m, rfl⟩ : ∃ m : Nat, i = m := ⟨i.toNat, by omega⟩
  have h1' : m < bag.length := by omega
  obtain ⟨hK0, rb, tb, gv, gi, M⟩ := hS
  rcases M.bag with ⟨h2, _, _⟩ | ⟨gb, rest, rfl, rfl, hb3, hb4, hb5⟩
  · simp only at h2
    rw [h2] at h1
    simp at h1
    omega
  simp only at M hb3 hb4 hb5
  obtain ⟨w, hw⟩ : ∃ w, at0 bag (m : Int) = w := ⟨_, rfl⟩
  have hwm : w ∈ bag := by rw [← hw]; exact at0_mem bag h0 h1
  have hwi := he.mail w hwm
  have hwb := hby w hwm
  have hgw : (bag.map mailC ++ rest)[m]? = some (mailC w) := by
    rw [List.getElem?_append_left (by rw [List.length_map]; exact h1')]
    have := get_mapG mailC bag h0 h1
    rw [hw] at this
    exact this
  have hb := M.hb
  have hne := M.ne
  have hgb : gb ≠ b := fun e => hne.2.2.1 (by rw [e]; simp)
  have hgL : ∀ τ, (S ++ τ)[gb]? = some (.cells 3 (bag.map mailC ++ rest)) := fun τ => st_app hb3
  have hbL : ∀ τ, (S ++ τ)[b]? = some (.cells 7 [netC n ++ [.own rb 2 0 R.length R.length, .own gb 3 0 bag.length (bag.length + rest.length)]]) := fun τ => st_app hb
  have hgS : ∀ τ o, (S ++ τ).set gb o = S.set gb o ++ τ := fun τ o => st_setApp hb3
  have hbG : ∀ o, (S.set gb o)[b]? = some (.cells 7 [netC n ++ [.own rb 2 0 R.length R.length, .own gb 3 0 bag.length (bag.length + rest.length)]]) := fun o => st_set hb hgb
  have hbD : ∀ o τ, (S.set gb o ++ τ)[b]? = some (.cells 7 [netC n ++ [.own rb 2 0 R.length R.length, .own gb 3 0 bag.length (bag.length + rest.length)]]) := fun o τ => st_app (hbG o)
  have hbE : ∀ o τ o', (S.set gb o ++ τ).set b o' = (S.set gb o).set b o' ++ τ := fun o τ o' => st_setApp (hbG o)
  have hde := delete_calls (S ++ [.dead]) gb bag rest m h1' (hgL _) hb4 (by omega) (by omega)
  have hrd := read_calls w.bytes (by have := hwi.len; omega) hwb
  have M2 := M.drop m h1' hb5 hb4 ⟨_, hb3⟩
  obtain ⟨S2, hS2⟩ : ∃ S2, (S.set gb (.cells 3 ((bag.eraseIdx m).map mailC ++ (zeroM :: rest)))).set b (.cells 7 [netC n ++ [.own rb 2 0 R.length R.length, .own gb 3 0 (bag.length - 1) (bag.length + rest.length)]]) = S2 := ⟨_, rfl⟩
  have hK2 : Keeps ρ S2 := by rw [← hS2]; exact (hK0.set (M.lo gb (by simp))).set (M.lo b (by simp))
  rw [hS2] at M2
  have hS3 := hS2
  simp -implicitDefEqProofs only [go_sem, List.append_eq, List.cons_append, List.nil_append] at hS3
  have hdr : deliverE n ⟨R, bag⟩ (m : Int) = takeE n ⟨R, bag.eraseIdx m⟩ w := by
    simp only [deliverE, dropE, hw, Int.toNat_natCast]
  have hT : takesB n w = (decide ((readL w.bytes).2 = 0) && (decide ((readL w.bytes).1.fr = w.fr) && (decide ((readL w.bytes).1.dst = w.dst) && (decide (rowErr n (readL w.bytes).1.routes = 0) && decide (0 ≤ edgeOf n w.dst w.fr))))) := rfl
  have hpl : (readL w.bytes).1.routes.length ≤ 60 := by
    have hq := hwi.len
    unfold readL
    split
    · exact Nat.zero_le _
    · split
      · exact Nat.zero_le _
      · split
        · exact Nat.zero_le _
        · simp only [packetAt, List.length_drop, List.length_take]
          omega
  refine ACalls_of_awp Tryz.func41 rfl Tryz.results41 ?_
  simp only [List.length_cons, List.length_nil, Tryz.ntmps41, Nat.reduceAdd, Nat.reduceSub, enterA]
  refine AWP_seq_k fun K hK => ?_
  (refine AWP_region ?_; simp -implicitDefEqProofs only [go_sem, hb, hb3, hgw])
  refine ⟨h0, h1, ?_⟩
  refine hK _ _ ?_; clear hK K
  refine AWP_freezeP 4 rfl (by simp only [st0]; rfl) ?_
  simp only [ss0, List.set_cons_zero]
  refine AWP_seq_k fun K hK => ?_
  (refine AWP_region ?_; simp -implicitDefEqProofs only [go_sem, hbL])
  refine ⟨by unfold I64; omega, ?_⟩
  refine ACalls.useA hde ?_
  simp -implicitDefEqProofs only [go_sem, hgS, hbD, hbE, hS3]
  refine hK _ _ ?_; clear hK K
  refine AWP_seq_k fun K hK => ?_
  (refine AWP_region ?_; simp -implicitDefEqProofs only [go_sem])
  refine (hrd _).use ?_
  simp -implicitDefEqProofs only [go_sem]
  refine hK _ _ ?_; clear hK K
  refine AWP_freezeP 5 rfl (by simp only [st1]; rfl) ?_
  simp only [ss1, List.set_cons_zero, List.set_cons_succ]
  rw [hdr]
  have hbN : ∀ τ, (S2 ++ τ)[b]? = some (.cells 7 [netC n ++ [.own rb 2 0 R.length R.length, .own gb 3 0 (bag.length - 1) (bag.length + rest.length)]]) := fun τ => st_app M2.hb
  generalize hPR : readL w.bytes = PR
  obtain ⟨p, er⟩ := PR
  rw [hPR] at hT hpl
  simp only at hT hpl ⊢
  have hro := row_calls n p.routes hx (by omega)
  have hli := fun τ => linked_calls n hn w.dst w.fr ((S2 ++ [.dead, .dead]) ++ τ) b _ _ (by omega) (st_app (st_app M2.hb))
  have hend : takesB n w = false → MachK ρ (S2 ++ [.dead, .dead]) b n (takeE n ⟨R, bag.eraseIdx m⟩ w) := fun h => by
    rw [takeE, if_neg (by rw [h]; exact Bool.false_ne_true)]
    exact ⟨hK2.app, rb, tb, _, _, M2.app⟩
  by_cases c1 : er = 0
  · by_cases c2 : p.fr = w.fr
    · by_cases c3 : p.dst = w.dst
      · by_cases c4 : rowErr n p.routes = 0
        · by_cases c5 : 0 ≤ edgeOf n w.dst w.fr
          · rw [decide_eq_true c5] at hli
            have hd0 := hwi.dst.1
            have hd1 : w.dst < R.length := by have := hwi.dst.2; omega
            have hf0 := hwi.fr.1
            have hf1 := hwi.fr.2
            obtain ⟨t, ht1, ht2, hRr, ht3⟩ := M2.row hd0 hd1
            simp only at hRr ht3
            have hRin : RtrIn n (at0 R w.dst) := he.rtr _ (at0_mem R hd0 hd1)
            have htl := hRin.tl
            rw [rtrV] at hRr
            have hrN : ∀ τ, (S2 ++ τ)[rb]? = some (.cells 2 (List.zipWith rtrV R tb)) := fun τ => st_app M2.hrb
            have htN : ∀ τ, (S2 ++ τ)[t]? = some (.cells 1 ((at0 R w.dst).told.map rowC)) := fun τ => st_app ht3
            have htS : ∀ τ o, (S2 ++ τ).set t o = S2.set t o ++ τ := fun τ o => st_setApp ht3
            have hzl : (List.zipWith rtrV R tb).length = R.length := by have := M2.tl; simp only at this; rw [List.length_zipWith, this, Nat.min_self]
            have hsr := set_rowC (at0 R w.dst).told w.fr.toNat p.routes
            have hgr := get_mapG rowC (at0 R w.dst).told hf0 (by omega)
            (repeat' (first|(refine g_s fun K hK=>?_)|(refine g_k ?_;simp only[thenQ,blockQ])|(refine g_c (fun h=>?_) (fun h=>?_)<;>(try simp only[go_sem] at h)<;>(try exact g_f))|((first|refine g_g ?_|refine g_U ?_|refine g_q (fun τ=>hro _) ?_|refine g_q hli ?_);(try simp -implicitDefEqProofs only[go_sem,c1, c2, c3, c4, hbN, hrN, hRr, htN, htS, hzl, hsr, hgr]))|(with_reducible refine hK _ _ ?_;clear hK K)|(with_reducible refine splitB_intro (fun h=>?_) (fun h=>?_)<;>(try simp only[go_sem] at h)<;>(try exact g_f)<;>(try simp -implicitDefEqProofs only[go_sem,c1, c2, c3, c4, hbN, hrN, hRr, htN, htS, hzl, hsr, hgr]))|(with_reducible refine And.intro ?_ ?_;· exact g_x)|fail))
            have hTT : takesB n w = true := by rw [hT, decide_eq_true c1, decide_eq_true c2, decide_eq_true c3, decide_eq_true c4, decide_eq_true c5]; rfl
            have hin : EngIn n ⟨R, bag.eraseIdx m⟩ := dropE_in he m
            have hin2 : EngIn n (setR ⟨R, bag.eraseIdx m⟩ w.dst (toldR (at0 R w.dst) w.fr p.routes)) := setR_in hin (toldR_in hRin (.inr (rowErr_zero.1 c4)) _) _
            refine (elook_calls n _ hc hl hin2 ρ _ b ⟨(hK2.set (M2.lo t (by simp [ht2]))).app, rb, tb, _, _, (M2.told hd0 hd1 ht1 ((at0 R w.dst).told.set w.fr.toNat p.routes) (by simp)).app⟩ w.dst hd0 hwi.dst.2).mono ?_
            rintro r S' ⟨h, rfl⟩
            rw [takeE, if_pos hTT, hPR]
            exact h
          · rw [decide_eq_false c5] at hli
            (repeat' (first|(refine g_s fun K hK=>?_)|(refine g_c (fun h=>?_) (fun h=>?_)<;>(try simp only[go_sem] at h)<;>(try exact g_f))|((first|refine g_t ?_|refine g_U ?_|refine g_q (fun τ=>hro _) ?_|refine g_q hli ?_);(try simp -implicitDefEqProofs only[go_sem,c1, c2, c3, c4, hbN]))|(with_reducible refine hK _ _ ?_;clear hK K)|(with_reducible refine splitB_intro (fun h=>?_) (fun h=>?_)<;>(try simp only[go_sem] at h)<;>(try exact g_f)<;>(try simp -implicitDefEqProofs only[go_sem,c1, c2, c3, c4, hbN]))|fail))
            exact hend (by rw [hT, decide_eq_false c5]; simp)
        · (repeat' (first|(refine g_s fun K hK=>?_)|(refine g_c (fun h=>?_) (fun h=>?_)<;>(try simp only[go_sem] at h)<;>(try exact g_f))|((first|refine g_t ?_|refine g_U ?_|refine g_q (fun τ=>hro _) ?_);(try simp -implicitDefEqProofs only[go_sem,c1, c2, c3, c4, hbN]))|(with_reducible refine hK _ _ ?_;clear hK K)|(with_reducible refine splitB_intro (fun h=>?_) (fun h=>?_)<;>(try simp only[go_sem] at h)<;>(try exact g_f)<;>(try simp -implicitDefEqProofs only[go_sem,c1, c2, c3, c4, hbN]))|fail))
          exact hend (by rw [hT, decide_eq_false c4]; simp)
      · (repeat' (first|(refine g_s fun K hK=>?_)|(refine g_c (fun h=>?_) (fun h=>?_)<;>(try simp only[go_sem] at h)<;>(try exact g_f))|((first|refine g_t ?_|refine g_U ?_);(try simp -implicitDefEqProofs only[go_sem,c1, c2, c3, hbN]))|(with_reducible refine hK _ _ ?_;clear hK K)|(with_reducible refine splitB_intro (fun h=>?_) (fun h=>?_)<;>(try simp only[go_sem] at h)<;>(try exact g_f)<;>(try simp -implicitDefEqProofs only[go_sem,c1, c2, c3, hbN]))|fail))
        exact hend (by rw [hT, decide_eq_false c3]; simp)
    · (repeat' (first|(refine g_s fun K hK=>?_)|(refine g_c (fun h=>?_) (fun h=>?_)<;>(try simp only[go_sem] at h)<;>(try exact g_f))|((first|refine g_t ?_|refine g_U ?_);(try simp -implicitDefEqProofs only[go_sem,c1, c2, hbN]))|(with_reducible refine hK _ _ ?_;clear hK K)|(with_reducible refine splitB_intro (fun h=>?_) (fun h=>?_)<;>(try simp only[go_sem] at h)<;>(try exact g_f)<;>(try simp -implicitDefEqProofs only[go_sem,c1, c2, hbN]))|fail))
      exact hend (by rw [hT, decide_eq_false c2]; simp)
  · (repeat' (first|(refine g_s fun K hK=>?_)|(refine g_c (fun h=>?_) (fun h=>?_)<;>(try simp only[go_sem] at h)<;>(try exact g_f))|((first|refine g_t ?_|refine g_U ?_);(try simp -implicitDefEqProofs only[go_sem,c1, hbN]))|(with_reducible refine hK _ _ ?_;clear hK K)|(with_reducible refine splitB_intro (fun h=>?_) (fun h=>?_)<;>(try simp only[go_sem] at h)<;>(try exact g_f)<;>(try simp -implicitDefEqProofs only[go_sem,c1, hbN]))|fail))
    exact hend (by rw [hT, decide_eq_false c1]; simp)
end Go.Proofs.YtephecognbbaoabGreat
namespace Go.Proofs.YtephecognbbaoabGreat
def evtC (v : Evt) : List AV := [intA1 v.kind, intA1 v.at', intA1 v.b, intA1 v.c, intsA v.routes]
attribute [go_sem] evtC
theorem twice_calls (n : Net) (e : Eng) (he : EngIn n e) (ρ S : Store) (b : Nat) (hS : MachK ρ S b n e) (i : Int) (h0 : 0 ≤ i) (h1 : i < e.bag.length) :
    ACalls Tryz.prog 42 [.ptr b 7 0 0, intA1 i] S fun r S' => MachK ρ S' b n (if e.bag.length = 120 then e else ⟨e.routers, e.bag ++ [at0 e.bag i]⟩) ∧ r = intA1 (if e.bag.length = 120 then 2 else 0) := by
  have hbag := he.bag
  obtain ⟨R, bag⟩ := e
  simp only at hbag h1 ⊢
  obtain ⟨hK0, rb, tb, gv, gi, M⟩ := hS
  rcases M.bag with ⟨h2, _, _⟩ | ⟨gb, rest, rfl, rfl, hb3, hb4, hb5⟩
  · simp only at h2
    rw [h2] at h1
    simp at h1
    omega
  simp only at M hb3 hb4 hb5
  obtain ⟨w, hw⟩ : ∃ w, at0 bag i = w := ⟨_, rfl⟩
  have hgw : (bag.map mailC ++ rest)[i.toNat]? = some (mailC w) := by
    rw [List.getElem?_append_left (by rw [List.length_map]; omega)]
    have := get_mapG mailC bag h0 h1
    rw [hw] at this
    exact this
  rw [hw]
  have hb := M.hb
  have hne := M.ne
  have hgb : gb ≠ b := fun e => hne.2.2.1 (by rw [e]; simp)
  have hbG : ∀ o, (S.set gb o)[b]? = some (.cells 7 [netC n ++ [.own rb 2 0 R.length R.length, .own gb 3 0 bag.length (bag.length + rest.length)]]) := fun o => st_set hb hgb
  have hbD : ∀ o τ, (S.set gb o ++ τ)[b]? = some (.cells 7 [netC n ++ [.own rb 2 0 R.length R.length, .own gb 3 0 bag.length (bag.length + rest.length)]]) := fun o τ => st_app (hbG o)
  have hbE : ∀ o τ o', (S.set gb o ++ τ).set b o' = (S.set gb o).set b o' ++ τ := fun o τ o' => st_setApp (hbG o)
  by_cases hc : bag.length = 120
  · have hci : ((bag.length : Int) = 120) = True := eq_true (by omega)
    rw [if_pos hc, if_pos hc]
    refine ACalls_of_awp Tryz.func42 rfl Tryz.results42 ?_
    simp only [List.length_cons, List.length_nil, Tryz.ntmps42, Nat.reduceAdd, Nat.reduceSub, enterA]
    (repeat' (first|(refine g_s fun K hK=>?_)|(refine g_c (fun h=>?_) (fun h=>?_)<;>(try simp only[go_sem] at h)<;>(try exact g_f))|((first|refine g_t ?_|refine g_g ?_);(try simp -implicitDefEqProofs only[go_sem,hb, hci]))|(with_reducible refine hK _ _ ?_;clear hK K)|fail))
    exact ⟨hK0, rb, tb, _, _, M⟩
  · have hci : ((bag.length : Int) = 120) = False := eq_false (by omega)
    rw [if_neg hc, if_neg hc]
    refine ACalls_of_awp Tryz.func42 rfl Tryz.results42 ?_
    simp only [List.length_cons, List.length_nil, Tryz.ntmps42, Nat.reduceAdd, Nat.reduceSub, enterA]
    rcases rest with _ | ⟨x, rest⟩
    · rw [List.append_nil] at hb3 hgw
      (repeat' (first|(refine g_s fun K hK=>?_)|(refine g_k ?_;simp only[thenQ,blockQ])|(refine g_c (fun h=>?_) (fun h=>?_)<;>(try simp only[go_sem] at h)<;>(try exact g_f))|((first|refine g_t ?_|refine g_G ?_|refine AWP_drawX tab_mixed (by decide +kernel) ?_);(try simp -implicitDefEqProofs only[go_sem,hb, hb3, hgw, hci, hbD, hbE]))|(with_reducible refine hK _ _ ?_;clear hK K)|(with_reducible refine And.intro (fun h=>?_) (fun h=>?_)<;>(try simp only[go_sem] at h)<;>(try exact g_f))|(with_reducible refine And.intro ?_ ?_;· exact g_x)|fail))
      exact ⟨((hK0.set (M.lo gb (by simp))).set (M.lo b (by simp))).app, rb, tb, _, _, M.push_own hK0.len w (by omega)⟩
    · have htk : List.take bag.length (bag.map mailC ++ x :: rest) = bag.map mailC := List.take_left' (by simp)
      have hdr : List.drop (bag.length + 1) (bag.map mailC ++ x :: rest) = rest := by
        rw [List.drop_append]
        simp
      have g1 : (bag.length = bag.length + (rest.length + 1)) = False := eq_false (by omega)
      have g2 : (bag.length ≤ bag.length + (rest.length + 1)) = True := eq_true (by omega)
      have g3 : (bag.length + 1 ≤ bag.length + (rest.length + 1)) = True := eq_true (by omega)
      have g4 : (bag.length + (rest.length + 1) < bag.length + 1) = False := eq_false (by omega)
      have hb5' : bag.length + (rest.length + 1) ≤ 120 := hb5
      (repeat' (first|(refine g_s fun K hK=>?_)|(refine g_k ?_;simp only[thenQ,blockQ])|(refine g_c (fun h=>?_) (fun h=>?_)<;>(try simp only[go_sem] at h)<;>(try exact g_f))|((first|refine g_t ?_|refine g_G ?_|refine AWP_drawX tab_mixed (by decide +kernel) ?_);(try simp -implicitDefEqProofs only[go_sem,hb, hb3, hgw, hci, hbG, htk, hdr, g1, g2, g3, g4]))|(with_reducible refine hK _ _ ?_;clear hK K)|(with_reducible refine And.intro ?_ ?_;· exact g_x)|fail))
      exact ⟨(hK0.set (M.lo gb (by simp))).set (M.lo b (by simp)), rb, tb, _, _, M.push_in w rest hb5' (fun e he => hb4 e (List.mem_cons_of_mem _ he)) ⟨_, hb3⟩⟩
theorem MachW.spoiled {S : Store} {lo b : Nat} {n : Net} {R : List Rtr} {bag : List Mail} {rb : Nat} {tb : List Nat} {gb : Nat} {rest : List (List AV)} {w : Mail} (h : MachW S lo b n ⟨R, bag⟩ rb tb (.own gb 3 0 bag.length (bag.length + rest.length)) [gb]) (hg : S[gb]? = some (.cells 3 (bag.map mailC ++ rest))) {k : Int} (h0 : 0 ≤ k) (h1 : k < bag.length) (hl : bag.length + rest.length ≤ 120) (hr : ∀ e ∈ rest, e.length = 3 ∧ e.all oneA = true) :
    MachW (S.set gb (.cells 3 ((bag.map mailC ++ rest).set k.toNat (mailC w)))) lo b n ⟨R, bag.set k.toNat w⟩ rb tb (.own gb 3 0 bag.length (bag.length + rest.length)) [gb] := by
  obtain ⟨n1, n2, n3, n4, n5, n6, n7, n8⟩ := h.ne
  have hgb : gb ≠ b := fun e => n3 (by rw [e]; simp)
  have e1 : (bag.map mailC ++ rest).set k.toNat (mailC w) = (bag.set k.toNat w).map mailC ++ rest := by
    rw [List.set_append_left _ _ (by rw [List.length_map]; omega), List.map_set]
  rw [e1]
  refine h.bagged (st_set h.hb hgb) (fun x hx => ?_) (.inr ⟨gb, rest, rfl, by simp, st_self hg, hr, by rw [List.length_set]; exact hl⟩) (by simp) (fun x hx => ?_)
  · rw [List.getElem?_set_ne]
    rcases List.mem_cons.1 hx with rfl | hx
    · exact fun e => n5 (by rw [e]; simp)
    · exact fun e => n8 x hx (by rw [e]; simp)
  · rw [List.mem_singleton.1 hx]
    refine ⟨?_, h.lo _ (by simp)⟩
    simp only [List.mem_cons, not_or]
    exact ⟨hgb, fun e => n5 (by rw [e]; simp), fun e => n8 _ e (by simp)⟩
theorem spoil_calls (n : Net) (e : Eng) (he : EngIn n e) (hby : EngB e) (ρ S : Store) (b : Nat) (hS : MachK ρ S b n e) (v : Evt) (h0 : 0 ≤ v.at') (h1 : v.at' < e.bag.length) :
    ACalls Tryz.prog 44 [.ptr b 7 0 0, .agg (evtC v)] S fun r S' => MachK ρ S' b n (spoilE e v).1 ∧ r = intA1 (spoilE e v).2 := by
  have hbag := he.bag
  obtain ⟨R, bag⟩ := e
  simp only at hbag h1 ⊢
  obtain ⟨hK0, rb, tb, gv, gi, M⟩ := hS
  rcases M.bag with ⟨h2, _, _⟩ | ⟨gb, rest, rfl, rfl, hb3, hb4, hb5⟩
  · simp only at h2
    rw [h2] at h1
    simp at h1
    omega
  simp only at M hb3 hb4 hb5
  obtain ⟨w, hw⟩ : ∃ w, at0 bag v.at' = w := ⟨_, rfl⟩
  have hwm : w ∈ bag := by rw [← hw]; exact at0_mem bag h0 h1
  have hwi := he.mail w hwm
  have hwl := hwi.len
  have hwb := hby w hwm
  have hgw : (bag.map mailC ++ rest)[v.at'.toNat]? = some (mailC w) := by
    rw [List.getElem?_append_left (by rw [List.length_map]; omega)]
    have := get_mapG mailC bag h0 h1
    rw [hw] at this
    exact this
  unfold spoilE
  simp only [hw]
  have hb := M.hb
  have hbL : ∀ τ, (S ++ τ)[b]? = some (.cells 7 [netC n ++ [.own rb 2 0 R.length R.length, .own gb 3 0 bag.length (bag.length + rest.length)]]) := fun τ => st_app hb
  have hgL : ∀ τ, (S ++ τ)[gb]? = some (.cells 3 (bag.map mailC ++ rest)) := fun τ => st_app hb3
  have hgS : ∀ τ o, (S ++ τ).set gb o = S.set gb o ++ τ := fun τ o => st_setApp hb3
  by_cases c1 : 0 ≤ v.b ∧ v.b < w.bytes.length
  · by_cases c2 : 1 ≤ v.c ∧ v.c ≤ 255
    · have hN : ((!inR v.b 0 (w.bytes.length - 1)) || !inR v.c 1 255) = false := by
        rw [Bool.or_eq_false_iff, Bool.not_eq_false', Bool.not_eq_false', inR_iff, inR_iff]
        omega
      rw [if_neg (by rw [hN]; exact Bool.false_ne_true)]
      have hbyt := str_bytes hwb
      have hwc : IntKind.u8.wrap v.c = v.c := u8_in (by omega) c2.2
      have hxo : IntKind.u8.wrap ((BitVec.ofInt 8 (at0 w.bytes v.b) ^^^ BitVec.ofInt 8 v.c).toNat : Int) = xorB (at0 w.bytes v.b) v.c := rfl
      have hgby : (w.bytes.map byteC)[v.b.toNat]? = some [.c (.int .u8 (at0 w.bytes v.b))] := get_mapG byteC w.bytes c1.1 c1.2
      have hsby : ∀ x, (w.bytes.map byteC).set v.b.toNat [.c (.int .u8 x)] = (w.bytes.set v.b.toNat x).map byteC := fun x => by rw [List.map_set]; rfl
      refine ACalls_of_awp Tryz.func44 rfl Tryz.results44 ?_
      simp only [List.length_cons, List.length_nil, Tryz.ntmps44, Nat.reduceAdd, Nat.reduceSub, enterA]
      refine AWP_seq_k fun K hK => ?_
      (refine AWP_region ?_; simp -implicitDefEqProofs only [go_sem])
      refine hK _ _ ?_; clear hK K
      refine AWP_freezeP 3 rfl (by simp only [st0]; rfl) ?_
      simp only [ss0, List.set_cons_zero]
      (repeat' (first|(refine g_s fun K hK=>?_)|(refine g_k ?_;simp only[thenQ,blockQ])|(refine g_c (fun h=>?_) (fun h=>?_)<;>(try simp only[go_sem] at h)<;>(try exact g_f))|((first|refine g_t ?_|refine g_g ?_|refine g_U ?_);(try simp -implicitDefEqProofs only[go_sem,hbL, hgL, hgw, hgS, hbyt, hgby, hsby, List.length_set, hwc, hxo]))|(with_reducible refine hK _ _ ?_;clear hK K)|(with_reducible refine splitB_intro (fun h=>?_) (fun h=>?_)<;>(try simp only[go_sem] at h)<;>(try exact g_f)<;>(try simp -implicitDefEqProofs only[go_sem,hbL, hgL, hgw, hgS, hbyt, hgby, hsby, List.length_set, hwc, hxo]))|(with_reducible refine And.intro ?_ ?_;· exact g_x)|fail))
      exact ⟨(hK0.set (M.lo gb (by simp))).app, rb, tb, _, _, (M.spoiled (w := spoilM w v.b v.c) hb3 h0 h1 hb5 hb4).app⟩
    · have hN : ((!inR v.b 0 (w.bytes.length - 1)) || !inR v.c 1 255) = true := by
        rw [Bool.or_eq_true, not_inR, not_inR]
        omega
      rw [if_pos hN]
      refine ACalls_of_awp Tryz.func44 rfl Tryz.results44 ?_
      simp only [List.length_cons, List.length_nil, Tryz.ntmps44, Nat.reduceAdd, Nat.reduceSub, enterA]
      refine AWP_seq_k fun K hK => ?_
      (refine AWP_region ?_; simp -implicitDefEqProofs only [go_sem])
      refine hK _ _ ?_; clear hK K
      refine AWP_freezeP 3 rfl (by simp only [st0]; rfl) ?_
      simp only [ss0, List.set_cons_zero]
      (repeat' (first|(refine g_s fun K hK=>?_)|(refine g_c (fun h=>?_) (fun h=>?_)<;>(try simp only[go_sem] at h)<;>(try exact g_f))|((first|refine g_t ?_|refine g_g ?_|refine g_U ?_);(try simp -implicitDefEqProofs only[go_sem,hbL, hgL, hgw, hgS]))|(with_reducible refine hK _ _ ?_;clear hK K)|(with_reducible refine splitB_intro (fun h=>?_) (fun h=>?_)<;>(try simp only[go_sem] at h)<;>(try exact g_f)<;>(try simp -implicitDefEqProofs only[go_sem,hbL, hgL, hgw, hgS]))|(with_reducible refine And.intro ?_ ?_;· exact g_x)|fail))
      all_goals exact ⟨hK0.app, rb, tb, _, _, M.app⟩
  · have hN : ((!inR v.b 0 (w.bytes.length - 1)) || !inR v.c 1 255) = true := by
      rw [Bool.or_eq_true, not_inR, not_inR]
      omega
    rw [if_pos hN]
    refine ACalls_of_awp Tryz.func44 rfl Tryz.results44 ?_
    simp only [List.length_cons, List.length_nil, Tryz.ntmps44, Nat.reduceAdd, Nat.reduceSub, enterA]
    refine AWP_seq_k fun K hK => ?_
    (refine AWP_region ?_; simp -implicitDefEqProofs only [go_sem])
    refine hK _ _ ?_; clear hK K
    refine AWP_freezeP 3 rfl (by simp only [st0]; rfl) ?_
    simp only [ss0, List.set_cons_zero]
    (repeat' (first|(refine g_s fun K hK=>?_)|(refine g_c (fun h=>?_) (fun h=>?_)<;>(try simp only[go_sem] at h)<;>(try exact g_f))|((first|refine g_t ?_|refine g_g ?_|refine g_U ?_);(try simp -implicitDefEqProofs only[go_sem,hbL, hgL, hgw, hgS]))|(with_reducible refine hK _ _ ?_;clear hK K)|(with_reducible refine splitB_intro (fun h=>?_) (fun h=>?_)<;>(try simp only[go_sem] at h)<;>(try exact g_f)<;>(try simp -implicitDefEqProofs only[go_sem,hbL, hgL, hgw, hgS]))|(with_reducible refine And.intro ?_ ?_;· exact g_x)|fail))
    all_goals exact ⟨hK0.app, rb, tb, _, _, M.app⟩
end Go.Proofs.YtephecognbbaoabGreat
namespace Go.Proofs.YtephecognbbaoabGreat
/-- In store S the value a has the content c; only objects of D are looked into. -/
inductive Deep (S : Store) (D : Nat → Prop) : AV → AV → Prop
  | wk (a c : AV) (h : Wk a c) : Deep S D a c
  | agg (l l' : List AV) (hl : l.length = l'.length) (h : ∀ i (h1 : i < l.length) (h2 : i < l'.length), Deep S D l[i] l'[i]) : Deep S D (.agg l) (.agg l')
  | tup (l l' : List AV) (hl : l.length = l'.length) (h : ∀ i (h1 : i < l.length) (h2 : i < l'.length), Deep S D l[i] l'[i]) : Deep S D (.tup l) (.tup l')
  | own (b k s n c : Nat) (es es' : List (List AV)) (hb : D b) (he : elemsB S (.own b k s n c) = some es) (hl : es.length = es'.length)
      (hk : ∀ i (h1 : i < es.length) (h2 : i < es'.length), es[i].length = es'[i].length)
      (h : ∀ i (h1 : i < es.length) (h2 : i < es'.length) j (h3 : j < es[i].length) (h4 : j < es'[i].length), Deep S D es[i][j] es'[i][j]) : Deep S D (.own b k s n c) (.sl es')
  | sl (es es' : List (List AV)) (hl : es.length = es'.length) (hk : ∀ i (h1 : i < es.length) (h2 : i < es'.length), es[i].length = es'[i].length)
      (h : ∀ i (h1 : i < es.length) (h2 : i < es'.length) j (h3 : j < es[i].length) (h4 : j < es'[i].length), Deep S D es[i][j] es'[i][j]) : Deep S D (.sl es) (.sl es')
def DeepL (S : Store) (D : Nat → Prop) (l l' : List AV) : Prop := l.length = l'.length ∧ ∀ i (h1 : i < l.length) (h2 : i < l'.length), Deep S D l[i] l'[i]
def DeepR (S : Store) (D : Nat → Prop) (l l' : List (List AV)) : Prop := l.length = l'.length ∧ ∀ i (h1 : i < l.length) (h2 : i < l'.length), DeepL S D l[i] l'[i]
theorem Deep.same {S : Store} {D : Nat → Prop} (a : AV) : Deep S D a a := .wk a a (.refl a)
theorem Deep.nil {S : Store} {D : Nat → Prop} : Deep S D (.c (.slice none 0 0)) (.sl []) := .wk _ _ .nil
theorem Deep.emp {S : Store} {D : Nat → Prop} : Deep S D .emp (.sl []) := .wk _ _ .emp
theorem DeepL.nil {S : Store} {D : Nat → Prop} : DeepL S D [] [] := ⟨rfl, fun i h => by simp at h⟩
theorem DeepL.cons {S : Store} {D : Nat → Prop} {a c : AV} {l l' : List AV} (h : Deep S D a c) (h' : DeepL S D l l') : DeepL S D (a :: l) (c :: l') :=
  ⟨by simp [h'.1], fun i h1 h2 => by
    cases i with
    | zero => exact h
    | succ i => exact h'.2 i (by simpa using h1) (by simpa using h2)⟩
theorem DeepL.same {S : Store} {D : Nat → Prop} (l : List AV) : DeepL S D l l := ⟨rfl, fun i h1 h2 => .same _⟩
theorem DeepR.nil {S : Store} {D : Nat → Prop} : DeepR S D [] [] := ⟨rfl, fun i h => by simp at h⟩
theorem DeepR.cons {S : Store} {D : Nat → Prop} {a c : List AV} {l l' : List (List AV)} (h : DeepL S D a c) (h' : DeepR S D l l') : DeepR S D (a :: l) (c :: l') :=
  ⟨by simp [h'.1], fun i h1 h2 => by
    cases i with
    | zero => exact h
    | succ i => exact h'.2 i (by simpa using h1) (by simpa using h2)⟩
theorem DeepR.same {S : Store} {D : Nat → Prop} (l : List (List AV)) : DeepR S D l l := ⟨rfl, fun i h1 h2 => .same _⟩
theorem DeepR.map {S : Store} {D : Nat → Prop} {X : Type} {f g : X → List AV} : ∀ (l : List X), (∀ x ∈ l, DeepL S D (f x) (g x)) → DeepR S D (l.map f) (l.map g)
  | [], _ => .nil
  | x :: r, h => .cons (h x (by simp)) (DeepR.map r fun y hy => h y (by simp [hy]))
theorem Deep.aggL {S : Store} {D : Nat → Prop} {l l' : List AV} (h : DeepL S D l l') : Deep S D (.agg l) (.agg l') := .agg l l' h.1 h.2
theorem Deep.tupL {S : Store} {D : Nat → Prop} {l l' : List AV} (h : DeepL S D l l') : Deep S D (.tup l) (.tup l') := .tup l l' h.1 h.2
theorem Deep.slR {S : Store} {D : Nat → Prop} {l l' : List (List AV)} (h : DeepR S D l l') : Deep S D (.sl l) (.sl l') :=
  .sl l l' h.1 (fun i h1 h2 => (h.2 i h1 h2).1) fun i h1 h2 j h3 h4 => (h.2 i h1 h2).2 j h3 h4
theorem Deep.ownR {S : Store} {D : Nat → Prop} {b k s n c : Nat} {es es' : List (List AV)} (hb : D b) (he : elemsB S (.own b k s n c) = some es) (h : DeepR S D es es') : Deep S D (.own b k s n c) (.sl es') :=
  .own b k s n c es es' hb he h.1 (fun i h1 h2 => (h.2 i h1 h2).1) fun i h1 h2 j h3 h4 => (h.2 i h1 h2).2 j h3 h4
/-- A whole row. -/
theorem Deep.ownW {S : Store} {D : Nat → Prop} {b k n c : Nat} {es es' : List (List AV)} (hb : D b) (ho : S[b]? = some (.cells k es)) (hn : n = es.length) (h : DeepR S D es es') : Deep S D (.own b k 0 n c) (.sl es') :=
  .ownR hb (by subst hn; simp [elemsB, ho]) h
theorem Deep.congr {S S' : Store} {D D' : Nat → Prop} (hD : ∀ b, D b → D' b ∧ ∀ o, S[b]? = some o → S'[b]? = some o) {a c : AV} (h : Deep S D a c) : Deep S' D' a c := by
  induction h with
  | wk a c h => exact .wk a c h
  | agg l l' hl _ ih => exact .agg l l' hl ih
  | tup l l' hl _ ih => exact .tup l l' hl ih
  | own b k s n c es es' hb he hl hk _ ih =>
    refine .own b k s n c es es' (hD b hb).1 ?_ hl hk ih
    unfold elemsB at he ⊢
    simp only at he ⊢
    cases ho : S[b]? with
    | none => rw [ho] at he; cases he
    | some o => rw [(hD b hb).2 o ho]; rw [ho] at he; exact he
  | sl es es' hl hk _ ih => exact .sl es es' hl hk ih
theorem Deep.ext {S : Store} {D : Nat → Prop} (τ : Store) {a c : AV} (h : Deep S D a c) : Deep (S ++ τ) D a c :=
  h.congr fun b hb => ⟨hb, fun o ho => by
    obtain ⟨hlt, _⟩ := List.getElem?_eq_some_iff.1 ho
    rw [List.getElem?_append_left hlt, ho]⟩
theorem Deep.set {S : Store} {D : Nat → Prop} {b : Nat} (hb : ¬ D b) (o : Ob) {a c : AV} (h : Deep S D a c) : Deep (S.set b o) D a c :=
  h.congr fun b' hb' => ⟨hb', fun o' ho => by
    have hne : b ≠ b' := by rintro rfl; exact hb hb'
    rw [List.getElem?_set_ne hne]
    exact ho⟩
theorem Deep.mono {S : Store} {D D' : Nat → Prop} (hD : ∀ b, D b → D' b) {a c : AV} (h : Deep S D a c) : Deep S D' a c := h.congr fun b hb => ⟨hD b hb, fun _ h => h⟩
theorem DeepL.congr {S S' : Store} {D D' : Nat → Prop} (hD : ∀ b, D b → D' b ∧ ∀ o, S[b]? = some o → S'[b]? = some o) {l l' : List AV} (h : DeepL S D l l') : DeepL S' D' l l' := ⟨h.1, fun i h1 h2 => (h.2 i h1 h2).congr hD⟩
theorem DeepR.congr {S S' : Store} {D D' : Nat → Prop} (hD : ∀ b, D b → D' b ∧ ∀ o, S[b]? = some o → S'[b]? = some o) {l l' : List (List AV)} (h : DeepR S D l l') : DeepR S' D' l l' := ⟨h.1, fun i h1 h2 => (h.2 i h1 h2).congr hD⟩
section
variable {rd : Option Nat} {P : Program} {N : Nat} {K0 : World} {imm : Imm} {m : Own} {w : World} {α : AF} {σ : Store} {Q : Post}
/-- What is known of the content, once the objects are held fast. -/
theorem deep_rep {imm' : Imm} (hs : Sim K0 imm m w σ) (hi : ILe imm imm') {D : Nat → Prop} (hD : ∀ b, D b → ∀ (h : b < σ.length), σ[b].live = true → ∀ blk sz, m b = some (blk, sz) → imm' blk = w.heap[blk]?)
    {a c : AV} (h : Deep σ D a c) : ∀ v, Rep imm m v a → Rep imm' m v c := by
  induction h with
  | wk a c h => exact fun v hr => (h imm m v hr).mono hi (.refl _)
  | agg l l' hl _ ih =>
    intro v hr
    cases hr with
    | agg cs _ h1 h2 => exact .agg cs l' (by omega) fun i hi1 hi2 => ih i (by omega) hi2 _ (h2 i hi1 (by omega))
  | tup l l' hl _ ih =>
    intro v hr
    cases hr with
    | tup cs _ h1 h2 => exact .tup cs l' (by omega) fun i hi1 hi2 => ih i (by omega) hi2 _ (h2 i hi1 (by omega))
  | own b k s n c es es' hb he hl hk _ ih =>
    intro v hr
    simp only [elemsB] at he
    split at he
    · rename_i k' es0 hob
      split at he
      · rename_i hc
        obtain ⟨rfl, hle⟩ := hc
        cases he
        obtain ⟨hlt, hob⟩ := List.getElem?_eq_some_iff.1 hob
        have h0 := hs.obs b hlt
        have hD0 := hD b hb hlt (by rw [hob]; rfl)
        rw [hob] at h0
        obtain ⟨blk, sz, h1, h2, cs, T, fr, h3, h4, h5, h6, h7⟩ := h0
        have himm := hD0 blk sz h1
        cases hr with
        | own _ _ _ _ _ cap blk' sz' x hm hn hcc hx hc =>
          rw [h1] at hm
          cases hm
          subst hx
          have hn2 : es'.length = n := by rw [← hl]; simp; omega
          have hel : ∀ i (hi : i < n), ((es0.drop s).take n)[i]'(by simp; omega) = es0[s + i]'(by omega) := fun i hi => by simp
          have hcell : ∀ i (hi : i < n) j (hj : j < es0[s + i].length), ∃ u, cs[(s + i) * k' + j]? = some u ∧ Rep imm m u es0[s + i][j] := fun i h j hj => (h7 (s + i) (by omega)).2 j hj
          have hkl : ∀ i (hi : i < es'.length), es'[i].length = k' := fun i hi => by
            rw [← hk i (by rw [hl]; exact hi) hi, hel i (by omega)]
            exact (h7 (s + i) (by omega)).1
          refine .sl _ cap n es' k' (fun i j => (cs[(s + i) * k' + j]?).getD undef) hn2.symm (by omega) hkl (fun hpos => ⟨blk, s * k', rfl, fun i hi j hj => ?_⟩) (fun i hi j hj => ?_)
          · obtain ⟨u, e, _⟩ := hcell i (by omega) j (by rw [(h7 (s + i) (by omega)).1]; exact hj)
            have e3 : s * k' + (i * k' + j) = (s + i) * k' + j := by rw [Nat.add_mul]; omega
            unfold icell
            rw [himm, h3]
            simp only [e3, e]
            rfl
          · have hj2 : j < es0[s + i].length := by rw [(h7 (s + i) (by omega)).1, ← hkl i hi]; exact hj
            obtain ⟨u, e, r⟩ := hcell i (by omega) j hj2
            rw [e]
            have e9 := hel i (by omega)
            have := ih i (by rw [hl]; exact hi) hi j (by rw [e9]; exact hj2) hj u (by simp only [e9]; exact r)
            exact this
      · cases he
    · cases he
  | sl es es' hl hk _ ih =>
    intro v hr
    cases hr with
    | sl p cap n _ k vals hn hcap hkk hp hrr =>
      refine .sl p cap n es' k vals (by omega) hcap (fun i hi => by rw [← hk i (by omega) hi]; exact hkk i (by omega)) (fun h0 => ?_) (fun i hi j hj => ih i (by omega) hi j (by rw [hk i (by omega) hi]; exact hj) hj _ (hrr i (by omega) j (by rw [hk i (by omega) hi]; exact hj)))
      obtain ⟨b, o, e, hc⟩ := hp (by omega)
      exact ⟨b, o, e, fun i hi' j hj => icell_mono hi (hc i (by omega) j hj)⟩
def killL : List Nat → Store → Store
  | [], S => S
  | i :: r, S => killL r (S.set i .dead)
theorem killL_length : ∀ (ids : List Nat) (S : Store), (killL ids S).length = S.length
  | [], _ => rfl
  | i :: r, S => by rw [killL, killL_length r, List.length_set]
theorem killL_get : ∀ (ids : List Nat) (S : Store) (b : Nat), (killL ids S)[b]? = if b ∈ ids ∧ b < S.length then some .dead else S[b]?
  | [], S, b => by simp [killL]
  | i :: r, S, b => by
    rw [killL, killL_get r, List.length_set, List.getElem?_set]
    by_cases h1 : b ∈ r ∧ b < S.length
    · rw [if_pos h1, if_pos ⟨by simp [h1.1], h1.2⟩]
    · rw [if_neg h1]
      by_cases h2 : i = b
      · rw [if_pos h2]
        by_cases h3 : i < S.length
        · rw [if_pos h3, if_pos ⟨by simp [h2], by omega⟩]
        · rw [if_neg h3, if_neg (by omega), List.getElem?_eq_none (by omega)]
      · rw [if_neg h2, if_neg]
        rintro ⟨h3, h4⟩
        rcases List.mem_cons.1 h3 with rfl | h3
        · exact h2 rfl
        · exact h1 ⟨h3, h4⟩
theorem Sim.killL : ∀ (ids : List Nat) {imm : Imm} {S : Store}, Sim K0 imm m w S → ∃ imm', ILe imm imm' ∧ Sim K0 imm' m w (killL ids S) ∧
    ∀ b ∈ ids, ∀ (h : b < S.length), S[b].live = true → ∀ blk sz, m b = some (blk, sz) → imm' blk = w.heap[blk]?
  | [], imm, S, hs => ⟨imm, .refl _, hs, fun b hb => by cases hb⟩
  | i :: r, imm, S, hs => by
    have key : ∃ imm1, ILe imm imm1 ∧ Sim K0 imm1 m w (S.set i .dead) ∧ ∀ (h : i < S.length), S[i].live = true → ∀ blk sz, m i = some (blk, sz) → imm1 blk = w.heap[blk]? := by
      by_cases hlt : i < S.length
      · by_cases hl : S[i].live = true
        · obtain ⟨blk, sz, hm, hb, _⟩ := (hs.obs i hlt).lt hl
          obtain ⟨o, ho⟩ : ∃ o, w.heap[blk]? = some o := ⟨_, Array.getElem?_eq_getElem hb⟩
          obtain ⟨imm1, h1, h2, h3⟩ := hs.freeze hlt hl hm ho
          refine ⟨imm1, h1, h3, fun _ _ blk' sz' hm' => ?_⟩
          rw [hm] at hm'
          cases hm'
          rw [h2, ho]
        · exact ⟨imm, .refl _, hs.kill i, fun _ h => absurd h hl⟩
      · exact ⟨imm, .refl _, hs.kill i, fun h => absurd h hlt⟩
    obtain ⟨imm1, a1, a2, a3⟩ := key
    obtain ⟨imm2, b1, b2, b3⟩ := Sim.killL r a2
    refine ⟨imm2, a1.trans b1, b2, fun b hb hlt hl blk sz hm => ?_⟩
    by_cases e : b = i
    · subst e
      have h9 := a3 hlt hl blk sz hm
      obtain ⟨blk', sz', hm', hb', _⟩ := (hs.obs b hlt).lt hl
      rw [hm] at hm'
      cases hm'
      have ho : w.heap[blk]? = some w.heap[blk] := Array.getElem?_eq_getElem hb'
      rw [ho] at h9 ⊢
      exact b1 _ _ h9
    · rcases List.mem_cons.1 hb with e' | hb
      · exact absurd e' e
      · have e3 : (S.set i .dead)[b]'(by rw [List.length_set]; exact hlt) = S[b] := List.getElem_set_ne (fun h => e h.symm) _
        exact b3 b hb (by rw [List.length_set]; exact hlt) (by rw [e3]; exact hl) blk sz hm
/-- A store that knows the same, the objects of a list held fast, others' cells known by what they come to. -/
def StDeep (S : Store) (ids : List Nat) (S' : Store) : Prop := S'.length = S.length ∧ ∀ b (h1 : b < S.length) (h2 : b < S'.length),
  S'[b] = .dead ∨ (b ∉ ids ∧ (S'[b] = S[b] ∨ ∃ k es es', S[b] = .cells k es ∧ S'[b] = .cells k es' ∧ DeepR S (· ∈ ids) es es'))
theorem Sim.deepAll (hs : Sim K0 imm m w σ) (ids : List Nat) : ∃ imm', ILe imm imm' ∧ (∀ a c, Deep σ (fun b => b ∈ ids ∨ σ.length ≤ b) a c → ∀ v, Rep imm m v a → Rep imm' m v c) ∧ ∀ S', StDeep σ ids S' → Sim K0 imm' m w S' := by
  obtain ⟨imm', hi, hk, hD⟩ := Sim.killL ids hs
  refine ⟨imm', hi, fun a c h => deep_rep hs hi (fun b hb hlt => hD b (hb.resolve_right (by omega)) hlt) h, fun S' ⟨hl, hS⟩ => ?_⟩
  have hkl := killL_length ids σ
  have hkg : ∀ b (h : b < σ.length), b ∉ ids → (Proofs.YtephecognbbaoabGreat.killL ids σ)[b]'(by omega) = σ[b] := fun b h hb => by
    have h1 := killL_get ids σ b
    rw [if_neg (fun h => hb h.1), List.getElem?_eq_getElem h, List.getElem?_eq_getElem (by omega)] at h1
    exact Option.some.inj h1
  refine ⟨hk.os, hk.tape, hk.output, hk.size, hk.imm_ok, fun id h => hk.dom id (by omega), fun b h2 => ?_, fun i j hi1 hj1 li lj e => ?_⟩
  · have h1 : b < σ.length := by omega
    rcases hS b h1 h2 with e | ⟨hb, e | ⟨k, es, es', e1, e2, e3⟩⟩
    · rw [e]; trivial
    · rw [e, ← hkg b h1 hb]
      exact hk.obs b (by omega)
    · rw [e2]
      have h0 := hs.obs b h1
      have h9 := hk.obs b (by omega)
      rw [hkg b h1 hb] at h9
      rw [e1] at h0 h9
      obtain ⟨blk, sz, g1, g2, cs, T, fr, g3, g4, g5, g6, g7⟩ := h0
      obtain ⟨blk', sz', q1, q2, _⟩ := h9
      rw [g1] at q1
      cases q1
      refine ⟨blk, sz, g1, q2, cs, T, fr, g3, g4, g5, by rw [← e3.1]; exact g6, fun i hi' => ?_⟩
      have hlt : i < es.length := by rw [e3.1]; exact hi'
      have e4 := e3.2 i hlt hi'
      refine ⟨by rw [← e4.1]; exact (g7 i hlt).1, fun j hj => ?_⟩
      obtain ⟨v, hv, r⟩ := (g7 i hlt).2 j (by rw [e4.1]; exact hj)
      exact ⟨v, hv, deep_rep hs hi hD (e4.2 j (by rw [e4.1]; exact hj) hj) v r⟩
  · have live : ∀ b (h : b < S'.length), S'[b].live = true → ((Proofs.YtephecognbbaoabGreat.killL ids σ)[b]'(by omega)).live = true := fun b h hl2 => by
      rcases hS b (by omega) h with e | ⟨hb, e | ⟨k, es, es', e1, e2, e3⟩⟩
      · rw [e] at hl2; cases hl2
      · rw [hkg b (by omega) hb, ← e]; exact hl2
      · rw [hkg b (by omega) hb, e1]; rfl
    exact hk.inj i j (by omega) (by omega) (live i hi1 li) (live j hj1 lj) e
theorem StDeep.kill (ids : List Nat) (S : Store) : StDeep S ids (Proofs.YtephecognbbaoabGreat.killL ids S) := by
  refine ⟨killL_length ids S, fun b h1 h2 => ?_⟩
  have h := killL_get ids S b
  by_cases hb : b ∈ ids
  · rw [if_pos ⟨hb, h1⟩, List.getElem?_eq_getElem h2] at h
    exact .inl (Option.some.inj h)
  · rw [if_neg (fun h => hb h.1), List.getElem?_eq_getElem h2, List.getElem?_eq_getElem h1] at h
    exact .inr ⟨hb, .inl (Option.some.inj h)⟩
/-- One object's cells more are known by what they come to. -/
theorem StDeep.cell {S S' : Store} {ids : List Nat} (h : StDeep S ids S') {b k : Nat} {es es' : List (List AV)} (hb : b ∉ ids) (ho : S[b]? = some (.cells k es)) (hd : DeepR S (· ∈ ids) es es') : StDeep S ids (S'.set b (.cells k es')) := by
  refine ⟨by rw [List.length_set]; exact h.1, fun b' h1 h2 => ?_⟩
  rw [List.length_set] at h2
  by_cases e : b' = b
  · subst e
    obtain ⟨hlt, ho⟩ := List.getElem?_eq_some_iff.1 ho
    exact .inr ⟨hb, .inr ⟨k, es, es', ho, by simp, hd⟩⟩
  · rw [List.getElem_set_ne (fun h => e h.symm)]
    exact h.2 b' h1 h2
theorem AWP_deep {c : Code} (ids : List Nat) (S' : Store) (β : AF) (hS : StDeep σ ids S') (hβ : ∀ t av, look β t = some av → ∃ a, look α t = some a ∧ Deep σ (· ∈ ids) a av) (h : AWPr rd P N c Q β S') : AWPr rd P N c Q α σ := by
  intro K imm m w a hs hf
  obtain ⟨imm', hi, hr, hs'⟩ := hs.deepAll ids
  refine Code.wpIn_mono (fun _ _ _ hq => lift_mono hi (.refl _) hq) (h K imm' m w a (hs' S' hS) ⟨hf.defers.mono hi, hf.size, fun t av ht => ?_⟩)
  obtain ⟨a0, h1, h2⟩ := hβ t av ht
  obtain ⟨v, hv, r⟩ := hf.slot t a0 h1
  exact ⟨v, hv, hr a0 av (h2.mono fun _ h => .inl h) v r⟩
/-- Cells are known by what they come to. -/
theorem AWP_deepS {c : Code} (ids : List Nat) (S' : Store) (hS : StDeep σ ids S') (h : AWPr rd P N c Q α S') : AWPr rd P N c Q α σ :=
  AWP_deep ids S' α hS (fun t av ht => ⟨av, ht, .same _⟩) h
/-- A callee that sees what it is handed by its content; what is handed is held fast from then on. -/
theorem ACalls.useD {f : FuncId} {args args' : List AV} {R : AV → Store → Prop} (ids : List Nat) (S' : Store) (hS : StDeep σ ids S') (hd : DeepL σ (· ∈ ids) args args') (h : ACalls P f args' S' R) : ACalls P f args σ R := by
  intro K imm m w vs hs hv
  obtain ⟨imm', hi, hr, hs'⟩ := hs.deepAll ids
  refine (h K imm' m w vs (hs' S' hS) ⟨by rw [hv.1, hd.1], fun i h1 h2 => ?_⟩).mono ?_
  · exact hr _ _ ((hd.2 i (by rw [hd.1]; exact h2) h2).mono fun _ h => .inl h) _ (hv.2 i h1 (by rw [hd.1]; exact h2))
  · rintro e w' ⟨i, m', v, r, s, a, b, c, d, e', hR⟩
    exact ⟨i, m', v, r, s, a, hi.trans b, c, d, e', hR⟩
/-- Where a function ends whose answer is known by its content. -/
def DeepQ (σ : Store) (X r : AV) (σ' : Store) : Prop := (∃ τ, σ' = σ ++ τ) ∧ Bd σ.length X ∧ Deep σ' (σ.length ≤ ·) r X
theorem DeepQ_of {σ' τ : Store} {X r : AV} (hs : σ' = σ ++ τ) (hb : Bd σ.length X) (hd : Deep σ' (σ.length ≤ ·) r X) : DeepQ σ X r σ' := ⟨⟨τ, hs⟩, hb, hd⟩
theorem ACalls.deep {f : FuncId} {args : List AV} {X : AV} (h : ACalls P f args σ (DeepQ σ X)) : ACalls P f args σ fun r σ' => σ' = σ ∧ r = X := by
  refine ACalls.cut ?_
  intro K imm m w vs hs hv
  refine (h K imm m w vs hs hv).mono ?_
  rintro e w' ⟨imm', m', v, r, σ', he, hi, ho, hs', hr, ⟨τ, rfl⟩, hb, hd⟩
  obtain ⟨imm'', hi', hr', hk⟩ := hs'.deepAll ((List.range τ.length).map (σ.length + ·))
  refine ⟨imm'', m', v, X, Proofs.YtephecognbbaoabGreat.killL ((List.range τ.length).map (σ.length + ·)) (σ ++ τ), he, hi.trans hi', ho, hk _ (.kill _ _), hr' r X ?_ v hr, ?_, hb, rfl⟩
  · refine hd.mono fun b hb => ?_
    by_cases hlt : b < (σ ++ τ).length
    · exact .inl (List.mem_map.2 ⟨b - σ.length, by simp at hlt ⊢; omega, by omega⟩)
    · exact .inr (by omega)
  · refine ⟨(Proofs.YtephecognbbaoabGreat.killL ((List.range τ.length).map (σ.length + ·)) (σ ++ τ)).drop σ.length, ?_⟩
    apply List.ext_getElem?
    intro i
    rcases Nat.lt_or_ge i σ.length with h1 | h1
    · rw [List.getElem?_append_left h1, killL_get, if_neg, List.getElem?_append_left h1]
      rintro ⟨h2, _⟩
      obtain ⟨q, _, h3⟩ := List.mem_map.1 h2
      omega
    · have e : (σ ++ (Proofs.YtephecognbbaoabGreat.killL ((List.range τ.length).map (σ.length + ·)) (σ ++ τ)).drop σ.length)[i]? = (Proofs.YtephecognbbaoabGreat.killL ((List.range τ.length).map (σ.length + ·)) (σ ++ τ))[i]? := by
        rw [List.getElem?_append_right h1, List.getElem?_drop]
        rw [show σ.length + (i - σ.length) = i by omega]
      rw [e]
/-- Values that speak of no memory. -/
def PureA (a : AV) : Prop := ∀ imm m imm' m' v, Rep imm m v a → Rep imm' m' v a
theorem PureA.c (v : Value) : PureA (.c v) := fun _ _ _ _ _ h => by rw [h.c_inv]; exact .c v
theorem PureA.tup {l : List AV} (hl : ∀ a ∈ l, PureA a) : PureA (.tup l) := fun _ _ _ _ _ h => by
  cases h with
  | tup cs _ h1 h2 => exact .tup cs l h1 fun i a b => hl _ (List.getElem_mem b) _ _ _ _ _ (h2 i a b)
end
end Go.Proofs.YtephecognbbaoabGreat
namespace Go.Proofs.YtephecognbbaoabGreat
theorem nodup_set {X : Type} {x : X} : ∀ {l : List X}, l.Nodup → ∀ k, x ∉ l → (l.set k x).Nodup
  | [], _, _, _ => by simp
  | y :: l, h, 0, hx => by
    rw [List.nodup_cons] at h
    rw [List.set_cons_zero, List.nodup_cons]
    exact ⟨fun hc => hx (List.mem_cons_of_mem _ hc), h.2⟩
  | y :: l, h, k + 1, hx => by
    rw [List.nodup_cons] at h
    rw [List.mem_cons, not_or] at hx
    rw [List.set_cons_succ, List.nodup_cons]
    refine ⟨fun hc => ?_, nodup_set h.2 k hx.2⟩
    rcases List.mem_or_eq_of_mem_set hc with hc | hc
    · exact h.1 hc
    · exact hx.1 hc.symm
theorem DeepR.setL {S : Store} {D : Nat → Prop} {a c : List AV} (l : List (List AV)) (k : Nat) (h : DeepL S D a c) : DeepR S D (l.set k a) (l.set k c) :=
  ⟨by simp, fun i h1 h2 => by
    rw [List.getElem_set, List.getElem_set]
    split
    · exact h
    · exact .same _⟩
theorem DeepR.repl {S : Store} {D : Nat → Prop} {a c : List AV} (h : DeepL S D a c) (k : Nat) : DeepR S D (List.replicate k a) (List.replicate k c) :=
  ⟨by simp, fun i h1 h2 => by
    rw [List.getElem_replicate, List.getElem_replicate]
    exact h⟩
/-- A router begins anew. -/
theorem MachW.fresh {S : Store} {lo b : Nat} {n : Net} {e : Eng} {rb : Nat} {tb : List Nat} {gv : AV} {gi : List Nat} (h : MachW S lo b n e rb tb gv gi) {i : Int} {t : Nat} (h0 : 0 ≤ i) (h1 : i < e.routers.length) (r' : Rtr) (τ : Store) (ht : S.length ≤ t) (hlo : lo ≤ S.length) (hg : ∀ x ∈ gi, x < S.length)
    (hT : (S.set rb (.cells 2 ((List.zipWith rtrV e.routers tb).set i.toNat (rtrV r' t))) ++ τ)[t]? = some (.cells 1 (r'.told.map rowC))) :
    MachW (S.set rb (.cells 2 ((List.zipWith rtrV e.routers tb).set i.toNat (rtrV r' t))) ++ τ) lo b n (setR e i r') rb (tb.set i.toNat t) gv gi := by
  obtain ⟨n1, n2, n3, n4, n5, n6, n7, n8⟩ := h.ne
  have hlt := h.lt
  have hi : i.toNat < e.routers.length := by omega
  have hi2 : i.toNat < tb.length := by rw [h.tl]; exact hi
  have hmem : ∀ x ∈ tb.set i.toNat t, x = t ∨ x ∈ tb := fun x hx => (List.mem_or_eq_of_mem_set hx).symm
  refine ⟨?_, ?_, ?_, fun k h2 h3 => ?_, (h.bag.set n5).app, ?_, fun x hx => ?_⟩
  · rw [setR, List.length_set]
    exact st_app (st_set h.hb n1.symm)
  · rw [st_app (st_self h.hrb), setR, zipW_set]
  · rw [setR, List.length_set, List.length_set]
    exact h.tl
  · have h3' : k < e.routers.length := by simpa [setR] using h3
    have h2' : k < tb.length := by simpa using h2
    by_cases hk : i.toNat = k
    · subst hk
      have e2 : (setR e i r').routers[i.toNat].told = r'.told := by simp [setR]
      rw [e2, List.getElem_set_self]
      exact hT
    · have e2 : (setR e i r').routers[k].told = e.routers[k].told := by
        simp only [setR, List.getElem_set]
        rw [if_neg hk]
      rw [e2, List.getElem_set_ne hk]
      exact st_app (st_set (h.ht k h2' h3') (fun e => n4 (by rw [e]; exact List.getElem_mem h2')))
  · have hb := hlt b (by simp)
    have hrb := hlt rb (by simp)
    rw [List.nodup_cons, List.nodup_cons, List.nodup_append]
    simp only [List.mem_cons, List.mem_append, not_or]
    refine ⟨⟨n1, fun hc => ?_, n3⟩, ⟨fun hc => ?_, n5⟩, nodup_set n6 _ (fun hc => absurd (hlt t (by simp [hc])) (by omega)), n7, fun x hx y hy e => ?_⟩
    · rcases hmem _ hc with e | hc
      · omega
      · exact n2 hc
    · rcases hmem _ hc with e | hc
      · omega
      · exact n4 hc
    · subst e
      rcases hmem _ hx with e | hx
      · have := hg _ hy
        omega
      · exact n8 _ hx hy
  · simp only [List.mem_cons, List.mem_append] at hx
    rcases hx with rfl | rfl | hx | hx
    · exact h.lo _ (by simp)
    · exact h.lo _ (by simp)
    · rcases hmem _ hx with e | hx
      · omega
      · exact h.lo _ (by simp [hx])
    · exact h.lo _ (by simp [hx])
theorem expire_calls (n : Net) (e : Eng) (hc : checkN n = 0) (hl : n.links.length ≤ 5864062014634) (he : EngIn n e) (ρ S : Store) (b : Nat) (hS : MachK ρ S b n e) (v : Evt) (h0 : 0 ≤ v.at') (h1 : v.at' < n.nodes) :
    ACalls Tryz.prog 45 [.ptr b 7 0 0, .agg (evtC v)] S fun r S' => MachK ρ S' b n (if !inR v.b 0 (n.nodes - 1) then e else lookedE n (setR e v.at' (toldR (at0 e.routers v.at') v.b [])) v.at') ∧ r = intA1 (if !inR v.b 0 (n.nodes - 1) then 5 else 0) := by
  have hn := netIn_of hc
  have n6 := hn.n6
  have hel := he.len
  have hir : v.at' < e.routers.length := by omega
  obtain ⟨hK0, rb, tb, gv, gi, M⟩ := hS
  have hb := M.hb
  have hbL : ∀ τ, (S ++ τ)[b]? = some (.cells 7 [netC n ++ [.own rb 2 0 e.routers.length e.routers.length, gv]]) := fun τ => st_app hb
  have hN := enode_calls n v.b
  by_cases c1 : 0 ≤ v.b ∧ v.b < n.nodes
  · have hT : inR v.b 0 (n.nodes - 1) = true := inR_iff.2 (by omega)
    rw [hT] at hN ⊢
    obtain ⟨t, ht1, ht2, hRr, ht3⟩ := M.row h0 hir
    have hRin : RtrIn n (at0 e.routers v.at') := rtr_at he ⟨h0, h1⟩
    have htl := hRin.tl
    rw [rtrV] at hRr
    have hrN : ∀ τ, (S ++ τ)[rb]? = some (.cells 2 (List.zipWith rtrV e.routers tb)) := fun τ => st_app M.hrb
    have htN : ∀ τ, (S ++ τ)[t]? = some (.cells 1 ((at0 e.routers v.at').told.map rowC)) := fun τ => st_app ht3
    have htS : ∀ τ o, (S ++ τ).set t o = S.set t o ++ τ := fun τ o => st_setApp ht3
    have hzl : (List.zipWith rtrV e.routers tb).length = e.routers.length := by rw [List.length_zipWith, M.tl, Nat.min_self]
    have hgr := get_mapG rowC (at0 e.routers v.at').told c1.1 (by omega)
    refine ACalls_of_awp Tryz.func45 rfl Tryz.results45 ?_
    simp only [List.length_cons, List.length_nil, Tryz.ntmps45, Nat.reduceAdd, Nat.reduceSub, enterA]
    refine AWP_seq_k fun K hK => ?_
    (refine AWP_region ?_; simp -implicitDefEqProofs only [go_sem])
    refine hK _ _ ?_; clear hK K
    refine AWP_freezeP 3 rfl (by simp only [st0]; rfl) ?_
    simp only [ss0, List.set_cons_zero]
    (repeat' (first|(refine g_s fun K hK=>?_)|(refine g_k ?_;simp only[thenQ,blockQ])|(refine g_c (fun h=>?_) (fun h=>?_)<;>(try simp only[go_sem] at h)<;>(try exact g_f))|((first|refine g_g ?_|refine g_U ?_|refine g_q (fun τ=>hN _) ?_);(try simp -implicitDefEqProofs only[go_sem,hbL, hrN, hRr, htN, htS, hzl, hgr]))|(with_reducible refine hK _ _ ?_;clear hK K)|(with_reducible refine And.intro ?_ ?_;· exact g_x)|fail))
    have hst : (S.set t (.cells 1 (((at0 e.routers v.at').told.map rowC).set v.b.toNat [.c (.slice none 0 0)])) ++ [Ob.dead])[t]? = some (.cells 1 (((at0 e.routers v.at').told.map rowC).set v.b.toNat [.c (.slice none 0 0)])) := st_app (st_self ht3)
    refine ACalls.useD [] _ ((StDeep.kill [] _).cell (b := t) (k := 1) (es' := ((at0 e.routers v.at').told.map rowC).set v.b.toNat [.sl []]) (by simp) hst (DeepR.setL _ _ (.cons .nil .nil))) (DeepL.same _) ?_
    have hkl : (killL [] (S.set t (.cells 1 (((at0 e.routers v.at').told.map rowC).set v.b.toNat [.c (.slice none 0 0)])) ++ [Ob.dead])).set t (.cells 1 (((at0 e.routers v.at').told.map rowC).set v.b.toNat [.sl []])) = S.set t (.cells 1 (((at0 e.routers v.at').told.set v.b.toNat []).map rowC)) ++ [Ob.dead] := by
      have e1 := set_rowC (at0 e.routers v.at').told v.b.toNat []
      rw [List.map_nil] at e1
      rw [e1]
      show (S.set t _ ++ [Ob.dead]).set t _ = _
      rw [st_setApp (st_self ht3), List.set_set]
    rw [hkl]
    have hin2 : EngIn n (setR e v.at' (toldR (at0 e.routers v.at') v.b [])) := setR_in he (toldR_in hRin (.inl rfl) _) _
    refine (elook_calls n _ hc hl hin2 ρ _ b ⟨(hK0.set (M.lo t (by simp [ht2]))).app, rb, tb, _, _, (M.told h0 hir ht1 ((at0 e.routers v.at').told.set v.b.toNat []) (by simp)).app⟩ v.at' h0 h1).mono ?_
    rintro r S' ⟨h, rfl⟩
    (repeat' (first|(refine g_s fun K hK=>?_)|((first|refine g_t ?_|refine g_g ?_);(try simp -implicitDefEqProofs only[go_sem]))|(with_reducible refine hK _ _ ?_;clear hK K)|fail))
    exact h
  · have hT : inR v.b 0 (n.nodes - 1) = false := by
      rw [← Bool.not_eq_true, inR_iff]
      omega
    rw [hT] at hN ⊢
    refine ACalls_of_awp Tryz.func45 rfl Tryz.results45 ?_
    simp only [List.length_cons, List.length_nil, Tryz.ntmps45, Nat.reduceAdd, Nat.reduceSub, enterA]
    refine AWP_seq_k fun K hK => ?_
    (refine AWP_region ?_; simp -implicitDefEqProofs only [go_sem])
    refine hK _ _ ?_; clear hK K
    refine AWP_freezeP 3 rfl (by simp only [st0]; rfl) ?_
    simp only [ss0, List.set_cons_zero]
    (repeat' (first|(refine g_s fun K hK=>?_)|(refine g_c (fun h=>?_) (fun h=>?_)<;>(try simp only[go_sem] at h)<;>(try exact g_f))|((first|refine g_t ?_|refine g_g ?_|refine g_U ?_|refine g_q (fun τ=>hN _) ?_);(try simp -implicitDefEqProofs only[go_sem,hbL]))|(with_reducible refine hK _ _ ?_;clear hK K)|fail))
    exact ⟨hK0.app, rb, tb, _, _, M.app⟩
theorem restart_calls (n : Net) (e : Eng) (hc : checkN n = 0) (hl : n.links.length ≤ 5864062014634) (he : EngIn n e) (ρ S : Store) (b : Nat) (hS : MachK ρ S b n e) (v : Evt) (hv : v.routes.length ≤ 17592186044000) (h0 : 0 ≤ v.at') (h1 : v.at' < n.nodes) :
    ACalls Tryz.prog 46 [.ptr b 7 0 0, .agg (evtC v)] S fun r S' => MachK ρ S' b n (if rowErr n v.routes ≠ 0 then e else setR e v.at' (freshR n v.routes)) ∧ r = intA1 (rowErr n v.routes) := by
  have hn := netIn_of hc
  have n1 := hn.n1
  have n6 := hn.n6
  have s2 := hn.alg.s2
  have s24 := hn.alg.s24
  have hx : I64 (n.alg.size - 1) := by unfold I64; omega
  have hel := he.len
  have hir : v.at' < e.routers.length := by omega
  obtain ⟨hK0, rb, tb, gv, gi, M⟩ := hS
  have hb := M.hb
  have hbL : ∀ τ, (S ++ τ)[b]? = some (.cells 7 [netC n ++ [.own rb 2 0 e.routers.length e.routers.length, gv]]) := fun τ => st_app hb
  have hro := row_calls n v.routes hx (by omega)
  have hcl := clone_calls v.routes (by omega)
  by_cases c1 : rowErr n v.routes = 0
  · rw [if_neg (by omega)]
    rw [c1] at hro ⊢
    obtain ⟨t, ht1, ht2, hRr, ht3⟩ := M.row h0 hir
    have hrN : ∀ τ, (S ++ τ)[rb]? = some (.cells 2 (List.zipWith rtrV e.routers tb)) := fun τ => st_app M.hrb
    have hrS : ∀ τ o, (S ++ τ).set rb o = S.set rb o ++ τ := fun τ o => st_setApp M.hrb
    have hzl : (List.zipWith rtrV e.routers tb).length = e.routers.length := by rw [List.length_zipWith, M.tl, Nat.min_self]
    refine ACalls_of_awp Tryz.func46 rfl Tryz.results46 ?_
    simp only [List.length_cons, List.length_nil, Tryz.ntmps46, Nat.reduceAdd, Nat.reduceSub, enterA]
    refine AWP_seq_k fun K hK => ?_
    (refine AWP_region ?_; simp -implicitDefEqProofs only [go_sem])
    refine hK _ _ ?_; clear hK K
    refine AWP_freezeP 3 rfl (by simp only [st0]; rfl) ?_
    simp only [ss0, List.set_cons_zero]
    (repeat' (first|(refine g_s fun K hK=>?_)|(refine g_k ?_;simp only[thenQ,blockQ])|(refine g_c (fun h=>?_) (fun h=>?_)<;>(try simp only[go_sem] at h)<;>(try exact g_f))|((first|refine g_g ?_|refine g_U ?_|refine g_q (fun τ=>hro _) ?_|refine g_q (fun τ=>hcl _) ?_|refine g_W ?_);(try simp -implicitDefEqProofs only[go_sem,hbL, hrN, hrS, hRr, hzl]))|(with_reducible refine hK _ _ ?_;clear hK K)|(with_reducible refine And.intro ?_ ?_;· exact g_x)|fail))
    have e9 : rtrV (freshR n v.routes) (S.length + 1) = [.sl (v.routes.map intC), .own (S.length + 1) 1 0 n.nodes.toNat n.nodes.toNat] := by simp [rtrV, freshR, intsA]
    have e8 : (freshR n v.routes).told.map rowC = List.replicate n.nodes.toNat [.sl []] := by simp [freshR, rowC, intsA]
    refine AWP_deepS [] (S.set rb (.cells 2 ((List.zipWith rtrV e.routers tb).set v.at'.toNat (rtrV (freshR n v.routes) (S.length + 1)))) ++ [.dead, .cells 1 ((freshR n v.routes).told.map rowC)]) ?_ ?_
    · rw [e9, e8]
      have hkl : ∀ o o' : Ob, ∀ Z : Ob, ((S.set rb Z) ++ [Ob.dead, o]).set (S.length + 1) o' = S.set rb Z ++ [Ob.dead, o'] := fun o o' Z => by
        rw [List.set_append_right _ _ (by simp)]
        simp
      have h := (StDeep.kill [] (S.set rb (.cells 2 ((List.zipWith rtrV e.routers tb).set v.at'.toNat [.sl (v.routes.map intC), .own (S.length + 1) 1 0 n.nodes.toNat n.nodes.toNat])) ++ [.dead, .cells 1 (List.replicate n.nodes.toNat [.c (.slice none 0 0)])])).cell (b := S.length + 1) (k := 1) (es := List.replicate n.nodes.toNat [.c (.slice none 0 0)]) (es' := List.replicate n.nodes.toNat [.sl []]) (by simp) (by rw [List.getElem?_append_right (by simp)]; simp) (DeepR.repl (.cons .nil .nil) _)
      rw [killL, hkl] at h
      exact h
    · have hgi : ∀ x ∈ gi, x < S.length := fun x hx => by
        rcases M.bag with ⟨_, h2, _⟩ | ⟨gb, rest, h2, _, h3, _⟩
        · rw [h2] at hx; cases hx
        · rw [h2] at hx
          rw [List.mem_singleton.1 hx]
          exact (List.getElem?_eq_some_iff.1 h3).1
      have hT : (S.set rb (.cells 2 ((List.zipWith rtrV e.routers tb).set v.at'.toNat (rtrV (freshR n v.routes) (S.length + 1)))) ++ [.dead, .cells 1 ((freshR n v.routes).told.map rowC)])[S.length + 1]? = some (.cells 1 ((freshR n v.routes).told.map rowC)) := by
        rw [List.getElem?_append_right (by simp)]
        simp
      have hM := M.fresh h0 hir (freshR n v.routes) _ (by omega) hK0.len hgi hT
      (repeat' (first|(refine g_t ?_;(try simp -implicitDefEqProofs only[go_sem]))|fail))
      exact ⟨(hK0.set (M.lo rb (by simp))).app, rb, _, _, _, hM⟩
  · rw [if_pos c1]
    refine ACalls_of_awp Tryz.func46 rfl Tryz.results46 ?_
    simp only [List.length_cons, List.length_nil, Tryz.ntmps46, Nat.reduceAdd, Nat.reduceSub, enterA]
    refine AWP_seq_k fun K hK => ?_
    (refine AWP_region ?_; simp -implicitDefEqProofs only [go_sem])
    refine hK _ _ ?_; clear hK K
    refine AWP_freezeP 3 rfl (by simp only [st0]; rfl) ?_
    simp only [ss0, List.set_cons_zero]
    (repeat' (first|(refine g_s fun K hK=>?_)|(refine g_c (fun h=>?_) (fun h=>?_)<;>(try simp only[go_sem] at h)<;>(try exact g_f))|((first|refine g_t ?_|refine g_g ?_|refine g_U ?_|refine g_q (fun τ=>hro _) ?_);(try simp -implicitDefEqProofs only[go_sem,hbL, c1]))|(with_reducible refine hK _ _ ?_;clear hK K)|fail))
    exact ⟨hK0.app, rb, tb, _, _, M.app⟩
end Go.Proofs.YtephecognbbaoabGreat
