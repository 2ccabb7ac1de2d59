/- Values that own slices within slices, known by their content. -/
import Derived.Test.YtephecognbbaoaaGreatZLo
import Derived.Test.YtephecognbbaoaaGreatZEi
import Derived.Test.YtephecognbbaoaaGreatZSo
import Derived.Test.YtephecognbbaoaaGreatZSr
import Derived.Test.YtephecognbbaoaaGreatZAb
open Go
set_option linter.all false
set_option maxRecDepth 100000
set_option maxHeartbeats 4000000
namespace Go.Proofs.YtephecognbbaoaaGreat
open Go
set_option linter.all false
inductive bG (S:aa) (D:Nat→Prop):AV→AV→Prop
 | wk (a c:AV) (h:Wk a c):bG S D a c
 | agg (l l':List AV) (hl:l.length=l'.length) (h:∀i (h1:i<l.length) (h2:i<l'.length),bG S D l[i] l'[i]):bG S D (.agg l) (.agg l')
 | tup (l l':List AV) (hl:l.length=l'.length) (h:∀i (h1:i<l.length) (h2:i<l'.length),bG S D l[i] l'[i]):bG S D (.tup l) (.tup l')
 | own (b k s n c:Nat) (es es':List (List AV)) (hb:D b) (he:dl S (.own b k s n c)=some es) (hl:es.length=es'.length)
   (hk:∀i (h1:i<es.length) (h2:i<es'.length),es[i].length=es'[i].length)
   (h:∀i (h1:i<es.length) (h2:i<es'.length) j (h3:j<es[i].length) (h4:j<es'[i].length),bG S D es[i][j] es'[i][j]):bG S D (.own b k s n c) (.sl es')
 | sl (es es':List (List AV)) (hl:es.length=es'.length) (hk:∀i (h1:i<es.length) (h2:i<es'.length),es[i].length=es'[i].length)
   (h:∀i (h1:i<es.length) (h2:i<es'.length) j (h3:j<es[i].length) (h4:j<es'[i].length),bG S D es[i][j] es'[i][j]):bG S D (.sl es) (.sl es')
def cG (S:aa) (D:Nat→Prop) (l l':List AV):Prop:=l.length=l'.length∧∀i (h1:i<l.length) (h2:i<l'.length),bG S D l[i] l'[i]
def bW (S:aa) (D:Nat→Prop) (l l':List (List AV)):Prop:=l.length=l'.length∧∀i (h1:i<l.length) (h2:i<l'.length),cG S D l[i] l'[i]
theorem bG.same {S:aa} {D:Nat→Prop} (a:AV):bG S D a a:=.wk a a (.refl a)
theorem bG.nil {S:aa} {D:Nat→Prop} : bG S D (.c (.slice none 0 0)) (.sl []):=.wk _ _ .nil
theorem bG.emp {S:aa} {D:Nat→Prop} : bG S D .emp (.sl []):=.wk _ _ .emp
theorem cG.nil {S:aa} {D:Nat→Prop} : cG S D [] []:=⟨rfl,fun i h=>by simp at h⟩
theorem cG.cons {S:aa} {D:Nat→Prop} {a c:AV} {l l':List AV} (h:bG S D a c) (h':cG S D l l'):cG S D (a::l) (c::l'):=
 ⟨by simp [h'.1],fun i h1 h2=>by
  cases i with
  | zero=>exact h
  | succ i=>exact h'.2 i (by simpa using h1) (by simpa using h2)⟩
theorem cG.same {S:aa} {D:Nat→Prop} (l:List AV):cG S D l l:=⟨rfl,fun i h1 h2=>.same _⟩
theorem bW.nil {S:aa} {D:Nat→Prop} : bW S D [] []:=⟨rfl,fun i h=>by simp at h⟩
theorem bW.cons {S:aa} {D:Nat→Prop} {a c:List AV} {l l':List (List AV)} (h:cG S D a c) (h':bW S D l l'):bW S D (a::l) (c::l'):=
 ⟨by simp [h'.1],fun i h1 h2=>by
  cases i with
  | zero=>exact h
  | succ i=>exact h'.2 i (by simpa using h1) (by simpa using h2)⟩
theorem bW.same {S:aa} {D:Nat→Prop} (l:List (List AV)):bW S D l l:=⟨rfl,fun i h1 h2=>.same _⟩
theorem bW.map {S:aa} {D:Nat→Prop} {X:Type} {f g:X→List AV} : ∀(l:List X),(∀x∈l,cG S D (f x) (g x))→bW S D (l.map f) (l.map g)
 | [],_=>.nil
 | x::r,h=>.cons (h x (by simp)) (bW.map r fun y hy=>h y (by simp [hy]))
theorem bG.aggL {S:aa} {D:Nat→Prop} {l l':List AV} (h:cG S D l l'):bG S D (.agg l) (.agg l'):=.agg l l' h.1 h.2
theorem bG.tupL {S:aa} {D:Nat→Prop} {l l':List AV} (h:cG S D l l'):bG S D (.tup l) (.tup l'):=.tup l l' h.1 h.2
theorem bG.slR {S:aa} {D:Nat→Prop} {l l':List (List AV)} (h:bW S D l l'):bG S D (.sl l) (.sl l'):=
 .sl l l' h.1 (fun i h1 h2=>(h.2 i h1 h2).1) fun i h1 h2 j h3 h4=>(h.2 i h1 h2).2 j h3 h4
theorem bG.ownR {S:aa} {D:Nat→Prop} {b k s n c:Nat} {es es':List (List AV)} (hb:D b) (he:dl S (.own b k s n c)=some es) (h:bW S D es es'):bG S D (.own b k s n c) (.sl es'):=
 .own b k s n c es es' hb he h.1 (fun i h1 h2=>(h.2 i h1 h2).1) fun i h1 h2 j h3 h4=>(h.2 i h1 h2).2 j h3 h4
theorem bG.ownW {S:aa} {D:Nat→Prop} {b k n c:Nat} {es es':List (List AV)} (hb:D b) (ho:S[b]? = some (.cells k es)) (hn:n=es.length) (h:bW S D es es'):bG S D (.own b k 0 n c) (.sl es'):=
 .ownR hb (by subst hn;simp [dl,ho]) h
theorem bG.congr {S S':aa} {D D':Nat→Prop} (hD:∀b,D b→D' b∧∀o,S[b]? = some o→S'[b]? = some o) {a c:AV} (h:bG S D a c):bG S' D' a c:=by
 induction h with
 | wk a c h=>exact .wk a c h
 | agg l l' hl _ ih=>exact .agg l l' hl ih
 | tup l l' hl _ ih=>exact .tup l l' hl ih
 | own b k s n c es es' hb he hl hk _ ih=>
  refine .own b k s n c es es' (hD b hb).1 ?_ hl hk ih;unfold dl at he ⊢;simp only at he ⊢
  cases ho:S[b]? with
  | none=>rw[ho] at he;cases he
  | some o=>rw[(hD b hb).2 o ho];rw[ho] at he;exact he
 | sl es es' hl hk _ ih=>exact .sl es es' hl hk ih
theorem bG.ext {S:aa} {D:Nat→Prop} (τ:aa) {a c:AV} (h:bG S D a c):bG (S++τ) D a c:=
 h.congr fun b hb=>⟨hb,fun o ho=>by
  obtain⟨hlt,_⟩:=List.getElem?_eq_some_iff.1 ho;rw[List.getElem?_append_left hlt,ho]⟩
theorem bG.set {S:aa} {D:Nat→Prop} {b:Nat} (hb:¬D b) (o:Ob) {a c:AV} (h:bG S D a c):bG (S.set b o) D a c:=
 h.congr fun b' hb'=>⟨hb',fun o' ho=>by
  have hne:b≠b':=by rintro rfl;exact hb hb'
  rw[List.getElem?_set_ne hne];exact ho⟩
theorem bG.mono {S:aa} {D D':Nat→Prop} (hD:∀b,D b→D' b) {a c:AV} (h:bG S D a c):bG S D' a c:=h.congr fun b hb=>⟨hD b hb,fun _ h=>h⟩
theorem cG.congr {S S':aa} {D D':Nat→Prop} (hD:∀b,D b→D' b∧∀o,S[b]? = some o→S'[b]? = some o) {l l':List AV} (h:cG S D l l'):cG S' D' l l':=⟨h.1,fun i h1 h2=>(h.2 i h1 h2).congr hD⟩
theorem bW.congr {S S':aa} {D D':Nat→Prop} (hD:∀b,D b→D' b∧∀o,S[b]? = some o→S'[b]? = some o) {l l':List (List AV)} (h:bW S D l l'):bW S' D' l l':=⟨h.1,fun i h1 h2=>(h.2 i h1 h2).congr hD⟩
section
variable {rd:Option Nat} {P:Program} {N:Nat} {K0:World} {imm:Imm} {m:Own} {w:World} {α:AF} {σ:aa} {Q:bV}
theorem tM {imm':Imm} (hs:Sim K0 imm m w σ) (hi:ILe imm imm') {D:Nat→Prop} (hD:∀b,D b→∀(h:b<σ.length),σ[b].live=true→∀blk sz,m b=some (blk,sz)→imm' blk=w.heap[blk]?)
  {a c:AV} (h:bG σ D a c):∀v,Rep imm m v a→Rep imm' m v c:=by
 induction h with
 | wk a c h=>exact fun v hr=>(h imm m v hr).mono hi (.refl _)
 | agg l l' hl _ ih=>
  intro v hr
  cases hr with
  | agg cs _ h1 h2=>exact .agg cs l' (by omega) fun i hi1 hi2=>ih i (by omega) hi2 _ (h2 i hi1 (by omega))
 | tup l l' hl _ ih=>
  intro v hr
  cases hr with
  | tup cs _ h1 h2=>exact .tup cs l' (by omega) fun i hi1 hi2=>ih i (by omega) hi2 _ (h2 i hi1 (by omega))
 | own b k s n c es es' hb he hl hk _ ih=>
  intro v hr;simp only[dl] at he
  split at he
  ·rename_i k' es0 hob
   split at he
   ·rename_i hc
    obtain⟨rfl,hle⟩:=hc
    cases he
    obtain⟨hlt,hob⟩:=List.getElem?_eq_some_iff.1 hob;have h0:=hs.obs b hlt;have hD0:=hD b hb hlt (by rw[hob];rfl)
    rw[hob] at h0;obtain⟨blk,sz,h1,h2,cs,T,fr,h3,h4,h5,h6,h7⟩:=h0;have himm:=hD0 blk sz h1
    cases hr with
    | own _ _ _ _ _ cap blk' sz' x hm hn hcc hx hc=>
     rw[h1] at hm
     cases hm
     subst hx;have hn2:es'.length=n:=by rw[←hl];simp;omega
     have hel:∀i (hi:i<n),((es0.drop s).take n)[i]'(by simp;omega)=es0[s+i]'(by omega):=fun i hi=>by simp
     have hcell:∀i (hi:i<n) j (hj:j<es0[s+i].length),∃u,cs[(s+i)*k'+j]? = some u∧Rep imm m u es0[s+i][j]:=fun i h j hj=>(h7 (s+i) (by omega)).2 j hj
     have hkl:∀i (hi:i<es'.length),es'[i].length=k':=fun i hi=>by
      rw[←hk i (by rw[hl];exact hi) hi,hel i (by omega)]
      exact (h7 (s+i) (by omega)).1
     refine .sl _ cap n es' k' (fun i j=>(cs[(s+i)*k'+j]?).getD undef) hn2.symm (by omega) hkl (fun hpos=>⟨blk,s*k',rfl,fun i hi j hj=>?_⟩) (fun i hi j hj=>?_)
     ·obtain⟨u,e,_⟩:=hcell i (by omega) j (by rw[(h7 (s+i) (by omega)).1];exact hj)
      have e3:s*k'+(i*k'+j)=(s+i)*k'+j:=by rw[Nat.add_mul];omega
      unfold d6;rw[himm,h3];simp only[e3,e];rfl
     ·have hj2:j<es0[s+i].length:=by rw[(h7 (s+i) (by omega)).1,←hkl i hi];exact hj
      obtain⟨u,e,r⟩:=hcell i (by omega) j hj2
      rw[e];have e9:=hel i (by omega)
      have:=ih i (by rw[hl];exact hi) hi j (by rw[e9];exact hj2) hj u (by simp only[e9];exact r)
      exact this
   ·cases he
  ·cases he
 | sl es es' hl hk _ ih=>
  intro v hr
  cases hr with
  | sl p cap n _ k vals hn hcap hkk hp hrr=>
   refine .sl p cap n es' k vals (by omega) hcap (fun i hi=>by rw[←hk i (by omega) hi];exact hkk i (by omega)) (fun h0=>?_) (fun i hi j hj=>ih i (by omega) hi j (by rw[hk i (by omega) hi];exact hj) hj _ (hrr i (by omega) j (by rw[hk i (by omega) hi];exact hj)))
   obtain⟨b,o,e,hc⟩:=hp (by omega)
   exact⟨b,o,e,fun i hi' j hj=>qu hi (hc i (by omega) j hj)⟩
def killL:List Nat→aa→aa
 | [],S=>S
 | i::r,S=>killL r (S.set i .dead)
theorem fN:∀(ids:List Nat) (S:aa),(killL ids S).length=S.length
 | [],_=>rfl
 | i::r,S=>by rw[killL,fN r,List.length_set]
theorem lS:∀(ids:List Nat) (S:aa) (b:Nat),(killL ids S)[b]? = if b∈ids∧b<S.length then some .dead else S[b]?
 | [],S,b=>by simp [killL]
 | i::r,S,b=>by
  rw[killL,lS r,List.length_set,List.getElem?_set]
  by_cases h1:b∈r∧b<S.length
  ·rw[if_pos h1,if_pos ⟨by simp [h1.1],h1.2⟩]
  ·rw[if_neg h1]
   by_cases h2:i=b
   ·rw[if_pos h2]
    by_cases h3:i<S.length
    ·rw[if_pos h3,if_pos ⟨by simp [h2],by omega⟩]
    ·rw[if_neg h3,if_neg (by omega),List.getElem?_eq_none (by omega)]
   ·rw[if_neg h2,if_neg];rintro ⟨h3,h4⟩
    rcases List.mem_cons.1 h3 with rfl|h3
    ·exact h2 rfl
    ·exact h1 ⟨h3,h4⟩
theorem Sim.killL:∀(ids:List Nat) {imm:Imm} {S:aa},Sim K0 imm m w S→∃imm',ILe imm imm'∧Sim K0 imm' m w (killL ids S) ∧
  ∀b∈ids,∀(h:b<S.length),S[b].live=true→∀blk sz,m b=some (blk,sz)→imm' blk=w.heap[blk]?
 | [],imm,S,hs=>⟨imm,.refl _,hs,fun b hb=>by cases hb⟩
 | i::r,imm,S,hs=>by
  have key:∃imm1,ILe imm imm1∧Sim K0 imm1 m w (S.set i .dead)∧∀(h:i<S.length),S[i].live=true→∀blk sz,m i=some (blk,sz)→imm1 blk=w.heap[blk]? := by
   by_cases hlt:i<S.length
   ·by_cases hl:S[i].live=true
    ·obtain⟨blk,sz,hm,hb,_⟩:=(hs.obs i hlt).lt hl;obtain⟨o,ho⟩:∃o,w.heap[blk]? = some o:=⟨_,Array.getElem?_eq_getElem hb⟩;obtain⟨imm1,h1,h2,h3⟩:=hs.freeze hlt hl hm ho;refine⟨imm1,h1,h3,fun _ _ blk' sz' hm'=>?_⟩;rw[hm] at hm'
     cases hm'
     rw[h2,ho]
    ·exact⟨imm,.refl _,hs.kill i,fun _ h=>absurd h hl⟩
   ·exact⟨imm,.refl _,hs.kill i,fun h=>absurd h hlt⟩
  obtain⟨imm1,a1,a2,a3⟩:=key;obtain⟨imm2,b1,b2,b3⟩:=Sim.killL r a2;refine⟨imm2,a1.trans b1,b2,fun b hb hlt hl blk sz hm=>?_⟩
  by_cases e:b=i
  ·subst e;have h9:=a3 hlt hl blk sz hm;obtain⟨blk',sz',hm',hb',_⟩:=(hs.obs b hlt).lt hl;rw[hm] at hm'
   cases hm'
   have ho:w.heap[blk]? = some w.heap[blk]:=Array.getElem?_eq_getElem hb';rw[ho] at h9 ⊢;exact b1 _ _ h9
  ·rcases List.mem_cons.1 hb with e'|hb
   ·exact absurd e' e
   ·have e3:(S.set i .dead)[b]'(by rw[List.length_set];exact hlt)=S[b]:=List.getElem_set_ne (fun h=>e h.symm) _
    exact b3 b hb (by rw[List.length_set];exact hlt) (by rw[e3];exact hl) blk sz hm
def fi (S:aa) (ids:List Nat) (S':aa):Prop:=S'.length=S.length∧∀b (h1:b<S.length) (h2:b<S'.length),
 S'[b] = .dead∨(b∉ids∧(S'[b]=S[b]∨∃k es es',S[b] = .cells k es∧S'[b] = .cells k es'∧bW S (· ∈ ids) es es'))
theorem Sim.deepAll (hs:Sim K0 imm m w σ) (ids:List Nat):∃imm',ILe imm imm'∧(∀a c,bG σ (fun b=>b∈ids∨σ.length≤b) a c→∀v,Rep imm m v a→Rep imm' m v c)∧∀S',fi σ ids S'→Sim K0 imm' m w S':=by
 obtain⟨imm',hi,hk,hD⟩:=Sim.killL ids hs;refine⟨imm',hi,fun a c h=>tM hs hi (fun b hb hlt=>hD b (hb.resolve_right (by omega)) hlt) h,fun S' ⟨hl,hS⟩=>?_⟩
 have hkl:=fN ids σ;have hkg:∀b (h:b<σ.length),b∉ids→(Proofs.YtephecognbbaoaaGreat.killL ids σ)[b]'(by omega)=σ[b]:=fun b h hb=>by
  have h1:=lS ids σ b;rw[if_neg (fun h=>hb h.1),List.getElem?_eq_getElem h,List.getElem?_eq_getElem (by omega)] at h1
  exact Option.some.inj h1
 refine⟨hk.os,hk.tape,hk.output,hk.size,hk.imm_ok,fun id h=>hk.dom id (by omega),fun b h2=>?_,fun i j hi1 hj1 li lj e=>?_⟩
 ·have h1:b<σ.length:=by omega
  rcases hS b h1 h2 with e|⟨hb,e|⟨k,es,es',e1,e2,e3⟩⟩
  ·rw[e];trivial
  ·rw[e,←hkg b h1 hb];exact hk.obs b (by omega)
  ·rw[e2];have h0:=hs.obs b h1;have h9:=hk.obs b (by omega)
   rw[hkg b h1 hb] at h9;rw[e1] at h0 h9;obtain⟨blk,sz,g1,g2,cs,T,fr,g3,g4,g5,g6,g7⟩:=h0;obtain⟨blk',sz',q1,q2,_⟩:=h9;rw[g1] at q1
   cases q1
   refine⟨blk,sz,g1,q2,cs,T,fr,g3,g4,g5,by rw[←e3.1];exact g6,fun i hi'=>?_⟩
   have hlt:i<es.length:=by rw[e3.1];exact hi'
   have e4:=e3.2 i hlt hi';refine⟨by rw[←e4.1];exact (g7 i hlt).1,fun j hj=>?_⟩
   obtain⟨v,hv,r⟩:=(g7 i hlt).2 j (by rw[e4.1];exact hj)
   exact⟨v,hv,tM hs hi hD (e4.2 j (by rw[e4.1];exact hj) hj) v r⟩
 ·have live:∀b (h:b<S'.length),S'[b].live=true→((Proofs.YtephecognbbaoaaGreat.killL ids σ)[b]'(by omega)).live=true:=fun b h hl2=>by
   rcases hS b (by omega) h with e|⟨hb,e|⟨k,es,es',e1,e2,e3⟩⟩
   ·rw[e] at hl2;cases hl2
   ·rw[hkg b (by omega) hb,←e];exact hl2
   ·rw[hkg b (by omega) hb,e1];rfl
  exact hk.inj i j (by omega) (by omega) (live i hi1 li) (live j hj1 lj) e
theorem fi.kill (ids:List Nat) (S:aa):fi S ids (Proofs.YtephecognbbaoaaGreat.killL ids S):=by
 refine⟨fN ids S,fun b h1 h2=>?_⟩;have h:=lS ids S b
 by_cases hb:b∈ids
 ·rw[if_pos ⟨hb,h1⟩,List.getElem?_eq_getElem h2] at h;exact .inl (Option.some.inj h)
 ·rw[if_neg (fun h=>hb h.1),List.getElem?_eq_getElem h2,List.getElem?_eq_getElem h1] at h;exact .inr ⟨hb,.inl (Option.some.inj h)⟩
theorem fi.cell {S S':aa} {ids:List Nat} (h:fi S ids S') {b k:Nat} {es es':List (List AV)} (hb:b∉ids) (ho:S[b]? = some (.cells k es)) (hd:bW S (· ∈ ids) es es'):fi S ids (S'.set b (.cells k es')):=by
 refine⟨by rw[List.length_set];exact h.1,fun b' h1 h2=>?_⟩
 rw[List.length_set] at h2
 by_cases e:b'=b
 ·subst e;obtain⟨hlt,ho⟩:=List.getElem?_eq_some_iff.1 ho;exact .inr ⟨hb,.inr ⟨k,es,es',ho,by simp,hd⟩⟩
 ·rw[List.getElem_set_ne (fun h=>e h.symm)];exact h.2 b' h1 h2
theorem Em {c:Code} (ids:List Nat) (S':aa) (β:AF) (hS:fi σ ids S') (hβ:∀t av,aB β t=some av→∃a,aB α t=some a∧bG σ (· ∈ ids) a av) (h:aK rd P N c Q β S'):aK rd P N c Q α σ:=by
 intro K imm m w a hs hf;obtain⟨imm',hi,hr,hs'⟩:=hs.deepAll ids;refine Code.wpIn_mono (fun _ _ _ hq=>cK hi (.refl _) hq) (h K imm' m w a (hs' S' hS) ⟨hf.defers.mono hi,hf.size,fun t av ht=>?_⟩);obtain⟨a0,h1,h2⟩:=hβ t av ht;obtain⟨v,hv,r⟩:=hf.slot t a0 h1;exact⟨v,hv,hr a0 av (h2.mono fun _ h=>.inl h) v r⟩
theorem C4 {c:Code} (ids:List Nat) (S':aa) (hS:fi σ ids S') (h:aK rd P N c Q α S'):aK rd P N c Q α σ:=
 Em ids S' α hS (fun t av ht=>⟨av,ht,.same _⟩) h
theorem af.useD {f:FuncId} {args args':List AV} {R:AV→aa→Prop} (ids:List Nat) (S':aa) (hS:fi σ ids S') (hd:cG σ (· ∈ ids) args args') (h:af P f args' S' R):af P f args σ R:=by
 intro K imm m w vs hs hv;obtain⟨imm',hi,hr,hs'⟩:=hs.deepAll ids;refine (h K imm' m w vs (hs' S' hS) ⟨by rw[hv.1,hd.1],fun i h1 h2=>?_⟩).mono ?_
 ·exact hr _ _ ((hd.2 i (by rw[hd.1];exact h2) h2).mono fun _ h=>.inl h) _ (hv.2 i h1 (by rw[hd.1];exact h2))
 ·rintro e w' ⟨i,m',v,r,s,a,b,c,d,e',hR⟩;exact⟨i,m',v,r,s,a,hi.trans b,c,d,e',hR⟩
def qH (σ:aa) (X r:AV) (σ':aa):Prop:=(∃τ,σ'=σ++τ)∧Bd σ.length X∧bG σ' (σ.length ≤ ·) r X
theorem bL {σ' τ:aa} {X r:AV} (hs:σ'=σ++τ) (hb:Bd σ.length X) (hd:bG σ' (σ.length ≤ ·) r X):qH σ X r σ':=⟨⟨τ,hs⟩,hb,hd⟩
theorem af.deep {f:FuncId} {args:List AV} {X:AV} (h:af P f args σ (qH σ X)):af P f args σ fun r σ'=>σ'=σ∧r=X:=by
 refine af.cut ?_;intro K imm m w vs hs hv;refine (h K imm m w vs hs hv).mono ?_;rintro e w' ⟨imm',m',v,r,σ',he,hi,ho,hs',hr,⟨τ,rfl⟩,hb,hd⟩;obtain⟨imm'',hi',hr',hk⟩:=hs'.deepAll ((List.range τ.length).map (σ.length + ·));refine⟨imm'',m',v,X,Proofs.YtephecognbbaoaaGreat.killL ((List.range τ.length).map (σ.length + ·)) (σ++τ),he,hi.trans hi',ho,hk _ (.kill _ _),hr' r X ?_ v hr,?_,hb,rfl⟩
 ·refine hd.mono fun b hb=>?_
  by_cases hlt:b<(σ++τ).length
  ·exact .inl (List.mem_map.2 ⟨b-σ.length,by simp at hlt ⊢;omega,by omega⟩)
  ·exact .inr (by omega)
 ·refine⟨(Proofs.YtephecognbbaoaaGreat.killL ((List.range τ.length).map (σ.length + ·)) (σ++τ)).drop σ.length,?_⟩;apply List.ext_getElem?;intro i
  rcases Nat.lt_or_ge i σ.length with h1|h1
  ·rw[List.getElem?_append_left h1,lS,if_neg,List.getElem?_append_left h1];rintro ⟨h2,_⟩;obtain⟨q,_,h3⟩:=List.mem_map.1 h2;omega
  ·have e:(σ++(Proofs.YtephecognbbaoaaGreat.killL ((List.range τ.length).map (σ.length + ·)) (σ++τ)).drop σ.length)[i]? = (Proofs.YtephecognbbaoaaGreat.killL ((List.range τ.length).map (σ.length + ·)) (σ++τ))[i]? := by
    rw[List.getElem?_append_right h1,List.getElem?_drop];rw[show σ.length+(i-σ.length)=i by omega]
   rw[e]
def oy (a:AV):Prop:=∀imm m imm' m' v,Rep imm m v a→Rep imm' m' v a
theorem oy.c (v:Value):oy (.c v):=fun _ _ _ _ _ h=>by rw[h.c_inv];exact .c v
theorem oy.tup {l:List AV} (hl:∀a∈l,oy a):oy (.tup l):=fun _ _ _ _ _ h=>by
 cases h with
 | tup cs _ h1 h2=>exact .tup cs l h1 fun i a b=>hl _ (List.getElem_mem b) _ _ _ _ _ (h2 i a b)
theorem af.borrowD {f:FuncId} {args args':List AV} {X:AV} (hX:oy X) (hd:cG σ (fun _=>True) args args') (h:∀τ,af P f args' τ fun r τ'=>τ'=τ∧r=X):af P f args σ fun r σ'=>σ'=σ∧r=X:=by
 intro K imm m w vs hs hv;have hall:=hs.all;have hile:ILe imm (fun b=>w.heap[b]?):=fun b o h=>hs.imm_ok b o h;have hv':bK (fun b=>w.heap[b]?) m vs args':=
  ⟨by rw[hv.1,hd.1],fun i h1 h2=>tM hs hile (fun _ _ _ _ _ _ _=>rfl) (hd.2 i (by rw[hd.1];exact h2) h2) _ (hv.2 i h1 (by rw[hd.1];exact h2))⟩
 refine (h (σ.map fun _=>.dead) K _ m w vs hall hv').mono ?_;rintro e w' ⟨imm',m',v,r,τ',he,hi,ho,hs',hr,rfl,rfl⟩;have hb:eI w w':=⟨hs'.os.trans hs.os.symm,hs'.tape.trans hs.tape.symm,hs'.output.trans hs.output.symm,by
  rcases Nat.eq_zero_or_pos w.heap.size with h0|h0
  ·omega
  ·have:=dI (hs'.imm_ok (w.heap.size-1) _ (hi _ _ (Array.getElem?_eq_getElem (by omega))))
   omega⟩
 refine⟨imm,m,v,r,σ,he,.refl _,.refl _,hs.keep hb fun b hb=>?_,hX _ _ _ _ _ hr,rfl,rfl⟩;have:=hs'.imm_ok b _ (hi b _ (Array.getElem?_eq_getElem hb));rw[this,Array.getElem?_eq_getElem hb]
end
end Go.Proofs.YtephecognbbaoaaGreat
namespace Go.Proofs.YtephecognbbaoaaGreat
theorem vZ {X:Type} {x:X} : ∀ {l:List X},l.Nodup→∀k,x∉l→(l.set k x).Nodup
 | [],_,_,_=>by simp
 | y::l,h,0,hx=>by
  rw[List.nodup_cons] at h;rw[List.set_cons_zero,List.nodup_cons];exact⟨fun hc=>hx (List.mem_cons_of_mem _ hc),h.2⟩
 | y::l,h,k+1,hx=>by
  rw[List.nodup_cons] at h;rw[List.mem_cons,not_or] at hx;rw[List.set_cons_succ,List.nodup_cons];refine⟨fun hc=>?_,vZ h.2 k hx.2⟩
  rcases List.mem_or_eq_of_mem_set hc with hc|hc
  ·exact h.1 hc
  ·exact hx.1 hc.symm
theorem bW.setL {S:aa} {D:Nat→Prop} {a c:List AV} (l:List (List AV)) (k:Nat) (h:cG S D a c):bW S D (l.set k a) (l.set k c):=
 ⟨by simp,fun i h1 h2=>by
  rw[List.getElem_set,List.getElem_set]
  split
  ·exact h
  ·exact .same _⟩
theorem bW.repl {S:aa} {D:Nat→Prop} {a c:List AV} (h:cG S D a c) (k:Nat):bW S D (List.replicate k a) (List.replicate k c):=
 ⟨by simp,fun i h1 h2=>by
  rw[List.getElem_replicate,List.getElem_replicate];exact h⟩
theorem bC.fresh {S:aa} {lo b:Nat} {n:Net} {e:Eng} {rb:Nat} {tb:List Nat} {gv:AV} {gi:List Nat} (h:bC S lo b n e rb tb gv gi) {i:Int} {t:Nat} (h0:0≤i) (h1:i<e.routers.length) (r':Rtr) (τ:aa) (ht:S.length≤t) (hlo:lo≤S.length) (hg:∀x∈gi,x<S.length)
  (hT:(S.set rb (.cells 2 ((List.zipWith kX e.routers tb).set i.toNat (kX r' t)))++τ)[t]? = some (.cells 1 (r'.told.map aE))) :
  bC (S.set rb (.cells 2 ((List.zipWith kX e.routers tb).set i.toNat (kX r' t)))++τ) lo b n (aR e i r') rb (tb.set i.toNat t) gv gi:=by
 obtain⟨n1,n2,n3,n4,n5,n6,n7,n8⟩:=h.ne;have hlt:=h.lt;have hi:i.toNat<e.routers.length:=by omega
 have hi2:i.toNat<tb.length:=by rw[h.tl];exact hi
 have hmem:∀x∈tb.set i.toNat t,x=t∨x∈tb:=fun x hx=>(List.mem_or_eq_of_mem_set hx).symm;refine⟨?_,?_,?_,fun k h2 h3=>?_,(h.bag.set n5).app,?_,fun x hx=>?_⟩
 ·rw[aR,List.length_set];exact az (aT h.hb n1.symm)
 ·rw[az (bJ h.hrb),aR,pM]
 ·rw[aR,List.length_set,List.length_set];exact h.tl
 ·have h3':k<e.routers.length:=by simpa [aR] using h3
  have h2':k<tb.length:=by simpa using h2
  by_cases hk:i.toNat=k
  ·subst hk;have e2:(aR e i r').routers[i.toNat].told=r'.told:=by simp [aR]
   rw[e2,List.getElem_set_self];exact hT
  ·have e2:(aR e i r').routers[k].told=e.routers[k].told:=by
    simp only[aR,List.getElem_set];rw[if_neg hk]
   rw[e2,List.getElem_set_ne hk];exact az (aT (h.ht k h2' h3') (fun e=>n4 (by rw[e];exact List.getElem_mem h2')))
 ·have hb:=hlt b (by simp)
  have hrb:=hlt rb (by simp)
  rw[List.nodup_cons,List.nodup_cons,List.nodup_append];simp only[List.mem_cons,List.mem_append,not_or];refine⟨⟨n1,fun hc=>?_,n3⟩,⟨fun hc=>?_,n5⟩,vZ n6 _ (fun hc=>absurd (hlt t (by simp [hc])) (by omega)),n7,fun x hx y hy e=>?_⟩
  ·rcases hmem _ hc with e|hc
   ·omega
   ·exact n2 hc
  ·rcases hmem _ hc with e|hc
   ·omega
   ·exact n4 hc
  ·subst e
   rcases hmem _ hx with e|hx
   ·have:=hg _ hy;omega
   ·exact n8 _ hx hy
 ·simp only[List.mem_cons,List.mem_append] at hx
  rcases hx with rfl|rfl|hx|hx
  ·exact h.lo _ (by simp)
  ·exact h.lo _ (by simp)
  ·rcases hmem _ hx with e|hx
   ·omega
   ·exact h.lo _ (by simp [hx])
  ·exact h.lo _ (by simp [hx])
end Go.Proofs.YtephecognbbaoaaGreat
namespace Go.Proofs.YtephecognbbaoaaGreat
theorem CX {rd:Option Nat} {P:Program} {N:Nat} {ops:List Oper} {α0:AF} {σ:aa} {Q:bV} {id:Nat} (hm:P.follows .mixedOrders=true) (hB:(dQ ops ops.length&&bT ops&&cy ops&&decide (ops.length≤ops.length)&&eB (false,true) ops ops.length&&yu (false,true) ops ops.length)=true)
  (h:cW P N ops (false,true) true σ (fun α σ=>Q .normal α σ) ops α0 σ):aK rd P N (.region id ops.toArray true) Q α0 σ:=
 wo (false,true) ops.length hm hB (by rw[List.take_length,List.drop_length];exact h)
theorem Bv.app {ρ S τ:aa} {b:Nat} {n:Net} {e:Eng} (h:Bv ρ S b n e):Bv ρ (S++τ) b n e:=by
 obtain⟨hK0,rb,tb,gv,gi,M⟩:=h;exact⟨hK0.app,rb,tb,gv,gi,M.app⟩
end Go.Proofs.YtephecognbbaoaaGreat
namespace Go.Proofs.YtephecognbbaoaaGreat
theorem Bd.mapR {X:Type} {n:Nat} {f:X→List AV} {l:List X} (h:∀x∈l,∀a∈f x,Bd n a):Bd n (.sl (l.map f)):=by
 refine .sl _ fun i hi j hj=>?_;have hi':i<l.length:=by simpa using hi
 have e:(l.map f)[i]=f l[i]:=List.getElem_map ..;have h9:∀y,y=f l[i]→∀a∈y,Bd n a:=by
  rintro _ rfl a ha;exact h l[i] (List.getElem_mem hi') a ha
 exact h9 _ e _ (List.getElem_mem hj)
theorem Bd.eng {n:Nat} (e:Eng):Bd n (.agg (ba e)):=by
 refine .aggL (.cons (.mapR fun r _ a ha=>?_) (.cons (.mapR fun m _ a ha=>?_) .nil))
 ·simp only[bF,List.mem_cons,List.not_mem_nil,or_false] at ha
  rcases ha with rfl|rfl
  ·exact .ints _
  ·exact .rows _
 ·simp only[aJ,List.mem_cons,List.not_mem_nil,or_false] at ha
  rcases ha with rfl|rfl|rfl
  ·exact .c _
  ·exact .c _
  ·exact .c _
theorem bC.deep {S:aa} {lo b:Nat} {n:Net} {e:Eng} {rb:Nat} {tb:List Nat} {gv:AV} {gi:List Nat} (h:bC S lo b n e rb tb gv gi) {D:Nat→Prop} (hD:∀x,lo≤x→D x):cG S D [.own rb 2 0 e.routers.length e.routers.length,gv] (ba e):=by
 have hD':∀x∈b::rb::(tb++gi),D x:=fun x hx=>hD x (h.lo x hx);refine .cons (.ownW (hD' rb (by simp)) h.hrb (by rw[List.length_zipWith,h.tl,Nat.min_self]) ⟨by rw[List.length_zipWith,h.tl,Nat.min_self,List.length_map],fun i h1 h2=>?_⟩) (.cons ?_ .nil)
 ·have h2':i<e.routers.length:=by simpa using h2
  have h1':i<tb.length:=by rw[h.tl];exact h2'
  rw[List.getElem_zipWith,List.getElem_map,kX,bF];refine .cons (.same _) (.cons (.ownW (hD' _ (by simp [List.getElem_mem h1'])) (h.ht i h1' h2') (by simp) (.same _)) .nil)
 ·rcases h.bag with ⟨h1,h2,h3⟩|⟨gb,rest,h1,h2,h3,h4,h5⟩
  ·rw[h3,h1];exact .nil
  ·rw[h2];refine .ownR (es:=e.bag.map aJ) (hD' gb (by rw[h1];simp)) ?_ (.same _)
   simp only[dl,h3];rw[if_pos (by simp)]
   simp [List.take_left']
theorem bC.set_lo {S:aa} {lo b:Nat} {n:Net} {e:Eng} {rb:Nat} {tb:List Nat} {gv:AV} {gi:List Nat} (h:bC S lo b n e rb tb gv gi) {x:Nat} {o:Ob} (hx:x<lo):bC (S.set x o) lo b n e rb tb gv gi:=by
 have hne:∀y∈b::rb::(tb++gi),x≠y:=fun y hy e=>by
  have:=h.lo y hy;omega
 refine⟨aT h.hb (hne b (by simp)),aT h.hrb (hne rb (by simp)),h.tl,fun i h1 h2=>aT (h.ht i h1 h2) (hne _ (by simp [List.getElem_mem h1])),h.bag.set fun hc=>hne x (by simp [hc]) rfl,h.nd,h.lo⟩
def noE:Eng:=⟨[],[]⟩
def mM (n:Net) (e:Eng) (v:Evt):Eng×Int:=
 if ew n e≠0 then (noE,ew n e) else if (aN n e v).2≠0 then (noE,(aN n e v).2) else aN n e v
end Go.Proofs.YtephecognbbaoaaGreat
namespace Go.Proofs.YtephecognbbaoaaGreat
theorem sS (n:Net) (i:Int) (H:Int→Int→Int) (f:FuncId) (cap:List AV) (σ:aa) (hn:bI n) (hl:n.links.length≤5864062014634) (hi0:0≤i) (hi1:i<n.nodes) (hok:aw Tryz.prog f=true)
  (hH:∀k j,0≤k→k<n.nodes→0≤j→j<n.nodes→0≤H k j∧H k j<n.alg.size)
  (hf:∀k j,0≤k→k<n.nodes→0≤j→j<n.nodes→∀S,Ext σ S→af Tryz.prog f (ab k::ab j::cap) S fun r σ'=>σ'=S∧r=ab (H k j)) :
  af Tryz.prog 95 [.agg (aH n),ab i,.fn f [] cap] σ fun r σ'=>σ'=σ++[.cells 1 (((ints n.nodes).map fun j=>cq n i j (fun k=>H k j) n.links).map au)]∧r = .own σ.length 1 0 n.nodes.toNat n.nodes.toNat:=by
 have n1:=hn.n1;have n6:=hn.n6;have s2:=hn.alg.s2;have s24:=hn.alg.s24;have hbl:=hn.alg.bl;have hns:n.nodes=1∨n.nodes=2∨n.nodes=3∨n.nodes=4∨n.nodes=5∨n.nodes=6:=by omega
 obtain⟨row0,hrow0⟩:∃l,l=List.replicate n.nodes.toNat (n.alg.size-1):=⟨_,rfl⟩;have hl0:(row0.length:Int)=n.nodes:=by rw[hrow0,List.length_replicate];omega
 have hg0:=k8 row0 hi0 (by omega)
 refine af.cutO (fun i hi j hj=>?_) ?_
 ·simp only[List.getElem_map,au,List.length_cons,List.length_nil] at hj ⊢;obtain rfl:j=0:=by omega
  exact .c _
 refine g_n Tryz.func95 rfl Tryz.results95 Tryz.ntmps95 ?_;refine g_s fun K hK=>?_;refine g_h ?_;refine hK _ _ ?_;clear hK K;refine g_0 3 rfl ?_;refine g_s fun K hK=>?_;refine g_h ?_;refine hK _ _ ?_;clear hK K;refine aC 7 rfl (by first|rfl|(simp -implicitDefEqProofs only[go_sem];done)|(simp -implicitDefEqProofs only[go_sem];rfl)) ?_
 simp -implicitDefEqProofs only[go_sem];refine g_s fun K hK=>?_
 (refine fT 5 a9 (by kernel_rfl) ?_;simp -implicitDefEqProofs only[go_sem])
 (repeat' (first|(refine g_s fun K hK=>?_)|(refine g_b ?_)|((first|refine g_g ?_|refine g_q (fun τ=>eC n.alg (by unfold I64;omega) _) ?_|refine af.useA (hrow0▸nk (n.alg.size-1) n.nodes hns _) ?_);(try simp -implicitDefEqProofs only[go_sem,hg0,iv]))|(refine hK _ _ ?_;clear hK K)|(with_reducible refine And.intro ?_ ?_;· exact g_x)|fail))
 have hJ:=hK;clear hK;obtain⟨row1,hrow1⟩:∃l,l=row0.set i.toNat 0:=⟨_,rfl⟩;rw[←hrow1];have hl1:(row1.length:Int)=n.nodes:=by rw[hrow1,List.length_set];exact hl0
 have hr1:∀q,0≤q→q<n.nodes→at0 row1 q=if i=q then 0 else n.alg.size-1:=fun q h0 h1=>by
  rw[hrow1,vE row0 0 hi0 h0 (by omega)]
  by_cases e:q=i
  ·rw[if_pos e,if_pos e.symm]
  ·rw[if_neg e,if_neg (fun e2=>e e2.symm),hrow0,yR _ _ h0 (by omega)]
 refine ay n.links (fun _ r (row:List Int)=>(row.length:Int)=n.nodes∧∀q,0≤q→q<n.nodes→cq n i q (fun k=>H k q) n.links=r.foldl (fun out l=>if l.fr=i then bq n out (bc n l.edge (H l.dst q)) else out) (at0 row q)∧0≤at0 row q∧at0 row q<n.alg.size)
  (fun k _ _=>[(26,ab k)]) (fun _ row τ=>σ++(.dead::.dead::.cells 1 (row.map au)::τ)) row1 [] ⟨hl1,fun q h0 h1=>⟨by rw[hr1 q h0 h1];rfl,by rw[hr1 q h0 h1];split<;>omega⟩⟩ rfl (ai ?_) ?_ ?_
 ·exact g_w
 ·rintro k r row τ hk0 hk1 ⟨hrl,hq⟩ L hL;have hmem:=aA n.links hk0 hk1;obtain⟨l,hla⟩:∃l,at0 n.links k=l:=⟨_,rfl⟩;rw[hla] at hq hmem;have hlk:=hn.lnk l hmem;have hd0:=hlk.d0;have hd1:=hlk.d1;have he0:=hlk.e0;have he1:=hlk.e1;simp -implicitDefEqProofs only[go_sem]
  by_cases he:l.fr=i
  ·(repeat' (first|(refine g_s fun K hK=>?_)|(refine g_b ?_)|(refine g_k ?_;simp only[ah,ae])|(refine g_C (fun h=>?_) (fun h=>?_)<;>(try exact g_f))|(refine g_g ?_;(try simp -implicitDefEqProofs only[go_sem,hla]))|(refine hK _ _ ?_;clear hK K)|(with_reducible refine And.intro ?_ ?_;· exact g_x)|fail))
   have hJ2:=hK;clear hK;refine b8 n.nodes (fun j (rw':List Int)=>(rw'.length:Int)=n.nodes∧∀q,0≤q→q<n.nodes→at0 rw' q=if q<j then bq n (at0 row q) (bc n l.edge (H l.dst q)) else at0 row q) (fun j _ _=>[(36,ab j)])
    (fun _ rw' τ2=>σ++(.dead::.dead::.cells 1 (rw'.map au)::(τ++.cells 3 [df l]::τ2))) row [] (by omega) ⟨hrl,fun q h0 h1=>by rw[if_neg (by omega)]⟩ (by simp [df,ab]) (ai ?_) ?_
   ·exact g_w
   ·rintro j rw' τ2 hj0 hj1 ⟨hrl2,hA⟩ L2 hL2
    by_cases hj2:j<n.nodes
    ·have hold:=hA j hj0 hj2;rw[if_neg (by omega)] at hold
     have hrg:=(hq j hj0 hj2).2;rw[←hold] at hrg;have hHr:=hH l.dst j hd0 hd1 hj0 hj2;have hov:=iy hn ⟨he0,he1⟩ hHr;have hbi:=best_in hn hrg hov;have hbr:=hn.alg.best_len hrg.1 hrg.2;have her:=hn.alg.edge_len he0 he1;have hg:=k8 rw' hj0 (by omega)
     simp only[bq,bc,at2] at hov hbi;simp -implicitDefEqProofs only[go_sem]
     (repeat' (first|(refine g_s fun K hK=>?_)|(refine g_b ?_)|(refine g_k ?_;simp only[ah,ae])|(refine g_C (fun h=>?_) (fun h=>?_)<;>(try exact g_f))|((first|refine g_g ?_|refine g_U ?_|refine g_q (fun τ=>hf l.dst j hd0 hd1 hj0 hj2 _ Ext.b) ?_);(try simp -implicitDefEqProofs only[go_sem,hg,iv]))|(refine hK _ _ ?_;clear hK K)|(with_reducible refine And.intro ?_ ?_;· exact g_x)|fail))
     refine hL2 hj2 (rw'.set j.toNat (at0 (at0 n.alg.best (at0 rw' j)) (at0 (at0 n.alg.edges l.edge) (H l.dst j)))) τ2 _ _ ⟨by rw[List.length_set];exact hrl2,fun q h0 h1=>?_⟩ (ai ?_) rfl
     ·rw[vE rw' _ hj0 h0 (by omega)]
      by_cases e:q=j
      ·rw[if_pos e,if_pos (by omega),e,←hold]
       rfl
      ·rw[if_neg e,hA q h0 h1]
       by_cases e2:q<j
       ·rw[if_pos e2,if_pos (by omega)]
       ·rw[if_neg e2,if_neg (by omega)]
     ·exact g_w
    ·simp -implicitDefEqProofs only[go_sem]
     (repeat' (first|(refine g_s fun K hK=>?_)|(refine g_e ?_;simp only[ah,ae,↓reduceIte,Nat.reduceEqDiff])|(refine g_C (fun h=>?_) (fun h=>?_)<;>(try exact g_f))|(refine g_g ?_;(try refine g_y ?_))|(refine hK _ _ ?_;clear hK K)|exact trivial|fail))
     refine hJ2 _ _ ?_;clear hJ2
     (repeat' (first|(refine g_g ?_;(try refine g_y ?_))|(with_reducible refine And.intro ?_ ?_;· exact g_x)|exact trivial|fail))
     refine hL rw' (τ++.cells 3 [df l]::τ2) _ _ ⟨hrl2,fun q h0 h1=>?_⟩ (ai ?_) (by simp [df,ab])
     ·have h3:=hq q h0 h1;have h4:=hA q h0 h1;rw[if_pos (by omega)] at h4
      rw[List.foldl_cons,if_pos he] at h3;rw[h4];exact⟨h3.1,best_in hn h3.2 (iy hn ⟨he0,he1⟩ (hH l.dst q hd0 hd1 h0 h1))⟩
     ·exact g_w
  ·(repeat' (first|(refine g_s fun K hK=>?_)|(refine g_b ?_)|(refine g_k ?_;simp only[ah,ae])|(refine g_e ?_;simp only[ah,ae,↓reduceIte,Nat.reduceEqDiff])|(refine g_C (fun h=>?_) (fun h=>?_)<;>(try exact g_f))|(refine g_g ?_;(try simp -implicitDefEqProofs only[go_sem,hla]))|(refine hK _ _ ?_;clear hK K)|(clear hK K;first|(refine hK _ _ ?_;clear hK K)|(clear hK K;with_reducible refine hK _ _ ?_;clear hK K)|(clear hK K;clear hK K;with_reducible refine hK _ _ ?_;clear hK K))|(with_reducible refine And.intro ?_ ?_;· exact g_x)|fail))
   refine hL row (τ++[.cells 3 [df l]]) _ _ ⟨hrl,fun q h0 h1=>?_⟩ (ai ?_) (by simp [df,ab])
   ·have h3:=hq q h0 h1;rw[List.foldl_cons,if_neg he] at h3;exact h3
   ·exact g_w
 ·rintro k row τ hk ⟨hrl,hq⟩ L;simp -implicitDefEqProofs only[go_sem]
  (repeat' (first|(refine g_s fun K hK=>?_)|(refine g_e ?_;simp only[ah,ae,↓reduceIte,Nat.reduceEqDiff])|(refine g_C (fun h=>?_) (fun h=>?_)<;>(try exact g_f))|(refine g_g ?_;(try refine g_y ?_))|(refine hK _ _ ?_;clear hK K)|exact trivial|fail))
  refine hJ _ _ ?_;clear hJ
  (repeat' (first|(refine g_s fun K hK=>?_)|((first|refine g_t ?_|refine g_g ?_);(try refine g_y ?_))|(refine hK _ _ ?_;clear hK K)|exact trivial|fail))
  have hrow:row=(ints n.nodes).map fun j=>cq n i j (fun k=>H k j) n.links:=by
   refine jO (by rw[List.length_map,ao];omega) fun q h0 h1=>?_
   rw[sF _ _ h0 (by rw[ao];omega),cA h0 (by omega),(hq q h0 (by omega)).1]
   rfl
  rw[←hrow];refine⟨σ.length+2,.dead::.dead::.cells 1 (row.map au)::τ,rfl,by omega,?_,rfl⟩
  rw[List.getElem?_append_right (by omega),Nat.add_sub_cancel_left]
  rfl
end Go.Proofs.YtephecognbbaoaaGreat
namespace Go.Proofs.YtephecognbbaoaaGreat
def aQ (S:aa) (lo:Nat) (q:List Nat) (M:List (List Int)):Prop:=q.length=M.length∧∀i (h1:i<q.length) (h2:i<M.length),lo≤q[i]∧S[q[i]]? = some (.cells 1 (M[i].map au))
def be (w:Nat) (q:Nat):List AV:=[.own q 1 0 w w]
theorem aQ.nil (S:aa) (lo:Nat):aQ S lo [] []:=⟨rfl,fun i h=>by simp at h⟩
theorem aQ.congr {S S':aa} {lo lo':Nat} (hlo:lo'≤lo) {q:List Nat} {M:List (List Int)} (hS:∀b,b∈q→∀o,S[b]? = some o→S'[b]? = some o) (h:aQ S lo q M):aQ S' lo' q M:=
 ⟨h.1,fun i h1 h2=>⟨Nat.le_trans hlo (h.2 i h1 h2).1,hS _ (List.getElem_mem h1) _ (h.2 i h1 h2).2⟩⟩
theorem aQ.snoc {S:aa} {lo:Nat} {q:List Nat} {M:List (List Int)} (h:aQ S lo q M) {b:Nat} {r:List Int} (hb:lo≤b) (ho:S[b]? = some (.cells 1 (r.map au))):aQ S lo (q++[b]) (M++[r]):=by
 refine⟨by simp [h.1],fun i h1 h2=>?_⟩
 rcases Nat.lt_or_ge i q.length with hlt|hge
 ·have hlt2:i<M.length:=by rw[←h.1];exact hlt
  rw[List.getElem_append_left hlt,List.getElem_append_left hlt2];exact h.2 i hlt hlt2
 ·have hi:i=q.length:=by simp at h1;omega
  subst hi;have e:=h.1;simp only[List.getElem_append_right (Nat.le_refl _),Nat.sub_self,List.getElem_cons_zero];simp only[e,List.getElem_append_right (Nat.le_refl _),Nat.sub_self,List.getElem_cons_zero];exact⟨hb,ho⟩
theorem aQ.lt {S:aa} {lo:Nat} {q:List Nat} {M:List (List Int)} (h:aQ S lo q M):∀b∈q,b<S.length∧lo≤b:=fun b hb=>by
 obtain⟨i,hi,rfl⟩:=List.getElem_of_mem hb;have:=h.2 i hi (by rw[←h.1];exact hi)
 exact⟨(List.getElem?_eq_some_iff.1 this.2).1,this.1⟩
def cT (S:aa) (lo w:Nat) (ids:List Nat) (a:AV) (M:List (List Int)):Prop:=(∀r∈M,r.length=w) ∧
 ((M=[]∧a = .c (.slice none 0 0)∧ids=[])∨∃b q,ids=b::q∧ids.Nodup∧M≠[]∧a = .own b 1 0 M.length M.length∧lo≤b∧S[b]? = some (.cells 1 (q.map (be w)))∧aQ S lo q M)
theorem cT.congr {S S':aa} {lo lo' w:Nat} {ids:List Nat} {a:AV} {M:List (List Int)} (hlo:lo'≤lo) (hS:∀b,b∈ids→∀o,S[b]? = some o→S'[b]? = some o) (h:cT S lo w ids a M):cT S' lo' w ids a M:=by
 refine⟨h.1,?_⟩
 rcases h.2 with h2|⟨b,q,h1,h2,h3,h4,h5,h6,h7⟩
 ·exact .inl h2
 ·exact .inr ⟨b,q,h1,h2,h3,h4,Nat.le_trans hlo h5,hS b (by rw[h1];simp) _ h6,h7.congr hlo fun c hc=>hS c (by rw[h1];simp [hc])⟩
theorem cT.lt {S:aa} {lo w:Nat} {ids:List Nat} {a:AV} {M:List (List Int)} (h:cT S lo w ids a M):∀b∈ids,b<S.length∧lo≤b:=fun b hb=>by
 rcases h.2 with ⟨_,_,e⟩|⟨b',q,h1,h2,h3,h4,h5,h6,h7⟩
 ·rw[e] at hb;cases hb
 ·rw[h1] at hb
  rcases List.mem_cons.1 hb with rfl|hb
  ·exact⟨(List.getElem?_eq_some_iff.1 h6).1,h5⟩
  ·exact h7.lt b hb
theorem cT.deep {S:aa} {lo w:Nat} {ids:List Nat} {a:AV} {M:List (List Int)} (h:cT S lo w ids a M) {D:Nat→Prop} (hD:∀b∈ids,D b):bG S D a (aL M):=by
 rcases h.2 with ⟨e1,e2,_⟩|⟨b,q,h1,h2,h3,h4,h5,h6,h7⟩
 ·rw[e1,e2];exact .nil
 ·rw[h4];refine bG.ownW (hD b (by rw[h1];simp)) h6 (by rw[List.length_map,h7.1]) ⟨by simp [h7.1],fun i a1 a2=>?_⟩
  rw[List.length_map] at a1 a2;simp only[List.getElem_map];have:=h7.2 i a1 a2;refine .cons (bG.ownW (hD _ (by rw[h1];simp)) this.2 ?_ (.same _)) .nil
  rw[List.length_map,h.1 _ (List.getElem_mem a2)]
theorem tt (l:List Int) (k:Nat) (v:Int):(l.map au).set k [.c (.int .i64 v)]=(l.set k v).map au:=by
 rw[List.map_set];rfl
theorem Dt (w:Nat):List.replicate w [AV.c (.int .i64 0)]=(List.replicate w (0:Int)).map au:=by
 rw[List.map_replicate];rfl
theorem Ec {a b:List Int} (hl:a.length=b.length) (h:∀k:Int,0≤k→k<a.length→at0 a k=at0 b k):a=b:=jO hl h
theorem Ea (l:List Int) {k q:Int} (v:Int) (h0:0≤k) (hq:0≤q) (h:k<l.length):at0 (l.set k.toNat v) q=if q=k then v else at0 l q:=by
 simp only[at0,List.getD_eq_getElem?_getD,List.getElem?_set]
 by_cases e:q=k
 ·subst e;have:q.toNat<l.length:=by omega
  simp [this]
 ·have:¬k.toNat=q.toNat:=by omega
  simp [this,e]
theorem iF (f:Int→Int) {m k:Int} (h0:0≤k) (h1:k<m):at0 ((ints m).map f) k=f k:=by
 have h2:k.toNat<m.toNat:=by omega
 simp only[at0,List.getD_eq_getElem?_getD,ints,List.getElem?_map,List.getElem?_range h2,Option.map_some,Option.getD_some]
 congr 1
 omega
theorem eH {m k:Int} (h0:0≤k) (h1:k<m):at0 (ints m) k=k:=by
 have h2:k.toNat<m.toNat:=by omega
 simp only[at0,List.getD_eq_getElem?_getD,ints,List.getElem?_map,List.getElem?_range h2,Option.map_some,Option.getD_some];omega
theorem nj {σ T:aa} {lo:Nat} {q:List Nat} {M:List (List Int)} {r:List Int} (h:aQ (σ++T) lo q M) {o:Ob} (ho:o = .cells 1 (r.map au)) {X:aa} (hX:X = .dead::o::X.drop 2) (hlo:lo≤σ.length:=by omega):aQ (σ++(T++X)) lo (q++[σ.length+(T.length+1)]) (M++[r]):=by
 subst ho;refine aQ.snoc (h.congr (Nat.le_refl _) fun b hb o ho=>?_) (by omega) ?_
 ·have:=(List.getElem?_eq_some_iff.1 ho).1;rw[←List.append_assoc,List.getElem?_append_left this];exact ho
 ·rw[hX,List.getElem?_append_right (by omega),List.getElem?_append_right (by omega)]
  have e:σ.length+(T.length+1)-σ.length-T.length=1:=by omega
  rw[e];rfl
theorem pS {σ T:aa} {lo:Nat} {q:List Nat} {M:List (List Int)} (h:aQ (σ++T) lo q M) (hn:q.Nodup):(q++[σ.length+(T.length+1)]).Nodup:=by
 rw[List.nodup_append];refine⟨hn,by simp,fun a ha b hb=>?_⟩
 have:=(h.lt a ha).1;rw[List.length_append] at this;rw[List.mem_singleton.1 hb];omega
theorem lk (f:FuncId) (first cap:List AV) (g:Int→Int→Int) (rows cols:Int) (hr0:0≤rows) (hr1:rows≤24) (hc0:1≤cols) (hc1:cols≤24) (hok:aw Tryz.prog f=true)
  (hf:∀i k,0≤i→i<rows→0≤k→k<cols→∀S,af Tryz.prog f (first++ab i::ab k::cap) S fun r S'=>S'=S∧r=ab (g i k)) (σ:aa) :
  af Tryz.prog 134 [ab rows,ab cols,.fn f first cap] σ fun r σ'=>∃τ,σ'=σ++τ∧∃ids,cT (σ++τ) σ.length cols.toNat ids r ((ints rows).map fun i=>(ints cols).map (g i)):=by
 obtain⟨M,hM⟩:∃M,((ints rows).map fun i=>(ints cols).map (g i))=M:=⟨_,rfl⟩;have hMw:∀r∈M,r.length=cols.toNat:=fun r hr=>by
  rw[←hM] at hr;obtain⟨i,_,rfl⟩:=List.mem_map.1 hr;rw[List.length_map,ao]
 have hMl:M.length=rows.toNat:=by rw[←hM,List.length_map,ao]
 rw[hM];have hw:((cols.toNat:Nat):Int)=cols:=by omega
 refine g_n Tryz.func134 rfl Tryz.results134 Tryz.ntmps134 ?_
 (repeat' (first|(refine g_s fun K hK=>?_)|(refine g_b ?_)|(refine g_G ?_;(try refine g_y ?_))|(refine hK _ _ ?_;clear hK K)|exact trivial|fail))
 refine bn ?_;have hJ:=hK;clear hK;refine ay (ints rows) (fun i r (s:List Nat×aa)=>∃M',M'++r.map (fun i=>(ints cols).map (g i))=M∧aQ (σ++s.2) σ.length s.1 M'∧s.1.Nodup)
  (fun i s _=>[(12,ab i),(7,aq 1 (σ.length+s.2.length) s.1)]) (fun _ s _=>σ++(s.2++[ap (be cols.toNat) 1 s.1])) ([],[]) [] ⟨[],hM,aQ.nil _ _,List.nodup_nil⟩ rfl (ai ?_) ?_ ?_
 ·simp -implicitDefEqProofs only[go_sem,aq]
 ·rintro i r ⟨q,T⟩ τ hi0 hi1 ⟨M',h3,h4,h5⟩ L hL;rw[ao] at hi1;rw[eH hi0 (by omega),List.map_cons] at h3
  have hql:q.length+1≤24:=by have:=congrArg List.length h3;have:=h4.1;simp at *;omega
  have h4:aQ (σ++T) σ.length q M':=h4;have hrep:=Dt cols.toNat;simp -implicitDefEqProofs only[go_sem]
  (repeat' (first|(refine g_s fun K hK=>?_)|(refine g_b ?_)|(refine g_k ?_;simp only[ah,ae])|(refine g_C (fun h=>?_) (fun h=>?_)<;>(try exact g_f))|(refine g_G ?_;(try simp -implicitDefEqProofs only[go_sem,hrep,hw]))|(refine hK _ _ ?_;clear hK K)|(with_reducible refine And.intro ?_ ?_;· exact g_x)|fail))
  have hJ2:=hK;clear hK;refine ay (ints cols) (fun k _ (st:List Int)=>st.length=cols.toNat∧∀p,0≤p→p<k→at0 st p=g i p) (fun k _ _=>[(18,ab k)]) (fun _ st _=>σ++(T++[ap (be cols.toNat) 1 q,.cells 1 (st.map au)])) (List.replicate cols.toNat 0) [] ⟨by simp,fun p h0 h1=>by omega⟩ rfl (ai ?_) ?_ ?_
  ·exact g_w
  ·rintro k r9 st τ9 hk0 hk1 ⟨h6,h7⟩ L2 hL2;rw[ao] at hk1;have hF:=hf i k hi0 (by omega) hk0 (by omega)
   have hset:=tt st k.toNat (g i k);have hg:(st.map au)[k.toNat]? = some (au (at0 st k)):=by
    have:k.toNat<st.length:=by omega
    simp [at0,List.getD_eq_getElem?_getD,this]
   simp -implicitDefEqProofs only[go_sem]
   (repeat' (first|(refine g_s fun K hK=>?_)|(refine g_b ?_)|(refine g_k ?_;simp only[ah,ae])|(refine g_C (fun h=>?_) (fun h=>?_)<;>(try exact g_f))|((first|refine g_G ?_|refine (hF _).use ?_);(try simp -implicitDefEqProofs only[go_sem,hg,hset]))|(refine hK _ _ ?_;clear hK K)|(with_reducible refine And.intro ?_ ?_;· exact g_x)|fail))
   refine hL2 (st.set k.toNat (g i k)) [] _ _ ⟨by rw[List.length_set];exact h6,fun p h0 h1=>?_⟩ (ai ?_) rfl
   ·rw[Ea st _ hk0 h0 (by omega)]
    by_cases e:p=k
    ·rw[if_pos e,e]
    ·rw[if_neg e];exact h7 p h0 (by omega)
   ·exact g_w
  ·rintro k st τ9 hk ⟨h6,h7⟩ L2;rw[ao] at hk;have hst:st=(ints cols).map (g i):=Ec (by rw[h6,List.length_map,ao]) fun p h0 h1=>by
    rw[h7 p h0 (by omega),iF _ h0 (by omega)]
   simp -implicitDefEqProofs only[go_sem]
   (repeat' (first|(refine g_s fun K hK=>?_)|(refine g_e ?_;simp only[ah,ae,↓reduceIte,Nat.reduceEqDiff])|(refine g_C (fun h=>?_) (fun h=>?_)<;>(try exact g_f))|(refine g_g ?_;(try refine g_y ?_))|(refine hK _ _ ?_;clear hK K)|exact trivial|fail))
   refine hJ2 _ _ ?_;clear hJ2
   rcases q with _|⟨y,q⟩<;>simp only[List.length_cons,List.length_nil] at hql<;>simp -implicitDefEqProofs only[go_sem,aq,ap]
   all_goals (repeat' (first|(refine g_g ?_;(try refine g_y ?_))|(clear hK K;first|(refine hK _ _ ?_;clear hK K)|(clear hK K;with_reducible refine hK _ _ ?_;clear hK K)|(clear hK K;clear hK K;with_reducible refine hK _ _ ?_;clear hK K))|(with_reducible refine And.intro ?_ ?_;· exact g_x)|exact trivial|fail))
   ·refine hL ([]++[σ.length+(T.length+1)],T++[.dead,.cells 1 (st.map au),.cells 1 [be cols.toNat (σ.length+(T.length+1))]]) τ _ _ ⟨M'++[(ints cols).map (g i)],by simpa using h3,nj h4 (by rw[hst]) rfl,pS h4 h5⟩ (ai ?_) ?_
    ·simp -implicitDefEqProofs only[go_sem,aq,be]
    ·simp [ap,be]
   ·refine hL ((y::q)++[σ.length+(T.length+1)],T++[.dead,.cells 1 (st.map au),.cells 1 [be cols.toNat (σ.length+(T.length+1))]]) τ _ _ ⟨M'++[(ints cols).map (g i)],by simpa using h3,nj h4 (by rw[hst]) rfl,pS h4 h5⟩ (ai ?_) ?_
    ·simp -implicitDefEqProofs only[go_sem,aq,be]
    ·simp [ap,be]
 ·rintro i ⟨q,T⟩ τ hi ⟨M',h3,h4,h5⟩ L;rw[ao] at hi;simp -implicitDefEqProofs only[go_sem]
  (repeat' (first|(refine g_s fun K hK=>?_)|(refine g_e ?_;simp only[ah,ae,↓reduceIte,Nat.reduceEqDiff])|(refine g_C (fun h=>?_) (fun h=>?_)<;>(try exact g_f))|(refine g_g ?_;(try refine g_y ?_))|(refine hK _ _ ?_;clear hK K)|exact trivial|fail))
  refine hJ _ _ ?_;clear hJ;have h4:aQ (σ++T) σ.length q M':=h4;have h5:q.Nodup:=h5;have h3:M'=M:=by simpa using h3
  subst h3
  rcases q with _|⟨y,q⟩<;>simp -implicitDefEqProofs only[go_sem,aq,ap]
  all_goals (repeat' (first|(refine g_s fun K hK=>?_)|((first|refine g_t ?_|refine g_g ?_);(try refine g_y ?_))|(refine hK _ _ ?_;clear hK K)|exact trivial|fail))
  ·have hM0:M'=[]:=by
    have:=h4.1;exact List.eq_nil_of_length_eq_zero this.symm
   exact⟨T++[.dead],rfl,[],hMw,.inl ⟨hM0,rfl,rfl⟩⟩
  ·have hl:q.length+1=M'.length:=h4.1;refine⟨_,rfl,(σ.length+T.length)::y::q,hMw,.inr ⟨_,y::q,rfl,?_,?_,by rw[hl],by omega,?_,?_⟩⟩
   ·rw[List.nodup_cons];refine⟨fun hm=>?_,h5⟩;have:=(h4.lt _ hm).1;rw[List.length_append] at this;omega
   ·intro e;rw[e] at hl;simp at hl
   ·rw[List.getElem?_append_right (by omega),List.getElem?_append_right (by omega)]
    have e:σ.length+T.length-σ.length-T.length=0:=by omega
    rw[e];rfl
   ·refine h4.congr (Nat.le_refl _) fun b hb o ho=>?_;have:=(List.getElem?_eq_some_iff.1 ho).1;rw[←List.append_assoc,List.getElem?_append_left this];exact ho
end Go.Proofs.YtephecognbbaoaaGreat
