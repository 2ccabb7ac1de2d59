/- Round and Settle, whose answers are the caller's own. -/
import Derived.Test.YtephecognbbaoaaGreatZVs
import Derived.Test.YtephecognbbaoaaGreatZBp
import Derived.Test.YtephecognbbaoaaGreatZEi
import Derived.Test.YtephecognbbaoaaGreatZBm
open Go
set_option linter.all false
set_option maxRecDepth 100000
set_option maxHeartbeats 4000000
namespace Go.Proofs.YtephecognbbaoaaGreat
open Go
set_option linter.all false
set_option maxRecDepth 100000
set_option maxHeartbeats 4000000
theorem xU (n:Net) (x:List (List Int)) (okn:dM n) (ok:dN x) (σ:aa):af Tryz.prog 21 [.agg (aH n),aL x] σ fun r σ'=>∃τ,σ'=σ++τ∧∃ids a,r = .tup [a,ab (da n x)]∧cT (σ++τ) σ.length n.nodes.toNat ids a (if da n x=0 then cr n x else []):=by
 have hl:=okn.len;have hF:=ou n x okn ok
 by_cases h0:da n x=0
 ·have hc:aI n=0:=by
   apply Classical.byContradiction;intro hc;rw[da,if_pos hc] at h0;exact hc h0
  have hx:RowsIn n x:=og (by rw[da,if_neg (by omega)] at h0;exact h0)
  rw[h0] at hF;rw[h0,if_pos rfl];refine g_n Tryz.func21 rfl Tryz.results21 Tryz.ntmps21 ?_;refine g_s fun K hK=>?_;refine g_h ?_;refine hK _ _ ?_;clear hK K;refine g_0 2 rfl ?_
  (repeat' (first|(refine g_s fun K hK=>?_)|(refine g_k ?_;simp only[ah,ae])|(refine g_C (fun h=>?_) (fun h=>?_)<;>(try exact g_f))|((first|refine g_g ?_|refine (hF _).use ?_);(try refine g_y ?_))|(refine hK _ _ ?_;clear hK K)|exact trivial|fail))
  refine (sR n x hc hx hl (aL x) (.inl ⟨_,rfl⟩) _ (fun k j a b c d S _=>zC x k j a (by have:=hx.len;omega) c (by rw[hx.row _ (aA x a (by have:=hx.len;omega))];omega) S)).mono ?_
  rintro r S' ⟨τ,rfl,ids,hM⟩;have hfo:=hM.form
  rcases hfo with rfl|⟨b,m,rfl⟩
  all_goals
   (repeat' (first|(refine g_t ?_;(try refine g_y ?_))|(refine hK _ _ ?_;clear hK K)|exact trivial|fail))
   exact⟨.dead::τ,by simp,ids,_,rfl,by
    have:=hM.congr (lo':=σ.length) (S':=σ++(.dead::τ)) (by simp) (fun b _ o ho=>by simpa using ho)
    exact this⟩
 ·rw[if_neg h0];refine g_n Tryz.func21 rfl Tryz.results21 Tryz.ntmps21 ?_
  (repeat' (first|(refine g_s fun K hK=>?_)|(refine g_C (fun h=>?_) (fun h=>?_)<;>(try exact g_f))|((first|refine g_t ?_|refine g_g ?_|refine (hF _).use ?_);(try simp -implicitDefEqProofs only[go_sem,h0]))|(refine hK _ _ ?_;clear hK K)|fail))
  exact⟨_,rfl,[],_,rfl,fun r hr=>(by cases hr),.inl ⟨rfl,rfl,rfl⟩⟩
theorem sa (l:List Int) (hl:l.length≤1000) (σ:aa):af Tryz.prog 80 [aF l] σ fun r σ'=>(l=[]∧σ'=σ∧r = .c (.slice none 0 0))∨(σ'=σ++[.dead,.cells 1 (l.map au)]∧r = .own (σ.length+1) 1 0 l.length l.length):=by
 refine g_n Tryz.func80 rfl Tryz.results80 Tryz.ntmps80 ?_
 (repeat' (first|(refine g_s fun K hK=>?_)|(refine g_g ?_;(try refine g_y ?_))|(refine hK _ _ ?_;clear hK K)|exact trivial|fail))
 refine⟨fun h=>?_,?_⟩
 ·have e:l=[]:=List.eq_nil_of_length_eq_zero h;subst e;refine hK _ _ ?_;clear hK K
  (repeat' (first|(refine g_s fun K hK=>?_)|(refine g_C (fun h=>?_) (fun h=>?_)<;>(try exact g_f))|((first|refine g_t ?_|refine g_g ?_);(try refine g_y ?_))|(refine hK _ _ ?_;clear hK K)|exact trivial|fail))
 ·refine hK _ _ ?_;clear hK K
  (repeat' (first|(refine g_s fun K hK=>?_)|(refine g_k ?_;simp only[ah,ae])|(refine g_C (fun h=>?_) (fun h=>?_)<;>(try exact g_f))|((first|refine g_t ?_|refine g_g ?_);(try refine g_y ?_))|(refine hK _ _ ?_;clear hK K)|(with_reducible refine And.intro ?_ ?_;· exact g_x)|exact trivial|fail))
theorem AT (n:Net) (x:List (List Int)) (hn:bI n) (hx:RowsIn n x) (σ:aa):af Tryz.prog 47 [aL x] σ fun r σ'=>∃τ,σ'=σ++τ∧∃ids,cT (σ++τ) σ.length n.nodes.toNat ids r x:=by
 have n1:=hn.n1;have n6:=hn.n6;have hxl:=hx.len;have hMw:∀r∈x,r.length=n.nodes.toNat:=fun r hr=>by have:=hx.row r hr;omega
 refine g_n Tryz.func47 rfl Tryz.results47 Tryz.ntmps47 ?_
 (repeat' (first|(refine g_s fun K hK=>?_)|(refine g_b ?_)|(refine g_G ?_;(try refine g_y ?_))|(refine hK _ _ ?_;clear hK K)|exact trivial|fail))
 refine bn ?_;have hJ:=hK;clear hK;refine ay x (fun k r (s:List Nat×aa)=>∃M',M'++r=x∧aQ (σ++s.2) σ.length s.1 M'∧s.1.Nodup)
  (fun k s _=>[(8,ab k),(3,aq 1 (σ.length+s.2.length) s.1)]) (fun _ s _=>σ++(s.2++[ap (be n.nodes.toNat) 1 s.1])) ([],[]) [] ⟨[],rfl,aQ.nil _ _,List.nodup_nil⟩ rfl (ai ?_) ?_ ?_
 ·simp -implicitDefEqProofs only[go_sem,aq]
 ·rintro k r ⟨q,T⟩ τ hk0 hk1 ⟨M',h3,h4,h5⟩ L hL;have hmem:=aA x hk0 hk1;obtain⟨w,hw⟩:∃w,at0 x k=w:=⟨_,rfl⟩;rw[hw] at h3 hmem;have hwl:=hMw w hmem;have hql:q.length+1≤6:=by have:=congrArg List.length h3;have:=h4.1;simp at *;omega
  have h4:aQ (σ++T) σ.length q M':=h4;have hcl:=fun S=>sa w (by omega) S
  have hwne:w≠[]:=fun e=>by rw[e] at hwl;simp at hwl;omega
  rcases q with _|⟨y,q⟩<;>simp only[List.length_cons,List.length_nil] at hql<;>simp -implicitDefEqProofs only[go_sem,aq,ap]
  all_goals
   (repeat' (first|(refine g_s fun K hK=>?_)|(refine g_b ?_)|(refine g_k ?_;simp only[ah,ae])|(refine g_C (fun h=>?_) (fun h=>?_)<;>(try exact g_f))|(refine g_g ?_;(try simp -implicitDefEqProofs only[go_sem,hw]))|(refine hK _ _ ?_;clear hK K)|(with_reducible refine And.intro ?_ ?_;· exact g_x)|fail))
   refine (hcl _).mono ?_;rintro r9 S9 (⟨e,_⟩|⟨rfl,rfl⟩)
   ·exact absurd e hwne
   simp -implicitDefEqProofs only[go_sem]
   (repeat' (first|(refine g_g ?_;(try simp -implicitDefEqProofs only[go_sem,hwl]))|(refine hK _ _ ?_;clear hK K)|(with_reducible refine And.intro ?_ ?_;· exact g_x)|fail))
  ·have h4':aQ (σ++(T++[.dead])) σ.length [] M':=by
    rw[←List.append_assoc];exact h4.congr (Nat.le_refl _) fun b hb o ho=>az ho
   refine hL ([]++[σ.length+((T++[Ob.dead]).length+1)],(T++[.dead])++[.dead,.cells 1 (w.map au),.cells 1 [be n.nodes.toNat (σ.length+((T++[Ob.dead]).length+1))]]) τ _ _ ⟨M'++[w],by simpa using h3,nj h4' rfl rfl,pS h4' h5⟩ (ai ?_) ?_
   ·simp -implicitDefEqProofs only[go_sem,aq,be]
   ·simp [ap,be]
  ·have h4':aQ (σ++(T++[.dead])) σ.length (y::q) M':=by
    rw[←List.append_assoc];exact h4.congr (Nat.le_refl _) fun b hb o ho=>az ho
   refine hL ((y::q)++[σ.length+((T++[Ob.dead]).length+1)],(T++[.dead])++[.dead,.cells 1 (w.map au),.cells 1 [be n.nodes.toNat (σ.length+((T++[Ob.dead]).length+1))]]) τ _ _ ⟨M'++[w],by simpa using h3,nj h4' rfl rfl,pS h4' h5⟩ (ai ?_) ?_
   ·simp -implicitDefEqProofs only[go_sem,aq,be]
   ·simp [ap,be]
 ·rintro k ⟨q,T⟩ τ hk ⟨M',h3,h4,h5⟩ L;simp -implicitDefEqProofs only[go_sem]
  (repeat' (first|(refine g_s fun K hK=>?_)|(refine g_e ?_;simp only[ah,ae,↓reduceIte,Nat.reduceEqDiff])|(refine g_C (fun h=>?_) (fun h=>?_)<;>(try exact g_f))|(refine g_g ?_;(try refine g_y ?_))|(refine hK _ _ ?_;clear hK K)|exact trivial|fail))
  refine hJ _ _ ?_;clear hJ;have h4:aQ (σ++T) σ.length q M':=h4;have h5:q.Nodup:=h5;have h3:M'=x:=by simpa using h3
  subst h3;have hl:=h4.1
  rcases q with _|⟨y,q⟩
  ·rw[←hl] at hxl;simp at hxl;omega
  simp -implicitDefEqProofs only[go_sem,aq,ap]
  (repeat' (first|(refine g_s fun K hK=>?_)|((first|refine g_t ?_|refine g_g ?_);(try refine g_y ?_))|(refine hK _ _ ?_;clear hK K)|exact trivial|fail))
  have hl:q.length+1=M'.length:=h4.1;refine⟨_,rfl,(σ.length+T.length)::y::q,hMw,.inr ⟨_,y::q,rfl,?_,?_,by rw[hl],by omega,?_,?_⟩⟩
  ·rw[List.nodup_cons];refine⟨fun hm=>?_,h5⟩;have:=(h4.lt _ hm).1;rw[List.length_append] at this;omega
  ·intro e;rw[e] at hl;simp at hl
  ·rw[List.getElem?_append_right (by omega),List.getElem?_append_right (by omega)]
   have e:σ.length+T.length-σ.length-T.length=0:=by omega
   rw[e];rfl
  ·refine h4.congr (Nat.le_refl _) fun b hb o ho=>?_;have:=(List.getElem?_eq_some_iff.1 ho).1;rw[←List.append_assoc,List.getElem?_append_left this];exact ho
theorem yg (n:Net) (x:List (List Int)) (hx:RowsIn n x) (S:aa) (lo b m:Nat) (ids:List Nat) (hn:bI n) (hM:cT S lo n.nodes.toNat ids (.own b 1 0 m m) x) (k j:Int) (h0:0≤k) (h1:k<n.nodes) (h2:0≤j) (h3:j<n.nodes) (τ:aa) :
  af Tryz.prog 96 (ab k::ab j::[.cp [.own b 1 0 m m] 0]) (S++τ) fun r σ'=>σ'=S++τ∧r=ab (at2 x k j):=by
 have hxl:=hx.len;have n1:=hn.n1;obtain⟨b',q,e1,e2,e3,e4,e5,e6,e7⟩:=hM.parts (fun e=>by rw[e] at hxl;simp at hxl;omega)
 cases e2
 have hk:k.toNat<x.length:=by omega
 have hkq:k.toNat<q.length:=by omega
 obtain⟨g1,g2⟩:=e7.2 k.toNat hkq hk;have ex:x[k.toNat]=at0 x k:=by simp [at0,List.getD_eq_getElem?_getD,hk]
 rw[ex] at g2;have hrl:=hx.row _ (aA x h0 (by omega))
 have hbL:(S++τ)[b]? = some (.cells 1 (q.map (be n.nodes.toNat))):=az e3;have hrL:(S++τ)[q[k.toNat]]? = some (.cells 1 ((at0 x k).map au)):=az g2;have hqg:(q.map (be n.nodes.toNat))[k.toNat]? = some [.own q[k.toNat] 1 0 n.nodes.toNat n.nodes.toNat]:=by
  rw[List.getElem?_map,List.getElem?_eq_getElem hkq];rfl
 have hgt:=k8 (at0 x k) h2 (by omega:j<(at0 x k).length)
 have hql:(q.map (be n.nodes.toNat)).length=x.length:=by rw[List.length_map,e4]
 refine g_n Tryz.func96 rfl Tryz.results96 Tryz.ntmps96 ?_
 (repeat' (first|(refine g_s fun K hK=>?_)|((first|refine g_t ?_|refine g_g ?_);(try simp -implicitDefEqProofs only[go_sem,hbL,hrL,hqg,hgt,hql]))|(refine hK _ _ ?_;clear hK K)|(with_reducible refine And.intro ?_ ?_;· exact g_x)|fail))
theorem qR (n:Net) (x:List (List Int)) (most:Int) (okn:dM n) (ok:dN x) (hm:I64 most) (h1:inR most 0 1000=true) (h0:da n x=0) (σ:aa):af Tryz.prog 13 [.agg (aH n),aL x,ab most] σ fun r σ'=>∃τ,σ'=σ++τ∧∃ids a,r = .tup [a,ab (eg n most.toNat 0 x).2,ab 0]∧cT (σ++τ) σ.length n.nodes.toNat ids a (eg n most.toNat 0 x).1:=by
 have hl:=okn.len;have hF:=ou n x okn ok;have hc:aI n=0:=by
  apply Classical.byContradiction;intro hc;rw[da,if_pos hc] at h0;exact hc h0
 have hn:=aU hc;have n1:=hn.n1;have hx:RowsIn n x:=og (by rw[da,if_neg (by omega)] at h0;exact h0)
 rw[h0] at hF;have h2:=aG.1 h1;obtain⟨X,hX⟩:∃X,eg n most.toNat 0 x=X:=⟨_,rfl⟩;rw[hX];refine g_n Tryz.func13 rfl Tryz.results13 Tryz.ntmps13 ?_;refine g_s fun K hK=>?_;refine g_h ?_;refine hK _ _ ?_;clear hK K;refine g_0 3 rfl ?_
 (repeat' (first|(refine g_s fun K hK=>?_)|(refine g_k ?_;simp only[ah,ae])|(refine g_C (fun h=>?_) (fun h=>?_)<;>(try exact g_f))|((first|refine g_g ?_|refine (hF _).use ?_|refine (gO _ _ _ _).use ?_);(try simp -implicitDefEqProofs only[go_sem,h1]))|(refine hK _ _ ?_;clear hK K)|fail))
 obtain⟨ρ,hρ⟩:∃ρ:aa,σ++[.dead]=ρ:=⟨_,rfl⟩;have hlen:ρ.length=σ.length+1:=by rw[←hρ];simp
 rw[hρ];refine (AT n x hn hx _).mono ?_;rintro r S' ⟨τ0,rfl,ids0,hM0⟩;have hne:∀y,RowsIn n y→y≠[]:=fun y hy e=>by
  have:=hy.len;rw[e] at this;simp at this;omega
 obtain⟨b0,q0,e1,rfl,_⟩:=hM0.parts (hne x hx)
 (repeat' (first|(refine g_s fun K hK=>?_)|(refine g_b ?_)|(refine g_g ?_;(try refine g_y ?_))|(refine hK _ _ ?_;clear hK K)|exact trivial|fail))
 have hJ:=hK;clear hK;refine b8 most (fun k (s:List (List Int)×aa×Nat×List Nat)=>RowsIn n s.1∧eg n (most-k).toNat k s.1=X∧cT (ρ++s.2.1) ρ.length n.nodes.toNat s.2.2.2 (.own s.2.2.1 1 0 s.1.length s.1.length) s.1) (fun k s _=>[(24,ab k),(1,.own s.2.2.1 1 0 s.1.length s.1.length)]) (fun _ s _=>ρ++s.2.1) (x,τ0,b0,ids0) [] h2.1 ⟨hx,by rw[Int.sub_zero];exact hX,hM0⟩ rfl (ai ?_) ?_
 ·exact g_w
 ·rintro k ⟨xs,T,b,ids⟩ τ hk0 hk1 ⟨hxs,hH,hM⟩ L hL;simp only at hxs hH hM
  by_cases hk2:k<most
  ·have hf:(most-k).toNat=(most-(k+1)).toNat+1:=by omega
   rw[hf] at hH;simp -implicitDefEqProofs only[go_sem]
   (repeat' (first|(refine g_s fun K hK=>?_)|(refine g_b ?_)|(refine g_k ?_;simp only[ah,ae])|(refine g_C (fun h=>?_) (fun h=>?_)<;>(try exact g_f))|(refine g_g ?_;(try refine g_y ?_))|(refine hK _ _ ?_;clear hK K)|exact trivial|fail))
   refine (sR n xs hc hxs hl (.own b 1 0 xs.length xs.length) (.inr ⟨_,_,rfl⟩) _ (fun k j a b9 c d S hS=>by
    obtain⟨τ',rfl⟩:=hS;exact yg n xs hxs (ρ++T) _ b _ ids hn hM k j a b9 c d τ')).mono ?_
   rintro r S' ⟨τ1,rfl,ids1,hM1⟩;have hri:=pY hn hxs;obtain⟨b1,q1,e1,rfl,_⟩:=hM1.parts (hne _ hri);have hMx:cT (ρ++T++τ1) ρ.length n.nodes.toNat ids (.own b 1 0 xs.length xs.length) xs:=hM.congr (Nat.le_refl _) fun b _ o ho=>az ho;have hMy:cT (ρ++T++τ1) ρ.length n.nodes.toNat ids1 (.own b1 1 0 (cr n xs).length (cr n xs).length) (cr n xs):=hM1.congr (by simp) fun b _ o ho=>ho
   have hsm:af Tryz.prog 49 [.own b 1 0 xs.length xs.length,.own b1 1 0 (cr n xs).length (cr n xs).length] (ρ++T++τ1) fun r S'=>S'=ρ++T++τ1∧r = .c (.bool (decide (xs=cr n xs))):=
    af.borrowD (.c _) (.cons (hMx.deep fun _ _=>trivial) (.cons (hMy.deep fun _ _=>trivial) .nil)) fun τ=>AG xs (cr n xs) (hxs.stOk hn) τ
   rw[List.append_assoc] at hMx hMy hsm
   by_cases hs:xs=cr n xs
   ·rw[xM hs] at hH;subst hH;rw[decide_eq_true hs] at hsm;simp -implicitDefEqProofs only[go_sem]
    (repeat' (first|(refine g_s fun K hK=>?_)|(refine g_C (fun h=>?_) (fun h=>?_)<;>(try exact g_f))|((first|refine g_t ?_|refine g_g ?_|refine (hsm).use ?_);(try refine g_y ?_))|(refine hK _ _ ?_;clear hK K)|exact trivial|fail))
    exact⟨.dead::(T++τ1),by rw[←hρ];simp,ids,_,rfl,by
     have h9:=hMx.congr (lo':=σ.length) (S':=ρ++(T++τ1)) (by omega) fun b _ o ho=>ho
     rw[←hρ] at h9
     simpa using h9⟩
   ·rw[xN hs] at hH;rw[decide_eq_false hs] at hsm;simp -implicitDefEqProofs only[go_sem]
    (repeat' (first|(refine g_s fun K hK=>?_)|(refine g_k ?_;simp only[ah,ae])|(refine g_C (fun h=>?_) (fun h=>?_)<;>(try exact g_f))|((first|refine g_g ?_|refine (hsm).use ?_);(try refine g_y ?_))|(refine hK _ _ ?_;clear hK K)|(with_reducible refine And.intro ?_ ?_;· exact g_x)|exact trivial|fail))
    refine hL hk2 (cr n xs,T++τ1,b1,ids1) [] _ _ ⟨hri,hH,hMy⟩ (ai ?_) rfl;simp -implicitDefEqProofs only[go_sem]
  ·have hkm:k=most:=by omega
   subst hkm;rw[Int.sub_self] at hH;have hH:(xs,k)=X:=hH;subst hH;simp -implicitDefEqProofs only[go_sem]
   (repeat' (first|(refine g_s fun K hK=>?_)|(refine g_e ?_;simp only[ah,ae,↓reduceIte,Nat.reduceEqDiff])|(refine g_C (fun h=>?_) (fun h=>?_)<;>(try exact g_f))|(refine g_g ?_;(try refine g_y ?_))|(refine hK _ _ ?_;clear hK K)|exact trivial|fail))
   refine hJ _ _ ?_;clear hJ
   (repeat' (first|(refine g_s fun K hK=>?_)|((first|refine g_t ?_|refine g_g ?_);(try refine g_y ?_))|(refine hK _ _ ?_;clear hK K)|exact trivial|fail))
   exact⟨.dead::T,by rw[←hρ];simp,ids,_,rfl,by
    have h9:=hM.congr (lo':=σ.length) (S':=ρ++T) (by omega) fun b _ o ho=>ho
    rw[←hρ] at h9
    simpa using h9⟩
end Go.Proofs.YtephecognbbaoaaGreat
namespace Go.Proofs.YtephecognbbaoaaGreat
structure RO where
 routes:List Int
 ro:Nat
 told:List (List Int×Option Nat)
 to:Nat
instance:Inhabited RO:=⟨⟨[],0,[],0⟩⟩
def ck (p:List Int×Option Nat):List AV:=match p.2 with
 | none=>[.sl []]
 | some id=>[.own id 1 0 p.1.length p.1.length]
def cJ (r:RO):List AV:=[.own r.ro 1 0 r.routes.length r.routes.length,.own r.to 1 0 r.told.length r.told.length]
def RO.rtr (r:RO):Rtr:=⟨r.routes,r.told.map (·.1)⟩
def RO.ids (r:RO):List Nat:=r.ro::r.to::r.told.filterMap (·.2)
structure fR (S:aa) (r:RO):Prop where
 ro:S[r.ro]? = some (.cells 1 (r.routes.map au))
 to:S[r.to]? = some (.cells 1 (r.told.map ck))
 no:∀p∈r.told,p.2=none→p.1=[]
 row:∀p∈r.told,∀id,p.2=some id→S[id]? = some (.cells 1 (p.1.map au))
theorem fR.congr {S S':aa} {r:RO} (h:fR S r) (hS:∀x∈r.ids,∀o,S[x]? = some o→S'[x]? = some o):fR S' r:=
 ⟨hS _ (by simp [RO.ids]) _ h.ro,hS _ (by simp [RO.ids]) _ h.to,h.no,fun p hp id hi=>hS id (List.mem_cons_of_mem _ (List.mem_cons_of_mem _ (List.mem_filterMap.2 ⟨p,hp,hi⟩))) _ (h.row p hp id hi)⟩
theorem fR.lt {S:aa} {r:RO} (h:fR S r):∀x∈r.ids,x<S.length:=fun x hx=>by
 have hx:x∈r.ro::r.to::r.told.filterMap (·.2):=hx
 rcases List.mem_cons.1 hx with rfl|hx
 ·exact (List.getElem?_eq_some_iff.1 h.ro).1
 rcases List.mem_cons.1 hx with rfl|hx
 ·exact (List.getElem?_eq_some_iff.1 h.to).1
 ·obtain⟨p,hp,hi⟩:=List.mem_filterMap.1 hx;exact (List.getElem?_eq_some_iff.1 (h.row p hp _ hi)).1
structure a6 (S:aa) (lo b:Nat) (n:Net) (e:Eng) (rb:Nat) (rs:List RO) (gv:AV) (gi:List Nat):Prop where
 hb:S[b]? = some (.cells 7 [aH n++[.own rb 2 0 e.routers.length e.routers.length,gv]])
 hrb:S[rb]? = some (.cells 2 (rs.map cJ))
 er:rs.map RO.rtr=e.routers
 ho:∀i (h:i<rs.length),fR S rs[i]
 bag:eJ S gv e.bag gi
 nd:(b::rb::(rs.flatMap RO.ids++gi)).Nodup
 lo:∀x∈b::rb::(rs.flatMap RO.ids++gi),lo≤x
section
variable {S:aa} {lo b:Nat} {n:Net} {e:Eng} {rb:Nat} {rs:List RO} {gv:AV} {gi:List Nat}
theorem a6.len (h:a6 S lo b n e rb rs gv gi):e.routers.length=rs.length:=by rw[←h.er,List.length_map]
theorem a6.app {τ:aa} (h:a6 S lo b n e rb rs gv gi):a6 (S++τ) lo b n e rb rs gv gi:=
 ⟨az h.hb,az h.hrb,h.er,fun i hi=>(h.ho i hi).congr fun x _ o ho=>az ho,h.bag.app,h.nd,h.lo⟩
theorem a6.set_lo (h:a6 S lo b n e rb rs gv gi) {x:Nat} {o:Ob} (hx:x<lo):a6 (S.set x o) lo b n e rb rs gv gi:=by
 have hne:∀y∈b::rb::(rs.flatMap RO.ids++gi),x≠y:=fun y hy e=>by
  have:=h.lo y hy;omega
 refine⟨aT h.hb (hne b (by simp)),aT h.hrb (hne rb (by simp)),h.er,fun i hi=>(h.ho i hi).congr fun y hy o ho=>aT ho (hne y ?_),h.bag.set fun hc=>hne x (by simp [hc]) rfl,h.nd,h.lo⟩
 exact List.mem_cons_of_mem _ (List.mem_cons_of_mem _ (List.mem_append_left _ (List.mem_flatMap.2 ⟨rs[i],List.getElem_mem hi,hy⟩)))
theorem BZ {D:Nat→Prop} {r:RO} (h:fR S r) (hD:∀x∈r.ids,D x):bW S D (r.told.map ck) ((r.told.map (·.1)).map aE):=by
 rw[List.map_map];refine bW.map _ fun p hp=>?_;show cG S D (ck p) (aE p.1);unfold ck
 cases hp2:p.2 with
 | none=>
  rw[h.no p hp hp2];exact .cons (.same _) .nil
 | some id=>exact .cons (.ownW (hD id (List.mem_cons_of_mem _ (List.mem_cons_of_mem _ (List.mem_filterMap.2 ⟨p,hp,hp2⟩)))) (h.row p hp id hp2) (by simp) (.same _)) .nil
theorem a6.deep (h:a6 S lo b n e rb rs gv gi) {D:Nat→Prop} (hD:∀x,lo≤x→D x):cG S D [.own rb 2 0 e.routers.length e.routers.length,gv] (ba e):=by
 have hD':∀x∈b::rb::(rs.flatMap RO.ids++gi),D x:=fun x hx=>hD x (h.lo x hx);refine .cons (.ownW (hD' rb (by simp)) h.hrb (by rw[h.len,List.length_map]) ?_) (.cons ?_ .nil)
 ·rw[←h.er,List.map_map];refine bW.map _ fun r hr=>?_;obtain⟨i,hi,rfl⟩:=List.mem_iff_getElem.1 hr;have hids:∀x∈rs[i].ids,D x:=fun x hx=>hD' x (List.mem_cons_of_mem _ (List.mem_cons_of_mem _ (List.mem_append_left _ (List.mem_flatMap.2 ⟨_,hr,hx⟩))));exact .cons (.ownW (hids _ (by simp [RO.ids])) (h.ho i hi).ro (by simp) (.same _)) (.cons (.ownW (hids _ (by simp [RO.ids])) (h.ho i hi).to (by simp) (BZ (h.ho i hi) hids)) .nil)
 ·rcases h.bag with ⟨h1,h2,h3⟩|⟨gb,rest,h1,h2,h3,h4,h5⟩
  ·rw[h3,h1];exact .nil
  ·rw[h2];refine .ownR (es:=e.bag.map aJ) (hD' gb (by rw[h1];simp)) ?_ (.same _)
   simp only[dl,h3];rw[if_pos (by simp)]
   simp [List.take_left']
end
end Go.Proofs.YtephecognbbaoaaGreat
namespace Go.Proofs.YtephecognbbaoaaGreat
structure gQ (S:aa) (lo:Nat) (tl:List (List Int×Option Nat)):Prop where
 no:∀p∈tl,p.2=none→p.1=[]
 row:∀p∈tl,∀id,p.2=some id→lo≤id∧S[id]? = some (.cells 1 (p.1.map au))
 nd:(tl.filterMap (·.2)).Nodup
theorem gQ.congr {S S':aa} {lo lo':Nat} {tl:List (List Int×Option Nat)} (h:gQ S lo tl) (hlo:lo'≤lo) (hS:∀(x:Nat) (o:Ob),S[x]? = some o→S'[x]? = some o):gQ S' lo' tl:=
 ⟨h.no,fun p hp id hi=>⟨Nat.le_trans hlo (h.row p hp id hi).1,hS _ _ (h.row p hp id hi).2⟩,h.nd⟩
theorem gQ.none {S:aa} {lo:Nat} {tl:List (List Int×Option Nat)} (h:gQ S lo tl):gQ S lo (tl++[([],Option.none)]):=by
 refine⟨fun p hp hn=>?_,fun p hp id hi=>?_,?_⟩
 ·rcases List.mem_append.1 hp with hp|hp
  ·exact h.no p hp hn
  ·rw[List.mem_singleton.1 hp]
 ·rcases List.mem_append.1 hp with hp|hp
  ·exact h.row p hp id hi
  ·rw[List.mem_singleton.1 hp] at hi
   cases hi
 ·rw[List.filterMap_append]
  simpa using h.nd
theorem gQ.some {S:aa} {lo:Nat} {tl:List (List Int×Option Nat)} (h:gQ S lo tl) {l:List Int} {x:Nat} (hx:∀p∈tl,∀id,p.2=some id→id<x) (hlo:lo≤x) (ho:S[x]? = some (.cells 1 (l.map au))):gQ S lo (tl++[(l,Option.some x)]):=by
 refine⟨fun p hp hn=>?_,fun p hp id hi=>?_,?_⟩
 ·rcases List.mem_append.1 hp with hp|hp
  ·exact h.no p hp hn
  ·rw[List.mem_singleton.1 hp] at hn
   cases hn
 ·rcases List.mem_append.1 hp with hp|hp
  ·exact h.row p hp id hi
  ·rw[List.mem_singleton.1 hp] at hi ⊢
   cases hi
   exact⟨hlo,ho⟩
 ·rw[List.filterMap_append,List.nodup_append];refine⟨h.nd,by simp,fun a ha c hc=>?_⟩
  obtain⟨p,hp,hi⟩:=List.mem_filterMap.1 ha;have:=hx p hp a hi;have hc:c=x:=by simpa using hc
  omega
def eU (n0:Nat) (s:List (List Int×Option Nat)×aa) (w:List Int):List (List Int×Option Nat)×aa:=
 if w=[] then (s.1++[([],none)],s.2++[.dead,.cells 1 [[.sl []]]])
 else (s.1++[(w,some (n0+(s.2.length+1)))],s.2++[.dead,.cells 1 (w.map au),.cells 1 [[.own (n0+(s.2.length+1)) 1 0 w.length w.length]]])
def od (n0:Nat) (x:List (List Int)):List (List Int×Option Nat)×aa:=x.foldl (eU n0) ([],[])
theorem oc (σ:aa):∀(r:List (List Int)) (s:List (List Int×Option Nat)×aa),gQ (σ++s.2) σ.length s.1→gQ (σ++(r.foldl (eU σ.length) s).2) σ.length (r.foldl (eU σ.length) s).1∧(r.foldl (eU σ.length) s).1.map (·.1)=s.1.map (·.1)++r
 | [],s,h=>⟨h,by simp⟩
 | w::r,s,h=>by
  rw[List.foldl_cons];have hext:∀X,gQ (σ++(s.2++X)) σ.length s.1:=fun X=>h.congr (Nat.le_refl _) fun x o ho=>by rw[←List.append_assoc];exact az ho
  by_cases hw:w=[]
  ·have e:eU σ.length s w=(s.1++[([],none)],s.2++[.dead,.cells 1 [[.sl []]]]):=by rw[eU,if_pos hw]
   obtain⟨a,b⟩:=oc σ r (eU σ.length s w) (by rw[e];exact (hext _).none)
   refine⟨a,?_⟩;rw[b,e,hw];simp
  ·have e:eU σ.length s w=(s.1++[(w,some (σ.length+(s.2.length+1)))],s.2++[.dead,.cells 1 (w.map au),.cells 1 [[.own (σ.length+(s.2.length+1)) 1 0 w.length w.length]]]):=by rw[eU,if_neg hw]
   obtain⟨a,b⟩:=oc σ r (eU σ.length s w) (by
    rw[e];refine (hext _).some (fun p hp id hi=>?_) (by omega) ?_
    ·have:=(List.getElem?_eq_some_iff.1 (h.row p hp id hi).2).1;simp at this;omega
    ·rw[List.getElem?_append_right (by omega),Nat.add_sub_cancel_left,List.getElem?_append_right (by omega),Nat.add_sub_cancel_left]
     rfl)
   refine⟨a,?_⟩;rw[b,e];simp
theorem nM (l:List Int) (hl:l.length≤1000) (hne:l≠[]) (σ:aa):af Tryz.prog 80 [aF l] σ fun r σ'=>σ'=σ++[.cells 1 (l.map au)]∧r = .own σ.length 1 0 l.length l.length:=by
 refine af.cutO (fun i hi j hj=>?_) ?_
 ·simp only[List.getElem_map,au,List.length_cons,List.length_nil] at hj ⊢;obtain rfl:j=0:=by omega
  exact .c _
 ·refine (sa l hl σ).mono ?_;rintro r S' (⟨e,_⟩|⟨rfl,rfl⟩)
  ·exact absurd e hne
  ·exact⟨σ.length+1,_,rfl,by omega,by simp,rfl⟩
theorem AS (x:List (List Int)) (ok:dN x) (hne:x≠[]) (hrl:∀r∈x,r.length≤1000) (σ:aa):af Tryz.prog 47 [aL x] σ fun r σ'=>σ'=σ++((od σ.length x).2++[.cells 1 ((od σ.length x).1.map ck)])∧r = .own (σ.length+(od σ.length x).2.length) 1 0 x.length x.length:=by
 have hlen:=ok.len;have hfl:=(oc σ x ([],[]) ⟨fun p hp=>(by cases hp),fun p hp=>(by cases hp),List.nodup_nil⟩).2
 obtain⟨F,hF⟩:∃F,od σ.length x=F:=⟨_,rfl⟩;have hfl:F.1.map (·.1)=x:=by
  rw[←hF];unfold od
  simpa using hfl
 rw[hF];refine g_n Tryz.func47 rfl Tryz.results47 Tryz.ntmps47 ?_
 (repeat' (first|(refine g_s fun K hK=>?_)|(refine g_b ?_)|(refine g_G ?_;(try refine g_y ?_))|(refine hK _ _ ?_;clear hK K)|exact trivial|fail))
 refine bn ?_;have hJ:=hK;clear hK;refine ay x (fun k r (s:List (List Int×Option Nat)×aa)=>r.foldl (eU σ.length) s=F∧s.1.length+r.length=x.length) (fun k s _=>[(8,ab k),(3,aq 1 (σ.length+s.2.length) s.1)]) (fun _ s _=>σ++(s.2++[ap ck 1 s.1])) ([],[]) [] ⟨hF,by simp⟩ (by simp [ap]) (ai ?_) ?_ ?_
 ·simp -implicitDefEqProofs only[go_sem,aq]
 ·rintro k r ⟨acc,T⟩ τ hk0 hk1 ⟨h3,h4⟩ L hL;have hmem:=aA x hk0 hk1;obtain⟨w,hw⟩:∃w,at0 x k=w:=⟨_,rfl⟩;rw[hw,List.foldl_cons] at h3;rw[hw] at hmem;have hwl:=hrl w hmem;have hal:acc.length+1≤x.length:=by simp at h4;omega
  by_cases hwe:w=[]
  ·have e:eU σ.length (acc,T) w=(acc++[([],none)],T++[.dead,.cells 1 [[.sl []]]]):=by rw[eU,if_pos hwe]
   rw[e] at h3;subst hwe;have hcl:=fun S=>zU ([]:List Int) (by simp) S
   rcases acc with _|⟨y,acc⟩<;>simp only[List.length_cons,List.length_nil] at hal<;>simp -implicitDefEqProofs only[go_sem,aq,ap]
   all_goals (repeat' (first|(refine g_s fun K hK=>?_)|(refine g_b ?_)|(refine g_k ?_;simp only[ah,ae])|(refine g_C (fun h=>?_) (fun h=>?_)<;>(try exact g_f))|((first|refine g_g ?_|refine (hcl _).use ?_);(try simp -implicitDefEqProofs only[go_sem,hw]))|(refine hK _ _ ?_;clear hK K)|(with_reducible refine And.intro ?_ ?_;· exact g_x)|fail))
   ·refine hL (_,T++[Ob.dead,Ob.cells 1 [[AV.sl []]]]) τ _ _ ⟨h3,by simp at h4 ⊢;omega⟩ (ai ?_) ?_
    ·simp -implicitDefEqProofs only[go_sem,aq]
    ·simp [ap,ck]
   ·refine hL (y::(acc++[([],none)]),T++[Ob.dead,Ob.cells 1 [[AV.sl []]]]) τ _ _ ⟨by rw[List.cons_append] at h3;exact h3,by simp at h4 ⊢;omega⟩ (ai ?_) ?_
    ·simp -implicitDefEqProofs only[go_sem,aq]
    ·simp [ap,ck]
  ·have e:eU σ.length (acc,T) w=(acc++[(w,some (σ.length+(T.length+1)))],T++[.dead,.cells 1 (w.map au),.cells 1 [[.own (σ.length+(T.length+1)) 1 0 w.length w.length]]]):=by rw[eU,if_neg hwe]
   rw[e] at h3;have hcl:=fun S=>nM w (by omega) hwe S
   rcases acc with _|⟨y,acc⟩<;>simp only[List.length_cons,List.length_nil] at hal<;>simp -implicitDefEqProofs only[go_sem,aq,ap]
   all_goals (repeat' (first|(refine g_s fun K hK=>?_)|(refine g_b ?_)|(refine g_k ?_;simp only[ah,ae])|(refine g_C (fun h=>?_) (fun h=>?_)<;>(try exact g_f))|((first|refine g_g ?_|refine af.useA (hcl _) ?_);(try simp -implicitDefEqProofs only[go_sem,hw]))|(refine hK _ _ ?_;clear hK K)|(with_reducible refine And.intro ?_ ?_;· exact g_x)|fail))
   ·refine hL (_,T++[Ob.dead,Ob.cells 1 (w.map au),Ob.cells 1 [[AV.own (σ.length+(T.length+1)) 1 0 w.length w.length]]]) τ _ _ ⟨h3,by simp at h4 ⊢;omega⟩ (ai ?_) ?_
    ·simp -implicitDefEqProofs only[go_sem,aq]
    ·simp [ap,ck]
   ·refine hL (y::(acc++[(w,some (σ.length+(T.length+1)))]),T++[Ob.dead,Ob.cells 1 (w.map au),Ob.cells 1 [[AV.own (σ.length+(T.length+1)) 1 0 w.length w.length]]]) τ _ _ ⟨by rw[List.cons_append] at h3;exact h3,by simp at h4 ⊢;omega⟩ (ai ?_) ?_
    ·simp -implicitDefEqProofs only[go_sem,aq]
    ·simp [ap,ck]
 ·rintro k ⟨acc,T⟩ τ hk ⟨h3,h4⟩ L;simp -implicitDefEqProofs only[go_sem]
  (repeat' (first|(refine g_s fun K hK=>?_)|(refine g_e ?_;simp only[ah,ae,↓reduceIte,Nat.reduceEqDiff])|(refine g_C (fun h=>?_) (fun h=>?_)<;>(try exact g_f))|(refine g_g ?_;(try refine g_y ?_))|(refine hK _ _ ?_;clear hK K)|exact trivial|fail))
  refine hJ _ _ ?_;clear hJ;have h3:(acc,T)=F:=h3;subst h3
  rcases acc with _|⟨y,acc⟩
  ·exact absurd hfl.symm hne
  have hl:x.length=acc.length+1:=by rw[←hfl];simp
  simp -implicitDefEqProofs only[go_sem,aq,ap]
  (repeat' (first|(refine g_s fun K hK=>?_)|((first|refine g_t ?_|refine g_g ?_);(try refine g_y ?_))|(refine hK _ _ ?_;clear hK K)|exact trivial|fail))
  rw[hl]
end Go.Proofs.YtephecognbbaoaaGreat
namespace Go.Proofs.YtephecognbbaoaaGreat
theorem xV (P:aa) (w:Rtr) (F:List (List Int×Option Nat)×aa) (hF:od (P.length+1) w.told=F) :
  fR (P++(.cells 1 (w.routes.map au)::(F.2++[.cells 1 (F.1.map ck)]))) ⟨w.routes,P.length,F.1,P.length+1+F.2.length⟩∧RO.rtr ⟨w.routes,P.length,F.1,P.length+1+F.2.length⟩=w∧(RO.ids ⟨w.routes,P.length,F.1,P.length+1+F.2.length⟩).Nodup∧(∀x∈RO.ids ⟨w.routes,P.length,F.1,P.length+1+F.2.length⟩,P.length≤x)∧F.1.length=w.told.length:=by
 have hl:(P++[Ob.cells 1 (w.routes.map au)]).length=P.length+1:=by simp
 obtain⟨h1,h2⟩:=oc (P++[Ob.cells 1 (w.routes.map au)]) w.told ([],[]) ⟨fun p hp=>(by cases hp),fun p hp=>(by cases hp),List.nodup_nil⟩
 rw[hl] at h1 h2;have hF':w.told.foldl (eU (P.length+1)) ([],[])=F:=hF;rw[hF'] at h1 h2;have h2:F.1.map (·.1)=w.told:=by simpa using h2
 have hup:∀p∈F.1,∀id,p.2=some id→P.length+1≤id∧id<P.length+1+F.2.length∧(P++(.cells 1 (w.routes.map au)::(F.2++[.cells 1 (F.1.map ck)])))[id]? = some (.cells 1 (p.1.map au)):=fun p hp id hi=>by
  obtain⟨g1,g2⟩:=h1.row p hp id hi;have g3:=(List.getElem?_eq_some_iff.1 g2).1;simp at g3;refine⟨g1,by omega,?_⟩
  have e:P++(Ob.cells 1 (w.routes.map au)::(F.2++[.cells 1 (F.1.map ck)]))=((P++[Ob.cells 1 (w.routes.map au)])++F.2)++[.cells 1 (F.1.map ck)]:=by simp
  rw[e];exact az g2
 refine⟨⟨?_,?_,h1.no,fun p hp id hi=>(hup p hp id hi).2.2⟩,?_,?_,?_,by rw[←h2,List.length_map]⟩
 ·simp
 ·show (P++_)[P.length+1+F.2.length]? = _;have e:P.length+1+F.2.length=P.length+(F.2.length+1):=by omega
  rw[e,List.getElem?_append_right (by omega),Nat.add_sub_cancel_left,List.getElem?_cons_succ,List.getElem?_append_right (by omega),Nat.sub_self]
  rfl
 ·show (⟨w.routes,F.1.map (·.1)⟩:Rtr)=w;rw[h2]
 ·show (P.length::(P.length+1+F.2.length)::F.1.filterMap (·.2)).Nodup;rw[List.nodup_cons,List.nodup_cons];refine⟨fun hc=>?_,fun hc=>?_,h1.nd⟩
  ·rcases List.mem_cons.1 hc with hc|hc
   ·omega
   ·obtain⟨p,hp,hi⟩:=List.mem_filterMap.1 hc;have:=hup p hp _ hi;omega
  ·obtain⟨p,hp,hi⟩:=List.mem_filterMap.1 hc;have:=hup p hp _ hi;omega
 ·intro x hx;have hx:x∈P.length::(P.length+1+F.2.length)::F.1.filterMap (·.2):=hx
  rcases List.mem_cons.1 hx with rfl|hx
  ·omega
  rcases List.mem_cons.1 hx with rfl|hx
  ·omega
  ·obtain⟨p,hp,hi⟩:=List.mem_filterMap.1 hx;have:=hup p hp _ hi;omega
theorem ux (n:Net) (e:Eng) (ρ T τ:aa) (acc:List RO) (gv:AV) (gi:List Nat) (lo:Nat) (hlo:lo≤ρ.length) (h3:acc.map RO.rtr=e.routers) (h4:∀p∈acc,fR ((ρ++[.dead])++T) p∧∀x∈p.ids,ρ.length+1≤x) (h5:(acc.flatMap RO.ids).Nodup)
  (hbag:eJ (ρ++(.cells 7 [aH n++[.own (ρ.length+(T.length+1)) 2 0 acc.length acc.length,gv]]::(T++(.cells 2 (acc.map cJ)::τ)))) gv e.bag gi) (hgi:∀i∈gi,ρ.length+(T.length+2)≤i) (hg1:gi.Nodup) :
  a6 (ρ++(.cells 7 [aH n++[.own (ρ.length+(T.length+1)) 2 0 acc.length acc.length,gv]]::(T++(.cells 2 (acc.map cJ)::τ)))) lo ρ.length n e (ρ.length+(T.length+1)) acc gv gi:=by
 have hel:e.routers.length=acc.length:=by rw[←h3,List.length_map]
 have hpl:∀x∈acc.flatMap RO.ids,ρ.length+1≤x∧x<ρ.length+1+T.length:=fun x hx=>by
  obtain⟨p,hp,hxp⟩:=List.mem_flatMap.1 hx;have l1:=(h4 p hp).2 x hxp;have l2:=(h4 p hp).1.lt x hxp;simp at l2;omega
 refine⟨?_,?_,h3,fun i hi=>(h4 _ (List.getElem_mem hi)).1.congr fun x hx o ho=>?_,hbag,?_,?_⟩
 ·rw[hel];simp
 ·rw[List.getElem?_append_right (by omega),Nat.add_sub_cancel_left,List.getElem?_cons_succ,List.getElem?_append_right (by omega),Nat.sub_self]
  rfl
 ·have:=hpl x (List.mem_flatMap.2 ⟨_,List.getElem_mem hi,hx⟩);obtain⟨q,hq⟩:∃q,x=ρ.length+1+q:=⟨x-ρ.length-1,by omega⟩
  have h7:x=(ρ++[Ob.dead]).length+q:=by simp;omega
  rw[h7,List.getElem?_append_right (by omega),Nat.add_sub_cancel_left] at ho
  have h8:x=ρ.length+(q+1):=by omega
  rw[h8,List.getElem?_append_right (by omega),Nat.add_sub_cancel_left,List.getElem?_cons_succ]
  exact az ho
 ·rw[List.nodup_cons,List.nodup_cons,List.nodup_append];simp only[List.mem_cons,List.mem_append,not_or];refine⟨⟨by omega,fun h=>?_,fun h=>?_⟩,⟨fun h=>?_,fun h=>?_⟩,h5,hg1,fun x hx y hy hxy=>?_⟩
  ·have:=hpl _ h;omega
  ·have:=hgi _ h;omega
  ·have:=hpl _ h;omega
  ·have:=hgi _ h;omega
  ·have:=hpl _ hx;have:=hgi _ hy;omega
 ·intro x hx;simp only[List.mem_cons,List.mem_append] at hx
  rcases hx with rfl|rfl|h|h
  ·omega
  ·omega
  ·have:=hpl _ h;omega
  ·have:=hgi _ h;omega
theorem zS (n:Net) (e:Eng) (hn:bI n) (he:a8 n e) (ok:cj e) (σ:aa):af Tryz.prog 39 [.agg (aH n),.agg (ba e)] σ fun r σ'=>∃τ,σ'=σ++τ∧∃b rb rs gv gi,r = .ptr b 7 0 0∧a6 (σ++τ) σ.length b n e rb rs gv gi:=by
 have n1:=hn.n1;have n6:=hn.n6;have hel:=he.len;refine g_n Tryz.func39 rfl Tryz.results39 Tryz.ntmps39 ?_;refine g_s fun K hK=>?_;refine g_h ?_;refine hK _ _ ?_;clear hK K;refine g_0 2 rfl ?_;refine g_0 3 rfl ?_
 (repeat' (first|(refine g_s fun K hK=>?_)|(refine g_b ?_)|(refine g_g ?_;(try refine g_y ?_))|(refine hK _ _ ?_;clear hK K)|exact trivial|fail))
 refine bn ?_;have hJ:=hK;clear hK;obtain⟨ρ,hρ⟩:∃ρ:aa,σ++[.dead,.dead]=ρ:=⟨_,rfl⟩;have hlen:σ.length+2=ρ.length:=by rw[←hρ];simp
 refine ay e.routers (fun k r (s:List RO×aa)=>s.1.map RO.rtr++r=e.routers∧(∀p∈s.1,fR ((ρ++[.dead])++s.2) p∧∀x∈p.ids,ρ.length+1≤x)∧(s.1.flatMap RO.ids).Nodup)
  (fun k s _=>[(14,ab k),(5,.ptr ρ.length 7 0 0)]) (fun _ s _=>ρ++(.cells 7 [aH n++[aq 2 (ρ.length+(s.2.length+1)) s.1,.c (.slice none 0 0)]]::(s.2++[ap cJ 2 s.1]))) ([],[]) [] ⟨rfl,fun p hp=>(by cases hp),List.nodup_nil⟩ ?_ (ai ?_) ?_ ?_
 ·rw[←hρ];simp [aq,ap,aH,ab,aL,nF]
 ·simp -implicitDefEqProofs only[go_sem,hlen]
 ·rintro k r ⟨acc,T⟩ τ9 hk0 hk1 ⟨h3,h4,h5⟩ L hL;obtain⟨w,hw⟩:∃w,at0 e.routers k=w:=⟨_,rfl⟩;have hwm:=aA e.routers hk0 hk1;rw[hw] at h3 hwm;have hwi:=he.rtr w hwm;have hwo:=ok.rtr w hwm;have hrl:=hwi.rl;have htl:=hwi.tl;have htne:w.told≠[]:=fun e=>by rw[e] at htl;simp at htl;omega
  have hrne:w.routes≠[]:=fun e=>by rw[e] at hrl;simp at hrl;omega
  have hcl:=fun S=>nM w.routes (by omega) hrne S
  have hst:dN w.told:=⟨by omega,fun l hl=>hwo.tr l hl⟩
  have how:=fun S=>AS w.told hst htne (fun l hl=>by
   rcases hwi.tr l hl with h|h
   ·rw[h];simp
   ·have:=h.1;omega) S
  have hal:acc.length+1≤6:=by have:=congrArg List.length h3;simp at this;omega
  rcases acc with _|⟨p0,acc⟩
  ·simp -implicitDefEqProofs only[go_sem,aq,ap]
   (repeat' (first|(refine g_s fun K hK=>?_)|(refine g_b ?_)|(refine g_k ?_;simp only[ah,ae])|(refine g_C (fun h=>?_) (fun h=>?_)<;>(try exact g_f))|((first|refine g_G ?_|refine eK (ρ++(.cells 7 [[.c (.int .i64 n.alg.size),.sl (n.alg.best.map aE),.sl (n.alg.edges.map aE),.c (.int .i64 n.nodes),.sl (n.links.map df),.c (.slice none 0 0),.c (.slice none 0 0)]]::(T++[.dead,.cells 2 [[.sl (w.routes.map au),.sl (w.told.map aE)]]]))) ⟨_,by simp;rfl⟩ a9 (by decide +kernel) ?_|refine eG (hcl _) ?_|refine eG (how _) ?_);(try simp -implicitDefEqProofs only[go_sem,hw]))|(refine hK _ _ ?_;clear hK K)|(with_reducible refine And.intro ?_ ?_;· exact g_x)|fail))
   obtain⟨F,hF⟩:∃F,od (ρ.length+(T.length+4)) w.told=F:=⟨_,rfl⟩;rw[hF];have hPl:(((ρ++[Ob.dead])++T)++[Ob.dead,Ob.cells 2 [[.sl (w.routes.map au),.sl (w.told.map aE)]]]).length=ρ.length+(T.length+3):=by simp
   obtain⟨n1',n2',n3',n4',n5'⟩:=xV (((ρ++[Ob.dead])++T)++[Ob.dead,Ob.cells 2 [[.sl (w.routes.map au),.sl (w.told.map aE)]]]) w F (by rw[hPl];exact hF)
   rw[hPl] at n1' n2' n3' n4';obtain⟨p,hp⟩:∃p:RO,(⟨w.routes,ρ.length+(T.length+3),F.1,ρ.length+(T.length+3)+1+F.2.length⟩:RO)=p:=⟨_,rfl⟩;rw[hp] at n1' n2' n3' n4';have hpr:cJ p=[.own (ρ.length+(T.length+3)) 1 0 w.routes.length w.routes.length,.own (ρ.length+(T.length+(4+F.2.length))) 1 0 w.told.length w.told.length]:=by
    rw[←hp,cJ];simp only[n5']
    congr 3
    omega
   refine hL ([p],T++Ob.dead::Ob.cells 2 [[.sl (w.routes.map au),.sl (w.told.map aE)]]::Ob.cells 1 (w.routes.map au)::(F.2++[Ob.cells 1 (F.1.map ck)])) [] _ _ ⟨by simpa [n2'] using h3,fun p9 hp9=>?_,by simpa using n3'⟩ (ai ?_) ?_
   ·rw[List.mem_singleton.1 hp9];exact⟨by simpa using n1',fun x hx=>by have:=n4' x hx;omega⟩
   ·simp -implicitDefEqProofs only[go_sem,hlen]
   ·simp [ap,aq,hpr,aH,ab,aL,nF];omega
  ·simp only[List.length_cons] at hal;simp -implicitDefEqProofs only[go_sem,aq,ap]
   (repeat' (first|(refine g_s fun K hK=>?_)|(refine g_b ?_)|(refine g_k ?_;simp only[ah,ae])|(refine g_C (fun h=>?_) (fun h=>?_)<;>(try exact g_f))|(refine g_G ?_;(try simp -implicitDefEqProofs only[go_sem,hw]))|(refine hK _ _ ?_;clear hK K)|(with_reducible refine And.intro ?_ ?_;· exact g_x)|fail))
   refine wl ρ.length 0 5 (b:=ρ.length+(T.length+1)) (by omega) (by first|rfl|(simp -implicitDefEqProofs only[go_sem];done)|(simp -implicitDefEqProofs only[go_sem];rfl)) rfl rfl (by first|rfl|(simp -implicitDefEqProofs only[go_sem];done)|(simp -implicitDefEqProofs only[go_sem];rfl)) ?_
   simp -implicitDefEqProofs only[go_sem]
   (repeat' (first|((first|refine g_G ?_|refine eK (ρ++(.cells 7 [[.c (.int .i64 n.alg.size),.sl (n.alg.best.map aE),.sl (n.alg.edges.map aE),.c (.int .i64 n.nodes),.sl (n.links.map df),.own (ρ.length+(T.length+3)) 2 0 (acc.length+1) (acc.length+1),.c (.slice none 0 0)]]::(T++[.dead,.cells 2 [[.sl (w.routes.map au),.sl (w.told.map aE)]]]))) ⟨_,by simp;rfl⟩ a9 (by decide +kernel) ?_|refine eG (hcl _) ?_|refine eG (how _) ?_);(try simp -implicitDefEqProofs only[go_sem,hw]))|(refine hK _ _ ?_;clear hK K)|(with_reducible refine And.intro ?_ ?_;· exact g_x)|fail))
   obtain⟨F,hF⟩:∃F,od (ρ.length+(T.length+5)) w.told=F:=⟨_,rfl⟩;rw[hF];have hPl:(((ρ++[Ob.dead])++T)++[Ob.dead,Ob.cells 2 [[.sl (w.routes.map au),.sl (w.told.map aE)]],Ob.dead]).length=ρ.length+(T.length+4):=by simp
   obtain⟨n1',n2',n3',n4',n5'⟩:=xV (((ρ++[Ob.dead])++T)++[Ob.dead,Ob.cells 2 [[.sl (w.routes.map au),.sl (w.told.map aE)]],Ob.dead]) w F (by rw[hPl];exact hF)
   rw[hPl] at n1' n2' n3' n4';obtain⟨p,hp⟩:∃p:RO,(⟨w.routes,ρ.length+(T.length+4),F.1,ρ.length+(T.length+4)+1+F.2.length⟩:RO)=p:=⟨_,rfl⟩;rw[hp] at n1' n2' n3' n4';have hpr:cJ p=[.own (ρ.length+(T.length+4)) 1 0 w.routes.length w.routes.length,.own (ρ.length+(T.length+(5+F.2.length))) 1 0 w.told.length w.told.length]:=by
    rw[←hp,cJ];simp only[n5']
    congr 3
    omega
   refine hL (p0::(acc++[p]),T++Ob.dead::Ob.cells 2 [[.sl (w.routes.map au),.sl (w.told.map aE)]]::Ob.dead::Ob.cells 1 (w.routes.map au)::(F.2++[Ob.cells 1 (F.1.map ck)])) [] _ _ ⟨by simpa [n2'] using h3,fun p9 hp9=>?_,?_⟩ (ai ?_) ?_
   ·rw[←List.cons_append] at hp9
    rcases List.mem_append.1 hp9 with hp9|hp9
    ·obtain⟨g1,g2⟩:=h4 p9 hp9;refine⟨g1.congr fun x _ o ho=>?_,g2⟩;rw[←List.append_assoc];exact az ho
    ·rw[List.mem_singleton.1 hp9];exact⟨by simpa using n1',fun x hx=>by have:=n4' x hx;omega⟩
   ·rw[←List.cons_append,List.flatMap_append,List.nodup_append];refine⟨h5,by simpa using n3',fun x hx y hy hxy=>?_⟩
    obtain⟨q,hq,hxq⟩:=List.mem_flatMap.1 hx;have hy':y∈p.ids:=by simpa using hy
    have l2:=n4' y hy';have l1:x<((ρ++[Ob.dead])++T).length:=(h4 q hq).1.lt x hxq;simp at l1;omega
   ·simp -implicitDefEqProofs only[go_sem,hlen]
   ·simp [ap,aq,hpr,aH,ab,aL,nF];omega
 ·rintro k ⟨acc,T⟩ τ9 hk ⟨h3,h4,h5⟩ L;have hacc:1≤acc.length:=by have:=congrArg List.length h3;simp at this;omega
  obtain⟨p0,acc,rfl⟩:∃p l,acc=p::l:=by cases acc with|nil=>cases hacc|cons p l=>exact⟨p,l,rfl⟩
  simp -implicitDefEqProofs only[go_sem,aq,ap]
  (repeat' (first|(refine g_s fun K hK=>?_)|(refine g_e ?_;simp only[ah,ae,↓reduceIte,Nat.reduceEqDiff])|(refine g_C (fun h=>?_) (fun h=>?_)<;>(try exact g_f))|(refine g_g ?_;(try refine g_y ?_))|(refine hK _ _ ?_;clear hK K)|exact trivial|fail))
  refine hJ _ _ ?_;clear hJ
  (repeat' (first|(refine g_s fun K hK=>?_)|(refine g_g ?_;(try refine g_y ?_))|exact trivial|fail))
  simp only[List.append_nil] at h3;have fin:∀S' X rb rs gv gi,S'=ρ++X→a6 S' σ.length ρ.length n e rb rs gv gi→∃τ,S'=σ++τ∧∃b rb rs gv gi,AV.ptr ρ.length 7 0 0 = .ptr b 7 0 0∧a6 (σ++τ) σ.length b n e rb rs gv gi:=by
   rintro _ X rb rs gv gi rfl hM;exact⟨[.dead,.dead]++X,by rw[←hρ,List.append_assoc],ρ.length,rb,rs,gv,gi,rfl,by rw[←List.append_assoc,hρ];exact hM⟩
  refine (yD e.bag he.bag _).mono ?_;rintro r S' (⟨hb,rfl,rfl⟩|⟨rfl,rfl⟩)
  ·simp -implicitDefEqProofs only[go_sem]
   (repeat' (first|(refine g_s fun K hK=>?_)|((first|refine g_t ?_|refine g_g ?_);(try refine g_y ?_))|(refine hK _ _ ?_;clear hK K)|exact trivial|fail))
   exact fin _ _ _ _ _ _ rfl <| ux n e ρ T [] (p0::acc) (.c (.slice none 0 0)) [] σ.length (by omega) h3 h4 h5 (.inl ⟨hb,rfl,rfl⟩) (fun i h=>by cases h) List.nodup_nil
  ·simp -implicitDefEqProofs only[go_sem]
   (repeat' (first|(refine g_s fun K hK=>?_)|((first|refine g_t ?_|refine g_g ?_);(try refine g_y ?_))|(refine hK _ _ ?_;clear hK K)|exact trivial|fail))
   have hg:(ρ++(.cells 7 [aH n++[.own (ρ.length+(T.length+1)) 2 0 (p0::acc).length (p0::acc).length,.own (ρ.length+(T.length+3)) 3 0 e.bag.length e.bag.length]]::(T++(.cells 2 ((p0::acc).map cJ)::[.dead,.cells 3 (e.bag.map aJ)]))))[ρ.length+(T.length+3)]? = some (.cells 3 (e.bag.map aJ)):=by
    rw[List.getElem?_append_right (by omega),Nat.add_sub_cancel_left,List.getElem?_cons_succ,List.getElem?_append_right (by omega),Nat.add_sub_cancel_left]
    rfl
   exact fin _ _ _ _ _ _ rfl <| ux n e ρ T [.dead,.cells 3 (e.bag.map aJ)] (p0::acc) (.own (ρ.length+(T.length+3)) 3 0 e.bag.length e.bag.length) [ρ.length+(T.length+3)] σ.length (by omega) h3 h4 h5 (.inr ⟨ρ.length+(T.length+3),[],rfl,rfl,by rw[List.append_nil];exact hg,(fun i h=>absurd h List.not_mem_nil),(by have:=he.bag;simpa using this)⟩) (fun i h=>by rw[List.mem_singleton.1 h];omega) (by simp)
end Go.Proofs.YtephecognbbaoaaGreat
