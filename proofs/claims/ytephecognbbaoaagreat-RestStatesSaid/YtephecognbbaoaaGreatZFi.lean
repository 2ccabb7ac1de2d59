/- Engines are copied, as the document does it. -/
import Derived.Test.YtephecognbbaoaaGreatZFd
import Derived.Test.YtephecognbbaoaaGreatZPs
open Go
set_option linter.all false
set_option maxRecDepth 100000
set_option maxHeartbeats 4000000
namespace Go.Proofs.YtephecognbbaoaaGreat
open Go
set_option linter.all false
set_option maxRecDepth 100000
set_option maxHeartbeats 4000000
theorem lq {rd:Option Nat} {P:Program} {N:Nat} {Q:bV} {α:AF} {c:Code} (β τ:aa) (o:Ob) (rest:List (List Int)) (l:List Int)
  (h:aK rd P N c Q α (β++(o::(τ++[.dead,.cells 1 ((rest++[l]).map aE)])))):aK rd P N c Q α (β++(o::(τ++[.cells 1 (l.map au),.cells 1 (rest.map aE++[[.own (β.length+(τ.length+1)) 1 0 l.length l.length]])]))):=by
 obtain⟨γ,hγ⟩:∃γ:aa,β++(o::τ)=γ:=⟨_,rfl⟩;have hl:β.length+(τ.length+1)=γ.length:=by rw[←hγ];simp
 have e0:∀x y:Ob,β++(o::(τ++[x,y]))=γ++[x,y]:=fun x y=>by rw[←hγ];simp
 rw[hl,e0];rw[e0] at h;refine th (γ.length+1) rest.length 0 (k:=1) (rows:=rest.map aE++[[.own γ.length 1 0 l.length l.length]]) (e:=[.own γ.length 1 0 l.length l.length]) (a:=.own γ.length 1 0 l.length l.length) (es:=l.map au) ?_ (by simp) rfl ?_ ?_ ?_
 ·show (((γ++[Ob.cells 1 (l.map au),.cells 1 (rest.map aE++[[.own γ.length 1 0 l.length l.length]])]):aa).set γ.length .dead)[γ.length+1]? = _;rw[List.getElem?_set_ne (by omega)]
  simp
 ·simp [bO]
 ·have e1:((γ++[Ob.cells 1 (l.map au),.cells 1 (rest.map aE++[[.own γ.length 1 0 l.length l.length]])]).set γ.length .dead).set (γ.length+1) (Ob.cells 1 ((rest.map aE++[[AV.own γ.length 1 0 l.length l.length]]).set rest.length ([AV.own γ.length 1 0 l.length l.length].set 0 (.sl (l.map au)))))=γ++[.dead,.cells 1 ((rest++[l]).map aE)]:=by
   rw[List.set_append_right _ _ (by omega),Nat.sub_self,List.set_append_right _ _ (by omega),Nat.add_sub_cancel_left]
   simp [aE,aF]
  show aK rd P N c Q α (((γ++[Ob.cells 1 (l.map au),.cells 1 (rest.map aE++[[.own γ.length 1 0 l.length l.length]])]).set γ.length .dead).set (γ.length+1) (Ob.cells 1 ((rest.map aE++[[AV.own γ.length 1 0 l.length l.length]]).set rest.length ([AV.own γ.length 1 0 l.length l.length].set 0 (.sl (l.map au))))));rw[e1];exact h
 ·simp
def iY (b:Nat):List (List Int)→aa
 | []=>[.dead,.dead]
 | l::rest=>[.cells 1 (l.map au),.cells 1 (rest.reverse.map aE++[[.own b 1 0 l.length l.length]])]
theorem Ca {A B:List Nat} {m r t:Nat} (h:(A++B).Nodup) (hA:∀x∈A,x<m) (hB:∀x∈B,x<m) (hr:m≤r) (ht:r<t):((A++[r])++(B++[t])).Nodup:=by
 rw[List.nodup_append] at h;obtain⟨h1,h2,h3⟩:=h;rw[List.nodup_append,List.nodup_append,List.nodup_append];refine⟨⟨h1,by simp,fun x hx y hy e=>?_⟩,⟨h2,by simp,fun x hx y hy e=>?_⟩,fun x hx y hy e=>?_⟩
 ·rw[List.mem_singleton.1 hy] at e;have:=hA x hx;omega
 ·rw[List.mem_singleton.1 hy] at e;have:=hB x hx;omega
 ·rcases List.mem_append.1 hx with hx|hx<;>rcases List.mem_append.1 hy with hy|hy
  ·exact h3 x hx y hy e
  ·rw[List.mem_singleton.1 hy] at e;have:=hA x hx;omega
  ·rw[List.mem_singleton.1 hx] at e;have:=hB y hy;omega
  ·rw[List.mem_singleton.1 hx,List.mem_singleton.1 hy] at e;omega
theorem fg (n:Net) (e:Eng) (hn:bI n) (he:a8 n e) (ok:cj e) (σ:aa):af Tryz.prog 68 [.agg (ba e)] σ fun r σ'=>∃τ,σ'=σ++τ∧∃rb acc gv gi,r = .agg [.own rb 2 0 e.routers.length e.routers.length,gv]∧bP (σ++τ) σ.length e rb acc gv gi:=by
 have n1:=hn.n1;have n6:=hn.n6;have hel:=he.len;refine g_n Tryz.func68 rfl Tryz.results68 Tryz.ntmps68 ?_;refine g_s fun K hK=>?_;refine g_h ?_;refine hK _ _ ?_;clear hK K;refine g_0 1 rfl ?_
 (repeat' (first|(refine g_s fun K hK=>?_)|(refine g_b ?_)|(refine g_g ?_;(try refine g_y ?_))|(refine hK _ _ ?_;clear hK K)|exact trivial|fail))
 refine bn ?_;have hJ:=hK;clear hK;obtain⟨ρ,hρ⟩:∃ρ:aa,σ++[.dead,.cells 2 [[.c (.slice none 0 0),.c (.slice none 0 0)]]]=ρ:=⟨_,rfl⟩;have hlen:σ.length+2=ρ.length:=by rw[←hρ];simp
 refine ay e.routers (fun k r (s:List (Rtr×Nat×Nat)×aa)=>s.1.map (·.1)++r=e.routers∧(∀p∈s.1,ρ.length+1≤p.2.1∧ρ.length+1≤p.2.2∧((ρ++[.dead])++s.2)[p.2.1]? = some (.cells 1 (p.1.routes.map au))∧((ρ++[.dead])++s.2)[p.2.2]? = some (.cells 1 (p.1.told.map aE)))∧(s.1.map (·.2.1)++s.1.map (·.2.2)).Nodup)
  (fun k s _=>[(4,ab k),(3,.ptr ρ.length 2 0 0)]) (fun _ s _=>ρ++(.cells 2 [[aq 2 (ρ.length+(s.2.length+1)) s.1,.c (.slice none 0 0)]]::(s.2++[ap cB 2 s.1]))) ([],[]) [] ⟨rfl,fun p hp=>(by cases hp),List.nodup_nil⟩ ?_ (ai ?_) ?_ ?_
 ·rw[←hρ];simp [aq,ap]
 ·simp -implicitDefEqProofs only[go_sem,hlen]
 ·rintro k r ⟨acc,T⟩ τ9 hk0 hk1 ⟨h3,h4,h5⟩ L hL;obtain⟨w,hw⟩:∃w,at0 e.routers k=w:=⟨_,rfl⟩;have hwm:=aA e.routers hk0 hk1;rw[hw] at h3 hwm;have hwi:=he.rtr w hwm;have hwo:=ok.rtr w hwm;have hrl:=hwi.rl;have htl:=hwi.tl;have hal:acc.length+1≤6:=by have:=congrArg List.length h3;simp at this;omega
  obtain⟨y1,wr1,hwr⟩:∃p l,w.routes=p::l:=by cases h:w.routes with|nil=>rw[h] at hrl;simp at hrl;omega|cons p l=>exact⟨p,l,rfl⟩
  rcases acc with _|⟨p0,acc⟩
  ·simp -implicitDefEqProofs only[go_sem,aq,ap]
   (repeat' (first|(refine g_s fun K hK=>?_)|(refine g_b ?_)|(refine g_k ?_;simp only[ah,ae])|(refine g_C (fun h=>?_) (fun h=>?_)<;>(try exact g_f))|(refine g_g ?_;(try simp -implicitDefEqProofs only[go_sem,hw]))|(refine hK _ _ ?_;clear hK K)|(with_reducible refine And.intro ?_ ?_;· exact g_x)|fail))
   refine bn ?_;obtain⟨β,hβ⟩:∃β:aa,ρ++(.cells 2 [[.c (.slice none 0 0),.c (.slice none 0 0)]]::(T++[.dead,.dead,.cells 1 (w.routes.map au)]))=β:=⟨_,rfl⟩;have hbl:β.length=ρ.length+(T.length+4):=by rw[←hβ];simp
   have hJ2:=hK;clear hK;refine bn ?_;refine ay w.told (fun _ r9 racc=>racc.reverse++r9=w.told) (fun k9 racc τ=>[(6,ab k9),(5,.ptr β.length 2 0 0)]) (fun _ racc τ=>β++(.cells 2 [[.own (ρ.length+(T.length+3)) 1 0 w.routes.length w.routes.length,aq 1 (β.length+(τ.length+2)) racc]]::(τ++iY (β.length+(τ.length+1)) racc))) [] [] rfl ?_ (ai ?_) ?_ ?_
   ·rw[←hβ];simp [aq,iY]
   ·simp -implicitDefEqProofs only[go_sem,hbl]
   ·rintro k9 r9 racc τ hk90 hk91 hH9 L9 hL9;obtain⟨l,hl⟩:∃l,at0 w.told k9=l:=⟨_,rfl⟩;have hlm:=aA w.told hk90 hk91;rw[hl] at hH9 hlm;have hll:=hwo.tr l hlm;have htal:racc.length+1≤6:=by have:=congrArg List.length hH9;simp at this;omega
    rcases racc with _|⟨y,racc⟩
    ·simp -implicitDefEqProofs only[go_sem,aq,iY]
     (repeat' (first|(refine g_s fun K hK=>?_)|(refine g_b ?_)|(refine g_k ?_;simp only[ah,ae])|(refine g_C (fun h=>?_) (fun h=>?_)<;>(try exact g_f))|((first|refine g_g ?_|refine eK (β++(.cells 2 [[.own (ρ.length+(T.length+3)) 1 0 w.routes.length w.routes.length,.c (.slice none 0 0)]]::τ)) ⟨_,by simp;rfl⟩ a9 (by decide +kernel) ?_);(try simp -implicitDefEqProofs only[go_sem,hw,hl]))|(refine hK _ _ ?_;clear hK K)|(with_reducible refine And.intro ?_ ?_;· exact g_x)|fail))
     refine hL9 [l] (τ++[.dead,.dead,.dead]) _ _ (by simpa using hH9) (ai ?_) ?_
     ·simp -implicitDefEqProofs only[go_sem,hbl]
     ·simp [aq,iY]
    ·simp only[aq,iY];refine lq β τ _ racc.reverse y ?_;simp only[List.length_cons] at htal;have hrl9:((racc.reverse++[y]).map aE).length=racc.length+1:=by simp
     obtain⟨rows,hrows⟩:∃rows,(racc.reverse++[y]).map aE=rows:=⟨_,rfl⟩;have hr1:∀e'∈rows,e'.length=1:=by rw[←hrows];intro e' he';obtain⟨q,_,rfl⟩:=List.mem_map.1 he';rfl
     have hr2:∀e'∈rows,e'.all cw=true:=by rw[←hrows];intro e' he';obtain⟨q,_,rfl⟩:=List.mem_map.1 he';rfl
     rw[hrows] at hrl9 ⊢;simp -implicitDefEqProofs only[go_sem]
     (repeat' (first|(refine g_s fun K hK=>?_)|(refine g_b ?_)|(refine g_k ?_;simp only[ah,ae])|(refine g_C (fun h=>?_) (fun h=>?_)<;>(try exact g_f))|((first|refine g_g ?_|refine eK (β++(.cells 2 [[.own (ρ.length+(T.length+3)) 1 0 w.routes.length w.routes.length,.own (β.length+(τ.length+2)) 1 0 (racc.length+1) (racc.length+1)]]::τ)) ⟨_,by simp;rfl⟩ a9 (by decide +kernel) ?_);(try simp -implicitDefEqProofs only[go_sem,hw,hl,hrl9]))|(refine hK _ _ ?_;clear hK K)|(with_reducible refine And.intro ?_ ?_;· exact g_x)|fail))
     refine hL9 (l::y::racc) (τ++[.dead,.dead,.dead]) _ _ (by simpa using hH9) (ai ?_) ?_
     ·simp -implicitDefEqProofs only[go_sem,hbl]
     ·simp [aq,iY,←hrows]
   ·rintro k9 racc τ hk9 hH9 L9;rw[List.append_nil] at hH9
    rcases racc with _|⟨y,racc⟩
    ·rw[←hH9] at htl;simp at htl;omega
    simp only[aq,iY];refine lq β τ _ racc.reverse y ?_;have hH9:racc.reverse++[y]=w.told:=by simpa using hH9
    have hH8:racc.length+1=w.told.length:=by rw[←hH9];simp
    rw[hH9,hH8];simp -implicitDefEqProofs only[go_sem]
    (repeat' (first|(refine g_s fun K hK=>?_)|(refine g_e ?_;simp only[ah,ae,↓reduceIte,Nat.reduceEqDiff])|(refine g_C (fun h=>?_) (fun h=>?_)<;>(try exact g_f))|(refine g_g ?_;(try simp -implicitDefEqProofs only[go_sem,hw]))|(refine hK _ _ ?_;clear hK K)|(with_reducible refine And.intro ?_ ?_;· exact g_x)|fail))
    refine hJ2 _ _ ?_;clear hJ2;subst hβ
    (repeat' (first|(refine g_g ?_;(try refine g_y ?_))|(clear hK K;first|(refine hK _ _ ?_;clear hK K)|(clear hK K;with_reducible refine hK _ _ ?_;clear hK K)|(clear hK K;clear hK K;with_reducible refine hK _ _ ?_;clear hK K))|(with_reducible refine And.intro ?_ ?_;· exact g_x)|exact trivial|fail))
    refine hL ([(w,ρ.length+(T.length+3),ρ.length+(T.length+(4+(τ.length+2))))],T++.dead::.dead::.cells 1 (w.routes.map au)::.cells 2 [[.own (ρ.length+(T.length+3)) 1 0 w.routes.length w.routes.length,.own (ρ.length+(T.length+(4+(τ.length+2)))) 1 0 w.told.length w.told.length]]::(τ++[.dead,.cells 1 (w.told.map aE),.cells 2 [[.own (ρ.length+(T.length+3)) 1 0 w.routes.length w.routes.length,.own (ρ.length+(T.length+(4+(τ.length+2)))) 1 0 w.told.length w.told.length]]])) [] _ _ ⟨by simpa using h3,?_,by simp;omega⟩ (ai ?_) ?_
    ·intro p hp
     rcases List.mem_singleton.1 hp with rfl
     refine⟨by simp only;omega,by simp only;omega,?_,?_⟩
     ·exact g_w
     ·simp -implicitDefEqProofs only[go_sem];have e7:T.length+(4+(τ.length+2))=T.length+(τ.length+1+1+1+1+1)+1:=by omega
      rw[e7,List.getElem?_cons_succ,List.getElem?_append_right (by omega),Nat.add_sub_cancel_left]
      simp
    ·simp -implicitDefEqProofs only[go_sem,hlen]
    ·simp [ap,aq,cB];omega
  ·simp only[List.length_cons] at hal;simp -implicitDefEqProofs only[go_sem,aq,ap]
   (repeat' (first|(refine g_s fun K hK=>?_)|(refine g_b ?_)|(refine g_k ?_;simp only[ah,ae])|(refine g_C (fun h=>?_) (fun h=>?_)<;>(try exact g_f))|(refine g_g ?_;(try simp -implicitDefEqProofs only[go_sem,hw]))|(refine hK _ _ ?_;clear hK K)|(with_reducible refine And.intro ?_ ?_;· exact g_x)|fail))
   refine bn ?_;obtain⟨β,hβ⟩:∃β:aa,ρ++(.cells 2 [[.own (ρ.length+(T.length+1)) 2 0 (acc.length+1) (acc.length+1),.c (.slice none 0 0)]]::(T++[.cells 2 (cB p0::acc.map cB),.dead,.cells 1 (w.routes.map au)]))=β:=⟨_,rfl⟩;have hbl:β.length=ρ.length+(T.length+4):=by rw[←hβ];simp
   have hJ2:=hK;clear hK;refine bn ?_;refine ay w.told (fun _ r9 racc=>racc.reverse++r9=w.told) (fun k9 racc τ=>[(6,ab k9),(5,.ptr β.length 2 0 0)]) (fun _ racc τ=>β++(.cells 2 [[.own (ρ.length+(T.length+3)) 1 0 w.routes.length w.routes.length,aq 1 (β.length+(τ.length+2)) racc]]::(τ++iY (β.length+(τ.length+1)) racc))) [] [] rfl ?_ (ai ?_) ?_ ?_
   ·rw[←hβ];simp [aq,iY]
   ·simp -implicitDefEqProofs only[go_sem,hbl]
   ·rintro k9 r9 racc τ hk90 hk91 hH9 L9 hL9;obtain⟨l,hl⟩:∃l,at0 w.told k9=l:=⟨_,rfl⟩;have hlm:=aA w.told hk90 hk91;rw[hl] at hH9 hlm;have hll:=hwo.tr l hlm;have htal:racc.length+1≤6:=by have:=congrArg List.length hH9;simp at this;omega
    rcases racc with _|⟨y,racc⟩
    ·simp -implicitDefEqProofs only[go_sem,aq,iY]
     (repeat' (first|(refine g_s fun K hK=>?_)|(refine g_b ?_)|(refine g_k ?_;simp only[ah,ae])|(refine g_C (fun h=>?_) (fun h=>?_)<;>(try exact g_f))|((first|refine g_g ?_|refine eK (β++(.cells 2 [[.own (ρ.length+(T.length+3)) 1 0 w.routes.length w.routes.length,.c (.slice none 0 0)]]::τ)) ⟨_,by simp;rfl⟩ a9 (by decide +kernel) ?_);(try simp -implicitDefEqProofs only[go_sem,hw,hl]))|(refine hK _ _ ?_;clear hK K)|(with_reducible refine And.intro ?_ ?_;· exact g_x)|fail))
     refine hL9 [l] (τ++[.dead,.dead,.dead]) _ _ (by simpa using hH9) (ai ?_) ?_
     ·simp -implicitDefEqProofs only[go_sem,hbl]
     ·simp [aq,iY]
    ·simp only[aq,iY];refine lq β τ _ racc.reverse y ?_;simp only[List.length_cons] at htal;have hrl9:((racc.reverse++[y]).map aE).length=racc.length+1:=by simp
     obtain⟨rows,hrows⟩:∃rows,(racc.reverse++[y]).map aE=rows:=⟨_,rfl⟩;have hr1:∀e'∈rows,e'.length=1:=by rw[←hrows];intro e' he';obtain⟨q,_,rfl⟩:=List.mem_map.1 he';rfl
     have hr2:∀e'∈rows,e'.all cw=true:=by rw[←hrows];intro e' he';obtain⟨q,_,rfl⟩:=List.mem_map.1 he';rfl
     rw[hrows] at hrl9 ⊢;simp -implicitDefEqProofs only[go_sem]
     (repeat' (first|(refine g_s fun K hK=>?_)|(refine g_b ?_)|(refine g_k ?_;simp only[ah,ae])|(refine g_C (fun h=>?_) (fun h=>?_)<;>(try exact g_f))|((first|refine g_g ?_|refine eK (β++(.cells 2 [[.own (ρ.length+(T.length+3)) 1 0 w.routes.length w.routes.length,.own (β.length+(τ.length+2)) 1 0 (racc.length+1) (racc.length+1)]]::τ)) ⟨_,by simp;rfl⟩ a9 (by decide +kernel) ?_);(try simp -implicitDefEqProofs only[go_sem,hw,hl,hrl9]))|(refine hK _ _ ?_;clear hK K)|(with_reducible refine And.intro ?_ ?_;· exact g_x)|fail))
     refine hL9 (l::y::racc) (τ++[.dead,.dead,.dead]) _ _ (by simpa using hH9) (ai ?_) ?_
     ·simp -implicitDefEqProofs only[go_sem,hbl]
     ·simp [aq,iY,←hrows]
   ·rintro k9 racc τ hk9 hH9 L9;rw[List.append_nil] at hH9
    rcases racc with _|⟨y,racc⟩
    ·rw[←hH9] at htl;simp at htl;omega
    simp only[aq,iY];refine lq β τ _ racc.reverse y ?_;have hH9:racc.reverse++[y]=w.told:=by simpa using hH9
    have hH8:racc.length+1=w.told.length:=by rw[←hH9];simp
    rw[hH9,hH8];simp -implicitDefEqProofs only[go_sem]
    (repeat' (first|(refine g_s fun K hK=>?_)|(refine g_e ?_;simp only[ah,ae,↓reduceIte,Nat.reduceEqDiff])|(refine g_C (fun h=>?_) (fun h=>?_)<;>(try exact g_f))|(refine g_g ?_;(try simp -implicitDefEqProofs only[go_sem,hw]))|(refine hK _ _ ?_;clear hK K)|(with_reducible refine And.intro ?_ ?_;· exact g_x)|fail))
    refine hJ2 _ _ ?_;clear hJ2;subst hβ;have em:∀(Z:List Ob),(ρ++(.cells 2 [[.own (ρ.length+(T.length+1)) 2 0 (acc.length+1) (acc.length+1),.c (.slice none 0 0)]]::(T++[.cells 2 (cB p0::acc.map cB),.dead,.cells 1 (w.routes.map au)])))++Z=ρ++(.cells 2 [[.own (ρ.length+(T.length+1)) 2 0 (acc.length+1) (acc.length+1),.c (.slice none 0 0)]]::(T++(.cells 2 (cB p0::acc.map cB)::.dead::.cells 1 (w.routes.map au)::Z))):=fun Z=>by simp
    rw[em];refine wl ρ.length 0 0 (b:=ρ.length+(T.length+1)) (by omega) (by first|rfl|(simp -implicitDefEqProofs only[go_sem];done)|(simp -implicitDefEqProofs only[go_sem];rfl)) rfl rfl (by first|rfl|(simp -implicitDefEqProofs only[go_sem];done)|(simp -implicitDefEqProofs only[go_sem];rfl)) ?_
    simp -implicitDefEqProofs only[go_sem]
    (repeat' (first|(refine g_g ?_;(try refine g_y ?_))|(clear hK K;first|(refine hK _ _ ?_;clear hK K)|(clear hK K;with_reducible refine hK _ _ ?_;clear hK K)|(clear hK K;clear hK K;with_reducible refine hK _ _ ?_;clear hK K))|(with_reducible refine And.intro ?_ ?_;· exact g_x)|exact trivial|fail))
    refine hL (p0::(acc++[(w,ρ.length+(T.length+3),ρ.length+(T.length+(4+(τ.length+2))))]),T++.dead::.dead::.cells 1 (w.routes.map au)::.cells 2 [[.own (ρ.length+(T.length+3)) 1 0 w.routes.length w.routes.length,.own (ρ.length+(T.length+(4+(τ.length+2)))) 1 0 w.told.length w.told.length]]::(τ++[.dead,.cells 1 (w.told.map aE),.dead,.cells 2 [[.own (ρ.length+(T.length+3)) 1 0 w.routes.length w.routes.length,.own (ρ.length+(T.length+(4+(τ.length+2)))) 1 0 w.told.length w.told.length]]])) [] _ _ ⟨by simpa using h3,?_,?_⟩ (ai ?_) ?_
    ·intro p hp;rw[←List.cons_append] at hp
     rcases List.mem_append.1 hp with hp|hp
     ·obtain⟨h6,h7,h8,h9⟩:=h4 p hp;refine⟨h6,h7,?_,?_⟩
      ·rw[←List.append_assoc];exact az h8
      ·rw[←List.append_assoc];exact az h9
     ·rcases List.mem_singleton.1 hp with rfl
      refine⟨by simp only;omega,by simp only;omega,?_,?_⟩
      ·exact g_w
      ·simp -implicitDefEqProofs only[go_sem];have e7:T.length+(4+(τ.length+2))=T.length+(τ.length+1+1+1+1+1)+1:=by omega
       rw[e7,List.getElem?_cons_succ,List.getElem?_append_right (by omega),Nat.add_sub_cancel_left]
       simp
    ·rw[←List.cons_append,List.map_append,List.map_append];refine Ca (m:=ρ.length+(T.length+1)) h5 (fun x hx=>?_) (fun x hx=>?_) (by simp only;omega) (by simp only;omega)
     ·obtain⟨p,hp,rfl⟩:=List.mem_map.1 hx;have:=(List.getElem?_eq_some_iff.1 (h4 p hp).2.2.1).1
      simpa using this
     ·obtain⟨p,hp,rfl⟩:=List.mem_map.1 hx;have:=(List.getElem?_eq_some_iff.1 (h4 p hp).2.2.2).1
      simpa using this
    ·simp -implicitDefEqProofs only[go_sem,hlen]
    ·simp [ap,aq,cB];omega
 ·rintro k ⟨acc,T⟩ τ9 hk ⟨h3,h4,h5⟩ L;have hacc:1≤acc.length:=by have:=congrArg List.length h3;simp at this;omega
  obtain⟨p0,acc,rfl⟩:∃p l,acc=p::l:=by cases acc with|nil=>cases hacc|cons p l=>exact⟨p,l,rfl⟩
  simp only[List.append_nil] at h3;have hbl:=he.bag;have hcL:∀X,(ρ++X)[σ.length+1]? = some (.cells 2 [[.c (.slice none 0 0),.c (.slice none 0 0)]]):=fun X=>by rw[←hρ];exact az (by simp)
  have hcS:∀X o,(ρ++X).set (σ.length+1) o=σ++([.dead,o]++X):=fun X o=>by
   rw[←hρ,List.append_assoc,List.set_append_right _ _ (by omega),Nat.add_sub_cancel_left]
   rfl
  simp -implicitDefEqProofs only[go_sem,aq,ap]
  (repeat' (first|(refine g_s fun K hK=>?_)|(refine g_e ?_;simp only[ah,ae,↓reduceIte,Nat.reduceEqDiff])|(refine g_C (fun h=>?_) (fun h=>?_)<;>(try exact g_f))|(refine g_g ?_;(try refine g_y ?_))|(refine hK _ _ ?_;clear hK K)|exact trivial|fail))
  refine hJ _ _ ?_;clear hJ
  (repeat' (first|(refine g_s fun K hK=>?_)|((first|refine g_t ?_|refine g_g ?_);(try simp -implicitDefEqProofs only[go_sem,hcL,hcS]))|(refine hK _ _ ?_;clear hK K)|(with_reducible refine And.intro ?_ ?_;· exact g_x)|fail))
  have eer:e.routers.length=acc.length+1:=by rw[←h3];simp
  refine⟨.dead::.cells 2 [[.own (ρ.length+(T.length+1)) 2 0 (acc.length+1) (acc.length+1),.own (ρ.length+(T.length+3)) 3 0 e.bag.length e.bag.length]]::.cells 2 [[.own (ρ.length+(T.length+1)) 2 0 (acc.length+1) (acc.length+1),.own (ρ.length+(T.length+3)) 3 0 e.bag.length e.bag.length]]::(T++[.cells 2 ((p0::acc).map cB),.dead,.cells 3 (e.bag.map aJ)]),rfl,ρ.length+(T.length+1),p0::acc,_,[ρ.length+(T.length+3)],by rw[eer],?_⟩
  have hpl:∀p∈p0::acc,(ρ.length+1≤p.2.1∧p.2.1<ρ.length+(T.length+1))∧(ρ.length+1≤p.2.2∧p.2.2<ρ.length+(T.length+1)):=fun p hp=>by
   obtain⟨h6,h7,h8,h9⟩:=h4 p hp;have l8:=(List.getElem?_eq_some_iff.1 h8).1;have l9:=(List.getElem?_eq_some_iff.1 h9).1;simp at l8 l9;omega
  have hup:∀(o1 o2:Ob) X x o,ρ.length+1≤x→((ρ++[.dead])++T)[x]? = some o→(σ++(.dead::o1::o2::(T++X)))[x]? = some o:=fun o1 o2 X x o hx ho=>by
   obtain⟨q,hq⟩:∃q,x=ρ.length+1+q:=⟨x-ρ.length-1,by omega⟩
   have h7:x=(ρ++[Ob.dead]).length+q:=by simp;omega
   rw[h7,List.getElem?_append_right (by omega),Nat.add_sub_cancel_left] at ho
   have h8:x=σ.length+(q+1+1+1):=by omega
   rw[h8,List.getElem?_append_right (by omega),Nat.add_sub_cancel_left,List.getElem?_cons_succ,List.getElem?_cons_succ,List.getElem?_cons_succ]
   exact az ho
  refine⟨h3,?_,fun i hi=>?_,⟨_,rfl,rfl,?_⟩,?_,?_⟩
  ·have h8:ρ.length+(T.length+1)=σ.length+(T.length+1+1+1):=by omega
   rw[h8,List.getElem?_append_right (by omega),Nat.add_sub_cancel_left,List.getElem?_cons_succ,List.getElem?_cons_succ,List.getElem?_cons_succ,List.getElem?_append_right (by omega),Nat.sub_self]
   rfl
  ·obtain⟨h6,h7,h8,h9⟩:=h4 _ (List.getElem_mem hi);exact⟨hup _ _ _ _ _ h6 h8,hup _ _ _ _ _ h7 h9⟩
  ·have h8:ρ.length+(T.length+3)=σ.length+(T.length+2+1+1+1):=by omega
   rw[h8,List.getElem?_append_right (by omega),Nat.add_sub_cancel_left,List.getElem?_cons_succ,List.getElem?_cons_succ,List.getElem?_cons_succ,List.getElem?_append_right (by omega),Nat.add_sub_cancel_left]
   rfl
  ·rw[cb,←List.append_assoc,List.nodup_cons,List.nodup_append];simp only[List.mem_append,List.mem_map,List.mem_singleton,not_or,not_exists,not_and];refine⟨⟨⟨fun p hp hc=>?_,fun p hp hc=>?_⟩,by omega⟩,h5,by simp,?_⟩
   ·have:=hpl p hp;omega
   ·have:=hpl p hp;omega
   ·rintro x (⟨p,hp,rfl⟩|⟨p,hp,rfl⟩) y rfl hc
    ·have:=hpl p hp;omega
    ·have:=hpl p hp;omega
  ·intro x hx;simp only[cb,List.mem_cons,List.mem_append,List.mem_map,List.not_mem_nil,or_false] at hx
   rcases hx with rfl|⟨p,hp,rfl⟩|⟨p,hp,rfl⟩|rfl
   ·omega
   ·have:=hpl p (by simpa using hp);omega
   ·have:=hpl p (by simpa using hp);omega
   ·omega
end Go.Proofs.YtephecognbbaoaaGreat
namespace Go.Proofs.YtephecognbbaoaaGreat
theorem bP.bagApp {S:aa} {lo:Nat} {e:Eng} {rb:Nat} {acc:List (Rtr×Nat×Nat)} {gv:AV} {gi:List Nat} (h:bP S lo e rb acc gv gi) {m:aa} {gv':AV} {gi':List Nat} {bag:List bg} (hbag:pd (S++m) gv' bag gi') (hn:gi'.Nodup) (hg:∀x∈gi',S.length≤x) (hlo:lo≤S.length) :
  bP (S++m) lo ⟨e.routers,bag⟩ rb acc gv' gi':=
 h.bagged (fun x hx=>by
  have hlt:x<S.length:=by
   simp only[List.mem_cons,List.mem_append,List.mem_map] at hx
   rcases hx with rfl|⟨p,hp,rfl⟩|⟨p,hp,rfl⟩
   ·exact (List.getElem?_eq_some_iff.1 h.hrb).1
   ·obtain⟨i,hi,rfl⟩:=List.mem_iff_getElem.1 hp;exact (List.getElem?_eq_some_iff.1 (h.ho i hi).1).1
   ·obtain⟨i,hi,rfl⟩:=List.mem_iff_getElem.1 hp;exact (List.getElem?_eq_some_iff.1 (h.ho i hi).2).1
  rw[List.getElem?_append_left hlt]) hbag hn hg hlo
theorem qM (n:Net) (e:Eng) (hn:bI n) (he:a8 n e) (ok:cj e) (at':Int) (h0:0≤at') (h1:at'<e.bag.length) (σ:aa):af Tryz.prog 66 [.agg (ba e),ab at'] σ fun r σ'=>∃τ,σ'=σ++τ∧∃rb acc gv gi,r = .agg [.own rb 2 0 e.routers.length e.routers.length,gv]∧bP (σ++τ) σ.length (bZ e at') rb acc gv gi:=by
 have hbg:=he.bag;refine g_n Tryz.func66 rfl Tryz.results66 Tryz.ntmps66 ?_;refine g_s fun K hK=>?_;refine g_h ?_;refine hK _ _ ?_;clear hK K;refine g_0 2 rfl ?_
 (repeat' (first|(refine g_s fun K hK=>?_)|(refine g_g ?_;(try refine g_y ?_))|exact trivial|fail))
 obtain⟨ρ,hρ⟩:∃ρ:aa,σ++[.dead,.cells 2 [[.c (.slice none 0 0),.c (.slice none 0 0)]]]=ρ:=⟨_,rfl⟩;have hlen:ρ.length=σ.length+2:=by rw[←hρ];simp
 rw[hρ];refine (fg n e hn he ok ρ).mono ?_;rintro r S' ⟨τ,rfl,rb,acc,gv,gi,rfl,hM⟩;obtain⟨gb,rfl,rfl,hgb⟩:=hM.bag;have hcL:∀X,(ρ++X)[σ.length+1]? = some (.cells 2 [[.c (.slice none 0 0),.c (.slice none 0 0)]]):=fun X=>by rw[←hρ];exact az (by simp)
 have hcS:∀X o,(ρ++X).set (σ.length+1) o=σ++([.dead,o]++X):=fun X o=>by
  rw[←hρ,List.append_assoc,List.set_append_right _ _ (by omega),Nat.add_sub_cancel_left]
  rfl
 have hM3:∀o,bP (σ++([.dead,o]++τ)) ρ.length e rb acc (.own gb 3 0 e.bag.length e.bag.length) [gb]:=fun o=>by
  rw[←hcS τ o];exact hM.setLo (by omega)
 obtain⟨X,hX⟩:∃X,e.bag.take at'.toNat=X:=⟨_,rfl⟩;obtain⟨Y,hY⟩:∃Y,(e.bag.drop (at'+1).toNat).take (e.bag.length-(at'+1).toNat)=Y:=⟨_,rfl⟩;have hY2:Y=e.bag.drop (at'+1).toNat:=by
  rw[←hY,List.take_of_length_le];simp
 have hXY:(bZ e at').bag=X++Y:=by
  rw[bZ,List.eraseIdx_eq_take_drop_succ,hX,hY2];have e:(at'+1).toNat=at'.toNat+1:=by omega
  rw[e]
 have hxy:X.length+Y.length≤120:=by
  rw[←hX,hY2,List.length_take,List.length_drop];omega
 simp -implicitDefEqProofs only[go_sem]
 (repeat' (first|(refine g_s fun K hK=>?_)|((first|refine g_t ?_|refine g_g ?_|refine g_W ?_);(try simp -implicitDefEqProofs only[go_sem,←List.map_drop,←List.map_take,Nat.sub_zero,hX,hY,List.length_map,hcL,hcS]))|(refine hK _ _ ?_;clear hK K)|(with_reducible refine And.intro ?_ ?_;· exact g_x)|fail))
 have hm:=((hM3 (.cells 2 [[.own rb 2 0 e.routers.length e.routers.length,.own (ρ.length+(τ.length+3)) 3 0 (X.length+Y.length) (X.length+Y.length)]])).bagApp (m:=[.cells 2 [[.own rb 2 0 e.routers.length e.routers.length,.own (ρ.length+(τ.length+3)) 3 0 (X.length+Y.length) (X.length+Y.length)]],.dead,.dead,.cells 3 ((X++Y).map aJ)]) (bag:=X++Y) (gv':=.own (ρ.length+(τ.length+3)) 3 0 (X++Y).length (X++Y).length) (gi':=[ρ.length+(τ.length+3)])
  ⟨_,rfl,rfl,by
   rw[hlen,List.append_assoc,List.getElem?_append_right (by omega)]
   have e1:σ.length+2+(τ.length+3)-σ.length=τ.length+3+2:=by omega
   rw[e1];simp⟩ (by simp) (fun x hx=>by rw[List.mem_singleton.1 hx];simp;omega) (by simp;omega)).less (by omega:σ.length≤ρ.length)
 have ed:bZ e at'=⟨e.routers,X++Y⟩:=by rw[←hXY];rfl
 rw[ed];refine⟨_,rfl,rb,acc,_,[ρ.length+(τ.length+3)],rfl,?_⟩
 simpa using hm
end Go.Proofs.YtephecognbbaoaaGreat
namespace Go.Proofs.YtephecognbbaoaaGreat
theorem BW (e:Eng) (i:Int) (r r':Rtr):aR (aR e i r) i r'=aR e i r':=by simp [aR]
theorem sA {e:Eng} {i:Int} (h0:0≤i) (h1:i<e.routers.length) (r:Rtr):at0 (aR e i r).routers i=r:=by
 have hi:i.toNat<e.routers.length:=by omega
 simp [aR,at0,List.getD_eq_getElem?_getD,hi]
theorem BX {e:Eng} {i:Int} (h0:0≤i) (h1:i<e.routers.length):aR e i (at0 e.routers i)=e:=by
 have hi:i.toNat<e.routers.length:=by omega
 have:at0 e.routers i=e.routers[i.toNat]:=by simp [at0,List.getD_eq_getElem?_getD,hi]
 rw[aR,this,List.set_getElem_self]
theorem B2 {n:Net} {i j:Int} {f g:Int→Int} (h:∀k,0≤k→k<n.nodes→f k=g k):cV n i j f=cV n i j g:=by
 unfold cV;have key:∀(K:List Int) (out:Int),(∀k∈K,0≤k∧k<n.nodes)→K.foldl (fun out k=>if 0≤aM n i k then bq n out (bc n (aM n i k) (f k)) else out) out=K.foldl (fun out k=>if 0≤aM n i k then bq n out (bc n (aM n i k) (g k)) else out) out:=by
  intro K
  induction K with
  | nil=>intro out _;rfl
  | cons k K ih=>
   intro out hK;simp only[List.foldl_cons];rw[h k (hK k (by simp)).1 (hK k (by simp)).2]
   exact ih _ fun q hq=>hK q (by simp [hq])
 exact key _ _ fun k hk=>cf.1 hk
theorem rM (n:Net) (e:Eng) (hc:aI n=0) (hl:n.links.length≤5864062014634) (he:a8 n e) (ok:cj e) (i:Int) (h0:0≤i) (h1:i<n.nodes) (σ:aa) :
  af Tryz.prog 64 [.agg (aH n),.agg (ba e),ab i] σ fun r σ'=>∃τ,σ'=σ++τ∧∃rb acc gv gi,r = .agg [.own rb 2 0 e.routers.length e.routers.length,gv]∧bP (σ++τ) σ.length (bh n e i) rb acc gv gi:=by
 have hn:=aU hc;have n1:=hn.n1;have n6:=hn.n6;have s2:=hn.alg.s2;have s24:=hn.alg.s24;have hel:=he.len;have hir:i<e.routers.length:=by omega
 have hR:=gu he ⟨h0,h1⟩;obtain⟨R,hRe⟩:∃R,at0 e.routers i=R:=⟨_,rfl⟩;rw[hRe] at hR;have hrl:=hR.rl;have htl:=hR.tl;refine g_n Tryz.func64 rfl Tryz.results64 Tryz.ntmps64 ?_;refine g_s fun K hK=>?_;refine g_h ?_;refine hK _ _ ?_;clear hK K;refine g_0 3 rfl ?_;refine g_0 4 rfl ?_
 (repeat' (first|(refine g_s fun K hK=>?_)|(refine g_g ?_;(try refine g_y ?_))|exact trivial|fail))
 obtain⟨ρ,hρ⟩:∃ρ:aa,σ++[.dead,.dead,.cells 2 [[.c (.slice none 0 0),.c (.slice none 0 0)]]]=ρ:=⟨_,rfl⟩;have hlen:ρ.length=σ.length+3:=by rw[←hρ];simp
 have hcL:∀X,(ρ++X)[σ.length+2]? = some (.cells 2 [[.c (.slice none 0 0),.c (.slice none 0 0)]]):=fun X=>by rw[←hρ];exact az (by simp)
 have hcS:∀X o,(ρ++X).set (σ.length+2) o=σ++([.dead,.dead,o]++X):=fun X o=>by
  rw[←hρ,List.append_assoc,List.set_append_right _ _ (by omega),Nat.add_sub_cancel_left]
  rfl
 rw[hρ];refine (fg n e hn he ok ρ).mono ?_;rintro r S' ⟨τ,rfl,rb,acc,gv,gi,rfl,hM⟩;obtain⟨gb,rfl,rfl,hgb⟩:=hM.bag;obtain⟨ro,to,hp,hpV,hp1,hp2⟩:=hM.at h0 hir;rw[hRe] at hp hpV hp1 hp2;simp -implicitDefEqProofs only[go_sem]
 (repeat' (first|(refine g_s fun K hK=>?_)|(refine g_b ?_)|(refine g_g ?_;(try refine g_y ?_))|(refine hK _ _ ?_;clear hK K)|exact trivial|fail))
 have hJ:=hK;clear hK;obtain⟨bx,hbx⟩:∃bx,ρ.length+τ.length=bx:=⟨_,rfl⟩;rw[hbx];have hrob:ro<bx:=by
  have:=(List.getElem?_eq_some_iff.1 hp1).1;simp at this;omega
 obtain⟨V,hV⟩:∃V:Int→Int,(fun q=>cq n i q (fun k=>dr n R k q) n.links)=V:=⟨_,rfl⟩;have hVq:∀q,0≤q→q<n.nodes→cV n i q (fun k=>dr n R k q)=V q:=fun q a b=>by
  rw[←hV];exact (pX hc i q _ fun k c d=>n9 hn hR ⟨c,d⟩ ⟨a,b⟩).symm
 have hacS:∀(l:List Int),(acc.set i.toNat (⟨l,R.told⟩,ro,to))[i.toNat]? = some (⟨l,R.told⟩,ro,to):=fun l=>List.getElem?_set_self (List.getElem?_eq_some_iff.1 hp).1;have hM0:bP (ρ++τ) ρ.length (aR e i ⟨R.routes,R.told⟩) rb (acc.set i.toNat (⟨R.routes,R.told⟩,ro,to)) (.own gb 3 0 e.bag.length e.bag.length) [gb]:=by
  have e1:aR e i ⟨R.routes,R.told⟩=e:=by rw[←hRe];exact BX h0 hir
  have e2:acc.set i.toNat (⟨R.routes,R.told⟩,ro,to)=acc:=by
   have:=(List.getElem?_eq_some_iff.1 hp).2;rw[show ((⟨R.routes,R.told⟩:Rtr),ro,to)=(R,ro,to) from rfl,←this,List.set_getElem_self]
  rw[e1,e2];exact hM
 refine ay (ints n.nodes) (fun k _ (s:aa×List Int)=>bX ρ s.1∧s.1[bx]? = some (.cells 2 [[.own rb 2 0 e.routers.length e.routers.length,.own gb 3 0 e.bag.length e.bag.length]])∧bP s.1 ρ.length (aR e i ⟨s.2,R.told⟩) rb (acc.set i.toNat (⟨s.2,R.told⟩,ro,to)) (.own gb 3 0 e.bag.length e.bag.length) [gb]∧(s.2.length:Int)=n.nodes∧∀q,0≤q→q<n.nodes→at0 s.2 q=if q<k then V q else at0 R.routes q)
  (fun k _ _=>[(8,ab k),(7,.ptr bx 2 0 0)]) (fun _ s _=>s.1) (ρ++(τ++[.cells 2 [[.own rb 2 0 e.routers.length e.routers.length,.own gb 3 0 e.bag.length e.bag.length]]]),R.routes) [] ⟨⟨_,rfl⟩,?_,?_,hrl,fun q a _=>by rw[if_neg (by omega)]⟩ rfl (ai ?_) ?_ ?_
 ·rw[←hbx,←List.append_assoc,List.getElem?_append_right (by simp)]
  simp
 ·rw[←List.append_assoc];exact hM0.app
 ·exact g_w
 ·rintro j rj ⟨S2,l⟩ τ9 hj0 hj1 ⟨g1,g2,g3,g4,g5⟩ L hL;simp only at g1 g2 g3 g4 g5;rw[ao] at hj1;have ij:I64 (j+1):=by unfold I64;omega
  obtain⟨ro',to',q1,q2,q3,q4⟩:=g3.at h0 (by simp only[aR,List.length_set];omega)
  rw[sA h0 hir] at q1 q2 q3 q4;rw[hacS l] at q1
  cases q1
  have hmapV:(acc.set i.toNat (⟨l,R.told⟩,ro,to)).map cB=acc.map cB:=ip cB acc i.toNat _ _ hp (by have e9:l.length=R.routes.length:=(by omega);simp only[cB,e9])
  have hbL:∀τ,(S2++τ)[bx]? = some (.cells 2 [[.own rb 2 0 e.routers.length e.routers.length,.own gb 3 0 e.bag.length e.bag.length]]):=fun τ=>az g2;have hrL:∀τ,(S2++τ)[rb]? = some (.cells 2 (acc.map cB)):=fun τ=>by rw[←hmapV];exact az g3.hrb
  rw[hmapV] at q2;simp only[cB] at q2;have hal:(acc.map cB).length=e.routers.length:=by rw[List.length_map,hM.len]
  have hoL:∀τ,(S2++τ)[ro]? = some (.cells 1 (l.map au)):=fun τ=>az q3;have hoS:∀τ o,(S2++τ).set ro o=S2.set ro o++τ:=fun τ o=>bt q3;have hgl:=k8 l hj0 (by omega:j<l.length)
  have hsl:=iv l j.toNat;simp -implicitDefEqProofs only[go_sem]
  (repeat' (first|(refine g_s fun K hK=>?_)|(refine g_b ?_)|(refine g_k ?_;simp only[ah,ae])|(refine g_C (fun h=>?_) (fun h=>?_)<;>(try exact g_f))|(refine g_g ?_;(try refine g_y ?_))|(refine hK _ _ ?_;clear hK K)|exact trivial|fail))
  refine bn ?_;have hJ2:=hK;clear hK;refine ay (ints n.nodes) (fun _ r9 has=>has++r9.map (fun k=>dr n R k j)=(ints n.nodes).map (fun k=>dr n R k j)) (fun k9 has τ8=>[(10,ab k9),(9,aq 1 (S2.length+τ8.length) has)]) (fun _ has τ8=>S2++(τ8++[ap au 1 has])) [] [] rfl (by simp [ap]) (ai ?_) ?_ ?_
  ·simp -implicitDefEqProofs only[go_sem,aq]
  ·rintro k9 r9 has τ8 hk90 hk91 hH L2 hL2;rw[ao] at hk91;rw[cA hk90 (by omega),List.map_cons] at hH
   have hhl:has.length+1≤6:=by have:=congrArg List.length hH;simp [ao] at this;omega
   obtain⟨w,hw⟩:∃w,at0 R.told k9=w:=⟨_,rfl⟩;have hwm:=hR.tr w (by rw[←hw];exact aA _ hk90 (by omega))
   by_cases c1:w=[]
   ·have ht:dr n R k9 j=n.alg.size-1:=by rw[dr,hw,if_pos c1]
    rw[ht] at hH;subst c1;have is1:I64 (n.alg.size-1):=by unfold I64;omega
    rcases has with _|⟨y,has⟩<;>simp only[List.length_cons,List.length_nil] at hhl<;>simp -implicitDefEqProofs only[go_sem,aq,ap]
    all_goals (repeat' (first|(refine g_s fun K hK=>?_)|(refine g_b ?_)|(refine g_k ?_;simp only[ah,ae])|(refine g_C (fun h=>?_) (fun h=>?_)<;>(try exact g_f))|(refine g_g ?_;(try simp -implicitDefEqProofs only[go_sem,hRe,hw,is1]))|(refine hK _ _ ?_;clear hK K)|(with_reducible refine And.intro ?_ ?_;· exact g_x)|fail))
    ·refine hL2 [n.alg.size-1] (τ8++[.dead,.cells 1 [[ab (n.alg.size-1)]]]) _ _ (by simpa using hH) (ai ?_) ?_
     ·simp -implicitDefEqProofs only[go_sem,aq]
     ·simp [ap,au,ab]
    ·refine hL2 (y::has++[n.alg.size-1]) (τ8++[.dead,.cells 1 [[ab (n.alg.size-1)]]]) _ _ (by simpa using hH) (ai ?_) ?_
     ·simp -implicitDefEqProofs only[go_sem,aq]
     ·simp [ap,au,ab]
   ·have ht:dr n R k9 j=at0 w j:=by rw[dr,hw,if_neg c1,at2,hw]
    rw[ht] at hH;have hwl:(w.length:Int)=n.nodes:=by
     rcases hwm with h|h
     ·exact absurd h c1
     ·exact h.1
    have c0:w.length≠0:=by omega
    rcases has with _|⟨y,has⟩<;>simp only[List.length_cons,List.length_nil] at hhl<;>simp -implicitDefEqProofs only[go_sem,aq,ap]
    all_goals (repeat' (first|(refine g_s fun K hK=>?_)|(refine g_b ?_)|(refine g_k ?_;simp only[ah,ae])|(refine g_C (fun h=>?_) (fun h=>?_)<;>(try exact g_f))|(refine g_g ?_;(try simp -implicitDefEqProofs only[go_sem,hRe,hw,c0,hwl]))|(refine hK _ _ ?_;clear hK K)|(with_reducible refine And.intro ?_ ?_;· exact g_x)|fail))
    ·refine hL2 [at0 w j] (τ8++[.dead,.cells 1 [[ab (at0 w j)]]]) _ _ (by simpa using hH) (ai ?_) ?_
     ·simp -implicitDefEqProofs only[go_sem,aq]
     ·simp [ap,au,ab]
    ·refine hL2 (y::has++[at0 w j]) (τ8++[.dead,.cells 1 [[ab (at0 w j)]]]) _ _ (by simpa using hH) (ai ?_) ?_
     ·simp -implicitDefEqProofs only[go_sem,aq]
     ·simp [ap,au,ab]
  ·rintro k9 has τ8 hk9 hH L2;rw[ao] at hk9;rw[List.map_nil,List.append_nil] at hH;subst hH;simp -implicitDefEqProofs only[go_sem]
   (repeat' (first|(refine g_s fun K hK=>?_)|(refine g_e ?_;simp only[ah,ae,↓reduceIte,Nat.reduceEqDiff])|(refine g_C (fun h=>?_) (fun h=>?_)<;>(try exact g_f))|(refine g_g ?_;(try refine g_y ?_))|(refine hK _ _ ?_;clear hK K)|exact trivial|fail))
   refine hJ2 _ _ ?_;clear hJ2;refine cC 9 au 1 _ S2 τ8 [] rfl ?_;have hro:=qS n i j ((ints n.nodes).map (fun k=>dr n R k j)) hn hl (by simp [ao];omega) (fun v hv=>by
    obtain⟨k,hk,rfl⟩:=List.mem_map.1 hv;exact n9 hn hR (cf.1 hk) ⟨hj0,by omega⟩)
   have hre:cV n i j (fun k=>at0 ((ints n.nodes).map (fun k=>dr n R k j)) k)=V j:=by
    rw[←hVq j hj0 (by omega)]
    exact B2 fun k a b=>sk _ ⟨a,b⟩
   rw[hre] at hro
   (repeat' (first|((first|refine g_g ?_|refine g_U ?_|refine g_q (fun τ=>hro _) ?_);(try simp -implicitDefEqProofs only[go_sem,hbL,hrL,q2,hal,hoL,hoS,hgl,hsl]))|(clear hK K;first|(refine hK _ _ ?_;clear hK K)|(clear hK K;with_reducible refine hK _ _ ?_;clear hK K)|(clear hK K;clear hK K;with_reducible refine hK _ _ ?_;clear hK K))|(with_reducible refine And.intro ?_ ?_;· exact g_x)|fail))
   have hl9:(l.set j.toNat (V j)).length=(at0 (aR e i ⟨l,R.told⟩).routers i).routes.length:=by rw[sA h0 hir,List.length_set]
   have hp9:(acc.set i.toNat (⟨l,R.told⟩,ro,to))[i.toNat]? = some (at0 (aR e i ⟨l,R.told⟩).routers i,ro,to):=by rw[sA h0 hir];exact hacS l
   have hM9:=g3.routes h0 hp9 (l.set j.toNat (V j)) hl9;rw[sA h0 hir,BW,List.set_set] at hM9;have hro9:=g3.lo ro (by
    refine List.mem_cons_of_mem _ (List.mem_append_left _ (List.mem_map.2 ⟨(⟨l,R.told⟩,ro,to),List.mem_of_getElem? (hacS l),rfl⟩)))
   refine hL (_,l.set j.toNat (V j)) [] _ _ ⟨(g1.set hro9).app,az (aT g2 (by omega)),hM9.app,by rw[List.length_set];exact g4,fun q a b=>?_⟩ (ai ?_) rfl
   ·rw[tR l (V j) hj0 a (by omega),g5 q a b]
    by_cases hqj:q=j
    ·rw[if_pos hqj,if_pos (by omega),hqj]
    ·rw[if_neg hqj]
     by_cases hq2:q<j
     ·rw[if_pos hq2,if_pos (by omega)]
     ·rw[if_neg hq2,if_neg (by omega)]
   ·exact g_w
 ·rintro j ⟨S2,l⟩ τ9 hj ⟨g1,g2,g3,g4,g5⟩ L;simp only at g1 g2 g3 g4 g5;rw[ao] at hj;have hlk:l=fA n R i:=by
   refine EZ (by rw[fM];omega) fun q a b=>?_
   rw[g5 q a (by omega),if_pos (by omega),fA,sk _ ⟨a,by omega⟩,←hV]
  have hle:bh n e i=aR e i ⟨l,R.told⟩:=by rw[bh,hRe,pG,hlk]
  obtain⟨T2,rfl⟩:=g1;simp -implicitDefEqProofs only[go_sem]
  (repeat' (first|(refine g_s fun K hK=>?_)|(refine g_e ?_;simp only[ah,ae,↓reduceIte,Nat.reduceEqDiff])|(refine g_C (fun h=>?_) (fun h=>?_)<;>(try exact g_f))|(refine g_g ?_;(try refine g_y ?_))|(refine hK _ _ ?_;clear hK K)|exact trivial|fail))
  refine hJ _ _ ?_;clear hJ
  (repeat' (first|(refine g_s fun K hK=>?_)|((first|refine g_t ?_|refine g_g ?_);(try simp -implicitDefEqProofs only[go_sem,g2,hcL,hcS]))|(refine hK _ _ ?_;clear hK K)|fail))
  rw[hle];refine⟨_,rfl,rb,acc.set i.toNat (⟨l,R.told⟩,ro,to),.own gb 3 0 e.bag.length e.bag.length,[gb],rfl,?_⟩;have hf:=(g3.setLo (x:=σ.length+2) (o:=.cells 2 [[.own rb 2 0 e.routers.length e.routers.length,.own gb 3 0 e.bag.length e.bag.length]]) (by omega)).less (by omega:σ.length≤ρ.length)
  rw[hcS] at hf;exact hf
end Go.Proofs.YtephecognbbaoaaGreat
namespace Go.Proofs.YtephecognbbaoaaGreat
def mN (n:Net) (e:Eng) (v:Evt):Eng×Int:=if (aN n e v).2≠0 then (noE,(aN n e v).2) else aN n e v
theorem bp (n a b:Int) (v:Bool) (h:inR n a b=v) (S:aa):af Tryz.prog 62 [ab n,ab a,ab b] S fun r S'=>S'=S∧r = .c (.bool v):=by
 subst h;exact bS n a b S
theorem f7 (n:Net) (i:Int) (v:Bool) (hn:I64 (n.nodes-1)) (h:inR i 0 (n.nodes-1)=v) (S:aa):af Tryz.prog 54 [.agg (aH n),ab i] S fun r S'=>S'=S∧r = .c (.bool v):=by
 subst h;exact jH n i hn S
theorem zh (n:Net) (e:Eng) (hc:aI n=0) (hl:n.links.length≤5864062014634) (he:a8 n e) (hby:cu e) (ok:cj e) (K1 at' b c:Int) (rts:List Int) (hat:I64 at') (hb:I64 b) (hcc:I64 c) (hrts:rts.length≤17592186044000) (hK1:I64 K1) (hx:inR K1 1 7=false) (σ:aa) :
  af Tryz.prog 27 [.agg (aH n),.agg (ba e),.agg (cl ⟨K1,at',b,c,rts⟩)] σ fun r σ'=>σ'=σ∧r = .tup [.agg (ba noE),ab 7]:=by
 have hn:=aU hc;have n1:=hn.n1;have n6:=hn.n6;have hel:=he.len;have hbag:=he.bag;have hB:=bp K1 1 7 _ hx;refine af.deep ?_;refine g_n Tryz.func27 rfl Tryz.results27 Tryz.ntmps27 ?_;refine g_s fun K hK=>?_;refine g_h ?_;refine hK _ _ ?_;clear hK K;refine aC 3 rfl (by first|rfl|(simp -implicitDefEqProofs only[go_sem];done)|(simp -implicitDefEqProofs only[go_sem];rfl)) ?_
 simp only[ss0,List.set_cons_zero];refine aC 4 rfl (by first|rfl|(simp -implicitDefEqProofs only[go_sem];done)|(simp -implicitDefEqProofs only[go_sem];rfl)) ?_
 simp only[ss1,List.set_cons_zero,List.set_cons_succ];refine aC 5 rfl (by first|rfl|(simp -implicitDefEqProofs only[go_sem];done)|(simp -implicitDefEqProofs only[go_sem];rfl)) ?_
 simp only[ss1,List.set_cons_zero,List.set_cons_succ]
 (repeat' (first|(refine g_s fun K hK=>?_)|(refine g_C (fun h=>?_) (fun h=>?_)<;>(try exact g_f))|((first|refine g_t ?_|refine g_g ?_|refine (hB _).use ?_);(try refine g_y ?_))|(refine hK _ _ ?_;clear hK K)|exact trivial|fail))
 exact bL rfl (.tupL (.cons (.eng _) (.cons (.c _) .nil))) (.tupL (.cons (.aggL (.cons .nil (.cons .nil .nil))) (.cons (.same _) .nil)))
theorem zf (n:Net) (e:Eng) (hc:aI n=0) (hl:n.links.length≤5864062014634) (he:a8 n e) (hby:cu e) (ok:cj e) (K1 at' b c:Int) (rts:List Int) (hat:I64 at') (hb:I64 b) (hcc:I64 c) (hrts:rts.length≤17592186044000) (hK1:I64 K1) (hx:inR K1 1 7=true) (hy:inR K1 2 5=true) (hz:inR at' 0 (e.bag.length-1)=false) (σ:aa) :
  af Tryz.prog 27 [.agg (aH n),.agg (ba e),.agg (cl ⟨K1,at',b,c,rts⟩)] σ fun r σ'=>σ'=σ∧r = .tup [.agg (ba noE),ab 5]:=by
 have hn:=aU hc;have n1:=hn.n1;have n6:=hn.n6;have hel:=he.len;have hbag:=he.bag;have hB:=bp K1 1 7 _ hx;have hB2:=bp K1 2 5 _ hy;have hB3:=bp at' 0 (e.bag.length-1) _ hz;refine af.deep ?_;refine g_n Tryz.func27 rfl Tryz.results27 Tryz.ntmps27 ?_;refine g_s fun K hK=>?_;refine g_h ?_;refine hK _ _ ?_;clear hK K;refine aC 3 rfl (by first|rfl|(simp -implicitDefEqProofs only[go_sem];done)|(simp -implicitDefEqProofs only[go_sem];rfl)) ?_
 simp only[ss0,List.set_cons_zero];refine aC 4 rfl (by first|rfl|(simp -implicitDefEqProofs only[go_sem];done)|(simp -implicitDefEqProofs only[go_sem];rfl)) ?_
 simp only[ss1,List.set_cons_zero,List.set_cons_succ];refine aC 5 rfl (by first|rfl|(simp -implicitDefEqProofs only[go_sem];done)|(simp -implicitDefEqProofs only[go_sem];rfl)) ?_
 simp only[ss1,List.set_cons_zero,List.set_cons_succ]
 (repeat' (first|(refine g_s fun K hK=>?_)|(refine g_k ?_;simp only[ah,ae])|(refine g_C (fun h=>?_) (fun h=>?_)<;>(try exact g_f))|((first|refine g_t ?_|refine g_g ?_|refine (hB _).use ?_|refine (hB2 _).use ?_|refine (hB3 _).use ?_);(try refine g_y ?_))|(refine hK _ _ ?_;clear hK K)|(with_reducible refine And.intro ?_ ?_;· exact g_x)|exact trivial|fail))
 exact bL rfl (.tupL (.cons (.eng _) (.cons (.c _) .nil))) (.tupL (.cons (.aggL (.cons .nil (.cons .nil .nil))) (.cons (.same _) .nil)))
theorem ze (n:Net) (e:Eng) (hc:aI n=0) (hl:n.links.length≤5864062014634) (he:a8 n e) (hby:cu e) (ok:cj e) (K1 at' b c:Int) (rts:List Int) (hat:I64 at') (hb:I64 b) (hcc:I64 c) (hrts:rts.length≤17592186044000) (hK1:I64 K1) (hx:inR K1 1 7=true) (hy:inR K1 2 5=false) (hz:inR at' 0 (n.nodes-1)=false) (σ:aa) :
  af Tryz.prog 27 [.agg (aH n),.agg (ba e),.agg (cl ⟨K1,at',b,c,rts⟩)] σ fun r σ'=>σ'=σ∧r = .tup [.agg (ba noE),ab 5]:=by
 have hn:=aU hc;have n1:=hn.n1;have n6:=hn.n6;have hel:=he.len;have hbag:=he.bag;have hB:=bp K1 1 7 _ hx;have hB2:=bp K1 2 5 _ hy;have hB3:=f7 n at' _ (by unfold I64;omega) hz
 refine af.deep ?_;refine g_n Tryz.func27 rfl Tryz.results27 Tryz.ntmps27 ?_;refine g_s fun K hK=>?_;refine g_h ?_;refine hK _ _ ?_;clear hK K;refine aC 3 rfl (by first|rfl|(simp -implicitDefEqProofs only[go_sem];done)|(simp -implicitDefEqProofs only[go_sem];rfl)) ?_
 simp only[ss0,List.set_cons_zero];refine aC 4 rfl (by first|rfl|(simp -implicitDefEqProofs only[go_sem];done)|(simp -implicitDefEqProofs only[go_sem];rfl)) ?_
 simp only[ss1,List.set_cons_zero,List.set_cons_succ];refine aC 5 rfl (by first|rfl|(simp -implicitDefEqProofs only[go_sem];done)|(simp -implicitDefEqProofs only[go_sem];rfl)) ?_
 simp only[ss1,List.set_cons_zero,List.set_cons_succ]
 (repeat' (first|(refine g_s fun K hK=>?_)|(refine g_k ?_;simp only[ah,ae])|(refine g_C (fun h=>?_) (fun h=>?_)<;>(try exact g_f))|((first|refine g_t ?_|refine g_g ?_|refine (hB _).use ?_|refine (hB2 _).use ?_|refine (hB3 _).use ?_);(try refine g_y ?_))|(refine hK _ _ ?_;clear hK K)|exact trivial|fail))
 exact bL rfl (.tupL (.cons (.eng _) (.cons (.c _) .nil))) (.tupL (.cons (.aggL (.cons .nil (.cons .nil .nil))) (.cons (.same _) .nil)))
theorem zi (n:Net) (e:Eng) (hc:aI n=0) (hl:n.links.length≤5864062014634) (he:a8 n e) (hby:cu e) (ok:cj e) (K1 at' b c:Int) (rts:List Int) (hat:I64 at') (hb:I64 b) (hcc:I64 c) (hrts:rts.length≤17592186044000) (hz:inR at' 0 (n.nodes-1)=true) (hw:inR b 0 (n.nodes-1)=false) (σ:aa) :
  af Tryz.prog 27 [.agg (aH n),.agg (ba e),.agg (cl ⟨6,at',b,c,rts⟩)] σ fun r σ'=>σ'=σ∧r = .tup [.agg (ba noE),ab 5]:=by
 have hn:=aU hc;have n1:=hn.n1;have n6:=hn.n6;have hel:=he.len;have hbag:=he.bag;have hB:=bp 6 1 7 true (by decide)
 have hB2:=bp 6 2 5 false (by decide)
 have hB3:=f7 n at' _ (by unfold I64;omega) hz
 have hB4:=f7 n b _ (by unfold I64;omega) hw
 refine af.deep ?_;refine g_n Tryz.func27 rfl Tryz.results27 Tryz.ntmps27 ?_;refine g_s fun K hK=>?_;refine g_h ?_;refine hK _ _ ?_;clear hK K;refine aC 3 rfl (by first|rfl|(simp -implicitDefEqProofs only[go_sem];done)|(simp -implicitDefEqProofs only[go_sem];rfl)) ?_
 simp only[ss0,List.set_cons_zero];refine aC 4 rfl (by first|rfl|(simp -implicitDefEqProofs only[go_sem];done)|(simp -implicitDefEqProofs only[go_sem];rfl)) ?_
 simp only[ss1,List.set_cons_zero,List.set_cons_succ];refine aC 5 rfl (by first|rfl|(simp -implicitDefEqProofs only[go_sem];done)|(simp -implicitDefEqProofs only[go_sem];rfl)) ?_
 simp only[ss1,List.set_cons_zero,List.set_cons_succ]
 (repeat' (first|(refine g_s fun K hK=>?_)|(refine g_k ?_;simp only[ah,ae])|(refine g_C (fun h=>?_) (fun h=>?_)<;>(try exact g_f))|((first|refine g_t ?_|refine g_g ?_|refine (hB _).use ?_|refine (hB2 _).use ?_|refine (hB3 _).use ?_|refine (hB4 _).use ?_);(try refine g_y ?_))|(refine hK _ _ ?_;clear hK K)|(with_reducible refine ak (fun h=>?_) (fun h=>?_)<;>(try simp only[go_sem] at h)<;>(try exact g_f)<;>(try refine g_y ?_))|exact trivial|fail))
 exact bL rfl (.tupL (.cons (.eng _) (.cons (.c _) .nil))) (.tupL (.cons (.aggL (.cons .nil (.cons .nil .nil))) (.cons (.same _) .nil)))
end Go.Proofs.YtephecognbbaoaaGreat
namespace Go.Proofs.YtephecognbbaoaaGreat
theorem zj (n:Net) (e:Eng) (hc:aI n=0) (hl:n.links.length≤5864062014634) (he:a8 n e) (hby:cu e) (ok:cj e) (K1 at' b c:Int) (rts:List Int) (hat:I64 at') (hb:I64 b) (hcc:I64 c) (hrts:rts.length≤17592186044000) (h0:0≤at') (h1:at'<e.bag.length) (hz:e.bag.length=120) (σ:aa) :
  af Tryz.prog 27 [.agg (aH n),.agg (ba e),.agg (cl ⟨3,at',b,c,rts⟩)] σ fun r σ'=>σ'=σ∧r = .tup [.agg (ba noE),ab 2]:=by
 have hn:=aU hc;have n1:=hn.n1;have n6:=hn.n6;have hel:=he.len;have hbag:=he.bag;have hB:=bp 3 1 7 true (by decide)
 have hB2:=bp 3 2 5 true (by decide)
 have hB3:=bp at' 0 (e.bag.length-1) true (aG.2 (by omega))
 have hz2:(120:Int)≤e.bag.length:=by omega
 refine af.deep ?_;refine g_n Tryz.func27 rfl Tryz.results27 Tryz.ntmps27 ?_;refine g_s fun K hK=>?_;refine g_h ?_;refine hK _ _ ?_;clear hK K;refine aC 3 rfl (by first|rfl|(simp -implicitDefEqProofs only[go_sem];done)|(simp -implicitDefEqProofs only[go_sem];rfl)) ?_
 simp only[ss0,List.set_cons_zero];refine aC 4 rfl (by first|rfl|(simp -implicitDefEqProofs only[go_sem];done)|(simp -implicitDefEqProofs only[go_sem];rfl)) ?_
 simp only[ss1,List.set_cons_zero,List.set_cons_succ];refine aC 5 rfl (by first|rfl|(simp -implicitDefEqProofs only[go_sem];done)|(simp -implicitDefEqProofs only[go_sem];rfl)) ?_
 simp only[ss1,List.set_cons_zero,List.set_cons_succ]
 (repeat' (first|(refine g_s fun K hK=>?_)|(refine g_b ?_)|(refine g_k ?_;simp only[ah,ae])|(refine g_C (fun h=>?_) (fun h=>?_)<;>(try exact g_f))|((first|refine g_t ?_|refine g_g ?_|refine (hB _).use ?_|refine (hB2 _).use ?_|refine (hB3 _).use ?_);(try simp -implicitDefEqProofs only[go_sem,hz2]))|(refine hK _ _ ?_;clear hK K)|(with_reducible refine And.intro ?_ ?_;· exact g_x)|fail))
 exact bL rfl (.tupL (.cons (.eng _) (.cons (.c _) .nil))) (.tupL (.cons (.aggL (.cons .nil (.cons .nil .nil))) (.cons (.same _) .nil)))
theorem zg (n:Net) (e:Eng) (hc:aI n=0) (hl:n.links.length≤5864062014634) (he:a8 n e) (hby:cu e) (ok:cj e) (K1 at' b c:Int) (rts:List Int) (hat:I64 at') (hb:I64 b) (hcc:I64 c) (hrts:rts.length≤17592186044000) (h0:0≤at') (h1:at'<e.bag.length) (σ:aa) :
  af Tryz.prog 27 [.agg (aH n),.agg (ba e),.agg (cl ⟨4,at',b,c,rts⟩)] σ fun r σ'=>σ'=σ∧r = .tup [.agg (ba (bZ e at')),ab 0]:=by
 have hn:=aU hc;have n1:=hn.n1;have n6:=hn.n6;have hel:=he.len;have hbag:=he.bag;have hB:=bp 4 1 7 true (by decide)
 have hB2:=bp 4 2 5 true (by decide)
 have hB3:=bp at' 0 (e.bag.length-1) true (aG.2 (by omega))
 refine af.deep ?_;refine g_n Tryz.func27 rfl Tryz.results27 Tryz.ntmps27 ?_;refine g_s fun K hK=>?_;refine g_h ?_;refine hK _ _ ?_;clear hK K;refine aC 3 rfl (by first|rfl|(simp -implicitDefEqProofs only[go_sem];done)|(simp -implicitDefEqProofs only[go_sem];rfl)) ?_
 simp only[ss0,List.set_cons_zero];refine aC 4 rfl (by first|rfl|(simp -implicitDefEqProofs only[go_sem];done)|(simp -implicitDefEqProofs only[go_sem];rfl)) ?_
 simp only[ss1,List.set_cons_zero,List.set_cons_succ];refine aC 5 rfl (by first|rfl|(simp -implicitDefEqProofs only[go_sem];done)|(simp -implicitDefEqProofs only[go_sem];rfl)) ?_
 simp only[ss1,List.set_cons_zero,List.set_cons_succ]
 (repeat' (first|(refine g_s fun K hK=>?_)|(refine g_b ?_)|(refine g_k ?_;simp only[ah,ae])|(refine g_C (fun h=>?_) (fun h=>?_)<;>(try exact g_f))|((first|refine g_g ?_|refine (hB _).use ?_|refine (hB2 _).use ?_|refine (hB3 _).use ?_);(try refine g_y ?_))|(refine hK _ _ ?_;clear hK K)|(with_reducible refine And.intro ?_ ?_;· exact g_x)|exact trivial|fail))
 obtain⟨ρ,hρ⟩:∃ρ:aa,σ++[.dead,.dead,.dead,.cells 2 [[.c (.slice none 0 0),.c (.slice none 0 0)]]]=ρ:=⟨_,rfl⟩;have hlen:ρ.length=σ.length+4:=by rw[←hρ];simp
 have hcL:∀X,(ρ++X)[σ.length+3]? = some (.cells 2 [[.c (.slice none 0 0),.c (.slice none 0 0)]]):=fun X=>by rw[←hρ];exact az (by simp)
 have hcS:∀X o,(ρ++X).set (σ.length+3) o=σ++([.dead,.dead,.dead,o]++X):=fun X o=>by
  rw[←hρ,List.append_assoc,List.set_append_right _ _ (by omega),Nat.add_sub_cancel_left]
  rfl
 rw[hρ];refine (qM n e hn he ok at' h0 h1 ρ).mono ?_;rintro r S' ⟨τ,rfl,rb,acc,gv,gi,rfl,hM⟩;obtain⟨gb,rfl,rfl,hgb⟩:=hM.bag;simp -implicitDefEqProofs only[go_sem,hcL,hcS]
 (repeat' (first|(refine g_t ?_;(try simp -implicitDefEqProofs only[go_sem,hcL,hcS]))|(refine hK _ _ ?_;clear hK K)|fail))
 have hf:=(hM.setLo (x:=σ.length+3) (o:=.cells 2 [[.own rb 2 0 e.routers.length e.routers.length,.own gb 3 0 (bZ e at').bag.length (bZ e at').bag.length]]) (by omega)).less (by omega:σ.length≤ρ.length)
 rw[hcS] at hf;exact bL rfl (.tupL (.cons (.eng _) (.cons (.c _) .nil))) (.tupL (.cons (.aggL (hf.deep fun x hx=>hx)) (.cons (.same _) .nil)))
theorem xr (n:Net) (e:Eng) (hc:aI n=0) (hl:n.links.length≤5864062014634) (he:a8 n e) (hby:cu e) (ok:cj e) (K1 at' b c:Int) (rts:List Int) (hat:I64 at') (hb:I64 b) (hcc:I64 c) (hrts:rts.length≤17592186044000) (h0:0≤at') (h1:at'<e.bag.length) (hz:e.bag.length≠120) (σ:aa) :
  af Tryz.prog 27 [.agg (aH n),.agg (ba e),.agg (cl ⟨3,at',b,c,rts⟩)] σ fun r σ'=>σ'=σ∧r = .tup [.agg (ba ⟨e.routers,e.bag++[at0 e.bag at']⟩),ab 0]:=by
 have hn:=aU hc;have n1:=hn.n1;have n6:=hn.n6;have hel:=he.len;have hbag:=he.bag;have hB:=bp 3 1 7 true (by decide)
 have hB2:=bp 3 2 5 true (by decide)
 have hB3:=bp at' 0 (e.bag.length-1) true (aG.2 (by omega))
 have hz2:¬(120:Int)≤e.bag.length:=by omega
 refine af.deep ?_;refine g_n Tryz.func27 rfl Tryz.results27 Tryz.ntmps27 ?_;refine g_s fun K hK=>?_;refine g_h ?_;refine hK _ _ ?_;clear hK K;refine aC 3 rfl (by first|rfl|(simp -implicitDefEqProofs only[go_sem];done)|(simp -implicitDefEqProofs only[go_sem];rfl)) ?_
 simp only[ss0,List.set_cons_zero];refine aC 4 rfl (by first|rfl|(simp -implicitDefEqProofs only[go_sem];done)|(simp -implicitDefEqProofs only[go_sem];rfl)) ?_
 simp only[ss1,List.set_cons_zero,List.set_cons_succ];refine aC 5 rfl (by first|rfl|(simp -implicitDefEqProofs only[go_sem];done)|(simp -implicitDefEqProofs only[go_sem];rfl)) ?_
 simp only[ss1,List.set_cons_zero,List.set_cons_succ]
 (repeat' (first|(refine g_s fun K hK=>?_)|(refine g_b ?_)|(refine g_k ?_;simp only[ah,ae])|(refine g_C (fun h=>?_) (fun h=>?_)<;>(try exact g_f))|((first|refine g_g ?_|refine (hB _).use ?_|refine (hB2 _).use ?_|refine (hB3 _).use ?_);(try simp -implicitDefEqProofs only[go_sem,hz2]))|(refine hK _ _ ?_;clear hK K)|(with_reducible refine And.intro ?_ ?_;· exact g_x)|fail))
 obtain⟨ρ,hρ⟩:∃ρ:aa,σ++[.dead,.dead,.dead,.cells 2 [[.c (.slice none 0 0),.c (.slice none 0 0)]]]=ρ:=⟨_,rfl⟩;have hlen:ρ.length=σ.length+4:=by rw[←hρ];simp
 have hcL:∀X,(ρ++X)[σ.length+3]? = some (.cells 2 [[.c (.slice none 0 0),.c (.slice none 0 0)]]):=fun X=>by rw[←hρ];exact az (by simp)
 have hcS:∀X o,(ρ++X).set (σ.length+3) o=σ++([.dead,.dead,.dead,o]++X):=fun X o=>by
  rw[←hρ,List.append_assoc,List.set_append_right _ _ (by omega),Nat.add_sub_cancel_left]
  rfl
 rw[hρ];refine (fg n e hn he ok ρ).mono ?_;rintro r S' ⟨τ,rfl,rb,acc,gv,gi,rfl,hM⟩;obtain⟨gb,rfl,rfl,hgb⟩:=hM.bag;obtain⟨w,hw⟩:∃w,at0 e.bag at'=w:=⟨_,rfl⟩;rw[hw];have hcL0:(ρ++τ)[σ.length+3]? = some (.cells 2 [[.c (.slice none 0 0),.c (.slice none 0 0)]]):=hcL τ;have hKe:bX σ (ρ++τ):=⟨[.dead,.dead,.dead,.cells 2 [[.c (.slice none 0 0),.c (.slice none 0 0)]]]++τ,by rw[←hρ,List.append_assoc]⟩
 have hlo:ρ.length≤(ρ++τ).length:=by simp
 clear hcL hcS;obtain⟨γ,hγ⟩:∃γ,ρ++τ=γ:=⟨_,rfl⟩;rw[hγ] at hM hgb hcL0 hKe hlo ⊢;have hgl:=(List.getElem?_eq_some_iff.1 hgb).1;have hglo:=hM.lo gb (by simp [cb])
 have hcl:=(List.getElem?_eq_some_iff.1 hcL0).1;have hgL:∀X,(γ++X)[gb]? = some (.cells 3 (e.bag.map aJ)):=fun X=>az hgb;have hgS:∀X o,(γ++X).set gb o=γ.set gb o++X:=fun X o=>bt hgb;have hbD:∀o X,(γ.set gb .dead++o::X)[γ.length]? = some o:=fun o X=>by
  rw[List.getElem?_append_right (by simp),List.length_set,Nat.sub_self]
  rfl
 have hbE:∀o X o',(γ.set gb .dead++o::X).set γ.length o'=γ.set gb .dead++o'::X:=fun o X o'=>by
  rw[List.set_append_right _ _ (by simp),List.length_set,Nat.sub_self]
  rfl
 have hcD0:(γ.set gb .dead)[σ.length+3]? = some (.cells 2 [[.c (.slice none 0 0),.c (.slice none 0 0)]]):=aT hcL0 (by omega)
 have hcD:∀X,(γ.set gb .dead++X)[σ.length+3]? = some (.cells 2 [[.c (.slice none 0 0),.c (.slice none 0 0)]]):=fun X=>az hcD0;have hcE:∀X o,(γ.set gb .dead++X).set (σ.length+3) o=(γ.set gb .dead).set (σ.length+3) o++X:=fun X o=>bt hcD0;have hlg:(γ.set gb .dead).length=γ.length:=List.length_set;simp -implicitDefEqProofs only[go_sem,hw,hgL,hgS,hbD,hbE,hcD,hcE,hlg]
 (repeat' (first|(refine g_s fun K hK=>?_)|((first|refine g_t ?_|refine g_g ?_|refine g_U ?_);(try simp -implicitDefEqProofs only[go_sem,hw,hgL,hgS,hbD,hbE,hcD,hcE,hlg]))|(refine hK _ _ ?_;clear hK K)|(with_reducible refine And.intro ?_ ?_;· exact g_x)|fail))
 have hcF:∀o X,((γ.set gb .dead).set (σ.length+3) o++X)[σ.length+3]? = some o:=fun o X=>az (bJ hcD0);simp -implicitDefEqProofs only[go_sem,hcF]
 skip
 have hl3:∀o X,((γ.set gb .dead).set (σ.length+3) o++X)[γ.length+1]? = X[1]? := fun o X=>by
  rw[List.getElem?_append_right (by simp),List.length_set,List.length_set,Nat.add_sub_cancel_left]
 have hf:=(hM.rebag (y:=σ.length+3) (by omega) (o:=.dead) (o':=.cells 2 [[.own rb 2 0 e.routers.length e.routers.length,.own (γ.length+1) 3 0 (e.bag.length+1) (e.bag.length+1)]]) (X:=[.cells 2 [[.own rb 2 0 e.routers.length e.routers.length,.own (γ.length+1) 3 0 (e.bag.length+1) (e.bag.length+1)]],.cells 3 ((e.bag++[w]).map aJ)]) (bag:=e.bag++[w]) (g:=γ.length+1) (by rw[hl3];rfl) (by omega) hlo).less (by omega:σ.length≤ρ.length)
 have hel2:(e.bag++[w]).length=e.bag.length+1:=by simp
 rw[hel2] at hf;obtain⟨T,hT⟩:bX σ (((γ.set gb .dead).set (σ.length+3) (.cells 2 [[.own rb 2 0 e.routers.length e.routers.length,.own (γ.length+1) 3 0 (e.bag.length+1) (e.bag.length+1)]]))++[.cells 2 [[.own rb 2 0 e.routers.length e.routers.length,.own (γ.length+1) 3 0 (e.bag.length+1) (e.bag.length+1)]],.cells 3 ((e.bag++[w]).map aJ)]):=((hKe.set (by omega)).set (by omega)).app
 have hf2:=hf.deep (D:=(σ.length ≤ ·)) fun x hx=>hx;rw[List.map_append] at hT hf2;rw[hw];show qH σ (.tup [.agg (ba ⟨e.routers,e.bag++[w]⟩),ab 0]) _ _;exact bL hT (.tupL (.cons (.eng _) (.cons (.c _) .nil))) (.tupL (.cons (.aggL hf2) (.cons (.same _) .nil)))
end Go.Proofs.YtephecognbbaoaaGreat
