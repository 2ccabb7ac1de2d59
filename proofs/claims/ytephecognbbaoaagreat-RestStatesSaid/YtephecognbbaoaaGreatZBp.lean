/- Plans: how deep, how wide they are; what is wrong with one: as the program finds it. -/
import Derived.Test.YtephecognbbaoaaGreatZAb
import Derived.Test.YtephecognbbaoaaGreatZVs
import Derived.Test.YtephecognbbaoaaGreatZBm
open Go
set_option linter.all false
set_option maxRecDepth 100000
set_option maxHeartbeats 4000000
namespace Go.Proofs.YtephecognbbaoaaGreat
open Go
set_option linter.all false
set_option maxRecDepth 100000
set_option maxHeartbeats 4000000
mutual
def plC:Pl→List AV
 | .mk k n e ps=>[ab k,ab n,aF e,.sl (plCs ps)]
def plCs:List Pl→List (List AV)
 | []=>[]
 | x::r=>plC x::plCs r
end
theorem x5:∀ps:List Pl,plCs ps=ps.map plC
 | []=>by rw[plCs];rfl
 | x::r=>by rw[plCs,x5 r];rfl
def np (ps:List Pl):AV:=.sl (ps.map plC)
theorem a7 (k n:Int) (e:List Int) (ps:List Pl):plC (.mk k n e ps)=[ab k,ab n,aF e,np ps]:=by rw[plC,x5];rfl
theorem ur (p:Pl):(plC p).length=4:=by
 obtain⟨k,n,e,ps⟩:=p;rw[a7];rfl
attribute [go_sem] a7 np ur
inductive d8:Pl→Prop
 | mk (k n:Int) (e:List Int) (ps:List Pl) (hk:I64 k) (hn:I64 n) (he:e.length≤17592186044000) (hev:∀v∈e,I64 v) (hl:ps.length≤2199023255488) (hp:∀x∈ps,d8 x):d8 (.mk k n e ps)
mutual
theorem Pl.ind {M:Pl→Prop} (h:∀k n e ps,(∀x∈ps,M x)→M (.mk k n e ps)):∀p,M p
 | .mk k n e ps=>h k n e ps (Pl.inds h ps)
theorem Pl.inds {M:Pl→Prop} (h:∀k n e ps,(∀x∈ps,M x)→M (.mk k n e ps)):∀ps:List Pl,∀x∈ps,M x
 | [],x,hx=>by cases hx
 | y::r,x,hx=>by
  rcases List.mem_cons.1 hx with e|hx
  ·rw[e];exact Pl.ind h y
  ·exact Pl.inds h r x hx
end
theorem uM:∀(l:Nat),l≤4→∀(p:Pl),d8 p→∀σ:aa,af Tryz.prog 99 [.agg (plC p),ab l] σ fun r σ'=>σ'=σ∧r=ab (fl p l)
 | 0,_,.mk k n e ps,ok,σ=>by
  cases ok with
  | mk _ _ _ _ hk hn he hev hpl hp=>
  rw[lf,m4,a7];have hz0:((0:Nat):Int)=0:=rfl;rw[hz0];refine af.cutX ?_;refine g_n Tryz.func99 rfl Tryz.results99 Tryz.ntmps99 ?_;refine g_s fun K hK=>?_;refine g_h ?_;refine hK _ _ ?_;clear hK K;refine g_0 2 rfl ?_
  (repeat' (first|(refine g_s fun K hK=>?_)|(refine g_b ?_)|(refine g_g ?_;(try refine g_y ?_))|(refine hK _ _ ?_;clear hK K)|exact trivial|fail))
  have hJ:=hK;clear hK;refine ay ps (fun _ _ _=>True) (fun k _ _=>[(11,ab k),(5,ab 0)]) (fun _ _ τ=>σ++(.dead::τ)) () [] trivial rfl (ai ?_) ?_ ?_
  ·exact g_w
  ·rintro q r _ τ hq0 hq1 _ L hL;have hmem:=aA ps hq0 hq1;obtain⟨x,hx⟩:∃x,at0 ps q=x:=⟨_,rfl⟩;obtain⟨k',n',e',ps'⟩:=x;simp -implicitDefEqProofs only[go_sem]
   (repeat' (first|(refine g_s fun K hK=>?_)|(refine g_b ?_)|(refine g_k ?_;simp only[ah,ae])|(refine g_e ?_;simp only[ah,ae,↓reduceIte,Nat.reduceEqDiff])|(refine g_C (fun h=>?_) (fun h=>?_)<;>(try exact g_f))|(refine g_g ?_;(try simp -implicitDefEqProofs only[go_sem,hx]))|(refine hK _ _ ?_;clear hK K)|(with_reducible refine And.intro ?_ ?_;· exact g_x)|fail))
   refine hJ _ _ ?_;clear hJ
   (repeat' (first|(refine g_s fun K hK=>?_)|((first|refine g_t ?_|refine g_g ?_);(try refine g_y ?_))|(refine hK _ _ ?_;clear hK K)|(with_reducible refine And.intro ?_ ?_;· exact g_x)|exact trivial|fail))
   exact ax rfl rfl
  ·rintro q _ τ hq _ L;simp -implicitDefEqProofs only[go_sem]
   (repeat' (first|(refine g_s fun K hK=>?_)|(refine g_e ?_;simp only[ah,ae,↓reduceIte,Nat.reduceEqDiff])|(refine g_C (fun h=>?_) (fun h=>?_)<;>(try exact g_f))|(refine g_g ?_;(try refine g_y ?_))|(refine hK _ _ ?_;clear hK K)|exact trivial|fail))
   refine hJ _ _ ?_;clear hJ
   (repeat' (first|(refine g_s fun K hK=>?_)|((first|refine g_t ?_|refine g_g ?_);(try refine g_y ?_))|(refine hK _ _ ?_;clear hK K)|(with_reducible refine And.intro ?_ ?_;· exact g_x)|exact trivial|fail))
   exact ax rfl rfl
 | l+1,hl4,.mk k n e ps,ok,σ=>by
  cases ok with
  | mk _ _ _ _ hk hn he hev hpl hp=>
  have ih:=uM l (by omega)
  have hrng:=(le l).1;rw[lf,a7];have hcast:((l+1:Nat):Int)-1=(l:Int):=by omega
  obtain⟨m1,hm1⟩:∃m:Int,((l+1:Nat):Int)=m:=⟨_,rfl⟩;have hm0:¬m1=0:=by omega
  have hm2:I64 (m1-1):=by unfold I64;omega
  have hm3:m1-1=(l:Int):=by omega
  rw[hm1];obtain⟨V,hV⟩:∃V,deepL ps (l+1)=V:=⟨_,rfl⟩;have hV4:=(le (l+1)).2 ps;rw[hV] at hV4 ⊢;refine af.cutX ?_;refine g_n Tryz.func99 rfl Tryz.results99 Tryz.ntmps99 ?_;refine g_s fun K hK=>?_;refine g_h ?_;refine hK _ _ ?_;clear hK K;refine g_0 2 rfl ?_
  (repeat' (first|(refine g_s fun K hK=>?_)|(refine g_b ?_)|(refine g_g ?_;(try refine g_y ?_))|(refine hK _ _ ?_;clear hK K)|exact trivial|fail))
  have hJ:=hK;clear hK;refine ay ps (fun _ r most=>max most (deepL r (l+1))=V∧0≤most∧most≤5) (fun k most _=>[(11,ab k),(5,ab most)]) (fun _ _ τ=>σ++(.dead::τ)) 0 [] ⟨by rw[hV];omega,by omega,by omega⟩ rfl (ai ?_) ?_ ?_
  ·exact g_w
  ·rintro q r most τ hq0 hq1 ⟨h3,h4,h5⟩ L hL;have hmem:=aA ps hq0 hq1;obtain⟨x,hx⟩:∃x,at0 ps q=x:=⟨_,rfl⟩;rw[hx] at h3 hmem;rw[qA] at h3;have hxr:=hrng x;have ihx:=fun S=>ih x (hp x hmem) S;obtain⟨D,hD⟩:∃D,fl x l=D:=⟨_,rfl⟩;rw[hD] at ihx h3 hxr;obtain⟨k',n',e',ps'⟩:=x;rw[a7] at ihx;rw[←hm3] at ihx;simp -implicitDefEqProofs only[go_sem]
   (repeat' (first|(refine g_s fun K hK=>?_)|(refine g_b ?_)|(refine g_k ?_;simp only[ah,ae])|(refine g_C (fun h=>?_) (fun h=>?_)<;>(try exact g_f))|((first|refine g_g ?_|refine (ihx _).use ?_);(try simp -implicitDefEqProofs only[go_sem,hx,hm0,hm2]))|(refine hK _ _ ?_;clear hK K)|(with_reducible refine And.intro ?_ ?_;· exact g_x)|fail))
   refine hL (max most D) (τ++[.cells 4 [plC (.mk k' n' e' ps')]]) _ _ ⟨by omega,by omega,by omega⟩ (ai ?_) ?_
   ·exact g_w
   ·simp [a7,np,aF,ab]
  ·rintro q most τ hq ⟨h3,h4,h5⟩ L;have h3:most=V:=by rw[deepL] at h3;omega
   subst h3;simp -implicitDefEqProofs only[go_sem]
   (repeat' (first|(refine g_s fun K hK=>?_)|(refine g_e ?_;simp only[ah,ae,↓reduceIte,Nat.reduceEqDiff])|(refine g_C (fun h=>?_) (fun h=>?_)<;>(try exact g_f))|(refine g_g ?_;(try refine g_y ?_))|(refine hK _ _ ?_;clear hK K)|exact trivial|fail))
   refine hJ _ _ ?_;clear hJ
   (repeat' (first|(refine g_s fun K hK=>?_)|((first|refine g_t ?_|refine g_g ?_);(try refine g_y ?_))|(refine hK _ _ ?_;clear hK K)|(with_reducible refine And.intro ?_ ?_;· exact g_x)|exact trivial|fail))
   exact ax rfl rfl
theorem Ar:∀(p:Pl),d8 p→∀σ:aa,af Tryz.prog 100 [.agg (plC p)] σ fun r σ'=>σ'=σ∧r = .c (.bool (cY p)):=by
 refine Pl.ind fun k n e ps ih ok σ=>?_
 cases ok with
 | mk _ _ _ _ hk hn he hev hpl hp=>
 rw[cY,a7];obtain⟨V,hV⟩:∃V,(decide (8<e.length)||wideL ps)=V:=⟨_,rfl⟩;rw[hV];refine af.cutX ?_;refine g_n Tryz.func100 rfl Tryz.results100 Tryz.ntmps100 ?_;refine g_s fun K hK=>?_;refine g_h ?_;refine hK _ _ ?_;clear hK K;refine g_0 1 rfl ?_
 (repeat' (first|(refine g_s fun K hK=>?_)|(refine g_b ?_)|(refine g_g ?_;(try refine g_y ?_))|(refine hK _ _ ?_;clear hK K)|exact trivial|fail))
 have hJ:=hK;clear hK;refine ay ps (fun _ r many=>(many||wideL r)=V) (fun k many _=>[(13,ab k),(3,.c (.bool many))]) (fun _ _ τ=>σ++(.dead::τ)) (decide (8<e.length)) [] hV rfl (ai ?_) ?_ ?_
 ·simp -implicitDefEqProofs only[go_sem];simp;omega
 ·rintro q r many τ hq0 hq1 h3 L hL;have hmem:=aA ps hq0 hq1;obtain⟨x,hx⟩:∃x,at0 ps q=x:=⟨_,rfl⟩;rw[hx] at h3 hmem;rw[wideL] at h3;have ihx:=ih x hmem (hp x hmem);obtain⟨D,hD⟩:∃D,cY x=D:=⟨_,rfl⟩;rw[hD] at ihx h3;obtain⟨k',n',e',ps'⟩:=x;rw[a7] at ihx;simp -implicitDefEqProofs only[go_sem]
  cases many
  ·(repeat' (first|(refine g_s fun K hK=>?_)|(refine g_b ?_)|(refine g_k ?_;simp only[ah,ae])|(refine g_C (fun h=>?_) (fun h=>?_)<;>(try exact g_f))|((first|refine g_g ?_|refine (ihx _).use ?_);(try simp -implicitDefEqProofs only[go_sem,hx]))|(refine hK _ _ ?_;clear hK K)|(with_reducible refine And.intro ?_ ?_;· exact g_x)|fail))
   refine hL D (τ++[.cells 4 [plC (.mk k' n' e' ps')]]) _ _ (by simpa using h3) (ai ?_) ?_
   ·exact g_w
   ·simp [a7,np,aF,ab]
  ·(repeat' (first|(refine g_s fun K hK=>?_)|(refine g_b ?_)|(refine g_k ?_;simp only[ah,ae])|(refine g_C (fun h=>?_) (fun h=>?_)<;>(try exact g_f))|(refine g_g ?_;(try simp -implicitDefEqProofs only[go_sem,hx]))|(refine hK _ _ ?_;clear hK K)|(with_reducible refine And.intro ?_ ?_;· exact g_x)|fail))
   refine hL true (τ++[.cells 4 [plC (.mk k' n' e' ps')]]) _ _ (by simpa using h3) (ai ?_) ?_
   ·exact g_w
   ·simp [a7,np,aF,ab]
 ·rintro q many τ hq h3 L;have h3:many=V:=by rw[wideL,Bool.or_false] at h3;exact h3
  subst h3;simp -implicitDefEqProofs only[go_sem]
  (repeat' (first|(refine g_s fun K hK=>?_)|(refine g_e ?_;simp only[ah,ae,↓reduceIte,Nat.reduceEqDiff])|(refine g_C (fun h=>?_) (fun h=>?_)<;>(try exact g_f))|(refine g_g ?_;(try refine g_y ?_))|(refine hK _ _ ?_;clear hK K)|exact trivial|fail))
  refine hJ _ _ ?_;clear hJ
  (repeat' (first|(refine g_s fun K hK=>?_)|((first|refine g_t ?_|refine g_g ?_);(try refine g_y ?_))|(refine hK _ _ ?_;clear hK K)|exact trivial|fail))
  exact ax rfl rfl
end Go.Proofs.YtephecognbbaoaaGreat
namespace Go.Proofs.YtephecognbbaoaaGreat
theorem dB (n a b:Int) (σ:aa):af Tryz.prog 152 [ab n,ab a,ab b] σ fun r σ'=>σ'=σ∧r = .c (.bool (inR n a b)):=by
 refine g_n Tryz.func152 rfl Tryz.results152 Tryz.ntmps152 ?_
 (repeat' (first|(refine g_s fun K hK=>?_)|((first|refine g_t ?_|refine g_g ?_);(try refine g_y ?_))|(refine hK _ _ ?_;clear hK K)|(with_reducible refine ak (fun h=>?_) (fun h=>?_)<;>(try simp only[go_sem] at h)<;>(try exact g_f)<;>(try refine g_y ?_))|exact trivial|fail))
 all_goals (simp [inR];omega)
theorem zx (k:Int) (h:k=1∨k=2∨k=3∨k=4) (σ:aa):af Tryz.prog 153 [ab k] σ fun r σ'=>σ'=σ∧r=ab (gx k):=by
 rcases h with rfl|rfl|rfl|rfl
 all_goals refine af.cutX ?_
 all_goals refine g_n Tryz.func153 rfl Tryz.results153 Tryz.ntmps153 ?_
 all_goals (repeat' (first|(refine g_s fun K hK=>?_)|((first|refine g_t ?_|refine g_G ?_);(try refine g_y ?_))|(refine hK _ _ ?_;clear hK K)|exact trivial|fail))
 all_goals exact ax (τ:=[]) (by simp) rfl
theorem tq {p:Pl} (hc:bo p=0):2≤bH p∧bH p≤24:=by
 have h:=eS p hc;have h1:=h.form.s2;have h2:=h.form.s24;rw[h.size] at h1 h2;exact⟨h1,h2⟩
theorem xK {a b:Int} (ha:2≤a∧a≤24) (hb:2≤b∧b≤24):0≤(a-1)*(b-1)∧(a-1)*(b-1)≤529:=
 ⟨Int.mul_nonneg (by omega) (by omega),Int.le_trans (Int.mul_le_mul (show a-1≤23 by omega) (show b-1≤23 by omega) (by omega) (by omega)) (by decide)⟩
theorem oZ:∀(p:Pl),bo p=0→∀σ:aa,af Tryz.prog 154 [.agg (plC p)] σ fun r σ'=>σ'=σ∧r=ab (bu p):=by
 refine Pl.ind fun k n e ps ih hc σ=>?_;obtain⟨hps,hcs⟩:=gJ hc;rw[bu,a7];refine af.cutX ?_
 by_cases h3:k=3
 ·subst h3;obtain⟨x,y,rfl⟩:∃x y,ps=[x,y]:=by
   rcases hcs with ⟨h,_⟩|⟨h,_⟩|⟨_,_,_,x,y,h,_⟩|⟨h,_⟩
   ·omega
   ·omega
   ·exact⟨x,y,h⟩
   ·omega
  have ihx:=ih x (by simp) (hps x (by simp))
  have e0:at0 (edgesL [x,y]) 0=bu x:=by rw[dv];rfl
  rw[if_pos rfl,e0];obtain⟨E,hE⟩:∃E,bu x=E:=⟨_,rfl⟩;rw[hE] at ihx ⊢;have hx:at0 [x,y] 0=x:=rfl;obtain⟨k',n',e',ps'⟩:=x;rw[a7] at ihx;refine g_n Tryz.func154 rfl Tryz.results154 Tryz.ntmps154 ?_;refine g_s fun K hK=>?_;refine g_h ?_;refine hK _ _ ?_;clear hK K;refine g_0 1 rfl ?_
  (repeat' (first|(refine g_s fun K hK=>?_)|(refine g_C (fun h=>?_) (fun h=>?_)<;>(try exact g_f))|((first|refine g_t ?_|refine g_g ?_|refine (ihx _).use ?_);(try simp -implicitDefEqProofs only[go_sem,hx]))|(refine hK _ _ ?_;clear hK K)|fail))
  exact ax rfl rfl
 ·rw[if_neg h3];refine g_n Tryz.func154 rfl Tryz.results154 Tryz.ntmps154 ?_;refine g_s fun K hK=>?_;refine g_h ?_;refine hK _ _ ?_;clear hK K;refine g_0 1 rfl ?_
  (repeat' (first|(refine g_s fun K hK=>?_)|(refine g_k ?_;simp only[ah,ae])|(refine g_C (fun h=>?_) (fun h=>?_)<;>(try exact g_f))|((first|refine g_t ?_|refine g_g ?_);(try simp -implicitDefEqProofs only[go_sem,h3]))|(refine hK _ _ ?_;clear hK K)|fail))
  exact ax rfl rfl
def Et:Pl→Prop
 | .mk k n _ ps=>(∀x∈ps,bo x=0)∧(k=3→ps.length=2)∧(k=4→ps.length=1)∧(k≠3→k≠4→1≤n∧n≤22)
theorem pT {p:Pl} (h:bo p=0):Et p:=by
 obtain⟨k,n,e,ps⟩:=p;obtain⟨hps,hc⟩:=gJ h;refine⟨hps,fun h3=>?_,fun h4=>?_,fun h3 h4=>?_⟩
 ·rcases hc with ⟨h,_⟩|⟨h,_⟩|⟨_,_,_,x,y,h,_⟩|⟨h,_⟩
  ·omega
  ·omega
  ·rw[h];rfl
  ·omega
 ·rcases hc with ⟨h,_⟩|⟨h,_⟩|⟨h,_⟩|⟨_,_,x,h,_⟩
  ·omega
  ·omega
  ·omega
  ·rw[h];rfl
 ·rcases hc with ⟨_,_,h,_⟩|⟨_,_,h,_⟩|⟨h,_⟩|⟨h,_⟩
  ·exact h
  ·exact h
  ·omega
  ·omega
theorem mO:∀(p:Pl),Et p→∀σ:aa,af Tryz.prog 155 [.agg (plC p)] σ fun r σ'=>σ'=σ∧r=ab (bH p):=by
 refine Pl.ind fun k n e ps ih hs σ=>?_;obtain⟨hps,s3,s4,s1⟩:=hs;rw[bH,a7];refine af.cutX ?_
 by_cases h3:k=3
 ·subst h3;obtain⟨x,y,rfl⟩:∃x y,ps=[x,y]:=by
   match ps,s3 rfl with
   | [x,y],_=>exact⟨x,y,rfl⟩
  have hcx:=hps x (by simp)
  have hcy:=hps y (by simp)
  have ihx:=ih x (by simp) (pT hcx)
  have ihy:=ih y (by simp) (pT hcy)
  have e0:at0 (sizeL [x,y]) 0=bH x:=by rw[dh];rfl
  have e1:at0 (sizeL [x,y]) 1=bH y:=by rw[dh];rfl
  have hx0:at0 [x,y] 0=x:=rfl;have hy0:at0 [x,y] 1=y:=rfl;rw[if_pos rfl,e0,e1];have hxr:=tq hcx;have hyr:=tq hcy;obtain⟨E,hE⟩:∃E,bH x=E:=⟨_,rfl⟩;obtain⟨F,hF⟩:∃F,bH y=F:=⟨_,rfl⟩;rw[hE] at ihx hxr ⊢;rw[hF] at ihy hyr ⊢;have hm:=xK hxr hyr;have i1:I64 (E-1):=by unfold I64;omega
  have i2:I64 (F-1):=by unfold I64;omega
  have i3:I64 ((E-1)*(F-1)):=by unfold I64;omega
  have i4:I64 ((E-1)*(F-1)+1):=by unfold I64;omega
  obtain⟨k',n',e',ps'⟩:=x;obtain⟨k'',n'',e'',ps''⟩:=y;rw[a7] at ihx ihy;refine g_n Tryz.func155 rfl Tryz.results155 Tryz.ntmps155 ?_;refine g_s fun K hK=>?_;refine g_h ?_;refine hK _ _ ?_;clear hK K;refine g_0 1 rfl ?_
  (repeat' (first|(refine g_s fun K hK=>?_)|(refine g_b ?_)|(refine g_C (fun h=>?_) (fun h=>?_)<;>(try exact g_f))|((first|refine g_t ?_|refine g_g ?_|refine g_U ?_|refine g_q (fun τ=>ihx _) ?_|refine g_q (fun τ=>ihy _) ?_);(try simp -implicitDefEqProofs only[go_sem,hx0,hy0,i1,i2,i3,i4]))|(refine hK _ _ ?_;clear hK K)|fail))
  exact ax rfl rfl
 ·rw[if_neg h3]
  by_cases h4:k=4
  ·subst h4;obtain⟨x,rfl⟩:∃x,ps=[x]:=by
    match ps,s4 rfl with
    | [x],_=>exact⟨x,rfl⟩
   have hcx:=hps x (by simp)
   have ihx:=ih x (by simp) (pT hcx)
   have e0:at0 (sizeL [x]) 0=bH x:=by rw[dh];rfl
   have hx0:at0 [x] 0=x:=rfl;rw[if_pos rfl,e0];obtain⟨E,hE⟩:∃E,bH x=E:=⟨_,rfl⟩;rw[hE] at ihx ⊢;obtain⟨k',n',e',ps'⟩:=x;rw[a7] at ihx;refine g_n Tryz.func155 rfl Tryz.results155 Tryz.ntmps155 ?_;refine g_s fun K hK=>?_;refine g_h ?_;refine hK _ _ ?_;clear hK K;refine g_0 1 rfl ?_
   (repeat' (first|(refine g_s fun K hK=>?_)|(refine g_b ?_)|(refine g_C (fun h=>?_) (fun h=>?_)<;>(try exact g_f))|((first|refine g_t ?_|refine g_g ?_|refine (ihx _).use ?_);(try simp -implicitDefEqProofs only[go_sem,hx0]))|(refine hK _ _ ?_;clear hK K)|fail))
   exact ax rfl rfl
  ·have hn:=s1 h3 h4;rw[if_neg h4];refine g_n Tryz.func155 rfl Tryz.results155 Tryz.ntmps155 ?_;refine g_s fun K hK=>?_;refine g_h ?_;refine hK _ _ ?_;clear hK K;refine g_0 1 rfl ?_
   (repeat' (first|(refine g_s fun K hK=>?_)|(refine g_b ?_)|(refine g_k ?_;simp only[ah,ae])|(refine g_C (fun h=>?_) (fun h=>?_)<;>(try exact g_f))|((first|refine g_t ?_|refine g_g ?_);(try simp -implicitDefEqProofs only[go_sem,h3,h4]))|(refine hK _ _ ?_;clear hK K)|(with_reducible refine And.intro ?_ ?_;· exact g_x)|fail))
   exact ax rfl rfl
theorem sy {s:Int} (h0:0≤s) (h1:s≤24):(1:Int)*2 ^ min s.toNat IntKind.i64.bits=2 ^ s.toNat∧1≤(2:Int) ^ s.toNat∧(2:Int) ^ s.toNat≤16777216∧IntKind.i64.wrap (2 ^ s.toNat)=2 ^ s.toNat:=by
 have hb:min s.toNat IntKind.i64.bits=s.toNat:=by
  have:IntKind.i64.bits=64:=rfl;omega
 have h2:(2:Nat) ^ s.toNat≤2 ^ 24:=Nat.pow_le_pow_right (by decide) (by omega)
 have h3:0<(2:Nat) ^ s.toNat:=Nat.pow_pos (by decide)
 have h4:((2 ^ s.toNat:Nat):Int)=(2:Int) ^ s.toNat:=by rw[Int.natCast_pow];rfl
 have h5:(2:Nat) ^ 24=16777216:=rfl;refine⟨by rw[hb,Int.one_mul],by omega,by omega,gm (by unfold I64;omega)⟩
theorem AR (k n:Int) (e:List Int) (ps:List Pl) (ok:d8 (.mk k n e ps)) (hps:∀x∈ps,bo x=0) (σ:aa):af Tryz.prog 130 [.agg (plC (.mk k n e ps))] σ fun r σ'=>σ'=σ∧r=ab (pt k n e ps):=by
 cases ok with
 | mk _ _ _ _ hk hn he hev hpl hp=>
 rw[a7];refine af.cutX ?_;unfold pt
 by_cases hk4:inR k 1 4=true
 ·have hkr:=aG.1 hk4;have hpc:=zx k (by omega)
  rw[hk4,if_neg (by decide)]
  by_cases hpn:(ps.length:Int)=gx k
  ·rw[if_neg (not_not_intro hpn)]
   by_cases h3:k=3
   ·subst h3;rw[if_pos rfl];have hpn2:(ps.length:Int)=2:=hpn;obtain⟨x,y,rfl⟩:∃x y,ps=[x,y]:=by
     match ps,hpn2 with
     | [x,y],_=>exact⟨x,y,rfl⟩
     | [],h=>simp at h
     | [x],h=>simp at h
     | x::y::z::r,h=>simp at h;omega
    have hcx:=hps x (by simp)
    have hcy:=hps y (by simp)
    have hEx:=oZ x hcx;have hEy:=oZ y hcy;have hS:=mO (.mk 3 n e [x,y]) ⟨hps,fun _=>rfl,fun h=>by omega,fun h=>absurd rfl h⟩
    have e0:at0 (edgesL [x,y]) 0=bu x:=by rw[dv];rfl
    have e1:at0 (edgesL [x,y]) 1=bu y:=by rw[dv];rfl
    have s0:at0 (sizeL [x,y]) 0=bH x:=by rw[dh];rfl
    have s1:at0 (sizeL [x,y]) 1=bH y:=by rw[dh];rfl
    rw[bH,if_pos rfl,s0,s1,a7] at hS;rw[e0,e1,s0,s1];have hx0:at0 [x,y] 0=x:=rfl;have hy0:at0 [x,y] 1=y:=rfl;obtain⟨E,hE⟩:∃E,bu x=E:=⟨_,rfl⟩;obtain⟨F,hF⟩:∃F,bu y=F:=⟨_,rfl⟩;obtain⟨T,hT⟩:∃T,(bH x-1)*(bH y-1)+1=T:=⟨_,rfl⟩;rw[hE] at hEx ⊢;rw[hF] at hEy ⊢;rw[hT] at hS ⊢;obtain⟨k',n',e',ps'⟩:=x;obtain⟨k'',n'',e'',ps''⟩:=y;simp only[np] at hS;rw[a7] at hEx hEy;have hW:∀S,af Tryz.prog 152 [ab 3,ab 1,ab 4] S fun r σ'=>σ'=S∧r = .c (.bool true):=fun S=>by
     have:=dB 3 1 4 S;rw[hk4] at this;exact this
    refine g_n Tryz.func130 rfl Tryz.results130 Tryz.ntmps130 ?_;refine g_s fun K hK=>?_;refine g_h ?_;refine hK _ _ ?_;clear hK K;refine g_0 1 rfl ?_
    (repeat' (first|(refine g_s fun K hK=>?_)|(refine g_b ?_)|(refine g_k ?_;simp only[ah,ae])|(refine g_C (fun h=>?_) (fun h=>?_)<;>(try exact g_f))|((first|refine g_t ?_|refine g_g ?_|refine g_U ?_|refine (hW _).use ?_|refine g_q (fun τ=>hpc _) ?_|refine g_q (fun τ=>hEx _) ?_|refine g_q (fun τ=>hEy _) ?_|refine (hS _).use ?_);(try simp -implicitDefEqProofs only[go_sem,hx0,hy0]))|(refine hK _ _ ?_;clear hK K)|fail))
    all_goals (refine ax rfl ?_;repeat first|rw[if_pos (by first|assumption|omega)]|rw[if_neg (by first|assumption|omega)])
   ·rw[if_neg h3]
    by_cases h4:k=4
    ·subst h4;rw[if_pos rfl];have hpn2:(ps.length:Int)=1:=hpn;obtain⟨x,rfl⟩:∃x,ps=[x]:=by
      match ps,hpn2 with
      | [x],_=>exact⟨x,rfl⟩
      | [],h=>simp at h
      | x::y::r,h=>simp at h;omega
     have hcx:=hps x (by simp)
     have hEx:=oZ x hcx;have hSx:=mO x (pT hcx);have hS:=mO (.mk 4 n e [x]) ⟨hps,fun h=>by omega,fun _=>rfl,fun _ h=>absurd rfl h⟩
     have e0:at0 (edgesL [x]) 0=bu x:=by rw[dv];rfl
     have s0:at0 (sizeL [x]) 0=bH x:=by rw[dh];rfl
     have hsr:=tq hcx;rw[bH,if_neg (by decide),if_pos rfl,s0,a7] at hS
     rw[e0,s0];have hx0:at0 [x] 0=x:=rfl;obtain⟨E,hE⟩:∃E,bu x=E:=⟨_,rfl⟩;obtain⟨G,hG⟩:∃G,bH x=G:=⟨_,rfl⟩;rw[hE] at hEx ⊢;rw[hG] at hS hSx hsr ⊢;obtain⟨z1,z2,z3,z4⟩:=sy (s:=G) (by omega) (by omega)
     obtain⟨P2,hP2⟩:∃P2:Int,(2:Int) ^ G.toNat=P2:=⟨_,rfl⟩;rw[hP2] at z1 z2 z3 z4 ⊢;obtain⟨k',n',e',ps'⟩:=x;simp only[np] at hS;rw[a7] at hEx hSx;have z1:1*2 ^ min G.toNat 64=P2:=z1;have z5:I64 (P2-1):=by unfold I64;omega
     have hW:∀S,af Tryz.prog 152 [ab 4,ab 1,ab 4] S fun r σ'=>σ'=S∧r = .c (.bool true):=fun S=>by
      have:=dB 4 1 4 S;rw[hk4] at this;exact this
     refine g_n Tryz.func130 rfl Tryz.results130 Tryz.ntmps130 ?_;refine g_s fun K hK=>?_;refine g_h ?_;refine hK _ _ ?_;clear hK K;refine g_0 1 rfl ?_
     (repeat' (first|(refine g_s fun K hK=>?_)|(refine g_b ?_)|(refine g_k ?_;simp only[ah,ae])|(refine g_C (fun h=>?_) (fun h=>?_)<;>(try exact g_f))|((first|refine g_t ?_|refine g_g ?_|refine g_U ?_|refine (hW _).use ?_|refine g_q (fun τ=>hpc _) ?_|refine g_q (fun τ=>hEx _) ?_);(try simp -implicitDefEqProofs only[go_sem,hx0]))|(refine hK _ _ ?_;clear hK K)|fail))
     ·refine ax rfl ?_;rw[if_pos (by omega)]
     ·refine ax rfl ?_;rw[if_neg (by omega),if_pos (by omega)]
     have hJ:=hK;clear hK;refine ay e (fun _ r _=>(e.any fun x => !inR x 0 (P2-1))=r.any fun x => !inR x 0 (P2-1)) (fun q _ _=>[(78,ab q)]) (fun _ _ τ=>σ++(.dead::τ)) () [] rfl rfl (ai ?_) ?_ ?_
     ·exact g_w
     ·rintro q r _ τ hq0 hq1 h5 L hL;obtain⟨v,hv⟩:∃v,at0 e q=v:=⟨_,rfl⟩;rw[hv,List.any_cons] at h5;have hW2:=dB v 0 (P2-1);simp -implicitDefEqProofs only[go_sem]
      cases hin:inR v 0 (P2-1)
      ·rw[hin] at hW2 h5
       (repeat' (first|(refine g_s fun K hK=>?_)|(refine g_b ?_)|(refine g_k ?_;simp only[ah,ae])|(refine g_C (fun h=>?_) (fun h=>?_)<;>(try exact g_f))|((first|refine g_t ?_|refine g_g ?_|refine (hSx _).use ?_|refine (hW2 _).use ?_);(try simp -implicitDefEqProofs only[go_sem,hv,hx0,z1,z4,z5]))|(refine hK _ _ ?_;clear hK K)|(with_reducible refine And.intro ?_ ?_;· exact g_x)|fail))
       refine ax rfl ?_;rw[if_neg (by omega),if_neg (by omega),h5,Bool.not_false,Bool.true_or,if_pos rfl]
      ·rw[hin] at hW2 h5
       (repeat' (first|(refine g_s fun K hK=>?_)|(refine g_b ?_)|(refine g_k ?_;simp only[ah,ae])|(refine g_C (fun h=>?_) (fun h=>?_)<;>(try exact g_f))|((first|refine g_g ?_|refine (hSx _).use ?_|refine (hW2 _).use ?_);(try simp -implicitDefEqProofs only[go_sem,hv,hx0,z1,z4,z5]))|(refine hK _ _ ?_;clear hK K)|(with_reducible refine And.intro ?_ ?_;· exact g_x)|fail))
       refine hL () τ _ _ (by rw[h5,Bool.not_true,Bool.false_or]) (ai ?_) rfl
       simp -implicitDefEqProofs only[go_sem]
     ·rintro q _ τ hq h5 L;simp -implicitDefEqProofs only[go_sem]
      (repeat' (first|(refine g_s fun K hK=>?_)|(refine g_e ?_;simp only[ah,ae,↓reduceIte,Nat.reduceEqDiff])|(refine g_C (fun h=>?_) (fun h=>?_)<;>(try exact g_f))|(refine g_g ?_;(try refine g_y ?_))|(refine hK _ _ ?_;clear hK K)|exact trivial|fail))
      refine hJ _ _ ?_;clear hJ
      (repeat' (first|(refine g_s fun K hK=>?_)|(refine g_k ?_;simp only[ah,ae])|(refine g_C (fun h=>?_) (fun h=>?_)<;>(try exact g_f))|((first|refine g_t ?_|refine g_g ?_|refine (hS _).use ?_);(try refine g_y ?_))|(refine hK _ _ ?_;clear hK K)|exact trivial|fail))
      refine ax rfl ?_;rw[if_neg (by omega),if_neg (by omega),h5,List.any_nil,if_neg (by decide)]
    ·rw[if_neg h4];have hkn:k=1∨k=2:=by omega
     have hW:∀S,af Tryz.prog 152 [ab k,ab 1,ab 4] S fun r σ'=>σ'=S∧r = .c (.bool true):=fun S=>by
      have:=dB k 1 4 S;rw[hk4] at this;exact this
     have hN:=dB n 1 22
     cases hin:inR n 1 22
     ·rw[hin] at hN;rw[if_pos (by decide)]
      refine g_n Tryz.func130 rfl Tryz.results130 Tryz.ntmps130 ?_;refine g_s fun K hK=>?_;refine g_h ?_;refine hK _ _ ?_;clear hK K;refine g_0 1 rfl ?_
      (repeat' (first|(refine g_s fun K hK=>?_)|(refine g_b ?_)|(refine g_k ?_;simp only[ah,ae])|(refine g_C (fun h=>?_) (fun h=>?_)<;>(try exact g_f))|((first|refine g_t ?_|refine g_g ?_|refine g_U ?_|refine (hW _).use ?_|refine g_q (fun τ=>hpc _) ?_|refine (hN _).use ?_);(try simp -implicitDefEqProofs only[go_sem,h3,h4,hpn]))|(refine hK _ _ ?_;clear hK K)|fail))
      exact ax rfl rfl
     ·rw[hin] at hN;rw[if_neg (by decide)]
      have hnr:=aG.1 hin;have hS:=mO (.mk k n e ps) ⟨hps,fun h=>absurd h h3,fun h=>absurd h h4,fun _ _=>hnr⟩;rw[bH,if_neg h3,if_neg h4,a7] at hS;simp only[np] at hS;refine g_n Tryz.func130 rfl Tryz.results130 Tryz.ntmps130 ?_;refine g_s fun K hK=>?_;refine g_h ?_;refine hK _ _ ?_;clear hK K;refine g_0 1 rfl ?_
      (repeat' (first|(refine g_s fun K hK=>?_)|(refine g_b ?_)|(refine g_k ?_;simp only[ah,ae])|(refine g_C (fun h=>?_) (fun h=>?_)<;>(try exact g_f))|((first|refine g_g ?_|refine g_U ?_|refine (hW _).use ?_|refine g_q (fun τ=>hpc _) ?_|refine (hN _).use ?_);(try simp -implicitDefEqProofs only[go_sem,h3,h4,hpn]))|(refine hK _ _ ?_;clear hK K)|fail))
      have hJ:=hK;clear hK;refine ay e (fun _ r _=>(e.any fun x => !inR x 1 n)=r.any fun x => !inR x 1 n) (fun q _ _=>[(29,ab q)]) (fun _ _ τ=>σ++(.dead::τ)) () [] rfl rfl (ai ?_) ?_ ?_
      ·exact g_w
      ·rintro q r _ τ hq0 hq1 h5 L hL;obtain⟨v,hv⟩:∃v,at0 e q=v:=⟨_,rfl⟩;rw[hv,List.any_cons] at h5;have hW2:=dB v 1 n;simp -implicitDefEqProofs only[go_sem]
       cases hin2:inR v 1 n
       ·rw[hin2] at hW2 h5
        (repeat' (first|(refine g_s fun K hK=>?_)|(refine g_b ?_)|(refine g_k ?_;simp only[ah,ae])|(refine g_C (fun h=>?_) (fun h=>?_)<;>(try exact g_f))|((first|refine g_t ?_|refine g_g ?_|refine (hW2 _).use ?_);(try simp -implicitDefEqProofs only[go_sem,hv]))|(refine hK _ _ ?_;clear hK K)|(with_reducible refine And.intro ?_ ?_;· exact g_x)|fail))
        refine ax rfl ?_;rw[h5,Bool.not_false,Bool.true_or,if_pos rfl]
       ·rw[hin2] at hW2 h5
        (repeat' (first|(refine g_s fun K hK=>?_)|(refine g_b ?_)|(refine g_k ?_;simp only[ah,ae])|(refine g_C (fun h=>?_) (fun h=>?_)<;>(try exact g_f))|((first|refine g_g ?_|refine (hW2 _).use ?_);(try simp -implicitDefEqProofs only[go_sem,hv]))|(refine hK _ _ ?_;clear hK K)|(with_reducible refine And.intro ?_ ?_;· exact g_x)|fail))
        refine hL () τ _ _ (by rw[h5,Bool.not_true,Bool.false_or]) (ai ?_) rfl
        simp -implicitDefEqProofs only[go_sem]
      ·rintro q _ τ hq h5 L;simp -implicitDefEqProofs only[go_sem]
       (repeat' (first|(refine g_s fun K hK=>?_)|(refine g_e ?_;simp only[ah,ae,↓reduceIte,Nat.reduceEqDiff])|(refine g_C (fun h=>?_) (fun h=>?_)<;>(try exact g_f))|(refine g_g ?_;(try refine g_y ?_))|(refine hK _ _ ?_;clear hK K)|exact trivial|fail))
       refine hJ _ _ ?_;clear hJ
       (repeat' (first|(refine g_s fun K hK=>?_)|(refine g_b ?_)|(refine g_k ?_;simp only[ah,ae])|(refine g_C (fun h=>?_) (fun h=>?_)<;>(try exact g_f))|((first|refine g_t ?_|refine g_g ?_|refine (hS _).use ?_);(try simp -implicitDefEqProofs only[go_sem,h3,h4]))|(refine hK _ _ ?_;clear hK K)|fail))
       refine ax rfl ?_;rw[h5,List.any_nil,if_neg (by decide)]
  ·rw[if_pos hpn];have hW:=fun S=>dB k 1 4 S;rw[hk4] at hW;refine g_n Tryz.func130 rfl Tryz.results130 Tryz.ntmps130 ?_;refine g_s fun K hK=>?_;refine g_h ?_;refine hK _ _ ?_;clear hK K;refine g_0 1 rfl ?_
   (repeat' (first|(refine g_s fun K hK=>?_)|(refine g_b ?_)|(refine g_C (fun h=>?_) (fun h=>?_)<;>(try exact g_f))|((first|refine g_t ?_|refine g_g ?_|refine g_U ?_|refine (hW _).use ?_|refine g_q (fun τ=>hpc _) ?_);(try simp -implicitDefEqProofs only[go_sem,hpn]))|(refine hK _ _ ?_;clear hK K)|fail))
   exact ax rfl rfl
 ·have hk0:inR k 1 4=false:=by simpa using hk4
  have hW:=fun S=>dB k 1 4 S;rw[hk0] at hW;rw[hk0,if_pos (by decide)]
  refine g_n Tryz.func130 rfl Tryz.results130 Tryz.ntmps130 ?_
  (repeat' (first|(refine g_s fun K hK=>?_)|(refine g_b ?_)|(refine g_C (fun h=>?_) (fun h=>?_)<;>(try exact g_f))|((first|refine g_t ?_|refine g_g ?_|refine (hW _).use ?_);(try refine g_y ?_))|(refine hK _ _ ?_;clear hK K)|exact trivial|fail))
  exact ax rfl rfl
end Go.Proofs.YtephecognbbaoaaGreat
namespace Go.Proofs.YtephecognbbaoaaGreat
theorem Ff {X:Type} [Inhabited X] {Y:Type} (h:X→Y) (l:List X):((ints l.length).map fun i=>h (at0 l i))=l.map h:=by
 apply List.ext_getElem
 ·rw[List.length_map,List.length_map,ao];omega
 ·intro i h1 h2;rw[List.length_map] at h2;simp [ints,at0,List.getD_eq_getElem?_getD,h2]
def yX (S:aa) (lo:Nat) (r:AV) (A:Alg):Prop:=∃ids a,r = .agg [ab A.size,aL A.best,a]∧cT S lo A.size.toNat ids a A.edges
theorem Av:dV Tryz.prog 43=true:=by kernel_rfl
theorem Dj:bA Tryz.prog 43=none:=by kernel_rfl
theorem BK:(Tryz.prog.info? 43).isSome=true:=by kernel_rfl
theorem Aw:Tryz.prog.cellsOf 43=1:=by kernel_rfl
theorem BJ:bY Tryz.prog 43=some [.c .nilFunc]:=by kernel_rfl
attribute [go_sem] Av Dj BK Aw BJ
theorem sE {σ X Y:aa} {c k:Nat} (hc:σ.length+k≤c) (hX:X.drop k=Y.drop k):(σ++X)[c]? = (σ++Y)[c]? := by
 rw[List.getElem?_append_right (by omega),List.getElem?_append_right (by omega)]
 have e:c-σ.length=k+(c-σ.length-k):=by omega
 rw[e,←List.getElem?_drop,←List.getElem?_drop,hX]
theorem cT.skip {σ X Y:aa} {lo w k:Nat} {ids:List Nat} {a:AV} {M:List (List Int)} (h:cT (σ++X) lo w ids a M) (hlo:σ.length+k≤lo) (hX:X.drop k=Y.drop k):cT (σ++Y) σ.length w ids a M:=
 h.congr (by omega) fun c hc o ho=>by rw[←sE (Nat.le_trans hlo (h.lt c hc).2) hX];exact ho
theorem D9 (x a:Int) (h:I64 (a+x)) (σ:aa):af Tryz.prog 106 [ab x,ab a] σ fun r σ'=>σ'=σ∧r=ab (a+x):=by
 refine g_n Tryz.func106 rfl Tryz.results106 Tryz.ntmps106 ?_
 (repeat' (first|(refine g_s fun K hK=>?_)|((first|refine g_t ?_|refine g_g ?_);(try refine g_y ?_))|(refine hK _ _ ?_;clear hK K)|(with_reducible refine And.intro ?_ ?_;· exact g_x)|exact trivial|fail))
theorem D8 (x a:Int) (σ:aa):af Tryz.prog 107 [ab x,ab a] σ fun r σ'=>σ'=σ∧r=ab (max a x):=by
 refine g_n Tryz.func107 rfl Tryz.results107 Tryz.ntmps107 ?_
 (repeat' (first|(refine g_s fun K hK=>?_)|((first|refine g_t ?_|refine g_g ?_);(try refine g_y ?_))|(refine hK _ _ ?_;clear hK K)|exact trivial|fail))
theorem Do (x a:Int) (σ:aa):af Tryz.prog 135 [ab x,ab a] σ fun r σ'=>σ'=σ∧r=ab (min x a):=by
 refine g_n Tryz.func135 rfl Tryz.results135 Tryz.ntmps135 ?_
 (repeat' (first|(refine g_s fun K hK=>?_)|((first|refine g_t ?_|refine g_g ?_);(try refine g_y ?_))|(refine hK _ _ ?_;clear hK K)|exact trivial|fail))
theorem Dn (n k i a:Int) (e:List Int) (ps:List Pl) (f:FuncId) (F:Int→Int→Int) (hn:1≤n∧n≤22) (hi0:0≤i) (hi1:i<e.length) (ha:0≤a∧a<n+2) (hok:aw Tryz.prog f=true)
  (hF:a≠n+1→∀S,af Tryz.prog f [ab (at0 e i),ab a] S fun r S'=>S'=S∧r=ab (F (at0 e i) a)) (σ:aa) :
  af Tryz.prog 136 [ab i,ab a,.cp [ab (n+2)] 0,.cp [.fn f [] []] 0,.cp (plC (.mk k n e ps)) 0] σ fun r σ'=>σ'=σ∧r=ab (if a=n+1 then a else min (F (at0 e i) a) (n+1)):=by
 have h1:n+2-1=n+1:=by omega
 have h2:I64 (n+2-1):=by unfold I64;omega
 have h3:I64 (n+1):=by unfold I64;omega
 rw[a7];refine af.cutX ?_
 by_cases hl:a=n+1
 ·rw[if_pos hl];refine g_n Tryz.func136 rfl Tryz.results136 Tryz.ntmps136 ?_
  (repeat' (first|(refine g_s fun K hK=>?_)|(refine g_C (fun h=>?_) (fun h=>?_)<;>(try exact g_f))|((first|refine g_t ?_|refine g_g ?_);(try simp -implicitDefEqProofs only[go_sem,h1,h2,h3]))|(refine hK _ _ ?_;clear hK K)|fail))
  exact ax (τ:=[]) (by simp) rfl
 ·rw[if_neg hl];have hF:=hF hl;refine g_n Tryz.func136 rfl Tryz.results136 Tryz.ntmps136 ?_
  (repeat' (first|(refine g_s fun K hK=>?_)|(refine g_k ?_;simp only[ah,ae])|(refine g_C (fun h=>?_) (fun h=>?_)<;>(try exact g_f))|((first|refine g_t ?_|refine g_g ?_|refine g_U ?_|refine g_q (fun τ=>hF _) ?_);(try simp -implicitDefEqProofs only[go_sem,h1,h2,h3]))|(refine hK _ _ ?_;clear hK K)|(with_reducible refine And.intro ?_ ?_;· exact g_x)|fail))
  exact ax (τ:=[]) (by simp) rfl
end Go.Proofs.YtephecognbbaoaaGreat
namespace Go.Proofs.YtephecognbbaoaaGreat
theorem ce.best_len {a:Alg} (h:ce a) {i:Int} (h0:0≤i) (h1:i<a.size):((at0 a.best i).length:Int)=a.size:=
 h.row _ (List.mem_append_left _ (aA a.best h0 (by have:=h.bl;omega)))
theorem ce.edge_len {a:Alg} (h:ce a) {i:Int} (h0:0≤i) (h1:i<a.edges.length):((at0 a.edges i).length:Int)=a.size:=
 h.row _ (List.mem_append_right _ (aA a.edges h0 h1))
theorem iD {x y:Alg} (fx:ce x) (fy:ce y):1≤(x.size-1)*(y.size-1)∧(x.size-1)*(y.size-1)≤529:=by
 have h1:=fx.s2;have h2:=fx.s24;have h3:=fy.s2;have h4:=fy.s24;exact⟨(d9 fx fy).last,(xK ⟨h1,h2⟩ ⟨h3,h4⟩).2⟩
theorem ya (x y:Alg) (fx:ce x) (fy:ce y) (p q:Int) (p0:0≤p) (p1:p<x.size) (q0:0≤q) (q1:q<y.size) (σ:aa) :
  af Tryz.prog 137 [ab p,ab q,.cp (aS x) 0,.cp [ab (y.size-1)] 0,.cp [ab ((x.size-1)*(y.size-1))] 0] σ fun r σ'=>σ'=σ∧r=ab (eV x y p q):=by
 have hN:=iD fx fy;have h2:=fx.s2;have h24:=fx.s24;have y2:=fy.s2;have hok:=d9 fx fy;rw[eV];have hmul:p≠x.size-1→q≠y.size-1→0≤p*(y.size-1)∧p*(y.size-1)+q<(x.size-1)*(y.size-1):=fun a b=>by
  have:=hok.mul p0 (by omega) q0 (by omega)
  have h1:0≤p*(y.size-1):=Int.mul_nonneg p0 (by omega)
  omega
 obtain⟨L,hL⟩:∃L,(x.size-1)*(y.size-1)=L:=⟨_,rfl⟩;rw[hL] at hN hmul ⊢;obtain⟨m,hm⟩:∃m,y.size-1=m:=⟨_,rfl⟩;obtain⟨pm,hpm⟩:∃pm,p*m=pm:=⟨_,rfl⟩;rw[hm] at hmul ⊢;rw[hpm] at hmul ⊢;have i1:I64 (x.size-1):=by unfold I64;omega
 refine af.cutX ?_
 by_cases hp:p=x.size-1
 ·rw[if_pos (Or.inl hp)];refine g_n Tryz.func137 rfl Tryz.results137 Tryz.ntmps137 ?_
  (repeat' (first|(refine g_s fun K hK=>?_)|(refine g_C (fun h=>?_) (fun h=>?_)<;>(try exact g_f))|((first|refine g_t ?_|refine g_g ?_);(try simp -implicitDefEqProofs only[go_sem,i1]))|(refine hK _ _ ?_;clear hK K)|(with_reducible refine ak (fun h=>?_) (fun h=>?_)<;>(try simp only[go_sem] at h)<;>(try exact g_f)<;>(try simp -implicitDefEqProofs only[go_sem,i1]))|fail))
  exact ax (τ:=[]) (by simp) rfl
 ·by_cases hq:q=m
  ·rw[if_pos (Or.inr hq)];refine g_n Tryz.func137 rfl Tryz.results137 Tryz.ntmps137 ?_
   (repeat' (first|(refine g_s fun K hK=>?_)|(refine g_C (fun h=>?_) (fun h=>?_)<;>(try exact g_f))|((first|refine g_t ?_|refine g_g ?_);(try simp -implicitDefEqProofs only[go_sem,i1]))|(refine hK _ _ ?_;clear hK K)|(with_reducible refine ak (fun h=>?_) (fun h=>?_)<;>(try simp only[go_sem] at h)<;>(try exact g_f)<;>(try simp -implicitDefEqProofs only[go_sem,i1]))|fail))
   exact ax (τ:=[]) (by simp) rfl
  ·rw[if_neg (by rw[not_or];exact⟨hp,hq⟩)]
   have h:=hmul hp hq;have i2:I64 pm:=by unfold I64;omega
   have i3:I64 (pm+q):=by unfold I64;omega
   refine g_n Tryz.func137 rfl Tryz.results137 Tryz.ntmps137 ?_
   (repeat' (first|(refine g_s fun K hK=>?_)|(refine g_k ?_;simp only[ah,ae])|(refine g_C (fun h=>?_) (fun h=>?_)<;>(try exact g_f))|((first|refine g_t ?_|refine g_g ?_);(try simp -implicitDefEqProofs only[go_sem,i1,hpm,i2,i3]))|(refine hK _ _ ?_;clear hK K)|(with_reducible refine ak (fun h=>?_) (fun h=>?_)<;>(try simp only[go_sem] at h)<;>(try exact g_f)<;>(try simp -implicitDefEqProofs only[go_sem,i1,hpm,i2,i3]))|fail))
   exact ax (τ:=[]) (by simp) rfl
theorem DC (x y:Alg) (fx:ce x) (fy:ce y) (i k:Int) (i0:0≤i) (i1:i<(x.size-1)*(y.size-1)+1) (k0:0≤k) (k1:k<(x.size-1)*(y.size-1)+1) (σ:aa) :
  af Tryz.prog 138 [ab i,ab k,.cp [ab ((x.size-1)*(y.size-1))] 0,.cp [ab (y.size-1)] 0,.cp [.fn 137 [] [.cp (aS x) 0,.cp [ab (y.size-1)] 0,.cp [ab ((x.size-1)*(y.size-1))] 0]] 0,.cp (aS y) 0,.cp (aS x) 0] σ
   fun r σ'=>σ'=σ∧r=ab (bf x y i k):=by
 have hN:=iD fx fy;have x2:=fx.s2;have x24:=fx.s24;have y2:=fy.s2;have y24:=fy.s24;have xb:=fx.bl;have yb:=fy.bl;have hok:=d9 fx fy;have hok1:aw Tryz.prog 137=true:=by kernel_rfl
 have hdi:=fun h=>hok.div (i:=i) i0 h;have hdk:=fun h=>hok.div (i:=k) k0 h;have hmi:=hok.mod (i:=i);have hmk:=hok.mod (i:=k);have hP:=ya x y fx fy;have ti:i.tdiv (y.size-1)=i / (y.size-1):=Int.tdiv_eq_ediv_of_nonneg i0;have tk:k.tdiv (y.size-1)=k / (y.size-1):=Int.tdiv_eq_ediv_of_nonneg k0;have ri:i.tmod (y.size-1)=i % (y.size-1):=Int.tmod_eq_emod_of_nonneg i0;have rk:k.tmod (y.size-1)=k % (y.size-1):=Int.tmod_eq_emod_of_nonneg k0;rw[bf];obtain⟨L,hL⟩:∃L,(x.size-1)*(y.size-1)=L:=⟨_,rfl⟩;rw[hL] at hN hP hdi hdk i1 k1 ⊢;have hbl:=fun {j} => fx.best_len (i:=j);have hybl:=fun {j} => fy.best_len (i:=j);have hyin:=fun {i j} => fy.best_in (i:=i) (j:=j);obtain⟨m,hm⟩:∃m,y.size-1=m:=⟨_,rfl⟩;rw[hm] at hP hdi hdk hmi hmk ti tk ri rk ⊢;obtain⟨a,ha⟩:∃a,i / m=a:=⟨_,rfl⟩;obtain⟨b,hb⟩:∃b,i % m=b:=⟨_,rfl⟩;obtain⟨c,hc⟩:∃c,k / m=c:=⟨_,rfl⟩;obtain⟨d,hd⟩:∃d,k % m=d:=⟨_,rfl⟩;rw[ha] at hdi ti ⊢;rw[hb] at hmi ri ⊢;rw[hc] at hdk tk ⊢;rw[hd] at hmk rk ⊢;refine af.cutX ?_
 by_cases hiL:i=L
 ·rw[if_pos hiL];refine g_n Tryz.func138 rfl Tryz.results138 Tryz.ntmps138 ?_
  (repeat' (first|(refine g_s fun K hK=>?_)|(refine g_b ?_)|(refine g_C (fun h=>?_) (fun h=>?_)<;>(try exact g_f))|((first|refine g_t ?_|refine g_g ?_);(try simp -implicitDefEqProofs only[go_sem,hiL]))|(refine hK _ _ ?_;clear hK K)|fail))
  exact ax (τ:=[]) (by simp) rfl
 rw[if_neg hiL]
 by_cases hkL:k=L
 ·rw[if_pos hkL];refine g_n Tryz.func138 rfl Tryz.results138 Tryz.ntmps138 ?_
  (repeat' (first|(refine g_s fun K hK=>?_)|(refine g_b ?_)|(refine g_C (fun h=>?_) (fun h=>?_)<;>(try exact g_f))|((first|refine g_t ?_|refine g_g ?_);(try simp -implicitDefEqProofs only[go_sem,hiL,hkL]))|(refine hK _ _ ?_;clear hK K)|fail))
  exact ax (τ:=[]) (by simp) rfl
 rw[if_neg hkL];have hdi:=hdi (by omega)
 have hdk:=hdk (by omega)
 have hm0:¬m=0:=by omega
 have hbx:=hbl hdi.1 (by omega)
 have hby:=hybl hmi.1 (by omega)
 have ia:I64 a:=by unfold I64;omega
 have ic:I64 c:=by unfold I64;omega
 by_cases hac:a=c
 ·rw[if_pos hac];have hin:=hyin hmi.1 (by omega) hmk.1 (by omega)
  have hP:=hP a (at2 y.best b d) hdi.1 (by omega) hin.1 hin.2
  have e2:at2 y.best b d=at0 (at0 y.best b) d:=rfl;rw[e2] at hP ⊢;refine g_n Tryz.func138 rfl Tryz.results138 Tryz.ntmps138 ?_
  (repeat' (first|(refine g_s fun K hK=>?_)|(refine g_b ?_)|(refine g_C (fun h=>?_) (fun h=>?_)<;>(try exact g_f))|((first|refine g_t ?_|refine g_g ?_|refine g_U ?_|refine g_q (fun τ=>hP _) ?_);(try simp -implicitDefEqProofs only[go_sem,hiL,hkL,ti,tk,ri,rk,hm0,ia,ic,hok1]))|(refine hK _ _ ?_;clear hK K)|(with_reducible refine And.intro ?_ ?_;· exact g_x)|fail))
  exact ax (τ:=[]) (by simp) rfl
 ·rw[if_neg hac];have e2:at2 x.best a c=at0 (at0 x.best a) c:=rfl;rw[e2]
  by_cases hx:at0 (at0 x.best a) c=a
  ·rw[if_pos hx];refine g_n Tryz.func138 rfl Tryz.results138 Tryz.ntmps138 ?_
   (repeat' (first|(refine g_s fun K hK=>?_)|(refine g_b ?_)|(refine g_C (fun h=>?_) (fun h=>?_)<;>(try exact g_f))|((first|refine g_t ?_|refine g_g ?_|refine g_U ?_);(try simp -implicitDefEqProofs only[go_sem,hiL,hkL,ti,tk,ri,rk,hm0,ia,ic,hx]))|(refine hK _ _ ?_;clear hK K)|(with_reducible refine And.intro ?_ ?_;· exact g_x)|fail))
   exact ax (τ:=[]) (by simp) rfl
  ·rw[if_neg hx];refine g_n Tryz.func138 rfl Tryz.results138 Tryz.ntmps138 ?_
   (repeat' (first|(refine g_s fun K hK=>?_)|(refine g_b ?_)|(refine g_k ?_;simp only[ah,ae])|(refine g_C (fun h=>?_) (fun h=>?_)<;>(try exact g_f))|((first|refine g_t ?_|refine g_g ?_|refine g_U ?_);(try simp -implicitDefEqProofs only[go_sem,hiL,hkL,ti,tk,ri,rk,hm0,ia,ic]))|(refine hK _ _ ?_;clear hK K)|(with_reducible refine And.intro ?_ ?_;· exact g_x)|fail))
   exact ax (τ:=[]) (by simp) rfl
theorem DB (x y:Alg) (fx:ce x) (fy:ce y) (he:x.edges.length=y.edges.length) (e k:Int) (e0:0≤e) (e1:e<x.edges.length) (k0:0≤k) (k1:k<(x.size-1)*(y.size-1)+1) (σ:aa) :
  af Tryz.prog 139 [ab e,ab k,.cp [ab ((x.size-1)*(y.size-1))] 0,.cp [.fn 137 [] [.cp (aS x) 0,.cp [ab (y.size-1)] 0,.cp [ab ((x.size-1)*(y.size-1))] 0]] 0,.cp (aS x) 0,.cp [ab (y.size-1)] 0,.cp (aS y) 0] σ
   fun r σ'=>σ'=σ∧r=ab (cx x y e k):=by
 have hN:=iD fx fy;have x2:=fx.s2;have x24:=fx.s24;have y2:=fy.s2;have y24:=fy.s24;have hok:=d9 fx fy;have hok1:aw Tryz.prog 137=true:=by kernel_rfl
 have hdk:=fun h=>hok.div (i:=k) k0 h;have hmk:=hok.mod (i:=k);have hP:=ya x y fx fy;have tk:k.tdiv (y.size-1)=k / (y.size-1):=Int.tdiv_eq_ediv_of_nonneg k0;have rk:k.tmod (y.size-1)=k % (y.size-1):=Int.tmod_eq_emod_of_nonneg k0;rw[cx];obtain⟨L,hL⟩:∃L,(x.size-1)*(y.size-1)=L:=⟨_,rfl⟩;rw[hL] at hN hP hdk k1 ⊢;have hxe:=fx.edge_len e0 e1;have hye:=fy.edge_len e0 (by omega)
 have hxin:=fun {j} => fx.edge_in (j:=j) e0 e1;have hyin:=fun {j} => fy.edge_in (j:=j) e0 (by omega)
 obtain⟨m,hm⟩:∃m,y.size-1=m:=⟨_,rfl⟩;rw[hm] at hP hdk hmk tk rk ⊢;obtain⟨c,hc⟩:∃c,k / m=c:=⟨_,rfl⟩;obtain⟨d,hd⟩:∃d,k % m=d:=⟨_,rfl⟩;rw[hc] at hdk tk ⊢;rw[hd] at hmk rk ⊢;refine af.cutX ?_
 by_cases hkL:k=L
 ·rw[if_pos hkL];refine g_n Tryz.func139 rfl Tryz.results139 Tryz.ntmps139 ?_
  (repeat' (first|(refine g_s fun K hK=>?_)|(refine g_C (fun h=>?_) (fun h=>?_)<;>(try exact g_f))|((first|refine g_t ?_|refine g_g ?_);(try simp -implicitDefEqProofs only[go_sem,hkL]))|(refine hK _ _ ?_;clear hK K)|fail))
  exact ax (τ:=[]) (by simp) rfl
 rw[if_neg hkL];have hdk:=hdk (by omega)
 have hm0:¬m=0:=by omega
 have ic:I64 c:=by unfold I64;omega
 have h1:=hxin (j:=c) hdk.1 (by omega)
 have h2:=hyin (j:=d) hmk.1 (by omega)
 have hP:=hP (at2 x.edges e c) (at2 y.edges e d) h1.1 h1.2 h2.1 h2.2;have e2:at2 x.edges e c=at0 (at0 x.edges e) c:=rfl;have e3:at2 y.edges e d=at0 (at0 y.edges e) d:=rfl;rw[e2,e3] at hP ⊢;refine g_n Tryz.func139 rfl Tryz.results139 Tryz.ntmps139 ?_
 (repeat' (first|(refine g_s fun K hK=>?_)|(refine g_k ?_;simp only[ah,ae])|(refine g_C (fun h=>?_) (fun h=>?_)<;>(try exact g_f))|((first|refine g_t ?_|refine g_g ?_|refine g_U ?_|refine g_q (fun τ=>hP _) ?_);(try simp -implicitDefEqProofs only[go_sem,hkL,tk,rk,hm0,ic,hok1]))|(refine hK _ _ ?_;clear hK K)|(with_reducible refine And.intro ?_ ?_;· exact g_x)|fail))
 exact ax (τ:=[]) (by simp) rfl
end Go.Proofs.YtephecognbbaoaaGreat
namespace Go.Proofs.YtephecognbbaoaaGreat
theorem E1 {x:Int} (h0:0≤x) (h1:x<9223372036854775808):IntKind.i64.wrap ((BitVec.ofInt 64 x &&& BitVec.ofInt 64 1).toNat:Nat)=x % 2:=by
 have e:((BitVec.ofInt 64 x &&& BitVec.ofInt 64 1).toNat:Nat)=x.toNat % 2:=by
  rw[BitVec.toNat_and,BitVec.toNat_ofInt,BitVec.toNat_ofInt];have a:(x % ((2 ^ 64:Nat):Int)).toNat=x.toNat:=by
   have:((2 ^ 64:Nat):Int)=18446744073709551616:=rfl;rw[this,Int.emod_eq_of_lt h0 (by omega)]
  have b:((1:Int) % ((2 ^ 64:Nat):Int)).toNat=1:=by decide
  rw[a,b,Nat.and_one_is_mod]
 rw[e,gm (by unfold I64;omega)]
 omega
theorem CF {v k:Int} : my v k=decide ((v / 2 ^ k.toNat) % 2=1):=rfl
theorem cT.parts {S:aa} {lo w:Nat} {ids:List Nat} {a:AV} {M:List (List Int)} (h:cT S lo w ids a M) (hM:M≠[]):∃b q,ids=b::q∧a = .own b 1 0 M.length M.length∧S[b]? = some (.cells 1 (q.map (be w)))∧q.length=M.length∧(b::q).Nodup∧lo≤b∧aQ S lo q M:=by
 rcases h.2 with ⟨e,_⟩|⟨b,q,h1,h2,h3,h4,h5,h6,h7⟩
 ·exact absurd e hM
 ·exact⟨b,q,h1,h4,h6,h7.1,h1▸h2,h5,h7⟩
theorem aQ.put {S:aa} {lo:Nat} {b:Nat} {q:List Nat} {M:List (List Int)} {o:Ob} (hb:S[b]? = some o) (hn:(b::q).Nodup) (hr:aQ S lo q M)
  {i:Nat} (hi:i<M.length) (hi2:i<q.length) (r:List Int):(S.set q[i] (.cells 1 (r.map au)))[b]? = some o∧aQ (S.set q[i] (.cells 1 (r.map au))) lo q (M.set i r):=by
 rw[List.nodup_cons] at hn;refine⟨?_,by rw[List.length_set];exact hr.1,fun j h1 h2=>?_⟩
 ·rw[List.getElem?_set_ne (fun e=>hn.1 (by rw[←e];exact List.getElem_mem hi2))]
  exact hb
 ·rw[List.length_set] at h2;have hj:=hr.2 j h1 h2;refine⟨hj.1,?_⟩
  by_cases e:j=i
  ·subst e;rw[List.getElem_set_self,List.getElem?_set_self (List.getElem?_eq_some_iff.1 hj.2).1]
  ·rw[List.getElem_set_ne (fun h=>e h.symm),List.getElem?_set_ne (fun h=>e ((List.getElem_inj hn.2).1 h).symm)];exact hj.2
theorem yQ {X:Type} [Inhabited X] (l:List X) {k q:Int} (v:X) (h0:0≤k) (hq:0≤q) (h:k<l.length):at0 (l.set k.toNat v) q=if q=k then v else at0 l q:=by
 simp only[at0,List.getD_eq_getElem?_getD,List.getElem?_set]
 by_cases e:q=k
 ·subst e;have:q.toNat<l.length:=by omega
  simp [this]
 ·have:¬k.toNat=q.toNat:=by omega
  simp [this,e]
def dK (s:Int) (e:List Int) (E M:List (List Int)) (i k:Int):Prop:=
 M.length=E.length∧(∀r∈M,r.length=s.toNat)∧∀p q:Int,0≤p→p<E.length→0≤q→q<s→at2 M p q=if (p<i∨(p=i∧q<k))∧my (at0 e p) q=true then s-1 else at2 E p q
theorem dK.next {s i:Int} {e:List Int} {E M:List (List Int)} (h:dK s e E M i s):dK s e E M (i+1) 0:=⟨h.1,h.2.1,fun p q p0 p1 q0 q1=>by
 rw[h.2.2 p q p0 p1 q0 q1];have:(p<i∨(p=i∧q<s))↔(p<i+1∨(p=i+1∧q<0)):=by omega
 simp only[this]⟩
theorem dK.skip {s i k:Int} {e:List Int} {E M:List (List Int)} (h:dK s e E M i k) (hb:¬my (at0 e i) k=true):dK s e E M i (k+1):=⟨h.1,h.2.1,fun p q p0 p1 q0 q1=>by
 rw[h.2.2 p q p0 p1 q0 q1]
 by_cases c:p=i∧q=k
 ·obtain⟨rfl,rfl⟩:=c;rw[if_neg (fun h=>hb h.2),if_neg (fun h=>hb h.2)]
 ·have:(p<i∨(p=i∧q<k))↔(p<i∨(p=i∧q<k+1)):=by omega
  simp only[this]⟩
theorem dK.put {s i k:Int} {e:List Int} {E M:List (List Int)} (h:dK s e E M i k) (hb:my (at0 e i) k=true) (i0:0≤i) (i1:i<E.length) (k0:0≤k) (k1:k<s):dK s e E (M.set i.toNat ((at0 M i).set k.toNat (s-1))) i (k+1):=by
 have hm:at0 M i∈M:=aA M i0 (by rw[h.1];exact i1)
 have hl:=h.2.1 _ hm;refine⟨by rw[List.length_set];exact h.1,fun r hr=>?_,fun p q p0 p1 q0 q1=>?_⟩
 ·rcases List.mem_or_eq_of_mem_set hr with h'|h'
  ·exact h.2.1 r h'
  ·rw[h',List.length_set];exact hl
 ·have hp:=h.2.2 p q p0 p1 q0 q1;unfold at2 at hp ⊢;rw[yQ M _ i0 p0 (by rw[h.1];exact i1)]
  by_cases e1:p=i
  ·subst e1;rw[if_pos rfl,yQ _ _ k0 q0 (by omega)]
   by_cases e2:q=k
   ·subst e2;rw[if_pos rfl,if_pos ⟨by omega,hb⟩]
   ·rw[if_neg e2,hp];have a1:(q<k)=(q<k+1):=propext (by omega)
    simp only[a1]
  ·rw[if_neg e1,hp];have:(p<i∨(p=i∧q<k))↔(p<i∨(p=i∧q<k+1)):=by omega
   simp only[this]
theorem dK.done {x:Alg} {e:List Int} {M:List (List Int)} (hf:ce x) (he:e.length=x.edges.length) (h:dK x.size e x.edges M e.length 0):M=(en e x).edges:=by
 have hs:=hf.s2;refine jO (by simp [en,ao,h.1,he]) fun p p0 p1=>?_
 have p2:p<x.edges.length:=by rw[←h.1];exact p1
 have hrow:at0 (en e x).edges p=ov x.size (at0 e p) (at0 x.edges p):=by
  unfold en;simp only;rw[Eb _ _ p0 (by rw[ao];omega),eH p0 (by omega)]
 rw[hrow];have hl:=h.2.1 _ (aA M p0 p1);refine jO (by rw[hl];simp [ov,ao]) fun q q0 q1=>?_
 have q2:q<x.size:=by omega
 have:=h.2.2 p q p0 p2 q0 q2;unfold at2 at this;rw[this];unfold ov;rw[iF _ q0 q2]
 by_cases hb:my (at0 e p) q=true
 ·rw[if_pos ⟨by omega,hb⟩,if_pos hb]
 ·rw[if_neg (fun h=>hb h.2),if_neg hb]
theorem dK.start {x:Alg} {e:List Int} (hf:ce x):dK x.size e x.edges x.edges 0 0:=⟨rfl,fun r hr=>by have:=hf.row r (List.mem_append_right _ hr);omega,fun p q p0 p1 q0 q1=>by rw[if_neg (by omega)]⟩
theorem cT.form {S:aa} {lo w:Nat} {ids:List Nat} {a:AV} {M:List (List Int)} (h:cT S lo w ids a M):a = .c (.slice none 0 0)∨∃b m,a = .own b 1 0 m m:=by
 rcases h.2 with ⟨_,e,_⟩|⟨b,q,_,_,_,e,_⟩
 ·exact .inl e
 ·exact .inr ⟨_,_,e⟩
theorem E2 {S:aa} {lo:Nat} {r:AV} {A:Alg} (h:yX S lo r A) {D:Nat→Prop} (hD:∀b,lo≤b→D b):bG S D r (.agg (aS A)):=by
 obtain⟨ids,a,rfl,h⟩:=h;exact .aggL (.cons (.same _) (.cons (.same _) (.cons (h.deep fun b hb=>hD b (h.lt b hb).2) .nil)))
end Go.Proofs.YtephecognbbaoaaGreat
