/- Plans are built, all of them. -/
import Derived.Test.YtephecognbbaoaaGreatZGf
import Derived.Test.YtephecognbbaoaaGreatZBp
import Derived.Test.YtephecognbbaoaaGreatZVs
import Derived.Test.YtephecognbbaoaaGreatZSr
import Derived.Test.YtephecognbbaoaaGreatZBm
import Derived.Test.YtephecognbbaoaaGreatZAj
open Go
set_option linter.all false
set_option maxRecDepth 100000
set_option maxHeartbeats 4000000
namespace Go.Proofs.YtephecognbbaoaaGreat
open Go
set_option linter.all false
set_option maxRecDepth 100000
set_option maxHeartbeats 4000000
theorem Al {S:aa} {lo:Nat} {r:AV} {A:Alg} (h:ng S lo r A) {D:Nat→Prop} (hD:∀b,lo≤b→D b):bG S D r (.agg (aS A)):=by
 obtain⟨ids,a,bi,bv,rfl,h,g,_⟩:=h;exact .aggL (.cons (.same _) (.cons (g.deep fun b hb=>hD b (g.lt b hb).2) (.cons (h.deep fun b hb=>hD b (h.lt b hb).2) .nil)))
theorem yO:∀(p:Pl),d8 p→bo p=0→cY p=false→∀σ:aa,af Tryz.prog 58 [.agg (plC p)] σ fun r σ'=>∃τ,σ'=σ++τ∧ng (σ++τ) σ.length r (aO p):=by
 refine Pl.ind fun k n e ps ih ok hc hw σ=>?_;have hBO:=(eS _ hc).form;have hel:=nL _ hc hw;obtain⟨hps,hcs⟩:=gJ hc
 cases ok with
 | mk _ _ _ _ hk hn he hev hpl hp=>
 rw[cY,Bool.or_eq_false_iff] at hw;have he8:e.length≤8:=by have:=of_decide_eq_false hw.1;omega
 have hwp:∀x∈ps,cY x=false:=by
  have h:=hw.2;clear hcs hps hp hpl ih hc hw hBO hel
  induction ps with
  | nil=>intro x hx;cases hx
  | cons y r ihr=>
   rw[wideL,Bool.or_eq_false_iff] at h;intro x hx
   rcases List.mem_cons.1 hx with rfl|hx
   ·exact h.1
   ·exact ihr h.2 x hx
 have ihC:∀x∈ps,∀S,af Tryz.prog 58 [.agg (plC x)] S fun r S'=>S'=S∧r = .agg (aS (aO x)):=fun x hx S=>
  af.deep ((ih x hx (hp x hx) (hps x hx) (hwp x hx) S).mono (by
   rintro r S' ⟨τ,e,h⟩;subst e;exact bL rfl (.aggL (.cons (.c _) (.cons (.rows _) (.cons (.rows _) .nil)))) (Al h fun b hb=>hb)))
 rcases hcs with ⟨rfl,rfl,hn2,hx⟩|⟨rfl,rfl,hn2,hx⟩|⟨rfl,rfl,rfl,x,y,rfl,hee,hss⟩|⟨rfl,rfl,x,rfl,hee,hx⟩
 ·have hB:aO (.mk 1 n e [])=co n e (fun x a=>a+x):=by rw[aO,if_pos rfl]
  have hS:=qQ n 1 e [] 106 (fun x a=>a+x) hn2 (by omega) (by kernel_rfl) (fun x hm a a0 a1 S=>D9 x a (by have:=hx x hm;unfold I64;omega) S)
  rw[hB];rw[a7] at hS ⊢;refine g_n Tryz.func58 rfl Tryz.results58 Tryz.ntmps58 ?_;refine g_s fun K hK=>?_;refine g_h ?_;refine hK _ _ ?_;clear hK K;refine g_0 1 rfl ?_
  (repeat' (first|(refine g_s fun K hK=>?_)|(refine g_b ?_)|(refine g_C (fun h=>?_) (fun h=>?_)<;>(try exact g_f))|(refine g_g ?_;(try refine g_y ?_))|(refine hK _ _ ?_;clear hK K)|exact trivial|fail))
  refine af.useX (hS _) ?_;rintro τ r ⟨ids,a,bi,bv,rfl,h,g,hd⟩;rw[List.append_assoc] at h g
  rcases h.form with rfl|⟨b,m,rfl⟩<;>rcases g.form with rfl|⟨b7,m7,rfl⟩
  all_goals simp -implicitDefEqProofs only[go_sem]
  all_goals (repeat' (first|(refine g_t ?_;(try refine g_y ?_))|(refine hK _ _ ?_;clear hK K)|exact trivial|fail))
  all_goals exact⟨_,rfl,ids,_,bi,_,rfl,h.skip (k:=2) (by simp) rfl,g.skip (k:=2) (by simp) rfl,hd⟩
 ·have hB:aO (.mk 2 n e [])=co n e (fun x a=>max a x):=by rw[aO,if_neg (by decide),if_pos rfl]
  have hS:=qQ n 2 e [] 107 (fun x a=>max a x) hn2 (by omega) (by kernel_rfl) (fun x hm a a0 a1 S=>D8 x a S)
  rw[hB];rw[a7] at hS ⊢;refine g_n Tryz.func58 rfl Tryz.results58 Tryz.ntmps58 ?_;refine g_s fun K hK=>?_;refine g_h ?_;refine hK _ _ ?_;clear hK K;refine g_0 1 rfl ?_
  (repeat' (first|(refine g_s fun K hK=>?_)|(refine g_b ?_)|(refine g_C (fun h=>?_) (fun h=>?_)<;>(try exact g_f))|(refine g_g ?_;(try refine g_y ?_))|(refine hK _ _ ?_;clear hK K)|exact trivial|fail))
  refine af.useX (hS _) ?_;rintro τ r ⟨ids,a,bi,bv,rfl,h,g,hd⟩;rw[List.append_assoc] at h g
  rcases h.form with rfl|⟨b,m,rfl⟩<;>rcases g.form with rfl|⟨b7,m7,rfl⟩
  all_goals simp -implicitDefEqProofs only[go_sem]
  all_goals (repeat' (first|(refine g_t ?_;(try refine g_y ?_))|(refine hK _ _ ?_;clear hK K)|exact trivial|fail))
  all_goals exact⟨_,rfl,ids,_,bi,_,rfl,h.skip (k:=2) (by simp) rfl,g.skip (k:=2) (by simp) rfl,hd⟩
 ·have hB:aO (.mk 3 0 [] [x,y])=dd (aO x) (aO y):=by rw[aO,if_neg (by decide),if_neg (by decide),if_pos rfl,fo];rfl
  rw[hB];have hox:=eS x (hps x (by simp))
  have hoy:=eS y (hps y (by simp))
  have hcx:=ihC x (by simp)
  have hcy:=ihC y (by simp)
  have hlx:=nL x (hps x (by simp)) (hwp x (by simp))
  have hS:=zy (aO x) (aO y) hox.form hoy.form (by have:=hox.edges;have:=hoy.edges;omega) (by rw[hox.size,hoy.size];exact hss) (by have:=hox.edges;omega)
  obtain⟨A,hA⟩:∃A,aO x=A:=⟨_,rfl⟩;obtain⟨B,hB2⟩:∃B,aO y=B:=⟨_,rfl⟩;rw[hA] at hcx hS ⊢;rw[hB2] at hcy hS ⊢;have hx0:at0 [x,y] 0=x:=rfl;have hy0:at0 [x,y] 1=y:=rfl;obtain⟨k',n',e',ps'⟩:=x;obtain⟨k'',n'',e'',ps''⟩:=y;rw[a7] at hcx hcy ⊢;refine g_n Tryz.func58 rfl Tryz.results58 Tryz.ntmps58 ?_;refine g_s fun K hK=>?_;refine g_h ?_;refine hK _ _ ?_;clear hK K;refine g_0 1 rfl ?_
  (repeat' (first|(refine g_s fun K hK=>?_)|(refine g_b ?_)|(refine g_C (fun h=>?_) (fun h=>?_)<;>(try exact g_f))|((first|refine g_G ?_|refine fT 10 a9 (by decide +kernel) ?_|refine g_q (fun τ=>hcx _) ?_|refine g_q (fun τ=>hcy _) ?_);(try simp -implicitDefEqProofs only[go_sem,hx0,hy0]))|(refine hK _ _ ?_;clear hK K)|fail))
  refine af.useX (hS _) ?_;rintro τ r ⟨ids,a,bi,bv,rfl,h,g,hd⟩;rw[List.append_assoc] at h g
  rcases h.form with rfl|⟨b,m,rfl⟩<;>rcases g.form with rfl|⟨b7,m7,rfl⟩
  all_goals simp -implicitDefEqProofs only[go_sem]
  all_goals (repeat' (first|(refine g_t ?_;(try refine g_y ?_))|(refine hK _ _ ?_;clear hK K)|exact trivial|fail))
  all_goals exact⟨_,rfl,ids,_,bi,_,rfl,h.skip (k:=2) (by simp) rfl,g.skip (k:=2) (by simp) rfl,hd⟩
 ·have hB:aO (.mk 4 0 e [x])=en e (aO x):=by rw[aO,if_neg (by decide),if_neg (by decide),if_neg (by decide),fo];rfl
  rw[hB];have hox:=eS x (hps x (by simp))
  have hix:=ih x (by simp) (hp x (by simp)) (hps x (by simp)) (hwp x (by simp))
  have hfx:=hox.form;have hes:e.length=(aO x).edges.length:=by have:=hox.edges;omega
  have hsz:=hox.size;obtain⟨A,hA⟩:∃A,aO x=A:=⟨_,rfl⟩;rw[hA] at hix hfx hes hsz ⊢;have hx0:at0 [x] 0=x:=rfl;rw[←hsz] at hx;obtain⟨k',n',e',ps'⟩:=x;rw[a7] at hix ⊢;refine g_n Tryz.func58 rfl Tryz.results58 Tryz.ntmps58 ?_;refine g_s fun K hK=>?_;refine g_h ?_;refine hK _ _ ?_;clear hK K;refine g_0 1 rfl ?_
  (repeat' (first|(refine g_s fun K hK=>?_)|(refine g_b ?_)|(refine g_k ?_;simp only[ah,ae])|(refine g_C (fun h=>?_) (fun h=>?_)<;>(try exact g_f))|(refine g_g ?_;(try simp -implicitDefEqProofs only[go_sem,hx0]))|(refine hK _ _ ?_;clear hK K)|fail))
  refine af.useX (hix _) ?_;rintro τ r ⟨ids,a,bi,bv,rfl,h,g,hd⟩;rw[List.append_assoc] at h g;have hbv:cw bv=true:=by rcases g.form with rfl|⟨b7,m7,rfl⟩<;>rfl
  have hbv2:=hbv;unfold cw at hbv2
  by_cases hM:A.edges=[]
  ·have he0:e=[]:=by rw[hM] at hes;exact List.eq_nil_of_length_eq_zero hes
   subst he0
   rcases h.2 with ⟨_,rfl,_⟩|⟨_,_,_,_,hne,_⟩
   ·simp -implicitDefEqProofs only[go_sem,hbv,hbv2]
    (repeat' (first|(refine g_s fun K hK=>?_)|(refine g_b ?_)|(refine g_g ?_;(try simp -implicitDefEqProofs only[go_sem,hx0,hbv,hbv2]))|(refine hK _ _ ?_;clear hK K)|fail))
    have hJ:=hK;clear hK;refine ay ([]:List Int) (fun _ _ _=>True) (fun k _ _=>[(38,ab k)]) (fun _ _ _=>σ++.dead::.cells 3 [[ab 0,.c (.slice none 0 0),.c (.slice none 0 0)]]::(τ++[.cells 3 [[ab A.size,bv,.c (.slice none 0 0)]]])) () [] trivial rfl (ai ?_) ?_ ?_
    ·exact g_w
    ·intro k r s τ2 h0 h1;simp at h1;omega
    ·rintro k _ τ2 hk _ L;simp -implicitDefEqProofs only[go_sem]
     (repeat' (first|(refine g_s fun K hK=>?_)|(refine g_e ?_;simp only[ah,ae,↓reduceIte,Nat.reduceEqDiff])|(refine g_C (fun h=>?_) (fun h=>?_)<;>(try exact g_f))|(refine g_g ?_;(try refine g_y ?_))|(refine hK _ _ ?_;clear hK K)|exact trivial|fail))
     refine hJ _ _ ?_;clear hJ
     (repeat' (first|(refine g_s fun K hK=>?_)|((first|refine g_t ?_|refine g_g ?_);(try simp -implicitDefEqProofs only[go_sem,hbv,hbv2]))|(refine hK _ _ ?_;clear hK K)|fail))
     exact⟨_,rfl,[],_,bi,bv,rfl,⟨fun r hr=>(by cases hr),.inl ⟨rfl,rfl,rfl⟩⟩,(by have g2:=g.congr (S':=_++[Ob.cells 3 [[ab A.size,bv,.c (.slice none 0 0)]]]) (Nat.le_refl _) fun b _ o ho=>az ho;simp only[List.append_assoc,List.cons_append,List.nil_append] at g2;exact g2.skip (k:=2) (by simp) rfl),fun x hx hc=>(by cases hc)⟩
   ·exact absurd hM hne
  ·obtain⟨b,q,rfl,rfl,hb,hql,hnd,hlo,hra⟩:=h.parts hM;have hA2:=hfx.s2;have hA24:=hfx.s24;have hst:=dK.start (e:=e) hfx;obtain⟨_,hp1,hp2,_⟩:=sy (s:=A.size) (by omega) (by omega)
   have hMw:=h.1;obtain⟨w,hwd⟩:∃w,A.size.toNat=w:=⟨_,rfl⟩;have hws:(w:Int)=A.size:=by omega
   rw[hwd] at hb hMw;simp only[List.length_append,List.length_cons,List.length_nil,Nat.zero_add] at hlo hra;have i1:I64 (A.size-1):=by unfold I64;omega
   simp -implicitDefEqProofs only[go_sem,hbv,hbv2]
   (repeat' (first|(refine g_s fun K hK=>?_)|(refine g_b ?_)|(refine g_g ?_;(try simp -implicitDefEqProofs only[go_sem,hx0,hbv,hbv2]))|(refine hK _ _ ?_;clear hK K)|fail))
   have hJ:=hK;clear hK;obtain⟨c2,hc2⟩:∃c2,Ob.cells 3 [[AV.c (Value.int IntKind.i64 0),AV.c (Value.slice none 0 0),AV.c (Value.slice none 0 0)]]=c2:=⟨_,rfl⟩;obtain⟨ml,hml⟩:∃ml,A.edges.length=ml:=⟨_,rfl⟩;have hbT:(σ++(.dead::c2::τ))[b]? = some (.cells 1 (q.map (be w))):=by rw[←hc2];exact hb
   have hrT:aQ (σ++(.dead::c2::τ)) (σ.length+2) q A.edges:=by rw[←hc2];exact hra
   have hbl:b<σ.length+2+τ.length:=by have:=(List.getElem?_eq_some_iff.1 hbT).1;simp at this;omega
   have hset:∀(T:aa) (p:Nat) (o:Ob),σ.length+2≤p→p<σ.length+2+T.length→∀X:aa,(σ++.dead::c2::(T++X)).set p o=σ++.dead::c2::(T.set (p-(σ.length+2)) o++X):=fun T p o h1 h2 X=>by
    obtain⟨d,rfl⟩:∃d,p=σ.length+(d+2):=⟨p-(σ.length+2),by omega⟩
    rw[List.set_append_right _ _ (by omega)]
    have e1:σ.length+(d+2)-σ.length=d+1+1:=by omega
    have e2:σ.length+(d+2)-(σ.length+2)=d:=by omega
    rw[e1,e2,List.set_cons_succ,List.set_cons_succ,List.set_append_left _ _ (by omega)]
   have hget:∀(T X:aa) (p:Nat) (o:Ob),(σ++(.dead::c2::T))[p]? = some o→(σ++.dead::c2::(T++X))[p]? = some o:=fun T X p o h=>by
    have e:σ++.dead::c2::(T++X)=(σ++(.dead::c2::T))++X:=by simp
    rw[e,List.getElem?_append_left (List.getElem?_eq_some_iff.1 h).1];exact h
   refine ay e (fun i _ (s:aa×List (List Int))=>s.1.length=τ.length∧dK A.size e A.edges s.2 i 0∧(σ++(.dead::c2::s.1))[b]? = some (.cells 1 (q.map (be w)))∧aQ (σ++(.dead::c2::s.1)) (σ.length+2) q s.2∧∀x∈bi,(σ++(.dead::c2::s.1))[x]? = (σ++(.dead::c2::τ))[x]?)
    (fun i _ _=>[(38,ab i)]) (fun _ s _=>σ++.dead::c2::(s.1++[.cells 3 [[ab A.size,bv,.own b 1 0 A.edges.length A.edges.length]]])) (τ,A.edges) [] ⟨rfl,hst,hbT,hrT,fun _ _=>rfl⟩ (by rw[←hc2];rfl) (ai ?_) ?_ ?_
   ·exact g_w
   ·rintro i r ⟨T,M⟩ τ9 hi0 hi1 ⟨g1,g2,g3,g4,g5⟩ L hL;have g1:T.length=τ.length:=g1;have hiA:i<A.edges.length:=by rw[←hes];exact hi1
    obtain⟨v,hv⟩:∃v,at0 e i=v:=⟨_,rfl⟩;have hvr:=hx _ (aA e hi0 hi1);rw[hv] at hvr;simp -implicitDefEqProofs only[go_sem]
    (repeat' (first|(refine g_s fun K hK=>?_)|(refine g_b ?_)|(refine g_k ?_;simp only[ah,ae])|(refine g_C (fun h=>?_) (fun h=>?_)<;>(try exact g_f))|(refine g_g ?_;(try simp -implicitDefEqProofs only[go_sem,hbv,hbv2,hv,g1.symm]))|(refine hK _ _ ?_;clear hK K)|(with_reducible refine And.intro ?_ ?_;· exact g_x)|fail))
    have g2:dK A.size e A.edges M i 0:=g2;have g3:(σ++(.dead::c2::T))[b]? = some (.cells 1 (q.map (be w))):=g3;have g4:aQ (σ++(.dead::c2::T)) (σ.length+2) q M:=g4;have hJ2:=hK;clear hK;refine ay (ints A.size) (fun k _ (s:aa×List (List Int))=>s.1.length=τ.length∧dK A.size e A.edges s.2 i k∧(σ++(.dead::c2::s.1))[b]? = some (.cells 1 (q.map (be w)))∧aQ (σ++(.dead::c2::s.1)) (σ.length+2) q s.2∧∀x∈bi,(σ++(.dead::c2::s.1))[x]? = (σ++(.dead::c2::τ))[x]?)
     (fun k _ _=>[(45,ab k)]) (fun _ s _=>σ++.dead::c2::(s.1++[.cells 3 [[ab A.size,bv,.own b 1 0 A.edges.length A.edges.length]]])) (T,M) [] ⟨g1,g2,g3,g4,g5⟩ rfl (ai ?_) ?_ ?_
    ·exact g_w
    ·rintro k r2 ⟨T1,M1⟩ τ8 hk0 hk1 ⟨f1,f2,f3,f4,f6⟩ L2 hL2;have f1:T1.length=τ.length:=f1;have f2:dK A.size e A.edges M1 i k:=f2;have f3:(σ++(.dead::c2::T1))[b]? = some (.cells 1 (q.map (be w))):=f3;have f4:aQ (σ++(.dead::c2::T1)) (σ.length+2) q M1:=f4;rw[ao] at hk1;have hkk:k<A.size:=by omega
     have hM1:=f2.1;have hiE:i.toNat<M1.length:=by omega
     have hiq:i.toNat<q.length:=by rw[f4.1];exact hiE
     have hpos:(0:Int)<2 ^ k.toNat:=Int.pow_pos (by decide)
     obtain⟨u,hu⟩:∃u,v / 2 ^ k.toNat=u:=⟨_,rfl⟩;have hu0:0≤u:=hu▸Int.ediv_nonneg hvr.1 (Int.le_of_lt hpos);have huv:u≤v:=hu▸Int.ediv_le_self _ hvr.1;have hmin:min k.toNat 64=k.toNat:=by omega
     have z1:v.fdiv (2 ^ min k.toNat 64)=u:=by rw[hmin,Int.fdiv_eq_ediv_of_nonneg _ (Int.le_of_lt hpos),hu]
     have z2:=E1 hu0 (by omega)
     have hbit:my (at0 e i) k=decide (u % 2=1):=by rw[hv,CF,hu]
     have hq2:=f4.2 i.toNat hiq hiE;obtain⟨qi,hqi⟩:∃qi,q[i.toNat]'hiq=qi:=⟨_,rfl⟩;rw[hqi] at hq2;have hrow:(q.map (be w))[i.toNat]? = some [.own qi 1 0 w w]:=by
      rw[List.getElem?_map,List.getElem?_eq_getElem hiq,hqi];rfl
     have hMr:M1[i.toNat]=at0 M1 i:=by simp [at0,List.getD_eq_getElem?_getD,hiE]
     obtain⟨row,hrw⟩:∃row,at0 M1 i=row:=⟨_,rfl⟩;rw[hMr,hrw] at hq2;have hrl:row.length=w:=by rw[←hrw,←hwd];exact f2.2.1 _ (aA M1 hi0 (by omega))
     have hgb:=hget T1 [.cells 3 [[.c (.int .i64 A.size),bv,.own b 1 0 A.edges.length A.edges.length]]] b _ f3;have hgq:=hget T1 [.cells 3 [[.c (.int .i64 A.size),bv,.own b 1 0 A.edges.length A.edges.length]]] qi _ hq2.2;have hgk:(row.map au)[k.toNat]? = some [.c (.int .i64 (at0 row k))]:=by
      have:k.toNat<row.length:=by omega
      simp [at0,List.getD_eq_getElem?_getD,this,au]
     have hsk:=tt row k.toNat (A.size-1);have hqlt:qi<σ.length+2+T1.length:=by have:=(List.getElem?_eq_some_iff.1 hq2.2).1;simp at this;omega
     have hst:=hset T1 qi (.cells 1 ((row.set k.toNat (A.size-1)).map au)) hq2.1 hqlt [.cells 3 [[.c (.int .i64 A.size),bv,.own b 1 0 A.edges.length A.edges.length]]];simp -implicitDefEqProofs only[go_sem];have f5:T.length=T1.length:=by omega
     (repeat' (first|(refine g_s fun K hK=>?_)|(refine g_b ?_)|(refine g_k ?_;simp only[ah,ae])|(refine g_C (fun h=>?_) (fun h=>?_)<;>(try exact g_f))|((first|refine g_g ?_|refine g_U ?_);(try simp -implicitDefEqProofs only[go_sem,hbv,hbv2,hv,hx0,z1,f5,hgb,hgq,hrow,hgk,hsk,i1]))|(refine hK _ _ ?_;clear hK K)|(with_reducible refine And.intro ?_ ?_;· exact g_x)|fail))
     ·have hb1:my (at0 e i) k=true:=by rw[hbit,←z2];exact decide_eq_true h
      have hput:=aQ.put f3 hnd f4 hiE hiq (row.set k.toNat (A.size-1));have hst0:=hset T1 qi (.cells 1 ((row.set k.toNat (A.size-1)).map au)) hq2.1 hqlt [];rw[List.append_nil,List.append_nil] at hst0;rw[hqi,hst0] at hput;have hfp:=f2.put hb1 hi0 hiA hk0 hkk;rw[hrw] at hfp;refine hL2 (T1.set (qi-(σ.length+2)) (.cells 1 ((row.set k.toNat (A.size-1)).map au)),M1.set i.toNat (row.set k.toNat (A.size-1))) τ8 _ _ ⟨by rw[List.length_set];exact f1,hfp,hput.1,hput.2,fun x hx=>by
       rw[←hst0,List.getElem?_set_ne (fun e=>hd x hx (by rw[←e,←hqi];exact List.mem_cons_of_mem _ (List.getElem_mem hiq)))]
       exact f6 x hx⟩ (ai ?_) hst.symm
      simp -implicitDefEqProofs only[go_sem,f5]
     ·have hb1:¬my (at0 e i) k=true:=by rw[hbit,←z2,decide_eq_true_eq];exact h
      refine hL2 (T1,M1) τ8 _ _ ⟨f1,f2.skip hb1,f3,f4,f6⟩ (ai ?_) rfl;simp -implicitDefEqProofs only[go_sem,f5]
    ·rintro k ⟨T1,M1⟩ τ8 hk ⟨f1,f2,f3,f4,f6⟩ L2;rw[ao] at hk;have f2:dK A.size e A.edges M1 i k:=f2;have hkA:k=A.size:=by omega
     rw[hkA] at f2;simp -implicitDefEqProofs only[go_sem]
     (repeat' (first|(refine g_s fun K hK=>?_)|(refine g_e ?_;simp only[ah,ae,↓reduceIte,Nat.reduceEqDiff])|(refine g_C (fun h=>?_) (fun h=>?_)<;>(try exact g_f))|(refine g_g ?_;(try refine g_y ?_))|(refine hK _ _ ?_;clear hK K)|exact trivial|fail))
     refine hJ2 _ _ ?_;clear hJ2
     (repeat' (first|(refine g_g ?_;(try refine g_y ?_))|(with_reducible refine And.intro ?_ ?_;· exact g_x)|exact trivial|fail))
     refine hL (T1,M1) τ8 _ _ ⟨f1,f2.next,f3,f4,f6⟩ (ai ?_) rfl;simp -implicitDefEqProofs only[go_sem,g1]
   ·rintro i ⟨T,M⟩ τ9 hi ⟨g1,g2,g3,g4,g5⟩ L;have g1:T.length=τ.length:=g1;have g2:dK A.size e A.edges M i 0:=g2;have g3:(σ++(.dead::c2::T))[b]? = some (.cells 1 (q.map (be w))):=g3;have g4:aQ (σ++(.dead::c2::T)) (σ.length+2) q M:=g4;rw[hi] at g2;have hMe:=g2.done hfx hes;have hMl:=g2.1;have hMr:=g2.2.1;subst hc2;simp -implicitDefEqProofs only[go_sem]
    (repeat' (first|(refine g_s fun K hK=>?_)|(refine g_e ?_;simp only[ah,ae,↓reduceIte,Nat.reduceEqDiff])|(refine g_C (fun h=>?_) (fun h=>?_)<;>(try exact g_f))|(refine g_g ?_;(try refine g_y ?_))|(refine hK _ _ ?_;clear hK K)|exact trivial|fail))
    refine hJ _ _ ?_;clear hJ
    (repeat' (first|(refine g_s fun K hK=>?_)|((first|refine g_t ?_|refine g_g ?_);(try simp -implicitDefEqProofs only[go_sem,g1.symm,hbv,hbv2]))|(refine hK _ _ ?_;clear hK K)|fail))
    have hfs:(en e A).size=A.size:=rfl;have hfb:(en e A).best=A.best:=rfl;refine⟨_,rfl,b::q,_,bi,bv,rfl,?_,?_,hd⟩
    rotate_left 1
    ·rw[hfs,hfb];have g5:∀x∈bi,(σ++(Ob.dead::Ob.cells 3 [[AV.c (Value.int IntKind.i64 0),AV.c (Value.slice none 0 0),AV.c (Value.slice none 0 0)]]::T))[x]? = (σ++(Ob.dead::Ob.cells 3 [[AV.c (Value.int IntKind.i64 0),AV.c (Value.slice none 0 0),AV.c (Value.slice none 0 0)]]::τ))[x]? := g5;refine g.congr (by simp) fun c hc o ho=>?_
     have hlo9:=(g.lt c hc).2;simp at hlo9;have h1:=hget T [.cells 3 [[.c (.int .i64 A.size),bv,.own b 1 0 A.edges.length A.edges.length]]] c o (by rw[g5 c hc];exact ho)
     refine Eq.trans ?_ h1;exact sE (k:=2) (by omega) rfl
    rw[hfs,←hMe,hwd];have hgo:∀c:Nat,σ.length+2≤c→∀o,(σ++(Ob.dead::Ob.cells 3 [[AV.c (Value.int IntKind.i64 0),AV.c (Value.slice none 0 0),AV.c (Value.slice none 0 0)]]::T))[c]? = some o →
      ∀x X,(σ++.dead::x::(T++X))[c]? = some o:=fun c hc o ho x X=>by
     have h1:=hget T X c o ho;rw[←sE (σ:=σ) (X:=.dead::Ob.cells 3 [[AV.c (Value.int IntKind.i64 0),AV.c (Value.slice none 0 0),AV.c (Value.slice none 0 0)]]::(T++X)) (Y:=.dead::x::(T++X)) (k:=2) hc rfl];exact h1
    refine⟨fun r hr=>by rw[←hwd];exact hMr r hr,.inr ⟨b,q,rfl,hnd,?_,by rw[hMl],by omega,?_,?_⟩⟩
    ·intro e0;rw[e0] at hMl;exact hM (List.eq_nil_of_length_eq_zero hMl.symm)
    ·exact hgo b hlo _ g3 _ _
    ·exact g4.congr (by omega) fun c hc o ho=>hgo c (g4.lt c hc).2 o ho _ _
end Go.Proofs.YtephecognbbaoaaGreat
namespace Go.Proofs.YtephecognbbaoaaGreat
theorem x7:∀(p:Pl),d8 p→∀σ:aa,af Tryz.prog 101 [.agg (plC p)] σ fun r σ'=>σ'=σ∧r=ab (bo p):=by
 refine Pl.ind fun k n e ps ih ok σ=>?_;have hO:=fun h=>AR k n e ps ok h
 cases ok with
 | mk _ _ _ _ hk hn he hev hpl hp=>
 rw[bo,a7];rw[a7] at hO;refine af.cutX ?_;refine g_n Tryz.func101 rfl Tryz.results101 Tryz.ntmps101 ?_;refine g_s fun K hK=>?_;refine g_h ?_;refine hK _ _ ?_;clear hK K;refine g_0 1 rfl ?_
 (repeat' (first|(refine g_s fun K hK=>?_)|(refine g_b ?_)|(refine g_g ?_;(try refine g_y ?_))|(refine hK _ _ ?_;clear hK K)|exact trivial|fail))
 have hJ:=hK;clear hK;refine ay ps (fun _ r _=>checkL ps=checkL r) (fun q _ _=>[(9,ab q)]) (fun _ _ τ=>σ++(.dead::τ)) () [] rfl rfl (ai ?_) ?_ ?_
 ·exact g_w
 ·rintro q r _ τ hq0 hq1 h3 L hL;have hmem:=aA ps hq0 hq1;obtain⟨x,hx⟩:∃x,at0 ps q=x:=⟨_,rfl⟩;rw[hx] at h3 hmem;rw[checkL] at h3;have ihx:=ih x hmem (hp x hmem);obtain⟨D,hD⟩:∃D,bo x=D:=⟨_,rfl⟩;rw[hD] at ihx h3;obtain⟨k',n',e',ps'⟩:=x;rw[a7] at ihx;simp -implicitDefEqProofs only[go_sem]
  by_cases hd:D=0
  ·rw[if_neg (not_not_intro hd)] at h3;subst hd
   (repeat' (first|(refine g_s fun K hK=>?_)|(refine g_b ?_)|(refine g_k ?_;simp only[ah,ae])|(refine g_C (fun h=>?_) (fun h=>?_)<;>(try exact g_f))|((first|refine g_g ?_|refine (ihx _).use ?_);(try simp -implicitDefEqProofs only[go_sem,hx]))|(refine hK _ _ ?_;clear hK K)|(with_reducible refine And.intro ?_ ?_;· exact g_x)|fail))
   refine hL () (τ++[.cells 4 [plC (.mk k' n' e' ps')]]) _ _ h3 (ai ?_) ?_
   ·exact g_w
   ·simp [a7,np,aF,ab]
  ·rw[if_pos hd] at h3
   (repeat' (first|(refine g_s fun K hK=>?_)|(refine g_b ?_)|(refine g_k ?_;simp only[ah,ae])|(refine g_C (fun h=>?_) (fun h=>?_)<;>(try exact g_f))|((first|refine g_t ?_|refine g_g ?_|refine (ihx _).use ?_);(try simp -implicitDefEqProofs only[go_sem,hx,hd]))|(refine hK _ _ ?_;clear hK K)|(with_reducible refine And.intro ?_ ?_;· exact g_x)|fail))
   refine ax (τ:=.dead::(τ++[.cells 4 [plC (.mk k' n' e' ps')]])) (by simp [a7,np,aF,ab]) ?_
   rw[h3,if_pos hd]
 ·rintro q _ τ hq h3 L;have h3:checkL ps=0:=by rw[h3,checkL]
  have hO:=hO (m5 h3);simp -implicitDefEqProofs only[go_sem]
  (repeat' (first|(refine g_s fun K hK=>?_)|(refine g_e ?_;simp only[ah,ae,↓reduceIte,Nat.reduceEqDiff])|(refine g_C (fun h=>?_) (fun h=>?_)<;>(try exact g_f))|(refine g_g ?_;(try refine g_y ?_))|(refine hK _ _ ?_;clear hK K)|exact trivial|fail))
  refine hJ _ _ ?_;clear hJ
  (repeat' (first|(refine g_s fun K hK=>?_)|((first|refine g_t ?_|refine g_g ?_|refine (hO _).use ?_);(try refine g_y ?_))|(refine hK _ _ ?_;clear hK K)|exact trivial|fail))
  refine ax rfl ?_;rw[h3,if_neg (by decide)]
theorem jq (p:Pl) (ok:d8 p) (σ:aa):af Tryz.prog 50 [.agg (plC p)] σ fun r σ'=>σ'=σ∧r=ab (gk p):=by
 have hD:=uM 4 (by omega) p ok
 have hW:=Ar p ok;have hC:=x7 p ok;rw[gk];have hc4:((4:Nat):Int)=4:=rfl;rw[hc4] at hD;obtain⟨D,hDd⟩:∃D,fl p 4=D:=⟨_,rfl⟩;obtain⟨W,hWd⟩:∃W,cY p=W:=⟨_,rfl⟩;obtain⟨C,hCd⟩:∃C,bo p=C:=⟨_,rfl⟩;rw[hDd] at hD ⊢;rw[hWd] at hW ⊢;rw[hCd] at hC ⊢;obtain⟨k,n,e,ps⟩:=p;rw[a7] at hD hW hC ⊢;refine af.cutX ?_
 by_cases h4:4<D
 ·rw[if_pos (Or.inl h4)];refine g_n Tryz.func50 rfl Tryz.results50 Tryz.ntmps50 ?_;refine g_s fun K hK=>?_;refine g_h ?_;refine hK _ _ ?_;clear hK K;refine g_0 1 rfl ?_
  (repeat' (first|(refine g_s fun K hK=>?_)|(refine g_C (fun h=>?_) (fun h=>?_)<;>(try exact g_f))|((first|refine g_t ?_|refine g_g ?_|refine (hD _).use ?_);(try simp -implicitDefEqProofs only[go_sem,h4]))|(refine hK _ _ ?_;clear hK K)|fail))
  exact ax rfl rfl
 ·cases W
  ·rw[if_neg (by rw[not_or];exact⟨h4,by decide⟩)]
   refine g_n Tryz.func50 rfl Tryz.results50 Tryz.ntmps50 ?_;refine g_s fun K hK=>?_;refine g_h ?_;refine hK _ _ ?_;clear hK K;refine g_0 1 rfl ?_
   (repeat' (first|(refine g_s fun K hK=>?_)|(refine g_k ?_;simp only[ah,ae])|(refine g_C (fun h=>?_) (fun h=>?_)<;>(try exact g_f))|((first|refine g_t ?_|refine g_g ?_|refine (hD _).use ?_|refine (hW _).use ?_|refine (hC _).use ?_);(try simp -implicitDefEqProofs only[go_sem,h4]))|(refine hK _ _ ?_;clear hK K)|fail))
   exact ax rfl rfl
  ·rw[if_pos (Or.inr rfl)];refine g_n Tryz.func50 rfl Tryz.results50 Tryz.ntmps50 ?_;refine g_s fun K hK=>?_;refine g_h ?_;refine hK _ _ ?_;clear hK K;refine g_0 1 rfl ?_
   (repeat' (first|(refine g_s fun K hK=>?_)|(refine g_C (fun h=>?_) (fun h=>?_)<;>(try exact g_f))|((first|refine g_t ?_|refine g_g ?_|refine (hD _).use ?_|refine (hW _).use ?_);(try simp -implicitDefEqProofs only[go_sem,h4]))|(refine hK _ _ ?_;clear hK K)|fail))
   exact ax rfl rfl
def db (p:Pl):Alg×Int:=if gk p=0 then (aO p,0) else (⟨0,[],[]⟩,gk p)
def lW (x:Alg×Int):AV:=.tup [.agg (aS x.1),ab x.2]
end Go.Proofs.YtephecognbbaoaaGreat
namespace Go.Proofs.YtephecognbbaoaaGreat
theorem nq (p:Pl) (ok:d8 p) (he:gk p=0) (σ:aa):af Tryz.prog 23 [.agg (plC p)] σ fun r σ'=>∃τ,σ'=σ++τ∧∃a,r = .tup [a,ab 0]∧ng (σ++τ) σ.length a (aO p):=by
 have hC:=jq p ok;have hB:=yO p ok (rZ he).2 (rZ he).1;rw[he] at hC;obtain⟨A,hA⟩:∃A,aO p=A:=⟨_,rfl⟩;rw[hA] at hB ⊢;obtain⟨k,n,e,ps⟩:=p;rw[a7] at hC hB ⊢;refine g_n Tryz.func23 rfl Tryz.results23 Tryz.ntmps23 ?_;refine g_s fun K hK=>?_;refine g_h ?_;refine hK _ _ ?_;clear hK K;refine g_0 1 rfl ?_
 (repeat' (first|(refine g_s fun K hK=>?_)|(refine g_k ?_;simp only[ah,ae])|(refine g_C (fun h=>?_) (fun h=>?_)<;>(try exact g_f))|((first|refine g_g ?_|refine (hC _).use ?_);(try refine g_y ?_))|(refine hK _ _ ?_;clear hK K)|exact trivial|fail))
 refine af.useX (hB _) ?_;rintro τ r ⟨ids,a,bi,bv,rfl,h,g,hd⟩;rw[List.append_assoc] at h g
 rcases h.form with rfl|⟨b,m,rfl⟩<;>rcases g.form with rfl|⟨b7,m7,rfl⟩
 all_goals simp -implicitDefEqProofs only[go_sem]
 all_goals (repeat' (first|(refine g_t ?_;(try refine g_y ?_))|(refine hK _ _ ?_;clear hK K)|exact trivial|fail))
 all_goals exact⟨_,rfl,_,rfl,ids,_,bi,_,rfl,h.skip (k:=2) (by simp) rfl,g.skip (k:=2) (by simp) rfl,hd⟩
theorem gl (x:List (List Int)) (ok:dN x) (σ:aa):af Tryz.prog 17 [aL x] σ fun r σ'=>σ'=σ∧r=aL x:=by
 have hlen:=ok.len;refine af.deep ?_;refine g_n Tryz.func17 rfl Tryz.results17 Tryz.ntmps17 ?_
 (repeat' (first|(refine g_s fun K hK=>?_)|(refine g_b ?_)|(refine g_g ?_;(try refine g_y ?_))|(refine hK _ _ ?_;clear hK K)|exact trivial|fail))
 refine bn ?_;have hJ:=hK;clear hK;refine ay x (fun k r (s:List (List Int×Nat)×aa)=>s.1.map (·.1)++r=x∧∀p∈s.1,σ.length≤p.2∧(σ++s.2)[p.2]? = some (.cells 1 (p.1.map au))) (fun k s _=>[(4,ab k),(3,aq 1 (σ.length+s.2.length) s.1)]) (fun _ s _=>σ++(s.2++[ap (fun p=>[.own p.2 1 0 p.1.length p.1.length]) 1 s.1])) ([],[]) [] ⟨rfl,fun p hp=>(by cases hp)⟩ (by simp [ap]) (ai ?_) ?_ ?_
 ·simp -implicitDefEqProofs only[go_sem,aq]
 ·rintro k r ⟨acc,T⟩ τ hk0 hk1 ⟨h3,h4⟩ L hL;obtain⟨w,hw⟩:∃w,at0 x k=w:=⟨_,rfl⟩;have hwm:=aA x hk0 hk1;rw[hw] at h3 hwm;have hwl:=ok.row w hwm;have hal:acc.length+1≤x.length:=by have:=congrArg List.length h3;simp at this;omega
  have hnew:∀ac:List (List Int×Nat),(∀p∈ac,σ.length≤p.2∧(σ++T)[p.2]? = some (.cells 1 (p.1.map au)))→∀p∈ac++[(w,σ.length+(T.length+2))],σ.length≤p.2∧(σ++(T++[Ob.dead,Ob.dead,Ob.cells 1 (w.map au),Ob.cells 1 [[AV.own (σ.length+(T.length+2)) 1 0 w.length w.length]]]))[p.2]? = some (.cells 1 (p.1.map au)):=fun ac hac p hp=>by
   rcases List.mem_append.1 hp with hp|hp
   ·exact⟨(hac p hp).1,by rw[←List.append_assoc];exact az (hac p hp).2⟩
   ·rcases List.mem_singleton.1 hp with rfl
    refine⟨by simp only;omega,?_⟩
    rw[List.getElem?_append_right (by simp only;omega),Nat.add_sub_cancel_left,List.getElem?_append_right (by omega),Nat.add_sub_cancel_left]
    rfl
  rcases acc with _|⟨y,acc⟩<;>simp only[List.length_cons,List.length_nil] at hal<;>simp -implicitDefEqProofs only[go_sem,aq,ap]
  all_goals (repeat' (first|(refine g_s fun K hK=>?_)|(refine g_b ?_)|(refine g_k ?_;simp only[ah,ae])|(refine g_C (fun h=>?_) (fun h=>?_)<;>(try exact g_f))|(refine g_g ?_;(try simp -implicitDefEqProofs only[go_sem,hw]))|(refine hK _ _ ?_;clear hK K)|(with_reducible refine And.intro ?_ ?_;· exact g_x)|fail))
  ·refine hL ([(w,σ.length+(T.length+2))],T++[Ob.dead,Ob.dead,Ob.cells 1 (w.map au),Ob.cells 1 [[AV.own (σ.length+(T.length+2)) 1 0 w.length w.length]]]) τ _ _ ⟨by simpa using h3,hnew [] (fun p hp=>(by cases hp))⟩ (ai ?_) ?_
   ·simp -implicitDefEqProofs only[go_sem,aq]
   ·simp [ap]
  ·refine hL (y::(acc++[(w,σ.length+(T.length+2))]),T++[Ob.dead,Ob.dead,Ob.cells 1 (w.map au),Ob.cells 1 [[AV.own (σ.length+(T.length+2)) 1 0 w.length w.length]]]) τ _ _ ⟨by simpa using h3,hnew (y::acc) h4⟩ (ai ?_) ?_
   ·simp -implicitDefEqProofs only[go_sem,aq]
   ·simp [ap]
 ·rintro k ⟨acc,T⟩ τ hk ⟨h3,h4⟩ L;simp -implicitDefEqProofs only[go_sem]
  (repeat' (first|(refine g_s fun K hK=>?_)|(refine g_e ?_;simp only[ah,ae,↓reduceIte,Nat.reduceEqDiff])|(refine g_C (fun h=>?_) (fun h=>?_)<;>(try exact g_f))|(refine g_g ?_;(try refine g_y ?_))|(refine hK _ _ ?_;clear hK K)|exact trivial|fail))
  refine hJ _ _ ?_;clear hJ;have h3:acc.map (·.1)=x:=by simpa using h3
  have h4:∀p∈acc,σ.length≤p.2∧(σ++T)[p.2]? = some (.cells 1 (p.1.map au)):=h4;have hx:x.map aE=acc.map fun p=>aE p.1:=by rw[←h3,List.map_map];rfl
  rcases acc with _|⟨y,acc⟩<;>simp -implicitDefEqProofs only[go_sem,aq,ap]
  all_goals (repeat' (first|(refine g_s fun K hK=>?_)|((first|refine g_t ?_|refine g_g ?_);(try refine g_y ?_))|(refine hK _ _ ?_;clear hK K)|exact trivial|fail))
  ·have hx0:x=[]:=h3.symm;subst hx0;exact bL rfl (.rows _) .nil
  ·refine bL rfl (.rows _) ?_;show bG _ _ _ (.sl (x.map aE));rw[hx];refine .ownW (es:=(y::acc).map fun p=>[.own p.2 1 0 p.1.length p.1.length]) (by omega) ?_ (by simp) (bW.map _ fun p hp=>.cons (.ownW (h4 p hp).1 (by rw[←List.append_assoc];exact az (h4 p hp).2) (by simp) (.same _)) .nil)
   rw[List.getElem?_append_right (by omega),Nat.add_sub_cancel_left,List.getElem?_append_right (by omega),Nat.sub_self]
   rfl
end Go.Proofs.YtephecognbbaoaaGreat
namespace Go.Proofs.YtephecognbbaoaaGreat
def si (n:Net):AV:=.tup [aL (if aI n=0 then fQ n else []),ab (aI n)]
theorem z7 (n:Net) (ok:dM n) (σ:aa):af Tryz.prog 12 [.agg (aH n)] σ fun r σ'=>σ'=σ∧r=si n:=by
 have hC:=eZ n ok;refine af.cutX ?_
 by_cases h0:aI n=0
 ·rw[si,if_pos h0];rw[h0] at hC ⊢;refine g_n Tryz.func12 rfl Tryz.results12 Tryz.ntmps12 ?_
  (repeat' (first|(refine g_s fun K hK=>?_)|(refine g_k ?_;simp only[ah,ae])|(refine g_C (fun h=>?_) (fun h=>?_)<;>(try exact g_f))|((first|refine g_t ?_|refine g_g ?_|refine (hC _).use ?_|refine (qN n (aU h0) _).use ?_);(try refine g_y ?_))|(refine hK _ _ ?_;clear hK K)|exact trivial|fail))
  refine bM rfl ?_ ?_
  ·exact .tupL (.cons (.rows _) (.cons (.c _) .nil))
  ·exact .eq rfl
 ·rw[si,if_neg h0];refine g_n Tryz.func12 rfl Tryz.results12 Tryz.ntmps12 ?_
  (repeat' (first|(refine g_s fun K hK=>?_)|(refine g_C (fun h=>?_) (fun h=>?_)<;>(try exact g_f))|((first|refine g_t ?_|refine g_g ?_|refine (hC _).use ?_);(try refine g_y ?_))|(refine hK _ _ ?_;clear hK K)|exact trivial|fail))
  refine bM rfl ?_ ?_
  ·(repeat' (first|exact Bd.c _|exact Bd.emp|exact BdL.nil|exact Bd.ints _|refine Bd.aggL ?_|refine Bd.tupL ?_|refine BdL.cons ?_ ?_))
  ·exact .tup (.cons .nil (.cons (.refl _) .nil))
theorem As:si eM = .tup [aL [[0,2],[2,0]],ab 0]:=by
 have h:fQ eM=[[0,2],[2,0]]:=by decide +kernel
 rw[si,if_pos pO,h,pO]
end Go.Proofs.YtephecognbbaoaaGreat
namespace Go.Proofs.YtephecognbbaoaaGreat
def AX (n:Net) (p:List Int×Nat):List AV:=[aF p.1,.own p.2 1 0 n.nodes.toNat n.nodes.toNat]
def AY (n:Net):Eng×Int:=if aI n≠0 then (noE,aI n) else (DJ n,0)
theorem Bg (n:Net) (okn:dM n) (σ:aa):af Tryz.prog 30 [.agg (aH n)] σ fun r σ'=>σ'=σ∧r = .tup [.agg (ba (AY n).1),ab (AY n).2]:=by
 have hC:=eZ n okn;unfold AY;refine af.deep ?_
 by_cases h0:aI n=0
 ·rw[if_neg (not_not_intro h0)];rw[h0] at hC;have hn:=aU h0;have n1:=hn.n1;have n6:=hn.n6;have hTr:=qN n hn;have hbl:(fQ n).length=n.nodes.toNat:=by simp [fQ,ao]
  refine g_n Tryz.func30 rfl Tryz.results30 Tryz.ntmps30 ?_;refine g_s fun K hK=>?_;refine g_h ?_;refine hK _ _ ?_;clear hK K;refine g_0 1 rfl ?_
  (repeat' (first|(refine g_s fun K hK=>?_)|(refine g_b ?_)|(refine g_k ?_;simp only[ah,ae])|(refine g_C (fun h=>?_) (fun h=>?_)<;>(try exact g_f))|((first|refine g_g ?_|refine (hC _).use ?_|refine (hTr _).use ?_);(try refine g_y ?_))|(refine hK _ _ ?_;clear hK K)|exact trivial|fail))
  refine bn ?_;have hJ:=hK;clear hK;obtain⟨ρ,hρ⟩:∃ρ:aa,σ++[.dead,.cells 2 [[.c (.slice none 0 0),.c (.slice none 0 0)]]]=ρ:=⟨_,rfl⟩;have hlen:σ.length+2=ρ.length:=by rw[←hρ];simp
  refine ay (fQ n) (fun _ r (s:List (List Int×Nat)×aa)=>s.1.map (·.1)++r=fQ n∧(∀p∈s.1,ρ.length+1≤p.2∧((ρ++[.dead])++s.2)[p.2]? = some (.cells 1 (List.replicate n.nodes.toNat [.c (.slice none 0 0)]))))
   (fun k s _=>[(17,ab k),(5,.ptr ρ.length 2 0 0)]) (fun _ s _=>ρ++(.cells 2 [[aq 2 (ρ.length+(s.2.length+1)) s.1,.c (.slice none 0 0)]]::(s.2++[ap (AX n) 2 s.1]))) ([],[]) [] ⟨rfl,fun p hp=>(by cases hp)⟩ ?_ (ai ?_) ?_ ?_
  ·rw[←hρ];simp [aq,ap]
  ·simp -implicitDefEqProofs only[go_sem,hlen]
  ·rintro k r ⟨acc,T⟩ τ9 hk0 hk1 ⟨h3,h4⟩ L hL;obtain⟨w,hw⟩:∃w,at0 (fQ n) k=w:=⟨_,rfl⟩;rw[hw] at h3;have hal:acc.length+1≤6:=by have:=congrArg List.length h3;simp at this;omega
   rcases acc with _|⟨p0,acc⟩
   ·simp -implicitDefEqProofs only[go_sem,aq,ap]
    (repeat' (first|(refine g_s fun K hK=>?_)|(refine g_b ?_)|(refine g_k ?_;simp only[ah,ae])|(refine g_C (fun h=>?_) (fun h=>?_)<;>(try exact g_f))|((first|refine g_G ?_|refine eK (ρ++(.cells 2 [[.c (.slice none 0 0),.c (.slice none 0 0)]]::(T++[.dead]))) ⟨_,by simp;rfl⟩ a9 (by decide +kernel) ?_);(try simp -implicitDefEqProofs only[go_sem,hw]))|(refine hK _ _ ?_;clear hK K)|(with_reducible refine And.intro ?_ ?_;· exact g_x)|fail))
    refine hL ([(w,ρ.length+(T.length+2))],T++[.dead,.cells 1 (List.replicate n.nodes.toNat [.c (.slice none 0 0)])]) [] _ _ ⟨by simpa using h3,?_⟩ (ai ?_) ?_
    ·intro p hp
     rcases List.mem_singleton.1 hp with rfl
     refine⟨by simp only;omega,?_⟩
     simp -implicitDefEqProofs only[go_sem]
    ·simp -implicitDefEqProofs only[go_sem,hlen]
    ·simp [ap,aq,AX,aF]
   ·simp only[List.length_cons] at hal;simp -implicitDefEqProofs only[go_sem,aq,ap]
    (repeat' (first|(refine g_s fun K hK=>?_)|(refine g_b ?_)|(refine g_k ?_;simp only[ah,ae])|(refine g_C (fun h=>?_) (fun h=>?_)<;>(try exact g_f))|((first|refine g_G ?_|refine eK (ρ++(.cells 2 [[.own (ρ.length+(T.length+1)) 2 0 (acc.length+1) (acc.length+1),.c (.slice none 0 0)]]::T)) ⟨_,by simp;rfl⟩ a9 (by decide +kernel) ?_);(try simp -implicitDefEqProofs only[go_sem,hw]))|(refine hK _ _ ?_;clear hK K)|(with_reducible refine And.intro ?_ ?_;· exact g_x)|fail))
    refine hL (p0::(acc++[(w,ρ.length+(T.length+2))]),T++[.dead,.cells 1 (List.replicate n.nodes.toNat [.c (.slice none 0 0)])]) [] _ _ ⟨by simpa using h3,?_⟩ (ai ?_) ?_
    ·intro p hp;rw[←List.cons_append] at hp
     rcases List.mem_append.1 hp with hp|hp
     ·obtain⟨h6,h7⟩:=h4 p hp;refine⟨h6,?_⟩;rw[←List.append_assoc,List.getElem?_append_left (List.getElem?_eq_some_iff.1 h7).1];exact h7
     ·rcases List.mem_singleton.1 hp with rfl
      refine⟨by simp only;omega,?_⟩
      simp -implicitDefEqProofs only[go_sem]
    ·simp -implicitDefEqProofs only[go_sem,hlen]
    ·simp [ap,aq,AX,aF]
  ·rintro k ⟨acc,T⟩ τ9 hk ⟨h3,h4⟩ L;have hacc:1≤acc.length:=by have:=congrArg List.length h3;simp at this;omega
   obtain⟨p0,acc,rfl⟩:∃p l,acc=p::l:=by cases acc with|nil=>cases hacc|cons p l=>exact⟨p,l,rfl⟩
   simp only[List.append_nil] at h3;have hcL:∀X,(ρ++X)[σ.length+1]? = some (.cells 2 [[.c (.slice none 0 0),.c (.slice none 0 0)]]):=fun X=>by rw[←hρ];exact az (by simp)
   have hcS:∀X o,(ρ++X).set (σ.length+1) o=σ++([.dead,o]++X):=fun X o=>by
    rw[←hρ,List.append_assoc,List.set_append_right _ _ (by omega),Nat.add_sub_cancel_left]
    rfl
   have hlk:∀o1 o2 X p,p∈p0::acc→(σ++(.dead::o1::o2::(T++X)))[p.2]? = some (.cells 1 (List.replicate n.nodes.toNat [.c (.slice none 0 0)])):=fun o1 o2 X p hp=>by
    obtain⟨h5,h6⟩:=h4 p hp;obtain⟨q,hq⟩:∃q,p.2=σ.length+(q+3):=⟨p.2-σ.length-3,by omega⟩
    have h7:p.2=(ρ++[Ob.dead]).length+q:=by simp;omega
    rw[h7,List.getElem?_append_right (by omega),Nat.add_sub_cancel_left] at h6
    rw[hq,List.getElem?_append_right (by omega),Nat.add_sub_cancel_left,List.getElem?_cons_succ,List.getElem?_cons_succ,List.getElem?_cons_succ]
    exact az h6
   simp -implicitDefEqProofs only[go_sem,aq,ap]
   (repeat' (first|(refine g_s fun K hK=>?_)|(refine g_e ?_;simp only[ah,ae,↓reduceIte,Nat.reduceEqDiff])|(refine g_C (fun h=>?_) (fun h=>?_)<;>(try exact g_f))|(refine g_g ?_;(try refine g_y ?_))|(refine hK _ _ ?_;clear hK K)|exact trivial|fail))
   refine hJ _ _ ?_;clear hJ
   (repeat' (first|(refine g_s fun K hK=>?_)|((first|refine g_t ?_|refine g_g ?_);(try simp -implicitDefEqProofs only[go_sem,hcL,hcS]))|(refine hK _ _ ?_;clear hK K)|fail))
   have hro:(DJ n).routers.map bF=((p0::acc).map fun p=>bF (dD n p.1)):=by
    rw[DJ,←h3];simp
   refine bL rfl (.tupL (.cons (.eng _) (.cons (.c _) .nil))) (.tupL (.cons (.aggL (.cons ?_ (.cons .nil .nil))) (.cons (.same _) .nil)));rw[hro];refine .ownW (by omega) (es:=(p0::acc).map (AX n)) ?_ (by simp) (bW.map _ fun p hp=>.cons (.same _) (.cons (.ownW ?_ (hlk _ _ _ p hp) (by simp) ?_) .nil))
   ·rw[List.getElem?_append_right (by omega),show ρ.length+(T.length+1)-σ.length=(T.length+2)+1 by omega,List.getElem?_cons_succ,List.getElem?_cons_succ,List.getElem?_cons_succ,List.getElem?_append_right (by omega),Nat.sub_self]
    rfl
   ·have:=(h4 p hp).1;omega
   ·have e8:(dD n p.1).told.map aE=List.replicate n.nodes.toNat [.sl []]:=by simp [dD,aE,aF]
    rw[e8];exact bW.repl (.cons .nil .nil) _
 ·rw[if_pos h0];refine g_n Tryz.func30 rfl Tryz.results30 Tryz.ntmps30 ?_;refine g_s fun K hK=>?_;refine g_h ?_;refine hK _ _ ?_;clear hK K;refine g_0 1 rfl ?_
  (repeat' (first|(refine g_s fun K hK=>?_)|(refine g_C (fun h=>?_) (fun h=>?_)<;>(try exact g_f))|((first|refine g_t ?_|refine g_g ?_|refine (hC _).use ?_);(try simp -implicitDefEqProofs only[go_sem,h0]))|(refine hK _ _ ?_;clear hK K)|fail))
  exact bL rfl (.tupL (.cons (.eng _) (.cons (.c _) .nil))) (.tupL (.cons (.aggL (.cons .nil (.cons .nil .nil))) (.cons (.same _) .nil)))
end Go.Proofs.YtephecognbbaoaaGreat
namespace Go.Proofs.YtephecognbbaoaaGreat
theorem Ez:uI Tryz.prog 71=some [(0,false),(1,false),(2,true)]:=by kernel_rfl
attribute [go_sem] Ez
theorem tu (e:Eng) (ok:cj e) (σ:aa):af Tryz.prog 28 [.agg (ba e),.agg (ba e)] σ fun r σ'=>σ'=σ∧r = .c (.bool true):=by
 have hrl:=ok.rl;have hbl:=ok.bl;refine af.cutX ?_;refine g_n Tryz.func28 rfl Tryz.results28 Tryz.ntmps28 ?_;refine g_s fun K hK=>?_;refine g_h ?_;refine hK _ _ ?_;clear hK K;refine g_0 2 rfl ?_;refine g_0 3 rfl ?_
 (repeat' (first|(refine g_s fun K hK=>?_)|(refine g_b ?_)|(refine g_k ?_;simp only[ah,ae])|(refine g_C (fun h=>?_) (fun h=>?_)<;>(try exact g_f))|(refine g_g ?_;(try refine g_y ?_))|(refine hK _ _ ?_;clear hK K)|(with_reducible refine ak (fun h=>?_) (fun h=>?_)<;>(try simp only[go_sem] at h)<;>(try exact g_f)<;>(try refine g_y ?_))|exact trivial|fail))
 have hJ:=hK;clear hK;refine ay e.routers (fun _ _ _=>True) (fun k _ _=>[(5,ab k)]) (fun _ _ _=>σ++[.dead,.dead]) () [] trivial rfl (ai ?_) ?_ ?_
 ·exact g_w
 ·rintro k r s τ hk0 hk1 _ L hL;obtain⟨w,hw⟩:∃w,at0 e.routers k=w:=⟨_,rfl⟩;have hwm:=aA e.routers hk0 hk1;rw[hw] at hwm;have hwo:=ok.rtr w hwm;have hrl2:=hwo.rl;have h1:=kW w.routes w.routes (by omega)
  have h2:=cZ w.told w.told ⟨by have:=hwo.tl;omega,fun l hl=>hwo.tr l hl⟩
  rw[decide_eq_true rfl] at h1 h2;simp -implicitDefEqProofs only[go_sem]
  (repeat' (first|(refine g_s fun K hK=>?_)|(refine g_b ?_)|(refine g_k ?_;simp only[ah,ae])|(refine g_C (fun h=>?_) (fun h=>?_)<;>(try exact g_f))|((first|refine g_g ?_|refine g_U ?_|refine g_q (fun τ=>h1 _) ?_|refine g_q (fun τ=>h2 _) ?_);(try simp -implicitDefEqProofs only[go_sem,hw]))|(refine hK _ _ ?_;clear hK K)|(with_reducible refine And.intro ?_ ?_;· exact g_x)|fail))
  refine hL () [] _ _ trivial (ai ?_) rfl;simp -implicitDefEqProofs only[go_sem]
 ·intro k s τ hk _ L;simp -implicitDefEqProofs only[go_sem]
  (repeat' (first|(refine g_s fun K hK=>?_)|(refine g_e ?_;simp only[ah,ae,↓reduceIte,Nat.reduceEqDiff])|(refine g_C (fun h=>?_) (fun h=>?_)<;>(try exact g_f))|(refine g_g ?_;(try refine g_y ?_))|(refine hK _ _ ?_;clear hK K)|exact trivial|fail))
  refine hJ _ _ ?_;clear hJ
  (repeat' (first|(refine g_s fun K hK=>?_)|(refine g_b ?_)|(refine g_g ?_;(try refine g_y ?_))|(refine hK _ _ ?_;clear hK K)|exact trivial|fail))
  have hJ:=hK;clear hK;refine ay e.bag (fun _ _ _=>True) (fun k _ _=>[(6,ab k)]) (fun _ _ _=>σ++[.dead,.dead]) () [] trivial rfl (ai ?_) ?_ ?_
  ·exact g_w
  ·rintro k r s τ hk0 hk1 _ L hL;obtain⟨w,hw⟩:∃w,at0 e.bag k=w:=⟨_,rfl⟩;simp -implicitDefEqProofs only[go_sem]
   (repeat' (first|(refine g_s fun K hK=>?_)|(refine g_b ?_)|(refine g_k ?_;simp only[ah,ae])|(refine g_C (fun h=>?_) (fun h=>?_)<;>(try exact g_f))|((first|refine g_g ?_|refine g_U ?_);(try simp -implicitDefEqProofs only[go_sem,hw,beq_self_eq_true,Bool.not_true]))|(refine hK _ _ ?_;clear hK K)|(with_reducible refine And.intro ?_ ?_;· exact g_x)|fail))
   refine hL () [] _ _ trivial (ai ?_) rfl;simp -implicitDefEqProofs only[go_sem]
  ·intro k s τ hk _ L;simp -implicitDefEqProofs only[go_sem]
   (repeat' (first|(refine g_s fun K hK=>?_)|(refine g_e ?_;simp only[ah,ae,↓reduceIte,Nat.reduceEqDiff])|(refine g_C (fun h=>?_) (fun h=>?_)<;>(try exact g_f))|(refine g_g ?_;(try refine g_y ?_))|(refine hK _ _ ?_;clear hK K)|exact trivial|fail))
   refine hJ _ _ ?_;clear hJ
   (repeat' (first|(refine g_s fun K hK=>?_)|((first|refine g_t ?_|refine g_g ?_);(try refine g_y ?_))|(refine hK _ _ ?_;clear hK K)|exact trivial|fail))
   exact ax rfl rfl
end Go.Proofs.YtephecognbbaoaaGreat
namespace Go.Proofs.YtephecognbbaoaaGreat
deriving instance DecidableEq for Rtr
deriving instance DecidableEq for bg
deriving instance DecidableEq for Eng
def sw:Eng:=⟨[⟨[0,2],[[],[]]⟩,⟨[2,0],[[],[]]⟩],[]⟩
def nZ:Eng:=⟨[⟨[0,2],[[],[]]⟩,⟨[2,0],[[],[]]⟩],[⟨1,0,[83,1,0,2,2,0,253,126]⟩]⟩
def nY:Eng:=⟨[⟨[0,1],[[],[2,0]]⟩,⟨[2,0],[[],[]]⟩],[]⟩
theorem Ey:AY eM=(sw,0):=by decide +kernel
theorem Db:mM eM sw ⟨1,1,0,0,[]⟩=(nZ,0):=by decide +kernel
theorem y7:mM eM nZ ⟨2,0,0,0,[]⟩=(nY,0):=by decide +kernel
theorem Dc:ew eM nY=0:=by decide +kernel
theorem Df:cj sw:=⟨by decide,fun r hr=>by
 simp only[sw,List.mem_cons,List.not_mem_nil,or_false] at hr
 rcases hr with rfl|rfl<;>exact⟨by decide,by decide,by decide⟩,by decide,fun m hm=>by cases hm⟩
theorem De:cj nZ:=⟨by decide,fun r hr=>by
 simp only[nZ,List.mem_cons,List.not_mem_nil,or_false] at hr
 rcases hr with rfl|rfl<;>exact⟨by decide,by decide,by decide⟩,by decide,fun m hm=>by
 simp only[nZ,List.mem_cons,List.not_mem_nil,or_false] at hm;subst hm;exact⟨by unfold I64;decide,by unfold I64;decide,by decide,by decide⟩⟩
theorem Dd:cj nY:=⟨by decide,fun r hr=>by
 simp only[nY,List.mem_cons,List.not_mem_nil,or_false] at hr
 rcases hr with rfl|rfl<;>exact⟨by decide,by decide,by decide⟩,by decide,fun m hm=>by cases hm⟩
end Go.Proofs.YtephecognbbaoaaGreat
namespace Go.Proofs.YtephecognbbaoaaGreat
theorem mB (a b:Alg) (ha:dN a.best) (ha2:dN a.edges) (σ:aa):af Tryz.prog 26 [.agg (aS a),.agg (aS b)] σ fun r σ'=>σ'=σ∧r = .c (.bool (decide (a=b))):=by
 have h1:=cZ a.best b.best ha;have h2:=cZ a.edges b.edges ha2;obtain⟨s,best,edges⟩:=a;obtain⟨s',best',edges'⟩:=b;have e:decide ((⟨s,best,edges⟩:Alg)=⟨s',best',edges'⟩)=(decide (s=s')&&(decide (best=best')&&decide (edges=edges'))):=by simp
 rw[e];simp only at h1 h2;refine af.cutX ?_;refine g_n Tryz.func26 rfl Tryz.results26 Tryz.ntmps26 ?_;refine g_s fun K hK=>?_;refine g_h ?_;refine hK _ _ ?_;clear hK K;refine g_0 2 rfl ?_;refine g_0 3 rfl ?_
 by_cases hs:s=s'
 ·by_cases hb:best=best'
  ·rw[decide_eq_true hb] at h1
   (repeat' (first|(refine g_s fun K hK=>?_)|((first|refine g_t ?_|refine g_g ?_|refine (h1 _).use ?_|refine (h2 _).use ?_);(try simp -implicitDefEqProofs only[go_sem,hs]))|(refine hK _ _ ?_;clear hK K)|(with_reducible refine ak (fun h=>?_) (fun h=>?_)<;>(try simp only[go_sem] at h)<;>(try exact g_f)<;>(try simp -implicitDefEqProofs only[go_sem,hs]))|fail))
   refine ax rfl ?_;simp [hs,hb]
  ·rw[decide_eq_false hb] at h1
   (repeat' (first|(refine g_s fun K hK=>?_)|((first|refine g_t ?_|refine g_g ?_|refine (h1 _).use ?_);(try simp -implicitDefEqProofs only[go_sem,hs]))|(refine hK _ _ ?_;clear hK K)|(with_reducible refine ak (fun h=>?_) (fun h=>?_)<;>(try simp only[go_sem] at h)<;>(try exact g_f)<;>(try simp -implicitDefEqProofs only[go_sem,hs]))|fail))
   refine ax rfl ?_;simp [hb]
 ·(repeat' (first|(refine g_s fun K hK=>?_)|((first|refine g_t ?_|refine g_g ?_);(try simp -implicitDefEqProofs only[go_sem,hs]))|(refine hK _ _ ?_;clear hK K)|(with_reducible refine ak (fun h=>?_) (fun h=>?_)<;>(try simp only[go_sem] at h)<;>(try exact g_f)<;>(try simp -implicitDefEqProofs only[go_sem,hs]))|fail))
  refine ax rfl ?_;simp [hs]
def AP:Pl:=.mk 1 1 [1] []
def AO:Pl:=.mk 1 1 [] []
theorem zw:db AP=(jJ,0):=by decide +kernel
theorem zu:gk AO=0:=by decide +kernel
theorem DA:d8 AP:=.mk 1 1 [1] [] (by unfold I64;decide) (by unfold I64;decide) (by decide) (by unfold I64;decide) (by decide) (fun x hx=>by cases hx)
theorem Dz:d8 AO:=.mk 1 1 [] [] (by unfold I64;decide) (by unfold I64;decide) (by decide) (fun x hx=>by cases hx) (by decide) (fun x hx=>by cases hx)
end Go.Proofs.YtephecognbbaoaaGreat
namespace Go.Proofs.YtephecognbbaoaaGreat
theorem wJ (n:Net) (x:List (List Int)) (most:Int) (okn:dM n) (ok:dN x) (h0:da n x≠0) (σ:aa):af Tryz.prog 13 [.agg (aH n),aL x,ab most] σ fun r σ'=>σ'=σ∧r = .tup [.sl [],ab 0,ab (da n x)]:=by
 have hF:=ou n x okn ok;obtain⟨w,hw⟩:∃w,da n x=w:=⟨_,rfl⟩;rw[hw] at hF h0 ⊢;refine af.cutX ?_;refine g_n Tryz.func13 rfl Tryz.results13 Tryz.ntmps13 ?_
 (repeat' (first|(refine g_s fun K hK=>?_)|(refine g_C (fun h=>?_) (fun h=>?_)<;>(try exact g_f))|((first|refine g_t ?_|refine g_g ?_|refine (hF _).use ?_);(try simp -implicitDefEqProofs only[go_sem,h0]))|(refine hK _ _ ?_;clear hK K)|fail))
 refine bM rfl ?_ ?_
 ·(repeat' (first|exact Bd.c _|exact Bd.emp|exact BdL.nil|exact Bd.ints _|refine Bd.aggL ?_|refine Bd.tupL ?_|refine BdL.cons ?_ ?_))
 ·exact .tup (.cons .nil (.cons (.refl _) (.cons (.refl _) .nil)))
theorem nr (p:Pl) (ok:d8 p) (he:¬gk p=0) (σ:aa):af Tryz.prog 23 [.agg (plC p)] σ fun r σ'=>σ'=σ∧r=lW (db p):=by
 have hC:=jq p ok;rw[db,if_neg he];obtain⟨E,hE⟩:∃E,gk p=E:=⟨_,rfl⟩;rw[hE] at hC he ⊢;obtain⟨k,n,e,ps⟩:=p;rw[a7] at hC ⊢;refine af.cutX ?_;refine g_n Tryz.func23 rfl Tryz.results23 Tryz.ntmps23 ?_;refine g_s fun K hK=>?_;refine g_h ?_;refine hK _ _ ?_;clear hK K;refine g_0 1 rfl ?_
 (repeat' (first|(refine g_s fun K hK=>?_)|(refine g_C (fun h=>?_) (fun h=>?_)<;>(try exact g_f))|((first|refine g_t ?_|refine g_g ?_|refine (hC _).use ?_);(try simp -implicitDefEqProofs only[go_sem,he]))|(refine hK _ _ ?_;clear hK K)|fail))
 exact bM rfl (.tupL (.cons (.aggL (.cons (.c _) (.cons (.c _) (.cons (.c _) .nil)))) (.cons (.c _) .nil))) (.tup (.cons (.agg (.cons (.refl _) (.cons .nil (.cons .nil .nil)))) (.cons (.refl _) .nil)))
theorem tz (p:Pl) (ok:d8 p) (σ:aa):af Tryz.prog 23 [.agg (plC p)] σ fun r σ'=>σ'=σ∧r=lW (db p):=by
 by_cases he:gk p=0
 ·rw[db,if_pos he];refine af.deep ((nq p ok he σ).mono ?_);rintro r S' ⟨τ,rfl,a,rfl,h⟩;exact bL rfl (.tupL (.cons (.aggL (.cons (.c _) (.cons (.rows _) (.cons (.rows _) .nil)))) (.cons (.c _) .nil))) (.tupL (.cons (Al h fun b hb=>hb) (.cons (.same _) .nil)))
 ·exact nr p ok he σ
theorem rY (n:Net) (e:Eng) (okn:dM n) (ok:cj e) (v:Evt) (hv:v.routes.length≤17592186044000) (σ:aa):af Tryz.prog 22 [.agg (aH n),.agg (ba e),.agg (cl v)] σ fun r σ'=>σ'=σ∧r = .tup [.agg (ba (mM n e v).1),ab (mM n e v).2]:=by
 refine af.deep ((rX n e okn ok v hv σ).mono ?_);rintro r S' ⟨τ,rfl,a,rfl,h⟩;exact bL rfl (.tupL (.cons (.eng _) (.cons (.c _) .nil))) (.tupL (.cons (h.deep (fun _ _ _ h=>h) fun _ h=>h) (.cons (.same _) .nil)))
theorem tA (σ:aa):af Tryz.prog 16 [] σ fun r σ'=>σ'=σ∧r = .c (.bool true):=by
 have hX:=tz AP DA;have hY:=jq AO Dz;have hH:=uD;have hS:=mB jJ jJ ⟨by decide,by decide⟩ ⟨by decide,by decide⟩
 rw[zw] at hX;rw[zu] at hY;rw[decide_eq_true rfl] at hS;have hX:∀S,af Tryz.prog 23 [.agg [ab 1,ab 1,aF [1],.sl []]] S fun r S'=>S'=S∧r=lW (jJ,0):=hX;have hY:∀S,af Tryz.prog 50 [.agg [ab 1,ab 1,.sl [],.sl []]] S fun r S'=>S'=S∧r=ab 0:=hY;have hXn:∀S,af Tryz.prog 23 [.agg [ab 1,ab 1,aF [1],.c (.slice none 0 0)]] S fun r S'=>S'=S∧r=lW (jJ,0):=fun S=>(hX S).argW (.cons (.agg (.cons (.refl _) (.cons (.refl _) (.cons (.refl _) (.cons .nil .nil))))) .nil);have hYn:∀S,af Tryz.prog 50 [.agg [ab 1,ab 1,.c (.slice none 0 0),.c (.slice none 0 0)]] S fun r S'=>S'=S∧r=ab 0:=fun S=>(hY S).argW (.cons (.agg (.cons (.refl _) (.cons (.refl _) (.cons .nil (.cons .nil .nil))))) .nil);refine af.cutX ?_;refine g_n Tryz.func16 rfl Tryz.results16 Tryz.ntmps16 ?_
 (repeat' (first|(refine g_s fun K hK=>?_)|((first|refine g_t ?_|refine g_G ?_|refine g_U ?_|refine (hXn _).use ?_|refine g_q (fun τ=>hYn _) ?_|refine g_q (fun τ=>hH _) ?_|refine g_q (fun τ=>hS _) ?_);(try simp -implicitDefEqProofs only[go_sem,jJ,lW,aS,List.map_cons,List.map_nil]))|(refine hK _ _ ?_;clear hK K)|(with_reducible refine ak (fun h=>?_) (fun h=>?_)<;>(try simp only[go_sem] at h)<;>(try exact g_f)<;>(try simp -implicitDefEqProofs only[go_sem,jJ,lW,aS,List.map_cons,List.map_nil]))|fail))
 exact ax rfl rfl
theorem uu (σ:aa):af Tryz.prog 6 [] σ fun r σ'=>σ'=σ∧r = .c (.bool true):=by
 have hB:=z7 eM kw;rw[As] at hB;have hS:∀S,af Tryz.prog 13 [.agg (aH eM),aL [[0,2],[2,0]],ab 10] S fun r σ'=>σ'=S∧r=vj (([[0,1],[1,0]],1),0):=fun S=>by
  have e:eg eM (10:Int).toNat 0 [[0,2],[2,0]]=([[0,1],[1,0]],1):=by decide +kernel
  have h:=qR eM [[0,2],[2,0]] 10 kw ⟨by decide,by decide⟩ (by unfold I64;decide) (by decide) (by decide +kernel) S
  rw[e] at h;refine af.deep (h.mono ?_);rintro r S' ⟨τ,rfl,ids,a,rfl,h⟩;exact bL rfl (.tupL (.cons (.rows _) (.cons (.c _) (.cons (.c _) .nil)))) (.tupL (.cons (h.deep fun b hb=>(h.lt b hb).2) (.cons (.same _) (.cons (.same _) .nil))))
 have hC:=eZ eM kw;rw[pO] at hC;have hE:∀S,af Tryz.prog 14 [aL [[0,1],[1,0]],aL [[0,1],[1,0]]] S fun r σ'=>σ'=S∧r = .c (.bool true):=fun S=>cZ [[0,1],[1,0]] [[0,1],[1,0]] ⟨by decide,by decide⟩ S
 refine af.cutX ?_;refine g_n Tryz.func6 rfl Tryz.results6 Tryz.ntmps6 ?_
 (repeat' (first|(refine g_s fun K hK=>?_)|((first|refine g_t ?_|refine g_G ?_|refine (rm _).use ?_|refine (hB _).use ?_|refine (hS _).use ?_|refine (hC _).use ?_|refine (hE _).use ?_);(try simp -implicitDefEqProofs only[go_sem,vj]))|(refine hK _ _ ?_;clear hK K)|(with_reducible refine ak (fun h=>?_) (fun h=>?_)<;>(try simp only[go_sem] at h)<;>(try exact g_f)<;>(try simp -implicitDefEqProofs only[go_sem,vj]))|fail))
 exact ax (τ:=[]) (by simp) rfl
theorem r5 (σ:aa):af Tryz.prog 5 [] σ fun r σ'=>σ'=σ∧r = .c (.bool true):=by
 have hB:=Bg eM kw;rw[Ey] at hB;have hS1:=rY eM sw kw Df ⟨1,1,0,0,[]⟩ (by decide)
 rw[Db] at hS1;have hS2:=rY eM nZ kw De ⟨2,0,0,0,[]⟩ (by decide)
 rw[y7] at hS2;have hC:=sc eM nY kw Dd;rw[Dc] at hC;have hE:∀S,af Tryz.prog 33 [aF [0,1],aF [0,1]] S fun r σ'=>σ'=S∧r = .c (.bool true):=fun S=>kW [0,1] [0,1] (by decide) S
 have hS1':∀S,af Tryz.prog 22 [.agg (aH eM),.agg (ba sw),.agg [ab 1,ab 1,ab 0,ab 0,.c (.slice none 0 0)]] S fun r σ'=>σ'=S∧r = .tup [.agg (ba nZ),ab 0]:=fun S=>((hS1 S).argW (by (repeat' (first|exact Wk.nil|exact Wk.emp|exact WkL.nil|(with_reducible exact Wk.refl _)|refine Wk.agg ?_|refine Wk.tup ?_|refine WkL.cons ?_ ?_|(refine Wk.eq ?_;rfl)))) )
 have hS2':∀S,af Tryz.prog 22 [.agg (aH eM),.agg (ba nZ),.agg [ab 2,ab 0,ab 0,ab 0,.c (.slice none 0 0)]] S fun r σ'=>σ'=S∧r = .tup [.agg (ba nY),ab 0]:=fun S=>((hS2 S).argW (by (repeat' (first|exact Wk.nil|exact Wk.emp|exact WkL.nil|(with_reducible exact Wk.refl _)|refine Wk.agg ?_|refine Wk.tup ?_|refine WkL.cons ?_ ?_|(refine Wk.eq ?_;rfl)))) )
 refine af.cutX ?_;refine g_n Tryz.func5 rfl Tryz.results5 Tryz.ntmps5 ?_
 (repeat' (first|(refine g_s fun K hK=>?_)|((first|refine g_t ?_|refine g_G ?_|refine g_U ?_|refine (rm _).use ?_|refine g_q (fun τ=>rm _) ?_|refine (hB _).use ?_|refine g_q (fun τ=>hS1' _) ?_|refine g_q (fun τ=>hS2' _) ?_|refine g_q (fun τ=>hC _) ?_|refine g_q (fun τ=>hE _) ?_|refine oz a9 (by decide +kernel) ?_);(try simp -implicitDefEqProofs only[go_sem,nY]))|(refine hK _ _ ?_;clear hK K)|(with_reducible refine ak (fun h=>?_) (fun h=>?_)<;>(try simp only[go_sem] at h)<;>(try exact g_f)<;>(try simp -implicitDefEqProofs only[go_sem,nY]))|fail))
 exact ax rfl rfl
end Go.Proofs.YtephecognbbaoaaGreat
