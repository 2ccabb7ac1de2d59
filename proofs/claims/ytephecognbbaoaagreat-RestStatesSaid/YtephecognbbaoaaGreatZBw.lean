/- The law RestStates, walked. -/
import Derived.Test.YtephecognbbaoaaGreatZBs
import Derived.Test.YtephecognbbaoaaGreatZHb
import Derived.Test.YtephecognbbaoaaGreatZFp
import Derived.Test.YtephecognbbaoaaGreatZFd
import Derived.Test.YtephecognbbaoaaGreatZHh
import Derived.Test.YtephecognbbaoaaGreatZEa
import Derived.Test.YtephecognbbaoaaGreatZBp
import Derived.Test.YtephecognbbaoaaGreatZPs
open Go
set_option linter.all false
set_option maxRecDepth 100000
set_option maxHeartbeats 4000000
namespace Go.Proofs.YtephecognbbaoaaGreat
open Go
set_option linter.all false
set_option maxRecDepth 100000
set_option maxHeartbeats 4000000
theorem tx (n:Net) (x:List (List Int)) (e:Eng) (v:Evt) (p:Pl) (okn:dM n) (okx:dN x) (ok:cj e) (ev:By v) (okp:d8 p) (σ:aa):af Tryz.prog 4 [.agg (aH n),aL x,.agg (ba e),.agg (cl v),.agg (plC p)] σ fun r _=>r = .c (.bool true):=by
 have hNB:=uu;have hEB:=r5;have hPB:=tA;have stb:dN n.alg.best:=⟨okn.alg.hb,fun r hr=>okn.alg.hrow r (List.mem_append_left _ hr)⟩;have ste:dN n.alg.edges:=⟨okn.alg.he,fun r hr=>okn.alg.hrow r (List.mem_append_right _ hr)⟩;have hcx:=gl x okx;have hcb:=gl n.alg.best stb;have hce:=gl n.alg.edges ste;have hF:=zO n x okn okx;have hCE:=sK n e okn ok;have hBO:=wS p okp;have hSx:=cZ x x okx;have hSb:=cZ n.alg.best n.alg.best stb;have hSe:=cZ n.alg.edges n.alg.edges ste;rw[decide_eq_true rfl] at hSx hSb hSe;have hRd:=xT n x okn okx;have hSt:=wI n x okn okx;have hSp:=rX n e okn ok v ev.rl;have hBd:=yN p okp;have hTb:=xi n x okn okx;obtain⟨⟨⟨bs,bB,bE⟩,bw⟩,hBP⟩:∃B,db p=B:=⟨_,rfl⟩;have hSA:=mB ⟨bs,bB,bE⟩ ⟨bs,bB,bE⟩ (by have:=(yK p).1;rw[hBP] at this;exact this) (by have:=(yK p).2;rw[hBP] at this;exact this)
 rw[decide_eq_true rfl] at hSA;rw[hBP] at hBO;simp only[hBP] at hBd;obtain⟨R,hRs⟩:∃R,mM n e v=R:=⟨_,rfl⟩;simp only[hRs] at hSp;obtain⟨w,hw⟩:∃w,da n x=w:=⟨_,rfl⟩;simp only[hw] at hF hRd hTb;obtain⟨u,hu⟩:∃u,ew n e=u:=⟨_,rfl⟩;simp only[hu] at hCE;obtain⟨pk,pn,ped,pps⟩:=p;simp only[a7] at hBO hBd ⊢;unfold lW at hBO;refine g_n Tryz.func4 rfl Tryz.results4 Tryz.ntmps4 ?_;refine g_s fun K hK=>?_;refine g_h ?_;refine hK _ _ ?_;clear hK K;refine g_0 5 rfl ?_;refine g_0 7 rfl ?_;refine g_0 8 rfl ?_;refine g_0 9 rfl ?_
 (repeat' (first|(refine g_s fun K hK=>?_)|(refine g_k ?_;simp only[ah,ae])|(refine g_C (fun h=>?_) (fun h=>?_)<;>(try exact g_f))|((first|refine g_g ?_|refine g_U ?_|refine (hNB _).use ?_|refine (hEB _).use ?_|refine (hPB _).use ?_|refine (hcx _).use ?_|refine g_q (fun τ=>hcb _) ?_|refine g_q (fun τ=>hce _) ?_|refine g_q (fun τ=>hF _) ?_|refine g_q (fun τ=>hCE _) ?_);(try refine g_y ?_))|(refine hK _ _ ?_;clear hK K)|exact trivial|fail))
 refine (hBO _).use ?_;simp -implicitDefEqProofs only[go_sem];refine hK _ _ ?_;clear hK K;refine g_0 16 rfl ?_
 (repeat' (first|(refine g_s fun K hK=>?_)|(refine g_b ?_)|(refine g_g ?_;(try refine g_y ?_))|(refine hK _ _ ?_;clear hK K)|exact trivial|fail))
 refine aK.weak (β:=[(18,ab 0),(16,.cp (aS ⟨bs,bB,bE⟩) 0),(17,ab bw),(15,ab u),(14,ab w),(13,aL n.alg.edges),(12,aL n.alg.best),(11,aL x),(9,.cp [ab pk,ab pn,aF ped,.sl (pps.map plC)] 0),(8,.cp (cl v) 0),(7,.cp (ba e) 0),(5,.cp (aH n) 0),(1,aL x),(10,.c (.bool false))]) (ai ?_) ?_
 ·exact g_w
 obtain⟨S0,hS0⟩:∃T:aa,σ++[.dead,.dead,.dead,.dead,.dead]=T:=⟨_,rfl⟩;rw[hS0];refine b8 2 (fun _ (_:aa)=>True) (fun k _ _=>[(18,ab k)]) (fun _ S _=>S) S0 [] (by omega) trivial rfl (ai ?_) ?_
 ·exact g_w
 clear hS0 S0;rintro k S τ0 hk0 hk1 _ L hL
 by_cases hk:k<2
 rotate_left 1
 ·have hk:k=2:=by omega
  subst hk;simp -implicitDefEqProofs only[go_sem]
  (repeat' (first|(refine g_s fun K hK=>?_)|(refine g_e ?_;simp only[ah,ae,↓reduceIte,Nat.reduceEqDiff])|(refine g_C (fun h=>?_) (fun h=>?_)<;>(try exact g_f))|((first|refine g_t ?_|refine g_g ?_);(try refine g_y ?_))|(refine hK _ _ ?_;clear hK K)|(clear hK K;first|(refine hK _ _ ?_;clear hK K)|(clear hK K;with_reducible refine hK _ _ ?_;clear hK K)|(clear hK K;clear hK K;with_reducible refine hK _ _ ?_;clear hK K))|exact trivial|fail))
  done
 have ik:I64 (k+1):=by unfold I64;omega
 simp -implicitDefEqProofs only[go_sem]
 (repeat' (first|(refine g_s fun K hK=>?_)|(refine g_b ?_)|(refine g_k ?_;simp only[ah,ae])|(refine g_C (fun h=>?_) (fun h=>?_)<;>(try exact g_f))|(refine g_g ?_;(try simp -implicitDefEqProofs only[go_sem,hk,ik]))|(refine hK _ _ ?_;clear hK K)|fail))
 refine af.useX (hRd _) ?_;rintro τ1 r ⟨ia,a,rfl,hA⟩;have gA:Ag 0 S.length S (S++τ1):=.app;have l1:S.length≤(S++τ1).length:=by simp
 obtain⟨S1,hS1⟩:∃T:aa,S++τ1=T:=⟨_,rfl⟩;rw[hS1] at hA gA l1 ⊢;have oa:=hA.one;unfold cw at oa;simp -implicitDefEqProofs only[go_sem,oa]
 (repeat' (first|(refine g_s fun K hK=>?_)|(refine g_g ?_;(try simp -implicitDefEqProofs only[go_sem,oa]))|(refine hK _ _ ?_;clear hK K)|fail))
 refine af.useX (hSt _) ?_;rintro τ2 r ⟨ib,b,kb,ub,MB,rfl,hB⟩;have gB:Ag 0 S1.length S1 (S1++τ2):=.app;have l2:S1.length≤(S1++τ2).length:=by simp
 obtain⟨S2,hS2⟩:∃T:aa,S1++τ2=T:=⟨_,rfl⟩;rw[hS2] at hB gB l2 ⊢;have ob:=hB.one;unfold cw at ob;simp -implicitDefEqProofs only[go_sem,oa,ob]
 (repeat' (first|(refine g_s fun K hK=>?_)|(refine g_g ?_;(try simp -implicitDefEqProofs only[go_sem,oa,ob]))|(refine hK _ _ ?_;clear hK K)|fail))
 refine af.useX (hSp _) ?_;rintro τ3 r ⟨c,rfl,hC⟩;obtain⟨q1,q2,rfl,o1,o2⟩:=hC.form;unfold cw at o1 o2;have gC:Ag 0 S2.length S2 (S2++τ3):=.app;have l3:S2.length≤(S2++τ3).length:=by simp
 obtain⟨S3,hS3⟩:∃T:aa,S2++τ3=T:=⟨_,rfl⟩;rw[hS3] at hC gC l3 ⊢;simp -implicitDefEqProofs only[go_sem,oa,ob,o1,o2]
 (repeat' (first|(refine g_s fun K hK=>?_)|(refine g_g ?_;(try simp -implicitDefEqProofs only[go_sem,oa,ob,o1,o2]))|(refine hK _ _ ?_;clear hK K)|fail))
 have gC':Ag 0 S3.length S3 (S3++[Ob.cells 2 [[q1,q2]]]):=.app;have hcc:(S3++[Ob.cells 2 [[q1,q2]]])[S3.length]? = some (Ob.cells 2 [[q1,q2]]):=by simp
 have lc:(S3++[Ob.cells 2 [[q1,q2]]]).length=S3.length+1:=by simp
 obtain⟨SC,hSC⟩:∃T:aa,S3++[Ob.cells 2 [[q1,q2]]]=T:=⟨_,rfl⟩;rw[hSC] at gC' hcc lc ⊢;refine af.useX (hBd _) ?_;rintro τ4 r ⟨bi,bv,ei,ea,rfl,hBv,hEa,hdj⟩;have gD:Ag 0 SC.length SC (SC++τ4):=.app;have l4:SC.length≤(SC++τ4).length:=by simp
 obtain⟨S4,hS4⟩:∃T:aa,SC++τ4=T:=⟨_,rfl⟩;rw[hS4] at hBv hEa gD l4 ⊢;have o3:=hBv.one;have o4:=hEa.one;unfold cw at o3 o4;simp -implicitDefEqProofs only[go_sem,oa,ob,o1,o2,o3,o4]
 (repeat' (first|(refine g_s fun K hK=>?_)|(refine g_g ?_;(try simp -implicitDefEqProofs only[go_sem,oa,ob,o1,o2,o3,o4]))|(refine hK _ _ ?_;clear hK K)|fail))
 have gD':Ag 0 S4.length S4 (S4++[Ob.cells 3 [[.c (.int .i64 bs),bv,ea]]]):=.app;have hdd:(S4++[Ob.cells 3 [[.c (.int .i64 bs),bv,ea]]])[S4.length]? = some (Ob.cells 3 [[.c (.int .i64 bs),bv,ea]]):=by simp
 have ld:(S4++[Ob.cells 3 [[.c (.int .i64 bs),bv,ea]]]).length=S4.length+1:=by simp
 obtain⟨SD,hSD⟩:∃T:aa,S4++[Ob.cells 3 [[.c (.int .i64 bs),bv,ea]]]=T:=⟨_,rfl⟩;rw[hSD] at gD' hdd ld ⊢;refine af.useX (hTb _) ?_;rintro τ5 r ⟨it,t,MT,rfl,hT⟩;have gE:Ag 0 SD.length SD (SD++τ5):=.app;have l5:SD.length≤(SD++τ5).length:=by simp
 obtain⟨S5,hS5⟩:∃T:aa,SD++τ5=T:=⟨_,rfl⟩;rw[hS5] at hT gE l5 ⊢;have o5:=hT.one;unfold cw at o5;simp -implicitDefEqProofs only[go_sem,o5];have hJ:=hK;clear hK
 skip
 refine hJ _ _ ?_;clear hJ;have A1:Ag 0 S1.length S1 S5:=gB.then (gC.then (gC'.then (gD.then (gD'.then gE (by omega)) (by omega)) (by omega)) (by omega)) (by omega)
 have A2:Ag 0 S2.length S2 S5:=gC.then (gC'.then (gD.then (gD'.then gE (by omega)) (by omega)) (by omega)) (by omega)
 have A3:Ag 0 S3.length S3 S5:=gC'.then (gD.then (gD'.then gE (by omega)) (by omega)) (by omega)
 have AC:Ag 0 SC.length SC S5:=gD.then (gD'.then gE (by omega)) (by omega)
 have A4:Ag 0 S4.length S4 S5:=gD'.then gE (by omega)
 have hA5:Mat S5 S.length ia a (if w=0 then cr n x else []):=hA.ag (A1.more (Nat.zero_le _) (Nat.le_refl _))
 have hB5:Mat S5 S1.length ib b MB:=hB.ag (A2.more (Nat.zero_le _) (Nat.le_refl _));have hBv5:Mat S5 SC.length bi bv bB:=hBv.ag (A4.more (Nat.zero_le _) (Nat.le_refl _));have hEa5:Mat S5 SC.length ei ea bE:=hEa.ag (A4.more (Nat.zero_le _) (Nat.le_refl _));have hc5:S5[S3.length]? = some (Ob.cells 2 [[q1,q2]]):=AC.get (Nat.zero_le _) (by omega) hcc
 have hd5:S5[S4.length]? = some (Ob.cells 3 [[.c (.int .i64 bs),bv,ea]]):=gE.get (Nat.zero_le _) (by omega) hdd
 have rA:=hA.lt;have rB:=hB.lt;have rV:=hBv.lt;have rE:=hEa.lt;have rT:=hT.lt;refine aK.weak (β:=[(19,a),(21,b),(24,.ptr S3.length 2 0 0),(25,ab R.2),(26,.ptr S4.length 3 0 0),(27,ab bw),(28,t),(18,ab k),(16,.cp (aS ⟨bs,bB,bE⟩) 0),(17,ab bw),(15,ab u),(14,ab w),(13,aL n.alg.edges),(12,aL n.alg.best),(11,aL x),(9,.cp [ab pk,ab pn,aF ped,.sl (pps.map plC)] 0),(8,.cp (cl v) 0),(7,.cp (ba e) 0),(5,.cp (aH n) 0),(1,aL x)]) (ai ?_) ?_
 ·exact g_w
 refine g_s fun K hK=>?_;have hJ:=hK;clear hK
 (repeat' (first|(refine g_s fun K hK=>?_)|(refine g_k ?_;simp only[ah,ae])|(refine g_C (fun h=>?_) (fun h=>?_)<;>(try exact g_f))|((first|refine g_g ?_|refine (hSx _).use ?_|refine (hSb _).use ?_|refine (hSe _).use ?_);(try refine g_y ?_))|(refine hK _ _ ?_;clear hK K)|exact trivial|fail))
 refine hJ _ _ ?_;clear hJ;refine aK.weak (β:=[(19,a),(21,b),(24,.ptr S3.length 2 0 0),(25,ab R.2),(26,.ptr S4.length 3 0 0),(27,ab bw),(28,t),(18,ab k),(16,.cp (aS ⟨bs,bB,bE⟩) 0),(17,ab bw),(15,ab u),(14,ab w),(13,aL n.alg.edges),(12,aL n.alg.best),(11,aL x),(9,.cp [ab pk,ab pn,aF ped,.sl (pps.map plC)] 0),(8,.cp (cl v) 0),(7,.cp (ba e) 0),(5,.cp (aH n) 0),(1,aL x)]) (ai ?_) ?_
 ·exact g_w
 refine g_s fun K hK=>?_;have hR:∀α,ALe α [(19,a),(21,b),(24,.ptr S3.length 2 0 0),(25,ab R.2),(26,.ptr S4.length 3 0 0),(27,ab bw),(28,t),(18,ab k),(16,.cp (aS ⟨bs,bB,bE⟩) 0),(17,ab bw),(15,ab u),(14,ab w),(13,aL n.alg.edges),(12,aL n.alg.best),(11,aL x),(9,.cp [ab pk,ab pn,aF ped,.sl (pps.map plC)] 0),(8,.cp (cl v) 0),(7,.cp (ba e) 0),(5,.cp (aH n) 0),(1,aL x)]→K α S5:=by
  intro α ha;refine hK _ _ (aK.weak ha ?_);clear ha hK;refine g_s fun K hK=>?_;have hQ:∀α T,Ag 0 S5.length S5 T→ALe α [(19,a),(21,b),(24,.ptr S3.length 2 0 0),(25,ab R.2),(26,.ptr S4.length 3 0 0),(27,ab bw),(28,t),(18,ab k),(16,.cp (aS ⟨bs,bB,bE⟩) 0),(17,ab bw),(15,ab u),(14,ab w),(13,aL n.alg.edges),(12,aL n.alg.best),(11,aL x),(9,.cp [ab pk,ab pn,aF ped,.sl (pps.map plC)] 0),(8,.cp (cl v) 0),(7,.cp (ba e) 0),(5,.cp (aH n) 0),(1,aL x)]→K α T:=by
   intro α T gT ha;refine hK _ _ (aK.weak ha ?_);clear ha hK;have hA6:=hA5.ag (gT.more (Nat.zero_le _) (Nat.le_refl _))
   (repeat' (first|(refine g_s fun K hK=>?_)|(refine g_g ?_;(try refine g_y ?_))|exact trivial|fail))
   refine hA6.spoil.mono ?_;rintro _ T1 ⟨rfl,e1⟩;have C1:Ag S1.length S5.length S5 T1:=(gT.more (Nat.zero_le _) (Nat.le_refl _)).trans (.else e1 fun y hy=>by have:=rA y hy;omega)
   have hB6:=hB5.ag C1
   (repeat' (first|(refine g_s fun K hK=>?_)|(refine g_g ?_;(try refine g_y ?_))|(refine hK _ _ ?_;clear hK K)|exact trivial|fail))
   refine hB6.spoil.mono ?_;rintro _ T2 ⟨rfl,e2⟩;have C2:Ag S2.length S5.length S5 T2:=(C1.more l2 (Nat.le_refl _)).trans (.else e2 fun y hy=>by have:=rB y hy;omega)
   have hT6:=hT.ag (C2.more (by omega) (Nat.le_refl _))
   (repeat' (first|(refine g_s fun K hK=>?_)|(refine g_g ?_;(try refine g_y ?_))|(refine hK _ _ ?_;clear hK K)|exact trivial|fail))
   refine hT6.spoil.mono ?_;rintro _ T3 ⟨rfl,e3⟩;have C3:Ag S2.length SD.length S5 T3:=(C2.more (Nat.le_refl _) l5).trans (.else e3 fun y hy=>by have:=rT y hy;omega)
   have hd6:=C3.get (by omega) (by omega) hd5
   have g34:Ag SC.length S4.length S4 T3:=(A4.more (Nat.zero_le _) (Nat.le_refl _)).trans (C3.more (by omega) (by omega))
   have hV6:=hBv.ag g34;have hE6:=hEa.ag g34
   (repeat' (first|(refine g_s fun K hK=>?_)|(refine g_g ?_;(try simp -implicitDefEqProofs only[go_sem,hd6]))|(refine hK _ _ ?_;clear hK K)|fail))
   refine hV6.spoil.mono ?_;rintro _ T4 ⟨rfl,e4⟩;have hd7:T4[S4.length]? = _:=(e4.2 S4.length fun hc=>by have:=rV _ hc;omega).trans hd6
   have hE7:=hE6.cg fun y hy=>e4.2 y fun hc=>hdj y hc hy
   (repeat' (first|(refine g_s fun K hK=>?_)|(refine g_g ?_;(try simp -implicitDefEqProofs only[go_sem,hd7]))|(refine hK _ _ ?_;clear hK K)|fail))
   refine hE7.spoil.mono ?_;rintro _ T5 ⟨rfl,e5⟩;have C5:Ag S2.length SC.length S5 T5:=((C3.more (Nat.le_refl _) (by omega)).trans (.else e4 fun y hy=>by have:=rV y hy;omega)).trans (.else e5 fun y hy=>by have:=rE y hy;omega)
   have hc6:=C5.get l3 (by omega) hc5
   have g35:Ag S2.length S3.length S3 T5:=(A3.more (Nat.zero_le _) (Nat.le_refl _)).trans (C5.more (Nat.le_refl _) (by omega))
   clear hA6 hB6 hT6 hV6 hE6 hE7 e1 e2 e3 e4 e5 C1 C2 C3 C5 hd6 hd7 g34
   (repeat' (first|(refine g_s fun K hK=>?_)|(refine g_b ?_)|(refine g_g ?_;(try refine g_y ?_))|(refine hK _ _ ?_;clear hK K)|exact trivial|fail))
   rcases hC with ⟨_,hq⟩|⟨hn,hin,rb,rx,gv,gi,hq,M⟩
   ·simp only[AV.agg.injEq,List.cons.injEq,and_true] at hq;obtain⟨rfl,rfl⟩:=hq;refine b8 0 (fun _ (_:Unit)=>True) (fun q _ _=>[(32,ab q)]) (fun _ _ _=>T5) () [] (by omega) trivial rfl (ai ?_) ?_
    ·exact g_w
    rintro q _ τ9 hq0 hq1 _ L2 hL2;have hq:q=0:=by omega
    subst hq;simp -implicitDefEqProofs only[go_sem]
    (repeat' (first|(refine g_s fun K hK=>?_)|(refine g_b ?_)|(refine g_e ?_;simp only[ah,ae,↓reduceIte,Nat.reduceEqDiff])|(refine g_C (fun h=>?_) (fun h=>?_)<;>(try exact g_f))|(refine g_g ?_;(try simp -implicitDefEqProofs only[go_sem,hc6]))|(refine hK _ _ ?_;clear hK K)|(clear hK K;first|(refine hK _ _ ?_;clear hK K)|(clear hK K;with_reducible refine hK _ _ ?_;clear hK K)|(clear hK K;clear hK K;with_reducible refine hK _ _ ?_;clear hK K))|fail))
    refine b8 0 (fun _ (_:Unit)=>True) (fun q _ _=>[(33,ab q)]) (fun _ _ _=>T5) () [] (by omega) trivial rfl (ai ?_) ?_
    ·exact g_w
    rintro q _ τ8 hq0 hq1 _ L3 hL3;have hq:q=0:=by omega
    subst hq;simp -implicitDefEqProofs only[go_sem]
    (repeat' (first|(refine g_s fun K hK=>?_)|(refine g_e ?_;simp only[ah,ae,↓reduceIte,Nat.reduceEqDiff])|(refine g_C (fun h=>?_) (fun h=>?_)<;>(try exact g_f))|(refine g_g ?_;(try simp -implicitDefEqProofs only[go_sem,hc6,ik]))|(refine hK _ _ ?_;clear hK K)|(clear hK K;first|(refine hK _ _ ?_;clear hK K)|(clear hK K;with_reducible refine hK _ _ ?_;clear hK K)|(clear hK K;clear hK K;with_reducible refine hK _ _ ?_;clear hK K))|fail))
    refine hL hk T5 [] _ _ trivial (ai ?_) rfl;simp -implicitDefEqProofs only[go_sem]
   ·simp only[AV.agg.injEq,List.cons.injEq,and_true] at hq;obtain⟨hq1,hq2⟩:=hq;subst hq1;subst hq2;have n6:=hn.n6;have hel:=hin.len;have hrl:=M.len;have hge:∀y∈rb::(rx.flatMap RX.ids++gi),∀o,S3[y]? = some o→T5[y]? = some o:=fun y hy o ho=>g35.get (M.lo y hy) (List.getElem?_eq_some_iff.1 ho).1 ho;have E0:SpE T5 S3.length R.1.routers.length rb rx q2 gi R.1.bag 0:=⟨hc6,hge _ (by simp) _ M.hrb,fun j hj _=>(M.ho _ (List.getElem_mem hj)).congr fun y hy=>hge y (List.mem_cons_of_mem _ (List.mem_append_left _ (List.mem_flatMap.2 ⟨_,List.getElem_mem hj,hy⟩))),by
     rcases M.bag with ⟨h1,h2,h3⟩|⟨gb,rest,h1,h2,h3,h4,h5⟩
     ·exact .inl ⟨h1,h2,h3⟩
     ·exact .inr ⟨gb,rest,h1,h2,hge gb (by rw[h1];simp) _ h3,h4,h5⟩,M.nd,fun hc=>by
     have:=M.lt _ hc;omega⟩
    refine b8 (R.1.routers.length:Int) (fun q (Z:aa)=>SpE Z S3.length R.1.routers.length rb rx q2 gi R.1.bag q.toNat) (fun q _ _=>[(32,ab q)]) (fun _ Z _=>Z) T5 [] (by omega) E0 rfl (ai ?_) ?_
    ·exact g_w
    rintro q Z τ9 hq0 hq1 hE L2 hL2;have hcZ:=hE.hc;have hrZ:=hE.hrb
    by_cases hlt:q<R.1.routers.length
    ·have iq:I64 (q+1):=by unfold I64;omega
     have hkr:q.toNat<rx.length:=by omega
     obtain⟨y,hy⟩:∃y,rx[q.toNat]=y:=⟨_,rfl⟩;have hg:(rx.map rxC)[q.toNat]? = some [.own y.ro 1 0 y.routes.length y.routes.length,y.tv]:=by
      rw[List.getElem?_map,List.getElem?_eq_getElem hkr,hy];rfl
     have hym:y∈rx:=by rw[←hy];exact List.getElem_mem hkr
     have hY:mA Z y:=by rw[←hy];exact hE.ho _ hkr (Nat.le_refl _)
     have hnd:y.ids.Nodup:=Es rx (by
      have:=hE.nd;rw[List.nodup_cons,List.nodup_append] at this;exact this.2.1) y hym
     have hyr:fp n y.rtr:=hin.rtr _ (by rw[←M.er];exact List.mem_map_of_mem hym)
     have hro:y.ro∉y.rows:=fun hc=>by
      rw[RX.ids,List.nodup_cons] at hnd;exact hnd.1 (List.mem_append_right _ hc)
     have hsub:∀z∈y.ids,z∈rx.flatMap RX.ids:=fun z hz=>List.mem_flatMap.2 ⟨y,hym,hz⟩;have hcn:S3.length∉y.rows:=fun hc=>hE.nc (List.mem_cons_of_mem _ (List.mem_append_left _ (hsub _ (by simp [RX.ids,hc]))))
     have hrn:rb∉y.rows:=fun hc=>(List.nodup_cons.1 hE.nd).1 (List.mem_append_left _ (hsub _ (by simp [RX.ids,hc])))
     have y1:=hyr.rl;have y2:=hyr.tl;simp -implicitDefEqProofs only[go_sem]
     (repeat' (first|(refine g_s fun K hK=>?_)|(refine g_b ?_)|(refine g_k ?_;simp only[ah,ae])|(refine g_C (fun h=>?_) (fun h=>?_)<;>(try exact g_f))|(refine g_g ?_;(try simp -implicitDefEqProofs only[go_sem,hlt,iq,hcZ,hrZ,hg]))|(refine hK _ _ ?_;clear hK K)|(with_reducible refine And.intro ?_ ?_;· exact g_x)|fail))
     refine (BO Z y hY hnd (by show y.rtr.told.length≤1000;omega) (fun l hl=>by
      rcases hyr.tr l hl with rfl|h
      ·exact Nat.zero_le _
      ·have:=h.1;omega)).mono ?_
     rintro _ Z1 ⟨rfl,z1⟩;have hc1:=(z1.2 _ hcn).trans hcZ;have hr1:=(z1.2 _ hrn).trans hrZ;have ho1:=(z1.2 _ hro).trans hY.ro
     (repeat' (first|(refine g_g ?_;(try simp -implicitDefEqProofs only[go_sem,hc1,hr1,hg]))|(refine hK _ _ ?_;clear hK K)|(with_reducible refine And.intro ?_ ?_;· exact g_x)|fail))
     refine (Dm (Z1++[Ob.cells 1 [[.own y.ro 1 0 y.routes.length y.routes.length]]]) Z1.length y.ro y.routes (by show y.rtr.routes.length≤1000;omega) (by simp) (az ho1) (by have:=(List.getElem?_eq_some_iff.1 ho1).1;omega)).mono ?_
     rintro _ Z2 ⟨rfl,z2⟩;have hN:=hE.next hkr (S':=Z2) fun z hz o ho=>by
      rw[hy] at hz;have h1:z∉y.rows:=fun hc=>hz (by simp [RX.ids,hc])
      have h2:z≠y.ro:=fun hc=>hz (by simp [RX.ids,hc])
      rw[z2.2 z (by simpa using h2)]
      exact az ((z1.2 z h1).trans ho)
     (repeat' (first|(refine g_g ?_;(try simp -implicitDefEqProofs only[go_sem,iq]))|(refine hK _ _ ?_;clear hK K)|fail))
     refine hL2 hlt Z2 [] _ _ (by rw[show (q+1).toNat=q.toNat+1 by omega];exact hN) (ai ?_) rfl
     simp -implicitDefEqProofs only[go_sem]
    ·have hq:q=R.1.routers.length:=by omega
     subst hq
     rcases hE.bag with ⟨b1,b2,b0⟩|⟨gb,rest,b1,b0,b3,b4,b5⟩
     ·rw[b0] at hcZ;simp -implicitDefEqProofs only[go_sem]
      (repeat' (first|(refine g_s fun K hK=>?_)|(refine g_b ?_)|(refine g_e ?_;simp only[ah,ae,↓reduceIte,Nat.reduceEqDiff])|(refine g_C (fun h=>?_) (fun h=>?_)<;>(try exact g_f))|(refine g_g ?_;(try simp -implicitDefEqProofs only[go_sem,hcZ]))|(refine hK _ _ ?_;clear hK K)|(clear hK K;first|(refine hK _ _ ?_;clear hK K)|(clear hK K;with_reducible refine hK _ _ ?_;clear hK K)|(clear hK K;clear hK K;with_reducible refine hK _ _ ?_;clear hK K))|fail))
      refine b8 0 (fun _ (_:Unit)=>True) (fun q _ _=>[(33,ab q)]) (fun _ _ _=>Z) () [] (by omega) trivial rfl (ai ?_) ?_
      ·exact g_w
      rintro q _ τ8 hq0 hq1 _ L3 hL3;have hq:q=0:=by omega
      subst hq;simp -implicitDefEqProofs only[go_sem]
      (repeat' (first|(refine g_s fun K hK=>?_)|(refine g_e ?_;simp only[ah,ae,↓reduceIte,Nat.reduceEqDiff])|(refine g_C (fun h=>?_) (fun h=>?_)<;>(try exact g_f))|(refine g_g ?_;(try simp -implicitDefEqProofs only[go_sem,hcZ,ik]))|(refine hK _ _ ?_;clear hK K)|(clear hK K;first|(refine hK _ _ ?_;clear hK K)|(clear hK K;with_reducible refine hK _ _ ?_;clear hK K)|(clear hK K;clear hK K;with_reducible refine hK _ _ ?_;clear hK K))|fail))
      refine hL hk Z [] _ _ trivial (ai ?_) rfl;simp -implicitDefEqProofs only[go_sem]
     ·rw[b0] at hcZ;simp -implicitDefEqProofs only[go_sem]
      (repeat' (first|(refine g_s fun K hK=>?_)|(refine g_b ?_)|(refine g_e ?_;simp only[ah,ae,↓reduceIte,Nat.reduceEqDiff])|(refine g_C (fun h=>?_) (fun h=>?_)<;>(try exact g_f))|(refine g_g ?_;(try simp -implicitDefEqProofs only[go_sem,hcZ]))|(refine hK _ _ ?_;clear hK K)|(clear hK K;first|(refine hK _ _ ?_;clear hK K)|(clear hK K;with_reducible refine hK _ _ ?_;clear hK K)|(clear hK K;clear hK K;with_reducible refine hK _ _ ?_;clear hK K))|fail))
      refine b8 (R.1.bag.length:Int) (fun m (s:List (List AV)×aa)=>s.2[S3.length]? = some (Ob.cells 2 [[.own rb 2 0 R.1.routers.length R.1.routers.length,.own gb 3 0 R.1.bag.length (R.1.bag.length+rest.length)]])∧s.2[gb]? = some (.cells 3 s.1)∧s.1.length=R.1.bag.length+rest.length∧∀e'∈s.1,e'.length=3) (fun m _ _=>[(33,ab m)]) (fun _ s _=>s.2) (R.1.bag.map aJ++rest,Z) [] (by omega) ⟨hcZ,b3,by simp,fun e' he'=>?_⟩ rfl (ai ?_) ?_
      ·rcases List.mem_append.1 he' with h|h
       ·obtain⟨m,_,rfl⟩:=List.mem_map.1 h;rfl
       ·exact (b4 e' h).1
      ·exact g_w
      rintro m ⟨es,Z2⟩ τ8 hm0 hm1 ⟨j1,j2,j3,j4⟩ L3 hL3;simp only at j1 j2 j3 j4
      by_cases hm:m<R.1.bag.length
      ·have im:I64 (m+1):=by have:=hin.bag;unfold I64;omega
       have hme:m.toNat<es.length:=by omega
       obtain⟨f1,f2,f3,hf⟩:∃f1 f2 f3,es[m.toNat]? = some [f1,f2,f3]:=by
        have h3:=j4 _ (List.getElem_mem hme);rw[List.getElem?_eq_getElem hme]
        generalize es[m.toNat]=z at h3
        rcases z with _|⟨f1,_|⟨f2,_|⟨f3,_|⟨f4,z⟩⟩⟩⟩<;>simp at h3
        exact⟨f1,f2,f3,rfl⟩
       have hL4:=fun (es':List (List AV)) h α' ha=>hL3 hm (es',Z2.set gb (Ob.cells 3 es')) [] α' _ h ha rfl;simp -implicitDefEqProofs only[go_sem]
       (repeat' (first|(refine g_s fun K hK=>?_)|(refine g_b ?_)|(refine g_k ?_;simp only[ah,ae])|(refine g_C (fun h=>?_) (fun h=>?_)<;>(try exact g_f))|(refine g_g ?_;(try simp -implicitDefEqProofs only[go_sem,hm,im,j1,j2,hf,j3]))|(refine hK _ _ ?_;clear hK K)|(with_reducible refine And.intro ?_ ?_;· exact g_x)|fail))
       refine hL4 _ ⟨?_,?_,?_,?_⟩ _ (ai ?_)
       ·have hgb:gb≠S3.length:=fun hc=>hE.nc (by rw[←hc,b1];simp)
        rw[List.getElem?_set_ne hgb];exact j1
       ·exact List.getElem?_set_self (List.getElem?_eq_some_iff.1 j2).1
       ·rw[List.length_set];exact j3
       ·intro e' he'
        rcases List.mem_or_eq_of_mem_set he' with h|rfl
        ·exact j4 _ h
        ·rfl
       ·exact g_w
      ·have hm:m=R.1.bag.length:=by omega
       subst hm;simp -implicitDefEqProofs only[go_sem]
       (repeat' (first|(refine g_s fun K hK=>?_)|(refine g_e ?_;simp only[ah,ae,↓reduceIte,Nat.reduceEqDiff])|(refine g_C (fun h=>?_) (fun h=>?_)<;>(try exact g_f))|(refine g_g ?_;(try simp -implicitDefEqProofs only[go_sem,j1,ik]))|(refine hK _ _ ?_;clear hK K)|(clear hK K;first|(refine hK _ _ ?_;clear hK K)|(clear hK K;with_reducible refine hK _ _ ?_;clear hK K)|(clear hK K;clear hK K;with_reducible refine hK _ _ ?_;clear hK K))|fail))
       refine hL hk Z2 [] _ _ trivial (ai ?_) rfl;simp -implicitDefEqProofs only[go_sem]
  clear hK
  by_cases hu0:u=0
  ·rw[hu0] at hu;obtain⟨hc,he⟩:=yA hu;have hn:=aU hc;have hby:cu e:=fun m hm=>(ok.mail m hm).rng;have hSO:=xu n e hc okn.len he hby ok v ev;have eR:mN n e v=R:=by rw[←hRs,mM,hu,if_neg (not_not_intro rfl),mN]
   simp only[eR] at hSO;have hcL:∀τ,(S5++τ)[S3.length]? = some (Ob.cells 2 [[q1,q2]]):=fun τ=>az hc5
   by_cases h2:R.2=0
   ·have okR:cj R.1:=by
     rw[←eR,mN] at h2 ⊢
     by_cases h3:(aN n e v).2=0
     ·rw[if_neg (not_not_intro h3)];exact tK hn (Ae hc he v) (Fo hc he hby v)
     ·rw[if_pos h3] at h2;exact absurd h2 h3
    have hSn:∀τ,af Tryz.prog 28 [.agg [q1,q2],.agg (ba R.1)] (S5++τ) fun r σ'=>σ'=S5++τ∧r = .c (.bool true):=fun τ=>
     af.borrowD (.c _) (.cons (hC.deep (fun y hy o ho=>az (A3.get (Nat.zero_le _) (List.getElem?_eq_some_iff.1 ho).1 ho)) fun _ _=>trivial) (.cons (.same _) .nil)) (tu R.1 okR)
    (repeat' (first|(refine g_s fun K hK=>?_)|(refine g_k ?_;simp only[ah,ae])|(refine g_C (fun h=>?_) (fun h=>?_)<;>(try exact g_f))|((first|refine g_g ?_|refine (hSO _).use ?_|refine (hSn _).use ?_);(try simp -implicitDefEqProofs only[go_sem,hu0,h2,hcL]))|(refine hK _ _ ?_;clear hK K)|(with_reducible refine ak (fun h=>?_) (fun h=>?_)<;>(try simp only[go_sem] at h)<;>(try exact g_f)<;>(try simp -implicitDefEqProofs only[go_sem,hu0,h2,hcL]))|fail))
    refine hQ _ _ .app (ai ?_);simp -implicitDefEqProofs only[go_sem,hu0,h2]
   ·(repeat' (first|(refine g_s fun K hK=>?_)|(refine g_k ?_;simp only[ah,ae])|(refine g_C (fun h=>?_) (fun h=>?_)<;>(try exact g_f))|((first|refine g_g ?_|refine (hSO _).use ?_);(try simp -implicitDefEqProofs only[go_sem,hu0,h2,hcL]))|(refine hK _ _ ?_;clear hK K)|(with_reducible refine ak (fun h=>?_) (fun h=>?_)<;>(try simp only[go_sem] at h)<;>(try exact g_f)<;>(try simp -implicitDefEqProofs only[go_sem,hu0,h2,hcL]))|fail))
    refine hQ _ _ .app (ai ?_);simp -implicitDefEqProofs only[go_sem,hu0,h2]
  ·(repeat' (first|(refine g_s fun K hK=>?_)|(refine g_k ?_;simp only[ah,ae])|(refine g_C (fun h=>?_) (fun h=>?_)<;>(try exact g_f))|(refine g_g ?_;(try simp -implicitDefEqProofs only[go_sem,hu0]))|(refine hK _ _ ?_;clear hK K)|fail))
   refine hQ _ S5 .refl (ai ?_);simp -implicitDefEqProofs only[go_sem,hu0]
 clear hK;have hSA5:af Tryz.prog 26 [.agg [ab bs,bv,ea],.agg (aS ⟨bs,bB,bE⟩)] S5 fun r σ'=>σ'=S5∧r = .c (.bool true):=
  af.borrowD (.c _) (.cons (.aggL (.cons (.same _) (.cons hBv5.deep (.cons hEa5.deep .nil)))) (.cons (.same _) .nil)) hSA
 by_cases h0:w=0
 ·rw[h0] at hw;obtain⟨hn,hx⟩:=lT hw;rw[if_pos h0] at hA5;have hRo:=wK n x hn hx okn.len;have hSr:=cZ (cr n x) (cr n x) ((pY hn hx).stOk hn);rw[decide_eq_true rfl] at hSr;have hSa5:af Tryz.prog 14 [a,aL (cr n x)] S5 fun r σ'=>σ'=S5∧r = .c (.bool true):=
   af.borrowD (.c _) (.cons hA5.deep (.cons (.same _) .nil)) hSr
  (repeat' (first|(refine g_s fun K hK=>?_)|(refine g_k ?_;simp only[ah,ae])|(refine g_C (fun h=>?_) (fun h=>?_)<;>(try exact g_f))|((first|refine g_g ?_|refine (hRo _).use ?_|refine (hSa5).use ?_|refine (hSA5).use ?_);(try simp -implicitDefEqProofs only[go_sem,h0,hd5]))|(refine hK _ _ ?_;clear hK K)|(with_reducible refine ak (fun h=>?_) (fun h=>?_)<;>(try simp only[go_sem] at h)<;>(try exact g_f)<;>(try simp -implicitDefEqProofs only[go_sem,h0,hd5]))|fail))
  refine hR _ (ai ?_);simp -implicitDefEqProofs only[go_sem,h0]
 ·(repeat' (first|(refine g_s fun K hK=>?_)|(refine g_k ?_;simp only[ah,ae])|(refine g_C (fun h=>?_) (fun h=>?_)<;>(try exact g_f))|((first|refine g_g ?_|refine (hSA5).use ?_);(try simp -implicitDefEqProofs only[go_sem,h0,hd5]))|(refine hK _ _ ?_;clear hK K)|(with_reducible refine ak (fun h=>?_) (fun h=>?_)<;>(try simp only[go_sem] at h)<;>(try exact g_f)<;>(try simp -implicitDefEqProofs only[go_sem,h0,hd5]))|fail))
  refine hR _ (ai ?_);simp -implicitDefEqProofs only[go_sem,h0]
end Go.Proofs.YtephecognbbaoaaGreat
namespace Go.Proofs.YtephecognbbaoaaGreat
theorem Du {W:World} : aP Tryz.prog W 69 bF w7:=by
 have h0:=aP.struct (P:=Tryz.prog) (W:=W) (t:=69) (n:=1+(1+0)) Tryz.underlying69 (by kernel_rfl) (bR.cons (k:=1) rfl (by kernel_rfl) vT (bR.cons (k:=1) rfl (by kernel_rfl) uo bR.nil))
 refine aP.map (X:=List Int×List (List Int)×Unit) (fun x=>(⟨x.1,x.2.1⟩:Rtr)) (fun _=>rfl) (fun x h=>?_) h0;obtain⟨h1,h2,_⟩:=h;exact⟨h1,h2.len,h2.row⟩
theorem B4 {W:World} : aP Tryz.prog W 71 aJ CR:=by
 have h0:=aP.struct (P:=Tryz.prog) (W:=W) (t:=71) (n:=1+(1+(1+0))) Tryz.underlying71 (by kernel_rfl) (bR.cons (k:=1) rfl (by kernel_rfl) (aP.int Tryz.underlying3) (bR.cons (k:=1) rfl (by kernel_rfl) (aP.int Tryz.underlying3) (bR.cons (k:=1) rfl (by kernel_rfl) (aP.string Tryz.underlying9) bR.nil)))
 refine aP.map (X:=Int×Int×ByteArray×Unit) (fun x=>(⟨x.1,x.2.1,dY x.2.2.1⟩:bg)) (fun x=>by rw[aJ,ry];rfl) (fun x h=>?_) h0
 obtain⟨h1,h2,h3,_⟩:=h;exact⟨h1,h2,(by show (dY x.2.2.1).length≤140737488351232;rw[←AU];exact h3),zB _⟩
theorem Dx {W:World} : aP Tryz.prog W 31 ba cj:=by
 have h1:=aP.slice (P:=Tryz.prog) (W:=W) (t:=28) (k:=2) Tryz.underlying28 (by kernel_rfl) (by omega) (fun _=>rfl) Du
 have h2:=aP.slice (P:=Tryz.prog) (W:=W) (t:=29) (k:=3) Tryz.underlying29 (by kernel_rfl) (by omega) (fun _=>rfl) B4
 have h0:=aP.struct (P:=Tryz.prog) (W:=W) (t:=31) (n:=1+(1+0)) Tryz.underlying31 (by kernel_rfl) (bR.cons (k:=1) rfl (by kernel_rfl) h1 (bR.cons (k:=1) rfl (by kernel_rfl) h2 bR.nil))
 refine aP.map (X:=List Rtr×List bg×Unit) (fun x=>(⟨x.1,x.2.1⟩:Eng)) (fun _=>rfl) (fun x h=>?_) h0;obtain⟨⟨h3,h4⟩,⟨h5,h6⟩,_⟩:=h;have e1:Tryz.prog.bytesOf 69=48:=by kernel_rfl
 have e2:Tryz.prog.bytesOf 71=32:=by kernel_rfl
 have e3:reachBytes=140737488351232:=rfl;rw[e1,e3] at h4;rw[e2,e3] at h6;exact⟨by simp only;omega,h3,by simp only;omega,h5⟩
end Go.Proofs.YtephecognbbaoaaGreat
namespace Go.Proofs.YtephecognbbaoaaGreat
theorem xW {W:World} : ∀B:Nat,cL Tryz.prog W B 56 plC d8
 | 0=>.zero
 | B+1=>by
  have hp:cL Tryz.prog W B 54 (fun l:List Pl=>[np l]) (fun l=>(∀x∈l,d8 x)∧l.length*Tryz.prog.bytesOf 56≤reachBytes):=
   (cL.slice (k:=4) Tryz.underlying54 (by kernel_rfl) (by omega) ur (xW B)).less (by omega)
  have he:aP Tryz.prog W 51 (fun l:List Int=>[aF l]) (fun l=>(∀x∈l,I64 x)∧l.length*Tryz.prog.bytesOf 3≤reachBytes):=aP.slice Tryz.underlying51 (k:=1) (by kernel_rfl) (by omega) (fun _=>rfl) (aP.int Tryz.underlying3)
  have h0:=cL.struct (P:=Tryz.prog) (W:=W) (t:=56) (n:=1+(1+(1+(1+0)))) Tryz.underlying56 (by kernel_rfl)
   (eo.cons (k:=1) rfl (by kernel_rfl) ((aP.int Tryz.underlying3).toB B) (eo.cons (k:=1) rfl (by kernel_rfl) ((aP.int Tryz.underlying3).toB B) (eo.cons (k:=1) rfl (by kernel_rfl) (he.toB B) (eo.cons (k:=1) rfl (by kernel_rfl) hp eo.nil))))
  refine cL.map (X:=Int×Int×List Int×List Pl×Unit) (fun x=>Pl.mk x.1 x.2.1 x.2.2.1 x.2.2.2.1) (fun x=>a7 _ _ _ _) (fun x h=>?_) h0;obtain⟨h1,h2,h3,h4,_⟩:=h;have h5:Tryz.prog.bytesOf 56=64:=by kernel_rfl
  have h6:Tryz.prog.bytesOf 3=8:=by kernel_rfl
  have h7:reachBytes=140737488351232:=rfl;have h8:=h3.2;have h9:=h4.2;rw[h6,h7] at h8;rw[h5,h7] at h9;exact .mk _ _ _ _ h1 h2 (by omega) h3.1 (by omega) h4.1
theorem EC {W:World} : aP Tryz.prog W 56 plC d8:=.ofB xW
end Go.Proofs.YtephecognbbaoaaGreat
