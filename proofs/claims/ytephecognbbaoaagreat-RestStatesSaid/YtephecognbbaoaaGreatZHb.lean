/- What a plan is built into, as the document tells it. -/
import Derived.Test.YtephecognbbaoaaGreatZBs
import Derived.Test.YtephecognbbaoaaGreatZBd
import Derived.Test.YtephecognbbaoaaGreatZHh
open Go
set_option linter.all false
set_option maxRecDepth 100000
set_option maxHeartbeats 4000000
namespace Go.Proofs.YtephecognbbaoaaGreat
open Go
set_option linter.all false
set_option maxRecDepth 100000
set_option maxHeartbeats 4000000
theorem zZ:∀(p:Pl),d8 p→cY p=false→∀σ:aa,af Tryz.prog 57 [.agg (plC p)] σ fun r σ'=>∃τ,σ'=σ++τ∧pL (σ++τ) σ.length r p:=by
 refine Pl.ind fun k n e ps ih ok hw σ=>?_
 cases ok with
 | mk _ _ _ _ hk hn he hev hpl hp=>
 rw[cY,Bool.or_eq_false_iff] at hw;have he8:e.length≤8:=by have:=of_decide_eq_false hw.1;omega
 have hwp:∀x∈ps,cY x=false:=by
  have h:=hw.2;clear hp hpl ih hw
  induction ps with
  | nil=>intro x hx;cases hx
  | cons y r ihr=>
   rw[wideL,Bool.or_eq_false_iff] at h;intro x hx
   rcases List.mem_cons.1 hx with rfl|hx
   ·exact h.1
   ·exact ihr h.2 x hx
 have ihC:∀x∈ps,∀S,af Tryz.prog 57 [.agg (plC x)] S fun r S'=>S'=S∧r = .tup [.agg (aS (pZ x)),ab (bo x)]:=fun x hx S=>
  af.deep ((ih x hx (hp x hx) (hwp x hx) S).mono (by
   rintro r S' ⟨τ,e,h⟩;subst e;exact bL rfl (.tupL (.cons (.aggL (.cons (.c _) (.cons (.rows _) (.cons (.rows _) .nil)))) (.cons (.c _) .nil))) (tc h fun b hb=>hb)))
 obtain⟨E,hE⟩:∃E,bo (.mk k n e ps)=E:=⟨_,rfl⟩;have hE2:=hE;rw[bo] at hE2;have bad:∀ {S τ:aa},E≠0→S=σ++τ→∃τ',S=σ++τ'∧pL (σ++τ') σ.length (.tup [.agg [ab 0,.c (.slice none 0 0),.c (.slice none 0 0)],ab E]) (.mk k n e ps):=fun {S τ} h0 h1=>
  ⟨τ,h1,_,by rw[hE],by rw[hE,if_neg h0]⟩
 rw[a7]
 by_cases hone:k=4∧ps.length=1
 ·obtain⟨rfl,hl1⟩:=hone;obtain⟨x,rfl⟩:∃x,ps=[x]:=by
   match ps,hl1 with
   | [x],_=>exact⟨x,rfl⟩
  have h:=yM n e x (.mk _ _ _ _ hk hn he hev hpl hp) (by rw[cY,Bool.or_eq_false_iff];exact hw) (fun S=>ih x (by simp) (hp x (by simp)) (hwp x (by simp)) S) σ
  rw[a7] at h;exact h
 ·refine g_n Tryz.func57 rfl Tryz.results57 Tryz.ntmps57 ?_;refine g_s fun K hK=>?_;refine g_h ?_;refine hK _ _ ?_;clear hK K;refine g_0 1 rfl ?_
  (repeat' (first|(refine g_s fun K hK=>?_)|(refine g_b ?_)|(refine g_G ?_;(try refine g_y ?_))|(refine hK _ _ ?_;clear hK K)|exact trivial|fail))
  refine bn ?_;have hJ:=hK;clear hK;refine ay ps (fun _ r acc=>checkL ps=checkL r∧acc++r.map aO=ps.map aO) (fun q acc τ=>[(5,ab q),(4,aq 3 (σ.length+(τ.length+2)) acc)]) (fun _ acc τ=>σ++(.dead::.cells 3 [[ab 0,.c (.slice none 0 0),.c (.slice none 0 0)]]::(τ++[ap aS 3 acc]))) [] [] ⟨rfl,rfl⟩ ?_ (ai ?_) ?_ ?_
  ·simp [ap,ab]
  ·simp -implicitDefEqProofs only[go_sem,aq,ap]
  ·rintro q r acc τ hq0 hq1 ⟨h3,h4⟩ L hL;have hmem:=aA ps hq0 hq1;obtain⟨x,hx⟩:∃x,at0 ps q=x:=⟨_,rfl⟩;rw[hx] at h3 h4 hmem;have hal:acc.length+1≤ps.length:=by have:=congrArg List.length h4;simp at this;omega
   have ihx:=ihC x hmem;rw[checkL] at h3
   by_cases hc:bo x=0
   ·rw[if_neg (not_not_intro hc)] at h3;rw[pZ,if_pos hc,hc] at ihx;obtain⟨A,hA⟩:∃A,aO x=A:=⟨_,rfl⟩;rw[List.map_cons,hA] at h4;rw[hA] at ihx;obtain⟨k',n',e',ps'⟩:=x;rw[a7] at ihx
    rcases acc with _|⟨w,acc⟩<;>simp only[List.length_cons,List.length_nil] at hal<;>simp -implicitDefEqProofs only[go_sem,aq,ap]
    all_goals (repeat' (first|(refine g_s fun K hK=>?_)|(refine g_b ?_)|(refine g_k ?_;simp only[ah,ae])|(refine g_C (fun h=>?_) (fun h=>?_)<;>(try exact g_f))|((first|refine g_G ?_|refine (ihx _).use ?_);(try simp -implicitDefEqProofs only[go_sem,hx]))|(refine hK _ _ ?_;clear hK K)|(with_reducible refine And.intro ?_ ?_;· exact g_x)|fail))
    ·refine hL [A] (τ++[.dead,.cells 3 [aS A]]) _ _ ⟨h3,by simpa using h4⟩ (ai ?_) ?_
     ·simp -implicitDefEqProofs only[go_sem,aq]
     ·simp [ap,aS,ab,aL]
    ·refine hL (w::acc++[A]) (τ++[.dead,.cells 3 [aS A]]) _ _ ⟨h3,by simpa using h4⟩ (ai ?_) ?_
     ·simp -implicitDefEqProofs only[go_sem,aq]
     ·simp [ap,aS,ab,aL]
   ·rw[if_pos hc] at h3;have hE3:E=bo x:=by
     rw[←hE2,h3,if_pos hc]
    have hE0:E≠0:=by rw[hE3];exact hc
    rw[pZ,if_neg hc,←hE3] at ihx;obtain⟨k',n',e',ps'⟩:=x;rw[a7] at ihx;simp -implicitDefEqProofs only[go_sem]
    (repeat' (first|(refine g_s fun K hK=>?_)|(refine g_b ?_)|(refine g_k ?_;simp only[ah,ae])|(refine g_C (fun h=>?_) (fun h=>?_)<;>(try exact g_f))|((first|refine g_t ?_|refine g_G ?_|refine (ihx _).use ?_);(try simp -implicitDefEqProofs only[go_sem,hx]))|(refine hK _ _ ?_;clear hK K)|(with_reducible refine And.intro ?_ ?_;· exact g_x)|fail))
    exact bad hE0 rfl
  ·rintro q acc τ hq ⟨h3,h4⟩ L;rw[List.map_nil,List.append_nil] at h4;rw[checkL] at h3;rw[h3,if_neg (by decide)] at hE2
   have hcx:∀x∈ps,bo x=0:=m5 h3;have hAl:acc.length=ps.length:=by rw[h4,List.length_map]
   have hIB:(acc.length:Int)=ps.length:=by rw[hAl]
   simp -implicitDefEqProofs only[go_sem]
   (repeat' (first|(refine g_s fun K hK=>?_)|(refine g_e ?_;simp only[ah,ae,↓reduceIte,Nat.reduceEqDiff])|(refine g_C (fun h=>?_) (fun h=>?_)<;>(try exact g_f))|(refine g_g ?_;(try refine g_y ?_))|(refine hK _ _ ?_;clear hK K)|exact trivial|fail))
   refine hJ _ _ ?_;clear hJ;have est:σ++(.dead::Ob.cells 3 [[.c (.int .i64 0),.c (.slice none 0 0),.c (.slice none 0 0)]]::(τ++[ap aS 3 acc]))=σ++((.dead::Ob.cells 3 [[.c (.int .i64 0),.c (.slice none 0 0),.c (.slice none 0 0)]]::τ)++ap aS 3 acc::[]):=by simp
   rw[est];refine cC 4 aS 3 acc σ (.dead::Ob.cells 3 [[.c (.int .i64 0),.c (.slice none 0 0),.c (.slice none 0 0)]]::τ) [] (by simp [aB,Nat.add_assoc]) ?_
   have est2:σ++((.dead::Ob.cells 3 [[.c (.int .i64 0),.c (.slice none 0 0),.c (.slice none 0 0)]]::τ)++[.dead])=σ++(.dead::Ob.cells 3 [[.c (.int .i64 0),.c (.slice none 0 0),.c (.slice none 0 0)]]::(τ++[.dead])):=by simp
   rw[est2];obtain⟨T,hT⟩:∃T:aa,τ++[.dead]=T:=⟨_,rfl⟩;rw[hT];unfold pt at hE2
   by_cases hk4:inR k 1 4=true
   ·have hkr:=aG.1 hk4;rw[hk4,if_neg (by decide)] at hE2
    by_cases hpn:(ps.length:Int)=gx k
    ·rw[if_neg (not_not_intro hpn)] at hE2;have hk123:k=3∨k=1∨k=2:=by
      have h5:k≠4:=fun h4=>hone ⟨h4,by rw[h4] at hpn;have:gx 4=1:=rfl;omega⟩
      omega
     rcases hk123 with rfl|hk12
     ·rw[if_pos rfl] at hE2;have hp2:(ps.length:Int)=2:=hpn;obtain⟨x,y,rfl⟩:∃x y,ps=[x,y]:=by
       match ps,hp2 with
       | [x,y],_=>exact⟨x,y,rfl⟩
       | [],h=>simp at h
       | [x],h=>simp at h
       | x::y::z::r,h=>simp at h;omega
      have hox:=eS x (hcx x (by simp))
      have hoy:=eS y (hcx y (by simp))
      have hxs:=hox.size;have hys:=hoy.size;have hxe:=hox.edges;have hye:=hoy.edges;have hlx:=nL x (hcx x (by simp)) (hwp x (by simp))
      rw[dv,dh] at hE2;have e0:at0 ([x,y].map bu) 0=bu x:=rfl;have e1:at0 ([x,y].map bu) 1=bu y:=rfl;have s0:at0 ([x,y].map bH) 0=bH x:=rfl;have s1:at0 ([x,y].map bH) 1=bH y:=rfl;rw[e0,e1,s0,s1,←hxs,←hys,←hxe,←hye] at hE2;have hPO:=fun he h24 hel=>x8 (aO x) (aO y) hox.form hoy.form he h24 hel;have hB:aO (.mk 3 n e [x,y])=dd (aO x) (aO y):=by rw[aO,if_neg (by decide),if_neg (by decide),if_pos rfl,fo];rfl
      have h4:acc=[aO x,aO y]:=h4;subst h4;have fx:=hox.form;have fy:=hoy.form;obtain⟨A,hA⟩:∃A,aO x=A:=⟨_,rfl⟩;obtain⟨B,hB2⟩:∃B,aO y=B:=⟨_,rfl⟩;rw[hA] at hE2 hPO hB fx hxe hxs;rw[hB2] at hE2 hPO hB fy;rw[hA,hB2];have fx2:=fx.s2;have fx24:=fx.s24;have fy2:=fy.s2;have fy24:=fy.s24;have hNL:=iD fx fy;have ha0:at0 [A,B] 0=A:=rfl;have ha1:at0 [A,B] 1=B:=rfl;have j1:I64 (A.size-1):=by unfold I64;omega
      have j2:I64 (B.size-1):=by unfold I64;omega
      have j3:I64 ((A.size-1)*(B.size-1)):=by unfold I64;omega
      have j4:I64 ((A.size-1)*(B.size-1)+1):=by unfold I64;omega
      by_cases hn0:n=0
      ·rw[if_neg (not_not_intro hn0)] at hE2
       by_cases hel:0<e.length
       ·rw[if_pos hel] at hE2;simp -implicitDefEqProofs only[go_sem]
        (repeat' (first|(refine g_s fun K hK=>?_)|(refine g_b ?_)|(refine g_k ?_;simp only[ah,ae])|(refine g_C (fun h=>?_) (fun h=>?_)<;>(try exact g_f))|((first|refine g_t ?_|refine g_g ?_);(try refine g_y ?_))|(refine hK _ _ ?_;clear hK K)|(with_reducible refine ak (fun h=>?_) (fun h=>?_)<;>(try simp only[go_sem] at h)<;>(try exact g_f)<;>(try refine g_y ?_))|exact trivial|fail))
        subst hE2;exact bad (by decide) rfl
       ·rw[if_neg hel] at hE2
        by_cases hee:(A.edges.length:Int)=B.edges.length
        ·rw[if_neg (not_not_intro hee)] at hE2
         by_cases h24:24<(A.size-1)*(B.size-1)+1
         ·rw[if_pos h24] at hE2;simp -implicitDefEqProofs only[go_sem]
          (repeat' (first|(refine g_s fun K hK=>?_)|(refine g_b ?_)|(refine g_k ?_;simp only[ah,ae])|(refine g_C (fun h=>?_) (fun h=>?_)<;>(try exact g_f))|((first|refine g_t ?_|refine g_g ?_|refine g_U ?_);(try simp -implicitDefEqProofs only[go_sem,ha0,ha1,j1,j2,j3,j4]))|(refine hK _ _ ?_;clear hK K)|(with_reducible refine ak (fun h=>?_) (fun h=>?_)<;>(try simp only[go_sem] at h)<;>(try exact g_f)<;>(try simp -implicitDefEqProofs only[go_sem,ha0,ha1,j1,j2,j3,j4]))|fail))
          subst hE2;exact bad (by decide) rfl
         ·rw[if_neg h24] at hE2;have hPO:=hPO (by omega) (by omega) (by omega)
          simp -implicitDefEqProofs only[go_sem]
          (repeat' (first|(refine g_s fun K hK=>?_)|(refine g_b ?_)|(refine g_k ?_;simp only[ah,ae])|(refine g_C (fun h=>?_) (fun h=>?_)<;>(try exact g_f))|((first|refine g_G ?_|refine fT 11 a9 (by decide +kernel) ?_|refine fT 6 a9 (by decide +kernel) ?_);(try simp -implicitDefEqProofs only[go_sem,ha0,ha1,j1,j2,j3,j4]))|(refine hK _ _ ?_;clear hK K)|(with_reducible refine ak (fun h=>?_) (fun h=>?_)<;>(try simp only[go_sem] at h)<;>(try exact g_f)<;>(try simp -implicitDefEqProofs only[go_sem,ha0,ha1,j1,j2,j3,j4]))|fail))
          refine af.useX (hPO _) ?_;rintro τ5 r ⟨ids,a,rfl,h⟩;rw[List.append_assoc] at h;subst hE2
          rcases h.form with rfl|⟨b,m,rfl⟩
          all_goals simp -implicitDefEqProofs only[go_sem]
          all_goals (repeat' (first|(refine g_t ?_;(try refine g_y ?_))|(refine hK _ _ ?_;clear hK K)|exact trivial|fail))
          all_goals exact⟨_,rfl,_,by rw[hE];rfl,by rw[hE,if_pos rfl,hB];exact⟨ids,_,rfl,h.skip (k:=2) (by simp) rfl⟩⟩
        ·rw[if_pos hee] at hE2;simp -implicitDefEqProofs only[go_sem]
         (repeat' (first|(refine g_s fun K hK=>?_)|(refine g_b ?_)|(refine g_k ?_;simp only[ah,ae])|(refine g_C (fun h=>?_) (fun h=>?_)<;>(try exact g_f))|((first|refine g_t ?_|refine g_g ?_|refine g_U ?_);(try simp -implicitDefEqProofs only[go_sem,ha0,ha1]))|(refine hK _ _ ?_;clear hK K)|(with_reducible refine ak (fun h=>?_) (fun h=>?_)<;>(try simp only[go_sem] at h)<;>(try exact g_f)<;>(try simp -implicitDefEqProofs only[go_sem,ha0,ha1]))|fail))
         subst hE2;exact bad (by decide) rfl
      ·rw[if_pos hn0] at hE2;simp -implicitDefEqProofs only[go_sem]
       (repeat' (first|(refine g_s fun K hK=>?_)|(refine g_b ?_)|(refine g_k ?_;simp only[ah,ae])|(refine g_C (fun h=>?_) (fun h=>?_)<;>(try exact g_f))|((first|refine g_t ?_|refine g_g ?_);(try refine g_y ?_))|(refine hK _ _ ?_;clear hK K)|(with_reducible refine ak (fun h=>?_) (fun h=>?_)<;>(try simp only[go_sem] at h)<;>(try exact g_f)<;>(try refine g_y ?_))|exact trivial|fail))
       subst hE2;exact bad (by decide) rfl
     ·have hp0:ps=[]:=by
       have:gx k=0:=by rcases hk12 with rfl|rfl<;>rfl
       rw[this] at hpn;exact List.eq_nil_of_length_eq_zero (by omega)
      subst hp0;have h4:acc=[]:=h4;subst h4;rw[if_neg (by omega),if_neg (by omega)] at hE2
      simp -implicitDefEqProofs only[go_sem];refine g_s fun K hK=>?_;refine g_h ?_;refine hK _ _ ?_;clear hK K;refine g_s fun K hK=>?_;have hR:∀α,ALe α [(8,ab 0),(4,.sl []),(1,.cp [ab k,ab n,aF e,.sl []] 0),(2,.ptr (σ.length+1) 3 0 0)]→K α (σ++(.dead::Ob.cells 3 [[.c (.int .i64 0),.c (.slice none 0 0),.c (.slice none 0 0)]]::T)):=by
       intro α ha;refine hK _ _ (aK.weak ha ?_);clear ha hK
       by_cases hn22:1≤n∧n≤22
       ·have hBn:∀S,af Tryz.prog 62 [ab n,ab 1,ab 22] S fun r S'=>S'=S∧r = .c (.bool true):=fun S=>by
         have:=bS n 1 22 S
         rwa [decide_eq_true hn22.1,decide_eq_true hn22.2,Bool.and_self] at this
        have hnr:inR n 1 22=true:=aG.2 hn22;rw[hnr,if_neg (by decide)] at hE2
        simp -implicitDefEqProofs only[go_sem]
        (repeat' (first|(refine g_s fun K hK=>?_)|(refine g_b ?_)|(refine g_k ?_;simp only[ah,ae])|(refine g_C (fun h=>?_) (fun h=>?_)<;>(try exact g_f))|((first|refine g_g ?_|refine (hBn _).use ?_);(try refine g_y ?_))|(refine hK _ _ ?_;clear hK K)|(with_reducible refine ak (fun h=>?_) (fun h=>?_)<;>(try simp only[go_sem] at h)<;>(try exact g_f)<;>(try refine g_y ?_))|exact trivial|fail))
        have hJ:=hK;clear hK;refine ay e (fun _ r _=>(e.any fun x => !inR x 1 n)=r.any fun x => !inR x 1 n) (fun q _ _=>[(16,ab q)]) (fun _ _ _=>σ++(.dead::.cells 3 [[.c (.int .i64 0),.c (.slice none 0 0),.c (.slice none 0 0)]]::T)) () [] rfl rfl (ai ?_) ?_ ?_
        ·exact g_w
        ·rintro q9 r9 _ τ9 hq0 hq1 h5 L9 hL9;obtain⟨v,hv⟩:∃v,at0 e q9=v:=⟨_,rfl⟩;rw[hv,List.any_cons] at h5;have hBx:=fun S=>bS v 1 n S
         by_cases hin:1≤v∧v≤n
         ·rw[decide_eq_true hin.1,decide_eq_true hin.2,Bool.and_self] at hBx;have hir:inR v 1 n=true:=aG.2 hin;rw[hir] at h5;simp -implicitDefEqProofs only[go_sem]
          (repeat' (first|(refine g_s fun K hK=>?_)|(refine g_b ?_)|(refine g_k ?_;simp only[ah,ae])|(refine g_C (fun h=>?_) (fun h=>?_)<;>(try exact g_f))|((first|refine g_g ?_|refine g_U ?_|refine g_q (fun τ=>hBx _) ?_);(try simp -implicitDefEqProofs only[go_sem,hv]))|(refine hK _ _ ?_;clear hK K)|(with_reducible refine And.intro ?_ ?_;· exact g_x)|fail))
          refine hL9 () [] _ _ h5 (ai ?_) rfl;simp -implicitDefEqProofs only[go_sem]
         ·have hBv:(decide (1≤v)&&decide (v≤n))=false:=by simp;omega
          rw[hBv] at hBx;have hir:inR v 1 n=false:=by rw[←Bool.not_eq_true,aG];exact hin
          rw[hir] at h5;rw[h5,if_pos (by rfl)] at hE2
          simp -implicitDefEqProofs only[go_sem]
          (repeat' (first|(refine g_s fun K hK=>?_)|(refine g_b ?_)|(refine g_k ?_;simp only[ah,ae])|(refine g_C (fun h=>?_) (fun h=>?_)<;>(try exact g_f))|((first|refine g_t ?_|refine g_g ?_|refine g_U ?_|refine g_q (fun τ=>hBx _) ?_);(try simp -implicitDefEqProofs only[go_sem,hv]))|(refine hK _ _ ?_;clear hK K)|(with_reducible refine And.intro ?_ ?_;· exact g_x)|fail))
          subst hE2;exact bad (by decide) rfl
        ·rintro q9 _ τ9 hq h5 L9;have h5:(e.any fun x => !inR x 1 n)=false:=h5;have h5e:=h5;rw[h5,if_neg (by decide)] at hE2
         have i2:I64 (n+2):=by unfold I64;omega
         simp -implicitDefEqProofs only[go_sem]
         (repeat' (first|(refine g_s fun K hK=>?_)|(refine g_e ?_;simp only[ah,ae,↓reduceIte,Nat.reduceEqDiff])|(refine g_C (fun h=>?_) (fun h=>?_)<;>(try exact g_f))|(refine g_g ?_;(try refine g_y ?_))|(refine hK _ _ ?_;clear hK K)|exact trivial|fail))
         refine hJ _ _ ?_;clear hJ
         (repeat' (first|(refine g_s fun K hK=>?_)|(refine g_b ?_)|(refine g_g ?_;(try simp -implicitDefEqProofs only[go_sem,i2]))|(refine hK _ _ ?_;clear hK K)|fail))
         refine bn ?_;have hJ:=hK;clear hK;have hcase:∃f:Int→Int→Int,aO (.mk k n e [])=co n e f∧((k=1∧f=fun x a=>a+x)∨(k=2∧f=fun x a=>max a x)):=by
          rcases hk12 with rfl|rfl
          ·exact⟨_,by rw[aO,if_pos rfl],.inl ⟨rfl,rfl⟩⟩
          ·exact⟨_,by rw[aO,if_neg (by decide),if_pos rfl],.inr ⟨rfl,rfl⟩⟩
         obtain⟨f,hB,hf⟩:=hcase;obtain⟨s,hs⟩:∃s,n+2=s:=⟨_,rfl⟩;have hBs:(co n e f).best=(ints s).map fun i=>(ints s).map fun k=>min i k:=by rw[←hs];rfl
         have hEs:(co n e f).edges=e.map fun x=>(ints s).map fun k=>if k=n+1 then k else min (f x k) (n+1):=by rw[←hs];rfl
         have hSz:(co n e f).size=s:=hs;obtain⟨Bst,hBst⟩:∃b,(co n e f).best=b:=⟨_,rfl⟩;obtain⟨Est,hEst⟩:∃b,(co n e f).edges=b:=⟨_,rfl⟩;rw[hBst] at hBs;rw[hEst] at hEs;rw[hs] at i2 ⊢;obtain⟨ρ,hρ⟩:∃ρ:aa,σ++(.dead::Ob.cells 3 [[.c (.int .i64 0),.c (.slice none 0 0),.c (.slice none 0 0)]]::T)=ρ:=⟨_,rfl⟩;have hlen:σ.length+(T.length+2)=ρ.length:=by rw[←hρ];simp
         refine ay (ints s) (fun i r acc=>acc++r.map (fun i=>(ints s).map fun k=>min i k)=Bst) (fun i _ _=>[(18,ab i),(17,.ptr ρ.length 3 0 0)])
          (fun _ acc τ2=>ρ++(.cells 3 [[ab s,aq 1 (ρ.length+(τ2.length+1)) acc,.c (.slice none 0 0)]]::(τ2++[ap aE 1 acc]))) [] [] hBs.symm ?_ (ai ?_) ?_ ?_
         ·rw[←hρ];simp [aq,ap,ab]
         ·simp -implicitDefEqProofs only[go_sem,hlen]
         ·rintro i r acc τ2 hi0 hi1 h5 L3 hL3;rw[ao] at hi1;have hiL:i<s:=by omega
          rw[eH hi0 (by omega),List.map_cons] at h5
          have hal:acc.length+1≤24:=by have:=congrArg List.length h5;have:=congrArg List.length hBs;simp [ao] at *;omega
          simp -implicitDefEqProofs only[go_sem]
          (repeat' (first|(refine g_s fun K hK=>?_)|(refine g_b ?_)|(refine g_k ?_;simp only[ah,ae])|(refine g_C (fun h=>?_) (fun h=>?_)<;>(try exact g_f))|(refine g_G ?_;(try refine g_y ?_))|(refine hK _ _ ?_;clear hK K)|exact trivial|fail))
          refine bn ?_;have hJ2:=hK;clear hK;obtain⟨ca,hca⟩:∃ca,aq 1 (ρ.length+(τ2.length+1)) acc=ca:=⟨_,rfl⟩;obtain⟨oa,hoa⟩:∃oa,ap aE 1 acc=oa:=⟨_,rfl⟩;rw[hca,hoa];refine ay (ints s) (fun j r row=>row++r.map (fun k=>min i k)=(ints s).map fun k=>min i k) (fun j row τ3=>[(20,ab j),(19,aq 1 (ρ.length+(τ2.length+(τ3.length+2))) row)])
           (fun _ row τ3=>ρ++(.cells 3 [[ab s,ca,.c (.slice none 0 0)]]::(τ2++oa::(τ3++[ap au 1 row])))) [] [] rfl ?_ (ai ?_) ?_ ?_
          ·simp [ap,ab]
          ·simp -implicitDefEqProofs only[go_sem,aq,ap]
          ·rintro j r2 row τ3 hj0 hj1 h4 L2 hL2;rw[ao] at hj1;have hjL:j<s:=by omega
           rw[eH hj0 (by omega),List.map_cons] at h4
           have hrl:row.length+1≤24:=by have:=congrArg List.length h4;simp [ao] at this;omega
           by_cases c1:j<i
           ·have hv:min i j=j:=by omega
            rw[hv] at h4
            rcases row with _|⟨w,row⟩<;>simp only[List.length_cons,List.length_nil] at hrl<;>simp -implicitDefEqProofs only[go_sem,aq,ap]
            all_goals (repeat' (first|(refine g_s fun K hK=>?_)|(refine g_b ?_)|(refine g_k ?_;simp only[ah,ae])|(refine g_C (fun h=>?_) (fun h=>?_)<;>(try exact g_f))|(refine g_G ?_;(try refine g_y ?_))|(refine hK _ _ ?_;clear hK K)|(with_reducible refine And.intro ?_ ?_;· exact g_x)|exact trivial|fail))
            ·refine hL2 [j] (τ3++[.dead]) _ _ (by simpa using h4) (ai ?_) ?_
             ·simp -implicitDefEqProofs only[go_sem,aq]
             ·simp [ap,au,ab]
            ·refine hL2 (w::row++[j]) (τ3++[.dead]) _ _ (by simpa using h4) (ai ?_) ?_
             ·simp -implicitDefEqProofs only[go_sem,aq]
             ·simp [ap,au,ab]
           ·have hv:min i j=i:=by omega
            rw[hv] at h4
            rcases row with _|⟨w,row⟩<;>simp only[List.length_cons,List.length_nil] at hrl<;>simp -implicitDefEqProofs only[go_sem,aq,ap]
            all_goals (repeat' (first|(refine g_s fun K hK=>?_)|(refine g_b ?_)|(refine g_k ?_;simp only[ah,ae])|(refine g_C (fun h=>?_) (fun h=>?_)<;>(try exact g_f))|(refine g_G ?_;(try refine g_y ?_))|(refine hK _ _ ?_;clear hK K)|(with_reducible refine And.intro ?_ ?_;· exact g_x)|exact trivial|fail))
            ·refine hL2 [i] (τ3++[.dead]) _ _ (by simpa using h4) (ai ?_) ?_
             ·simp -implicitDefEqProofs only[go_sem,aq]
             ·simp [ap,au,ab]
            ·refine hL2 (w::row++[i]) (τ3++[.dead]) _ _ (by simpa using h4) (ai ?_) ?_
             ·simp -implicitDefEqProofs only[go_sem,aq]
             ·simp [ap,au,ab]
          ·rintro j row τ3 hj h4 L2;rw[ao] at hj;rw[List.map_nil,List.append_nil] at h4;simp -implicitDefEqProofs only[go_sem]
           (repeat' (first|(refine g_s fun K hK=>?_)|(refine g_e ?_;simp only[ah,ae,↓reduceIte,Nat.reduceEqDiff])|(refine g_C (fun h=>?_) (fun h=>?_)<;>(try exact g_f))|(refine g_g ?_;(try refine g_y ?_))|(refine hK _ _ ?_;clear hK K)|exact trivial|fail))
           refine hJ2 _ _ ?_;clear hJ2;have est:ρ++(Ob.cells 3 [[.c (.int .i64 s),ca,.c (.slice none 0 0)]]::(τ2++oa::(τ3++[ap au 1 row])))=ρ++((Ob.cells 3 [[.c (.int .i64 s),ca,.c (.slice none 0 0)]]::(τ2++oa::τ3))++ap au 1 row::[]):=by simp
           rw[est];refine cC 19 au 1 row ρ (Ob.cells 3 [[.c (.int .i64 s),ca,.c (.slice none 0 0)]]::(τ2++oa::τ3)) [] (by simp [aB,Nat.add_assoc]) ?_
           rw[h4,←hca,←hoa];obtain⟨rowI,hrI⟩:∃l,((ints s).map fun k=>min i k)=l:=⟨_,rfl⟩;rw[hrI] at h5 ⊢
           rcases acc with _|⟨w,acc⟩<;>simp only[List.length_cons,List.length_nil] at hal<;>simp -implicitDefEqProofs only[go_sem,aq,ap]
           all_goals (repeat' (first|(refine g_G ?_;(try refine g_y ?_))|(clear hK K;first|(refine hK _ _ ?_;clear hK K)|(clear hK K;with_reducible refine hK _ _ ?_;clear hK K)|(clear hK K;clear hK K;with_reducible refine hK _ _ ?_;clear hK K))|(with_reducible refine And.intro ?_ ?_;· exact g_x)|exact trivial|fail))
           ·refine hL3 [rowI] (τ2++.dead::(τ3++[.dead])) _ _ (by simpa using h5) (ai ?_) ?_
            ·simp -implicitDefEqProofs only[go_sem,aq,hlen]
            ·simp [ap,aq,aE,aF,ab];omega
           ·refine hL3 (w::acc++[rowI]) (τ2++.dead::(τ3++[.dead])) _ _ (by simpa using h5) (ai ?_) ?_
            ·simp -implicitDefEqProofs only[go_sem,aq,hlen]
            ·simp [ap,aq,aE,aF,ab];omega
         ·rintro i acc τ2 hi h5 L3;rw[ao] at hi;rw[List.map_nil,List.append_nil] at h5;rw[h5];simp -implicitDefEqProofs only[go_sem]
          (repeat' (first|(refine g_s fun K hK=>?_)|(refine g_e ?_;simp only[ah,ae,↓reduceIte,Nat.reduceEqDiff])|(refine g_C (fun h=>?_) (fun h=>?_)<;>(try exact g_f))|(refine g_g ?_;(try refine g_y ?_))|(refine hK _ _ ?_;clear hK K)|exact trivial|fail))
          refine hJ _ _ ?_;clear hJ;refine fw (k:=3) (kk:=1) (b:=ρ.length+(τ2.length+1)) (rows:=[[ab s,aq 1 (ρ.length+(τ2.length+1)) Bst,.c (.slice none 0 0)]]) ρ [] τ2 [] 0 1 aE Bst (by simp [ab]) rfl rfl (by simp;omega) ?_
          obtain⟨T0,hT0⟩:∃T0:aa,τ2++[.dead]=T0:=⟨_,rfl⟩;obtain⟨w,hw⟩:∃w,s.toNat=w:=⟨_,rfl⟩;simp -implicitDefEqProofs only[go_sem,hT0]
          (repeat' (first|(refine g_s fun K hK=>?_)|(refine g_b ?_)|(refine g_G ?_;(try refine g_y ?_))|(refine hK _ _ ?_;clear hK K)|exact trivial|fail))
          refine bn ?_;have hJ:=hK;clear hK;refine ay e (fun q r (st:List Nat×aa)=>∃M',M'++r.map (fun x=>(ints s).map fun k=>if k=n+1 then k else min (f x k) (n+1))=Est∧aQ ((ρ++[.dead])++st.2) (ρ.length+1) st.1 M'∧st.1.Nodup)
           (fun q st _=>[(21,ab q)])
           (fun _ st _=>ρ++(.cells 3 [[ab s,.sl (Bst.map aE),aq 1 (ρ.length+(st.2.length+1)) st.1]]::(st.2++[ap (be w) 1 st.1]))) ([],T0) [] ⟨[],hEs.symm,aQ.nil _ _,List.nodup_nil⟩ ?_ (ai ?_) ?_ ?_
          ·simp [aq,ap,ab]
          ·exact g_w
          ·rintro q9 r9 ⟨q,Te⟩ τ9 hq0 hq1 ⟨M',h3,h4,h5n⟩ L4 hL4;obtain⟨v,hv⟩:∃v,at0 e q9=v:=⟨_,rfl⟩;have hvin:1≤v∧v≤n:=by
            have hm:=aA e hq0 hq1;rw[hv] at hm;have:=List.any_eq_false.1 h5e v hm;exact aG.1 (by simpa using this)
           rw[hv,List.map_cons] at h3;have h4:aQ ((ρ++[.dead])++Te) (ρ.length+1) q M':=h4;have hql:q.length+1≤24:=by have:=congrArg List.length h3;have:=congrArg List.length hEs;have:=h4.1;simp at *;omega
           simp -implicitDefEqProofs only[go_sem]
           (repeat' (first|(refine g_s fun K hK=>?_)|(refine g_b ?_)|(refine g_k ?_;simp only[ah,ae])|(refine g_C (fun h=>?_) (fun h=>?_)<;>(try exact g_f))|(refine g_G ?_;(try refine g_y ?_))|(refine hK _ _ ?_;clear hK K)|exact trivial|fail))
           refine bn ?_;have hJ2:=hK;clear hK;obtain⟨ca,hca⟩:∃ca,aq 1 (ρ.length+(Te.length+1)) q=ca:=⟨_,rfl⟩;obtain⟨oa,hoa⟩:∃oa,ap (be w) 1 q=oa:=⟨_,rfl⟩;rw[hca,hoa];obtain⟨F,hF⟩:∃F:Int→Int,(fun k=>if k=n+1 then k else min (f v k) (n+1))=F:=⟨_,rfl⟩
           have hFj:∀j,F j=if j=n+1 then j else min (f v j) (n+1):=fun j=>by rw[←hF]
           rw[hF] at h3;refine ay (ints s) (fun j r row=>row++r.map F=(ints s).map F) (fun j row τ3=>[(23,ab j),(22,aq 1 (ρ.length+(Te.length+(τ3.length+2))) row)])
            (fun _ row τ3=>ρ++(.cells 3 [[ab s,.sl (Bst.map aE),ca]]::(Te++oa::(τ3++[ap au 1 row])))) [] [] rfl ?_ (ai ?_) ?_ ?_
           ·simp [ap,ab]
           ·simp -implicitDefEqProofs only[go_sem,aq,ap]
           ·rintro j r2 row τ3 hj0 hj1 h6 L2 hL2;rw[ao] at hj1;have hjL:j<s:=by omega
            rw[eH hj0 hjL,List.map_cons] at h6;have hrl:row.length+1≤24:=by have:=congrArg List.length h6;simp [ao] at this;omega
            have hs1:s-1=n+1:=by omega
            have i1:I64 (n+1):=by unfold I64;omega
            have i3:I64 (j+v):=by unfold I64;omega
            have hFv:=hFj j;obtain⟨X,hX⟩:∃X,F j=X:=⟨_,rfl⟩;rw[hX] at hFv h6
            rcases hf with ⟨rfl,rfl⟩|⟨rfl,rfl⟩
            ·simp only at hFv
             by_cases c1:j=n+1
             ·have hXv:X=n+1:=by rw[hFv,if_pos c1];exact c1
              rcases row with _|⟨u,row⟩<;>simp only[List.length_cons,List.length_nil] at hrl<;>simp -implicitDefEqProofs only[go_sem,aq,ap]
              all_goals (repeat' (first|(refine g_s fun K hK=>?_)|(refine g_b ?_)|(refine g_k ?_;simp only[ah,ae])|(refine g_C (fun h=>?_) (fun h=>?_)<;>(try exact g_f))|(refine g_G ?_;(try simp -implicitDefEqProofs only[go_sem,hv,hs1,i1,i3]))|(refine hK _ _ ?_;clear hK K)|(with_reducible refine ak (fun h=>?_) (fun h=>?_)<;>(try simp only[go_sem] at h)<;>(try exact g_f)<;>(try simp -implicitDefEqProofs only[go_sem,hv,hs1,i1,i3]))|(with_reducible refine And.intro ?_ ?_;· exact g_x)|fail))
              ·refine hL2 [X] (τ3++[.dead]) _ _ (by simpa using h6) (ai ?_) ?_
               ·simp -implicitDefEqProofs only[go_sem,aq]
               ·simp [ap,au,ab,hXv]
              ·refine hL2 (u::row++[X]) (τ3++[.dead]) _ _ (by simpa using h6) (ai ?_) ?_
               ·simp -implicitDefEqProofs only[go_sem,aq]
               ·simp [ap,au,ab,hXv]
             ·rw[if_neg c1] at hFv
              by_cases c2:n<j+v
              ·have hXv:X=n+1:=by omega
               rcases row with _|⟨u,row⟩<;>simp only[List.length_cons,List.length_nil] at hrl<;>simp -implicitDefEqProofs only[go_sem,aq,ap]
               all_goals (repeat' (first|(refine g_s fun K hK=>?_)|(refine g_b ?_)|(refine g_k ?_;simp only[ah,ae])|(refine g_C (fun h=>?_) (fun h=>?_)<;>(try exact g_f))|(refine g_G ?_;(try simp -implicitDefEqProofs only[go_sem,hv,hs1,i1,i3]))|(refine hK _ _ ?_;clear hK K)|(with_reducible refine ak (fun h=>?_) (fun h=>?_)<;>(try simp only[go_sem] at h)<;>(try exact g_f)<;>(try simp -implicitDefEqProofs only[go_sem,hv,hs1,i1,i3]))|(with_reducible refine And.intro ?_ ?_;· exact g_x)|fail))
               ·refine hL2 [X] (τ3++[.dead]) _ _ (by simpa using h6) (ai ?_) ?_
                ·simp -implicitDefEqProofs only[go_sem,aq]
                ·simp [ap,au,ab,hXv]
               ·refine hL2 (u::row++[X]) (τ3++[.dead]) _ _ (by simpa using h6) (ai ?_) ?_
                ·simp -implicitDefEqProofs only[go_sem,aq]
                ·simp [ap,au,ab,hXv]
              ·have hXv:X=j+v:=by omega
               rcases row with _|⟨u,row⟩<;>simp only[List.length_cons,List.length_nil] at hrl<;>simp -implicitDefEqProofs only[go_sem,aq,ap]
               all_goals (repeat' (first|(refine g_s fun K hK=>?_)|(refine g_b ?_)|(refine g_k ?_;simp only[ah,ae])|(refine g_C (fun h=>?_) (fun h=>?_)<;>(try exact g_f))|(refine g_G ?_;(try simp -implicitDefEqProofs only[go_sem,hv,hs1,i1,i3]))|(refine hK _ _ ?_;clear hK K)|(with_reducible refine ak (fun h=>?_) (fun h=>?_)<;>(try simp only[go_sem] at h)<;>(try exact g_f)<;>(try simp -implicitDefEqProofs only[go_sem,hv,hs1,i1,i3]))|(with_reducible refine And.intro ?_ ?_;· exact g_x)|fail))
               ·refine hL2 [X] (τ3++[.dead]) _ _ (by simpa using h6) (ai ?_) ?_
                ·simp -implicitDefEqProofs only[go_sem,aq]
                ·simp [ap,au,ab,hXv]
               ·refine hL2 (u::row++[X]) (τ3++[.dead]) _ _ (by simpa using h6) (ai ?_) ?_
                ·simp -implicitDefEqProofs only[go_sem,aq]
                ·simp [ap,au,ab,hXv]
            ·simp only at hFv
             by_cases c1:j=n+1
             ·have hXv:X=n+1:=by rw[hFv,if_pos c1];exact c1
              rcases row with _|⟨u,row⟩<;>simp only[List.length_cons,List.length_nil] at hrl<;>simp -implicitDefEqProofs only[go_sem,aq,ap]
              all_goals (repeat' (first|(refine g_s fun K hK=>?_)|(refine g_b ?_)|(refine g_k ?_;simp only[ah,ae])|(refine g_C (fun h=>?_) (fun h=>?_)<;>(try exact g_f))|(refine g_G ?_;(try simp -implicitDefEqProofs only[go_sem,hv,hs1,i1,i3]))|(refine hK _ _ ?_;clear hK K)|(with_reducible refine ak (fun h=>?_) (fun h=>?_)<;>(try simp only[go_sem] at h)<;>(try exact g_f)<;>(try simp -implicitDefEqProofs only[go_sem,hv,hs1,i1,i3]))|(with_reducible refine And.intro ?_ ?_;· exact g_x)|fail))
              ·refine hL2 [X] (τ3++[.dead]) _ _ (by simpa using h6) (ai ?_) ?_
               ·simp -implicitDefEqProofs only[go_sem,aq]
               ·simp [ap,au,ab,hXv]
              ·refine hL2 (u::row++[X]) (τ3++[.dead]) _ _ (by simpa using h6) (ai ?_) ?_
               ·simp -implicitDefEqProofs only[go_sem,aq]
               ·simp [ap,au,ab,hXv]
             ·rw[if_neg c1] at hFv
              by_cases c2:j<v
              ·have hXv:X=v:=by omega
               rcases row with _|⟨u,row⟩<;>simp only[List.length_cons,List.length_nil] at hrl<;>simp -implicitDefEqProofs only[go_sem,aq,ap]
               all_goals (repeat' (first|(refine g_s fun K hK=>?_)|(refine g_b ?_)|(refine g_k ?_;simp only[ah,ae])|(refine g_C (fun h=>?_) (fun h=>?_)<;>(try exact g_f))|(refine g_G ?_;(try simp -implicitDefEqProofs only[go_sem,hv,hs1,i1,i3]))|(refine hK _ _ ?_;clear hK K)|(with_reducible refine ak (fun h=>?_) (fun h=>?_)<;>(try simp only[go_sem] at h)<;>(try exact g_f)<;>(try simp -implicitDefEqProofs only[go_sem,hv,hs1,i1,i3]))|(with_reducible refine And.intro ?_ ?_;· exact g_x)|fail))
               ·refine hL2 [X] (τ3++[.dead]) _ _ (by simpa using h6) (ai ?_) ?_
                ·simp -implicitDefEqProofs only[go_sem,aq]
                ·simp [ap,au,ab,hXv]
               ·refine hL2 (u::row++[X]) (τ3++[.dead]) _ _ (by simpa using h6) (ai ?_) ?_
                ·simp -implicitDefEqProofs only[go_sem,aq]
                ·simp [ap,au,ab,hXv]
              ·have hXv:X=j:=by omega
               rcases row with _|⟨u,row⟩<;>simp only[List.length_cons,List.length_nil] at hrl<;>simp -implicitDefEqProofs only[go_sem,aq,ap]
               all_goals (repeat' (first|(refine g_s fun K hK=>?_)|(refine g_b ?_)|(refine g_k ?_;simp only[ah,ae])|(refine g_C (fun h=>?_) (fun h=>?_)<;>(try exact g_f))|(refine g_G ?_;(try simp -implicitDefEqProofs only[go_sem,hv,hs1,i1,i3]))|(refine hK _ _ ?_;clear hK K)|(with_reducible refine ak (fun h=>?_) (fun h=>?_)<;>(try simp only[go_sem] at h)<;>(try exact g_f)<;>(try simp -implicitDefEqProofs only[go_sem,hv,hs1,i1,i3]))|(with_reducible refine And.intro ?_ ?_;· exact g_x)|fail))
               ·refine hL2 [X] (τ3++[.dead]) _ _ (by simpa using h6) (ai ?_) ?_
                ·simp -implicitDefEqProofs only[go_sem,aq]
                ·simp [ap,au,ab,hXv]
               ·refine hL2 (u::row++[X]) (τ3++[.dead]) _ _ (by simpa using h6) (ai ?_) ?_
                ·simp -implicitDefEqProofs only[go_sem,aq]
                ·simp [ap,au,ab,hXv]
           ·rintro j row τ3 hj h6 L2;rw[ao] at hj;rw[List.map_nil,List.append_nil] at h6;have hrl:row.length=s.toNat:=by rw[h6,List.length_map,ao]
            rcases row with _|⟨u,row⟩
            ·simp at hrl;omega
            simp only[List.length_cons] at hrl;rw[←hca,←hoa];simp -implicitDefEqProofs only[go_sem,aq,ap]
            (repeat' (first|(refine g_s fun K hK=>?_)|(refine g_e ?_;simp only[ah,ae,↓reduceIte,Nat.reduceEqDiff])|(refine g_C (fun h=>?_) (fun h=>?_)<;>(try exact g_f))|(refine g_g ?_;(try refine g_y ?_))|(refine hK _ _ ?_;clear hK K)|exact trivial|fail))
            refine hJ2 _ _ ?_;clear hJ2;have hgr:=B0 (τ3:=τ3) h4 h5n (by simp) .dead (u::row)
            rw[←h6] at h3;have hwr:row.length+1=w:=by omega
            have hpl:(ρ++[Ob.dead]).length+(Te.length+(τ3.length+1))=ρ.length+(Te.length+(τ3.length+2)):=by simp;omega
            rw[hpl] at hgr
            rcases q with _|⟨y0,q⟩<;>simp only[List.length_cons,List.length_nil] at hql<;>simp -implicitDefEqProofs only[go_sem,aq,ap]
            all_goals (repeat' (first|(refine g_G ?_;(try refine g_y ?_))|(clear hK K;first|(refine hK _ _ ?_;clear hK K)|(clear hK K;with_reducible refine hK _ _ ?_;clear hK K)|(clear hK K;clear hK K;with_reducible refine hK _ _ ?_;clear hK K))|(with_reducible refine And.intro ?_ ?_;· exact g_x)|exact trivial|fail))
            ·refine hL4 ([]++[ρ.length+(Te.length+(τ3.length+2))],Te++.dead::(τ3++[.cells 1 ((u::row).map au)])) τ9 _ _ ⟨M'++[u::row],by simpa using h3,hgr.1,hgr.2⟩ (ai ?_) ?_
             ·simp -implicitDefEqProofs only[go_sem,aq,be]
             ·simp [ap,aq,be,au,ab,hwr];omega
            ·refine hL4 ((y0::q)++[ρ.length+(Te.length+(τ3.length+2))],Te++.dead::(τ3++[.cells 1 ((u::row).map au)])) τ9 _ _ ⟨M'++[u::row],by simpa using h3,hgr.1,hgr.2⟩ (ai ?_) ?_
             ·simp -implicitDefEqProofs only[go_sem,aq,be]
             ·simp [ap,aq,be,au,ab,hwr];omega
          ·rintro q9 ⟨q,Te⟩ τ9 hq9 ⟨M',h3,h4,h5n⟩ L4;have h4:aQ ((ρ++[.dead])++Te) (ρ.length+1) q M':=h4;have h3:M'=Est:=by simpa using h3
           subst h3;have hwd:∀r∈M',r.length=w:=fun r hr=>by
            rw[hEs] at hr;obtain⟨x,_,rfl⟩:=List.mem_map.1 hr;rw[List.length_map,ao,hw]
           have hLd:∀L:aa,(ρ++L)[σ.length+1]? = some (.cells 3 [[ab 0,.c (.slice none 0 0),.c (.slice none 0 0)]]):=fun L=>by
            rw[←hρ,List.append_assoc,List.getElem?_append_right (by omega)]
            have e:σ.length+1-σ.length=1:=by omega
            rw[e];rfl
           have hSt:∀(L:aa) (o:Ob),(ρ++L).set (σ.length+1) o=σ++(.dead::o::(T++L)):=fun L o=>by
            rw[←hρ,List.append_assoc,List.set_append_right _ _ (by omega)]
            have e:σ.length+1-σ.length=1:=by omega
            rw[e];simp
           have hO:=fun v1 v2=>yc (lo:=σ.length) (w:=w) (A':=σ++(.dead::v1::(T++[v2]))) (A:=ρ++[.dead]) (by simp [←hlen];omega) (by simpa using h4) h5n hwd (by simp [←hlen];omega)
           subst hE2;simp -implicitDefEqProofs only[go_sem]
           (repeat' (first|(refine g_s fun K hK=>?_)|(refine g_e ?_;simp only[ah,ae,↓reduceIte,Nat.reduceEqDiff])|(refine g_C (fun h=>?_) (fun h=>?_)<;>(try exact g_f))|(refine g_g ?_;(try refine g_y ?_))|(refine hK _ _ ?_;clear hK K)|exact trivial|fail))
           refine hJ _ _ ?_;clear hJ
           rcases q with _|⟨y0,q⟩<;>simp -implicitDefEqProofs only[go_sem,aq,ap]
           all_goals (repeat' (first|(refine g_s fun K hK=>?_)|((first|refine g_t ?_|refine g_g ?_);(try simp -implicitDefEqProofs only[go_sem,hLd,hSt]))|(refine hK _ _ ?_;clear hK K)|fail))
           ·obtain⟨ids,hOM⟩:=hO (.cells 3 [[.c (.int .i64 s),.sl (Bst.map aE),.c (.slice none 0 0)]]) (.cells 3 [[.c (.int .i64 s),.sl (Bst.map aE),.c (.slice none 0 0)]]);refine⟨_,rfl,_,by rw[hE];rfl,?_⟩
            rw[hE,if_pos rfl,hB];refine⟨ids,_,by rw[hSz,hBst];rfl,?_⟩
            rw[hSz,hw,hEst];simp only[aq,ap] at hOM
            simpa using hOM
           ·obtain⟨ids,hOM⟩:=hO (.cells 3 [[.c (.int .i64 s),.sl (Bst.map aE),.own (ρ.length+(Te.length+1)) 1 0 (q.length+1) (q.length+1)]]) (.cells 3 [[.c (.int .i64 s),.sl (Bst.map aE),.own (ρ.length+(Te.length+1)) 1 0 (q.length+1) (q.length+1)]]);refine⟨_,rfl,_,by rw[hE];rfl,?_⟩
            rw[hE,if_pos rfl,hB];refine⟨ids,_,by rw[hSz,hBst];rfl,?_⟩
            have ep:(ρ++[Ob.dead]).length+Te.length=ρ.length+(Te.length+1):=by simp;omega
            rw[hSz,hw,hEst];rw[ep] at hOM;simp only[aq,ap] at hOM
            simpa using hOM
       ·have hBv:(decide (1≤n)&&decide (n≤22))=false:=by simp;omega
        have hBn:=fun S=>bS n 1 22 S;rw[hBv] at hBn;have hnr:inR n 1 22=false:=by rw[←Bool.not_eq_true,aG];exact hn22
        rw[hnr,if_pos (by rfl)] at hE2
        simp -implicitDefEqProofs only[go_sem]
        (repeat' (first|(refine g_s fun K hK=>?_)|(refine g_k ?_;simp only[ah,ae])|(refine g_C (fun h=>?_) (fun h=>?_)<;>(try exact g_f))|((first|refine g_t ?_|refine g_g ?_|refine (hBn _).use ?_);(try refine g_y ?_))|(refine hK _ _ ?_;clear hK K)|(with_reducible refine ak (fun h=>?_) (fun h=>?_)<;>(try simp only[go_sem] at h)<;>(try exact g_f)<;>(try refine g_y ?_))|exact trivial|fail))
        subst hE2;exact bad (by decide) rfl
      clear hK
      rcases hk12 with rfl|rfl
      ·(repeat' (first|(refine g_s fun K hK=>?_)|(refine g_b ?_)|(refine g_k ?_;simp only[ah,ae])|(refine g_C (fun h=>?_) (fun h=>?_)<;>(try exact g_f))|(refine g_g ?_;(try refine g_y ?_))|(refine hK _ _ ?_;clear hK K)|exact trivial|fail))
       refine hR _ (ai ?_);simp -implicitDefEqProofs only[go_sem,List.map_nil]
      ·(repeat' (first|(refine g_s fun K hK=>?_)|(refine g_b ?_)|(refine g_k ?_;simp only[ah,ae])|(refine g_C (fun h=>?_) (fun h=>?_)<;>(try exact g_f))|(refine g_g ?_;(try refine g_y ?_))|(refine hK _ _ ?_;clear hK K)|exact trivial|fail))
       refine hR _ (ai ?_);simp -implicitDefEqProofs only[go_sem,List.map_nil]
    ·rw[if_pos hpn] at hE2;have h7:k=1∨k=2∨k=3∨k=4:=by omega
     rcases h7 with rfl|rfl|rfl|rfl
     all_goals (unfold gx at hpn;simp only[↓reduceIte,Int.reduceEq] at hpn)
     all_goals (repeat' (first|(refine g_s fun K hK=>?_)|(refine g_b ?_)|(refine g_k ?_;simp only[ah,ae])|(refine g_C (fun h=>?_) (fun h=>?_)<;>(try exact g_f))|((first|refine g_t ?_|refine g_g ?_);(try simp -implicitDefEqProofs only[go_sem,hIB]))|(refine hK _ _ ?_;clear hK K)|fail))
     all_goals subst hE2
     all_goals exact bad (by decide) rfl
   ·have hk2:inR k 1 4=false:=by simpa using hk4
    rw[hk2,if_pos (by decide)] at hE2
    have hkr:¬(1≤k∧k≤4):=fun h=>hk4 (aG.2 h);subst hE2
    (repeat' (first|(refine g_s fun K hK=>?_)|(refine g_b ?_)|(refine g_C (fun h=>?_) (fun h=>?_)<;>(try exact g_f))|((first|refine g_t ?_|refine g_g ?_);(try refine g_y ?_))|(refine hK _ _ ?_;clear hK K)|exact trivial|fail))
    all_goals exact bad (by decide) rfl
end Go.Proofs.YtephecognbbaoaaGreat
namespace Go.Proofs.YtephecognbbaoaaGreat
theorem yL (p:Pl) (ok:d8 p) (hw:cY p=false) (σ:aa):af Tryz.prog 57 [.agg (plC p)] σ fun r σ'=>σ'=σ∧r = .tup [.agg (aS (pZ p)),ab (bo p)]:=
 af.deep ((zZ p ok hw σ).mono (by
  rintro r S' ⟨τ,e,h⟩;subst e;exact bL rfl (.tupL (.cons (.aggL (.cons (.c _) (.cons (.rows _) (.cons (.rows _) .nil)))) (.cons (.c _) .nil))) (tc h fun b hb=>hb)))
theorem wS (p:Pl) (ok:d8 p) (σ:aa):af Tryz.prog 20 [.agg (plC p)] σ fun r σ'=>σ'=σ∧r=lW (db p):=by
 have hD:=r7 4 (by omega) p ok
 have hW:=xd p ok;have hc4:((4:Nat):Int)=4:=rfl;rw[hc4] at hD;have hB:=fun hw=>yL p ok hw;have hr:∀h:¬(4<fl p 4∨cY p=true),db p=(pZ p,bo p):=fun h=>by
  rw[db,gk,if_neg h,pZ]
  by_cases hc:bo p=0
  ·rw[if_pos hc,if_pos hc,hc]
  ·rw[if_neg hc,if_neg hc];rfl
 have hr2:4<fl p 4∨cY p=true→db p=(⟨0,[],[]⟩,2):=fun h=>by
  rw[db,gk,if_pos h];rfl
 obtain⟨D,hDd⟩:∃D,fl p 4=D:=⟨_,rfl⟩;obtain⟨W,hWd⟩:∃W,cY p=W:=⟨_,rfl⟩;obtain⟨R,hRd⟩:∃R,pZ p=R:=⟨_,rfl⟩;obtain⟨C,hCd⟩:∃C,bo p=C:=⟨_,rfl⟩;obtain⟨BP,hBP⟩:∃BP,db p=BP:=⟨_,rfl⟩;rw[hDd] at hD hr hr2;rw[hWd] at hW hr hr2 hB;rw[hRd,hCd] at hr;rw[hBP] at hr hr2 ⊢;simp only[hRd,hCd] at hB;obtain⟨k,n,e,ps⟩:=p;rw[a7] at hD hW hB ⊢;refine af.cutX ?_
 by_cases h4:4<D
 ·rw[hr2 (.inl h4)];refine g_n Tryz.func20 rfl Tryz.results20 Tryz.ntmps20 ?_;refine g_s fun K hK=>?_;refine g_h ?_;refine hK _ _ ?_;clear hK K;refine g_0 1 rfl ?_
  (repeat' (first|(refine g_s fun K hK=>?_)|(refine g_C (fun h=>?_) (fun h=>?_)<;>(try exact g_f))|((first|refine g_t ?_|refine g_g ?_|refine (hD _).use ?_);(try refine g_y ?_))|(refine hK _ _ ?_;clear hK K)|(with_reducible refine ak (fun h=>?_) (fun h=>?_)<;>(try simp only[go_sem] at h)<;>(try exact g_f)<;>(try refine g_y ?_))|exact trivial|fail))
  exact bM rfl (.tupL (.cons (.aggL (.cons (.c _) (.cons (.c _) (.cons (.c _) .nil)))) (.cons (.c _) .nil))) (.tup (.cons (.agg (.cons (.refl _) (.cons .nil (.cons .nil .nil)))) (.cons (.refl _) .nil)))
 ·cases W
  ·rw[hr (by simp [h4])]
   have hB:=hB rfl;refine g_n Tryz.func20 rfl Tryz.results20 Tryz.ntmps20 ?_;refine g_s fun K hK=>?_;refine g_h ?_;refine hK _ _ ?_;clear hK K;refine g_0 1 rfl ?_
   (repeat' (first|(refine g_s fun K hK=>?_)|(refine g_k ?_;simp only[ah,ae])|(refine g_C (fun h=>?_) (fun h=>?_)<;>(try exact g_f))|((first|refine g_t ?_|refine g_g ?_|refine (hD _).use ?_|refine (hW _).use ?_|refine (hB _).use ?_);(try refine g_y ?_))|(refine hK _ _ ?_;clear hK K)|(with_reducible refine ak (fun h=>?_) (fun h=>?_)<;>(try simp only[go_sem] at h)<;>(try exact g_f)<;>(try refine g_y ?_))|exact trivial|fail))
   exact bM rfl (.tupL (.cons (.aggL (.cons (.c _) (.cons (.rows _) (.cons (.rows _) .nil)))) (.cons (.c _) .nil))) (.eq rfl)
  ·rw[hr2 (.inr rfl)];refine g_n Tryz.func20 rfl Tryz.results20 Tryz.ntmps20 ?_;refine g_s fun K hK=>?_;refine g_h ?_;refine hK _ _ ?_;clear hK K;refine g_0 1 rfl ?_
   (repeat' (first|(refine g_s fun K hK=>?_)|(refine g_C (fun h=>?_) (fun h=>?_)<;>(try exact g_f))|((first|refine g_t ?_|refine g_g ?_|refine (hD _).use ?_|refine (hW _).use ?_);(try refine g_y ?_))|(refine hK _ _ ?_;clear hK K)|(with_reducible refine ak (fun h=>?_) (fun h=>?_)<;>(try simp only[go_sem] at h)<;>(try exact g_f)<;>(try refine g_y ?_))|exact trivial|fail))
   exact bM rfl (.tupL (.cons (.aggL (.cons (.c _) (.cons (.c _) (.cons (.c _) .nil)))) (.cons (.c _) .nil))) (.tup (.cons (.agg (.cons (.refl _) (.cons .nil (.cons .nil .nil)))) (.cons (.refl _) .nil)))
theorem yK (p:Pl):dN (db p).1.best∧dN (db p).1.edges:=by
 unfold db
 by_cases h:gk p=0
 ·rw[if_pos h];have hr:=sP h;have h2:=hr.s24;have h3:=hr.e8;have h4:=hr.bl;exact⟨⟨by show (aO p).best.length≤_;omega,fun r hr'=>by have:=hr.row r (List.mem_append_left _ hr');omega⟩,⟨by show (aO p).edges.length≤_;omega,fun r hr'=>by have:=hr.row r (List.mem_append_right _ hr');omega⟩⟩
 ·rw[if_neg h];exact⟨⟨Nat.zero_le _,fun r hr=>by cases hr⟩,⟨Nat.zero_le _,fun r hr=>by cases hr⟩⟩
end Go.Proofs.YtephecognbbaoaaGreat
