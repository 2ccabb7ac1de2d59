/- What a plan is built into, as the document tells it: a plan that filters. -/
import Derived.Test.YtephecognbbaoaaGreatZBs
import Derived.Test.YtephecognbbaoaaGreatZHh
import Derived.Test.YtephecognbbaoaaGreatZBp
open Go
set_option linter.all false
set_option maxRecDepth 100000
set_option maxHeartbeats 4000000
namespace Go.Proofs.YtephecognbbaoaaGreat
open Go
set_option linter.all false
set_option maxRecDepth 100000
set_option maxHeartbeats 4000000
def Ev:Alg:=⟨0,[],[]⟩
def pZ (p:Pl):Alg:=if bo p=0 then aO p else Ev
def pL (S:aa) (lo:Nat) (r:AV) (p:Pl):Prop:=∃a,r = .tup [a,ab (bo p)]∧if bo p=0 then yX S lo a (aO p) else a = .agg [ab 0,.c (.slice none 0 0),.c (.slice none 0 0)]
theorem tc {S:aa} {lo:Nat} {r:AV} {p:Pl} (h:pL S lo r p) {D:Nat→Prop} (hD:∀b,lo≤b→D b):bG S D r (.tup [.agg (aS (pZ p)),ab (bo p)]):=by
 obtain⟨a,rfl,h⟩:=h;unfold pZ
 by_cases hc:bo p=0
 ·rw[if_pos hc] at h ⊢;exact .tupL (.cons (E2 h hD) (.cons (.same _) .nil))
 ·rw[if_neg hc] at h ⊢;subst h;exact .tupL (.cons (.aggL (.cons (.same _) (.cons .nil (.cons .nil .nil)))) (.cons (.same _) .nil))
theorem yM (n:Int) (e:List Int) (x:Pl) (ok:d8 (.mk 4 n e [x])) (hw:cY (.mk 4 n e [x])=false)
  (ih:∀σ:aa,af Tryz.prog 57 [.agg (plC x)] σ fun r σ'=>∃τ,σ'=σ++τ∧pL (σ++τ) σ.length r x) (σ:aa) :
  af Tryz.prog 57 [.agg (plC (.mk 4 n e [x]))] σ fun r σ'=>∃τ,σ'=σ++τ∧pL (σ++τ) σ.length r (.mk 4 n e [x]):=by
 cases ok with
 | mk _ _ _ _ hk hn he hev hpl hp=>
 rw[cY,Bool.or_eq_false_iff] at hw;have he8:e.length≤8:=by have:=of_decide_eq_false hw.1;omega
 have hwx:cY x=false:=by
  have h:=hw.2;rw[wideL,Bool.or_eq_false_iff] at h;exact h.1
 obtain⟨E,hE⟩:∃E,bo (.mk 4 n e [x])=E:=⟨_,rfl⟩;have hE2:=hE;rw[bo,checkL,checkL] at hE2;have bad:∀ {S τ:aa},E≠0→S=σ++τ→∃τ',S=σ++τ'∧pL (σ++τ') σ.length (.tup [.agg [ab 0,.c (.slice none 0 0),.c (.slice none 0 0)],ab E]) (.mk 4 n e [x]):=fun {S τ} h0 h1=>
  ⟨τ,h1,_,by rw[hE],by rw[hE,if_neg h0]⟩
 have hB:aO (.mk 4 n e [x])=en e (aO x):=by rw[aO,if_neg (by decide),if_neg (by decide),if_neg (by decide),fo];rfl
 have hx0:at0 [x] 0=x:=rfl;rw[a7];obtain⟨C,hC⟩:∃C,bo x=C:=⟨_,rfl⟩
 by_cases hc:C=0
 ·subst hc;rw[hC,if_neg (by decide)] at hE2
  have hox:=eS x hC;have hfx:=hox.form;have hox1:=hox.size;have hox2:=hox.edges;unfold pt at hE2;have hp4:(([x].length:Nat):Int)=gx 4:=rfl;have hk4:inR 4 1 4=true:=by decide
  rw[hk4,if_neg (by decide),if_neg (not_not_intro hp4),if_neg (by decide),if_pos rfl,dv,dh] at hE2
  have e0:at0 ([x].map bu) 0=bu x:=rfl;have s0:at0 ([x].map bH) 0=bH x:=rfl;rw[e0,s0,←hox1,←hox2] at hE2;obtain⟨A,hA⟩:∃A,aO x=A:=⟨_,rfl⟩;rw[hA] at hE2 hfx hB;have hA2:=hfx.s2;have hA24:=hfx.s24;obtain⟨k',n',e',ps'⟩:=x;rw[a7] at ih;refine g_n Tryz.func57 rfl Tryz.results57 Tryz.ntmps57 ?_;refine g_s fun K hK=>?_;refine g_h ?_;refine hK _ _ ?_;clear hK K;refine g_0 1 rfl ?_
  (repeat' (first|(refine g_s fun K hK=>?_)|(refine g_b ?_)|(refine g_g ?_;(try refine g_y ?_))|(refine hK _ _ ?_;clear hK K)|exact trivial|fail))
  refine dx 2 ?_
  (repeat' (first|(refine g_s fun K hK=>?_)|(refine g_b ?_)|(refine g_k ?_;simp only[ah,ae])|(refine g_C (fun h=>?_) (fun h=>?_)<;>(try exact g_f))|(refine g_g ?_;(try simp -implicitDefEqProofs only[go_sem,hx0]))|(refine hK _ _ ?_;clear hK K)|fail))
  refine af.useX (ih _) ?_;rintro τ r ⟨a0,rfl,h0⟩;rw[hC,if_pos rfl,hA] at h0;rw[hC];obtain⟨ids,a,rfl,h⟩:=h0;rw[List.append_assoc] at h;have hp2:∀k:Int,0≤k→(2:Int)*2 ^ k.toNat=2 ^ (k+1).toNat:=fun k hk=>by
   have e:(k+1).toNat=k.toNat+1:=by omega
   rw[e,Int.pow_succ,Int.mul_comm]
  have hpI:∀k:Int,0≤k→k≤24→I64 (2 ^ k.toNat):=fun k h0 h1=>by
   obtain⟨_,a,b,_⟩:=sy (s:=k) h0 h1;unfold I64;omega
  obtain⟨_,hp1,hp24,_⟩:=sy (s:=A.size) (by omega) (by omega)
  by_cases hM:A.edges=[]
  ·rcases h.2 with ⟨_,rfl,_⟩|⟨_,_,_,_,hne,_⟩
   ·rw[hM] at hE2
    by_cases hn0:n=0
    ·rw[if_neg (not_not_intro hn0)] at hE2
     by_cases hel:e=[]
     ·subst hel;have hE0:(0:Int)=E:=hE2;clear hE2;subst hE0;simp -implicitDefEqProofs only[go_sem]
      (repeat' (first|(refine g_s fun K hK=>?_)|(refine g_b ?_)|(refine g_k ?_;simp only[ah,ae])|(refine g_e ?_;simp only[ah,ae,↓reduceIte,Nat.reduceEqDiff])|(refine g_C (fun h=>?_) (fun h=>?_)<;>(try exact g_f))|(refine g_g ?_;(try simp -implicitDefEqProofs only[go_sem,hx0]))|(refine hK _ _ ?_;clear hK K)|(clear hK K;first|(refine hK _ _ ?_;clear hK K)|(clear hK K;with_reducible refine hK _ _ ?_;clear hK K)|(clear hK K;clear hK K;with_reducible refine hK _ _ ?_;clear hK K))|(with_reducible refine ak (fun h=>?_) (fun h=>?_)<;>(try simp only[go_sem] at h)<;>(try exact g_f)<;>(try simp -implicitDefEqProofs only[go_sem,hx0]))|(with_reducible refine And.intro ?_ ?_;· exact g_x)|fail))
      have hJ:=hK;clear hK;refine b8 A.size (fun k (v:Int)=>v=2 ^ k.toNat) (fun k v _=>[(11,ab k),(10,ab v)]) (fun _ _ _=>σ++(.dead::Ob.cells 3 [[.c (.int .i64 0),.c (.slice none 0 0),.c (.slice none 0 0)]]::(τ++[Ob.cells 3 [[.c (.int .i64 A.size),.sl (A.best.map aE),.c (.slice none 0 0)]],Ob.cells 3 [[.c (.int .i64 A.size),.sl (A.best.map aE),.c (.slice none 0 0)]],Ob.cells 3 [[.c (.int .i64 A.size),.sl (A.best.map aE),.c (.slice none 0 0)]],Ob.cells 3 [[.c (.int .i64 A.size),.sl (A.best.map aE),.c (.slice none 0 0)]]]))) 1 [] (by omega) rfl rfl (ai ?_) ?_
      ·exact g_w
      ·rintro k v τ8 hk0 hk1 hv L hL
       by_cases hk2:k<A.size
       ·have hI:=hpI (k+1) (by omega) (by omega)
        rw[←hp2 k hk0,←hv] at hI;simp -implicitDefEqProofs only[go_sem]
        (repeat' (first|(refine g_s fun K hK=>?_)|(refine g_b ?_)|(refine g_k ?_;simp only[ah,ae])|(refine g_C (fun h=>?_) (fun h=>?_)<;>(try exact g_f))|(refine g_g ?_;(try simp -implicitDefEqProofs only[go_sem,hI]))|(refine hK _ _ ?_;clear hK K)|(with_reducible refine And.intro ?_ ?_;· exact g_x)|fail))
        refine hL hk2 (2*v) [] _ _ (by rw[hv,hp2 k hk0]) (ai ?_) rfl
        simp -implicitDefEqProofs only[go_sem]
       ·have hkA:k=A.size:=by omega
        rw[hkA] at hv;simp -implicitDefEqProofs only[go_sem]
        (repeat' (first|(refine g_s fun K hK=>?_)|(refine g_e ?_;simp only[ah,ae,↓reduceIte,Nat.reduceEqDiff])|(refine g_C (fun h=>?_) (fun h=>?_)<;>(try exact g_f))|(refine g_g ?_;(try refine g_y ?_))|(refine hK _ _ ?_;clear hK K)|exact trivial|fail))
        refine hJ _ _ ?_;clear hJ
        (repeat' (first|(refine g_s fun K hK=>?_)|(refine g_b ?_)|(refine g_g ?_;(try refine g_y ?_))|(refine hK _ _ ?_;clear hK K)|exact trivial|fail))
        refine dx 1 ?_
        (repeat' (first|(refine g_s fun K hK=>?_)|(refine g_b ?_)|(refine g_e ?_;simp only[ah,ae,↓reduceIte,Nat.reduceEqDiff])|(refine g_C (fun h=>?_) (fun h=>?_)<;>(try exact g_f))|(refine g_g ?_;(try refine g_y ?_))|(refine hK _ _ ?_;clear hK K)|(clear hK K;first|(refine hK _ _ ?_;clear hK K)|(clear hK K;with_reducible refine hK _ _ ?_;clear hK K)|(clear hK K;clear hK K;with_reducible refine hK _ _ ?_;clear hK K))|exact trivial|fail))
        refine dx 1 ?_
        (repeat' (first|(refine g_s fun K hK=>?_)|(refine g_e ?_;simp only[ah,ae,↓reduceIte,Nat.reduceEqDiff])|(refine g_C (fun h=>?_) (fun h=>?_)<;>(try exact g_f))|((first|refine g_t ?_|refine g_g ?_);(try refine g_y ?_))|(refine hK _ _ ?_;clear hK K)|(clear hK K;first|(refine hK _ _ ?_;clear hK K)|(clear hK K;with_reducible refine hK _ _ ?_;clear hK K)|(clear hK K;clear hK K;with_reducible refine hK _ _ ?_;clear hK K))|exact trivial|fail))
        exact⟨_,rfl,_,by rw[hE];rfl,by rw[hE,if_pos rfl,hB];exact⟨[],_,rfl,⟨fun r hr=>(by cases hr),.inl ⟨rfl,rfl,rfl⟩⟩⟩⟩
     ·have hel2:e.length≠0:=fun h=>hel (List.eq_nil_of_length_eq_zero h);rw[if_pos (by simp;exact hel)] at hE2
      subst hE2;simp -implicitDefEqProofs only[go_sem]
      (repeat' (first|(refine g_s fun K hK=>?_)|(refine g_b ?_)|(refine g_k ?_;simp only[ah,ae])|(refine g_e ?_;simp only[ah,ae,↓reduceIte,Nat.reduceEqDiff])|(refine g_C (fun h=>?_) (fun h=>?_)<;>(try exact g_f))|((first|refine g_t ?_|refine g_g ?_);(try simp -implicitDefEqProofs only[go_sem,hx0]))|(refine hK _ _ ?_;clear hK K)|(clear hK K;first|(refine hK _ _ ?_;clear hK K)|(clear hK K;with_reducible refine hK _ _ ?_;clear hK K)|(clear hK K;clear hK K;with_reducible refine hK _ _ ?_;clear hK K))|(with_reducible refine ak (fun h=>?_) (fun h=>?_)<;>(try simp only[go_sem] at h)<;>(try exact g_f)<;>(try simp -implicitDefEqProofs only[go_sem,hx0]))|(with_reducible refine And.intro ?_ ?_;· exact g_x)|fail))
      exact bad (by decide) rfl
    ·rw[if_pos hn0] at hE2;subst hE2;simp -implicitDefEqProofs only[go_sem]
     (repeat' (first|(refine g_s fun K hK=>?_)|(refine g_b ?_)|(refine g_k ?_;simp only[ah,ae])|(refine g_e ?_;simp only[ah,ae,↓reduceIte,Nat.reduceEqDiff])|(refine g_C (fun h=>?_) (fun h=>?_)<;>(try exact g_f))|((first|refine g_t ?_|refine g_g ?_);(try simp -implicitDefEqProofs only[go_sem,hx0]))|(refine hK _ _ ?_;clear hK K)|(clear hK K;first|(refine hK _ _ ?_;clear hK K)|(clear hK K;with_reducible refine hK _ _ ?_;clear hK K)|(clear hK K;clear hK K;with_reducible refine hK _ _ ?_;clear hK K))|(with_reducible refine ak (fun h=>?_) (fun h=>?_)<;>(try simp only[go_sem] at h)<;>(try exact g_f)<;>(try simp -implicitDefEqProofs only[go_sem,hx0]))|(with_reducible refine And.intro ?_ ?_;· exact g_x)|fail))
     exact bad (by decide) rfl
   ·exact absurd hM hne
  ·have hMw:=h.1;obtain⟨b,q,rfl,rfl,hb,hql,hnd,hlo,hra⟩:=h.parts hM
   by_cases hn0:n=0
   ·rw[if_neg (not_not_intro hn0)] at hE2
    by_cases hes:(e.length:Int)=A.edges.length
    ·rw[if_neg (not_not_intro hes)] at hE2;simp -implicitDefEqProofs only[go_sem]
     (repeat' (first|(refine g_s fun K hK=>?_)|(refine g_b ?_)|(refine g_k ?_;simp only[ah,ae])|(refine g_e ?_;simp only[ah,ae,↓reduceIte,Nat.reduceEqDiff])|(refine g_C (fun h=>?_) (fun h=>?_)<;>(try exact g_f))|(refine g_g ?_;(try simp -implicitDefEqProofs only[go_sem,hx0]))|(refine hK _ _ ?_;clear hK K)|(clear hK K;first|(refine hK _ _ ?_;clear hK K)|(clear hK K;with_reducible refine hK _ _ ?_;clear hK K)|(clear hK K;clear hK K;with_reducible refine hK _ _ ?_;clear hK K))|(with_reducible refine ak (fun h=>?_) (fun h=>?_)<;>(try simp only[go_sem] at h)<;>(try exact g_f)<;>(try simp -implicitDefEqProofs only[go_sem,hx0]))|(with_reducible refine And.intro ?_ ?_;· exact g_x)|fail))
     have hJ:=hK;clear hK;refine b8 A.size (fun k (v:Int)=>v=2 ^ k.toNat) (fun k v _=>[(11,ab k),(10,ab v)]) (fun _ _ _=>σ++(.dead::Ob.cells 3 [[.c (.int .i64 0),.c (.slice none 0 0),.c (.slice none 0 0)]]::(τ++[Ob.cells 3 [[.c (.int .i64 A.size),.sl (A.best.map aE),.own b 1 0 A.edges.length A.edges.length]],Ob.cells 3 [[.c (.int .i64 A.size),.sl (A.best.map aE),.own b 1 0 A.edges.length A.edges.length]],Ob.cells 3 [[.c (.int .i64 A.size),.sl (A.best.map aE),.own b 1 0 A.edges.length A.edges.length]],Ob.cells 3 [[.c (.int .i64 A.size),.sl (A.best.map aE),.own b 1 0 A.edges.length A.edges.length]]]))) 1 [] (by omega) rfl rfl (ai ?_) ?_
     ·exact g_w
     ·rintro k v τ8 hk0 hk1 hv L hL
      by_cases hk2:k<A.size
      ·have hI:=hpI (k+1) (by omega) (by omega)
       rw[←hp2 k hk0,←hv] at hI;simp -implicitDefEqProofs only[go_sem]
       (repeat' (first|(refine g_s fun K hK=>?_)|(refine g_b ?_)|(refine g_k ?_;simp only[ah,ae])|(refine g_C (fun h=>?_) (fun h=>?_)<;>(try exact g_f))|(refine g_g ?_;(try simp -implicitDefEqProofs only[go_sem,hI]))|(refine hK _ _ ?_;clear hK K)|(with_reducible refine And.intro ?_ ?_;· exact g_x)|fail))
       refine hL hk2 (2*v) [] _ _ (by rw[hv,hp2 k hk0]) (ai ?_) rfl
       simp -implicitDefEqProofs only[go_sem]
      ·have hkA:k=A.size:=by omega
       rw[hkA] at hv;simp -implicitDefEqProofs only[go_sem]
       (repeat' (first|(refine g_s fun K hK=>?_)|(refine g_e ?_;simp only[ah,ae,↓reduceIte,Nat.reduceEqDiff])|(refine g_C (fun h=>?_) (fun h=>?_)<;>(try exact g_f))|(refine g_g ?_;(try refine g_y ?_))|(refine hK _ _ ?_;clear hK K)|exact trivial|fail))
       refine hJ _ _ ?_;clear hJ;have hvI:=hpI A.size (by omega) hA24
       obtain⟨P,hP⟩:∃P:Int,(2:Int) ^ A.size.toNat=P:=⟨_,rfl⟩;rw[hP] at hv hE2 hp1 hp24;subst hv;have i9:I64 (v-1):=by unfold I64;omega
       (repeat' (first|(refine g_s fun K hK=>?_)|(refine g_b ?_)|(refine g_g ?_;(try refine g_y ?_))|(refine hK _ _ ?_;clear hK K)|exact trivial|fail))
       have hJ:=hK;clear hK;refine ay e (fun _ r _=>(e.any fun x => !inR x 0 (v-1))=r.any fun x => !inR x 0 (v-1)) (fun q _ _=>[(12,ab q)]) (fun _ _ _=>σ++(.dead::Ob.cells 3 [[.c (.int .i64 0),.c (.slice none 0 0),.c (.slice none 0 0)]]::(τ++[.cells 3 [[.c (.int .i64 A.size),.sl (A.best.map aE),.own b 1 0 A.edges.length A.edges.length]],.cells 3 [[.c (.int .i64 A.size),.sl (A.best.map aE),.own b 1 0 A.edges.length A.edges.length]],.cells 3 [[.c (.int .i64 A.size),.sl (A.best.map aE),.own b 1 0 A.edges.length A.edges.length]],.cells 3 [[.c (.int .i64 A.size),.sl (A.best.map aE),.own b 1 0 A.edges.length A.edges.length]]]))) () [] rfl rfl (ai ?_) ?_ ?_
       ·exact g_w
       ·rintro q9 r9 _ τ9 hq0 hq1 h5 L9 hL9;obtain⟨u,hu⟩:∃u,at0 e q9=u:=⟨_,rfl⟩;rw[hu,List.any_cons] at h5;have hBx:=fun S=>bS u 0 (v-1) S
        by_cases hin:0≤u∧u≤v-1
        ·rw[decide_eq_true hin.1,decide_eq_true hin.2,Bool.and_self] at hBx;have hir:inR u 0 (v-1)=true:=aG.2 hin;rw[hir] at h5;simp -implicitDefEqProofs only[go_sem]
         (repeat' (first|(refine g_s fun K hK=>?_)|(refine g_b ?_)|(refine g_k ?_;simp only[ah,ae])|(refine g_C (fun h=>?_) (fun h=>?_)<;>(try exact g_f))|((first|refine g_g ?_|refine (hBx _).use ?_);(try simp -implicitDefEqProofs only[go_sem,hu,i9]))|(refine hK _ _ ?_;clear hK K)|(with_reducible refine And.intro ?_ ?_;· exact g_x)|fail))
         refine hL9 () [] _ _ h5 (ai ?_) rfl;simp -implicitDefEqProofs only[go_sem]
        ·have hBv:(decide (0≤u)&&decide (u≤v-1))=false:=by simp;omega
         rw[hBv] at hBx;have hir:inR u 0 (v-1)=false:=by rw[←Bool.not_eq_true,aG];exact hin
         rw[hir] at h5;rw[h5,if_pos (by rfl)] at hE2
         simp -implicitDefEqProofs only[go_sem]
         (repeat' (first|(refine g_s fun K hK=>?_)|(refine g_b ?_)|(refine g_k ?_;simp only[ah,ae])|(refine g_C (fun h=>?_) (fun h=>?_)<;>(try exact g_f))|((first|refine g_t ?_|refine g_g ?_|refine (hBx _).use ?_);(try simp -implicitDefEqProofs only[go_sem,hu,i9]))|(refine hK _ _ ?_;clear hK K)|(with_reducible refine And.intro ?_ ?_;· exact g_x)|fail))
         subst hE2;exact bad (by decide) rfl
       ·rintro q9 _ τ9 hq h5 L9;have h5e:(e.any fun x => !inR x 0 (v-1))=false:=h5;rw[h5e,if_neg (by decide)] at hE2
        have hx:∀u∈e,0≤u∧u≤v-1:=fun u hm=>by
         have:=List.any_eq_false.1 h5e u hm;exact aG.1 (by simpa using this)
        subst hE2;simp -implicitDefEqProofs only[go_sem]
        (repeat' (first|(refine g_s fun K hK=>?_)|(refine g_e ?_;simp only[ah,ae,↓reduceIte,Nat.reduceEqDiff])|(refine g_C (fun h=>?_) (fun h=>?_)<;>(try exact g_f))|(refine g_g ?_;(try refine g_y ?_))|(refine hK _ _ ?_;clear hK K)|exact trivial|fail))
        refine hJ _ _ ?_;clear hJ
        (repeat' (first|(refine g_s fun K hK=>?_)|(refine g_b ?_)|(refine g_g ?_;(try refine g_y ?_))|(refine hK _ _ ?_;clear hK K)|exact trivial|fail))
        have hJ:=hK;clear hK;have hes:e.length=A.edges.length:=by omega
        have hst:=dK.start (e:=e) hfx;obtain⟨w,hwd⟩:∃w,A.size.toNat=w:=⟨_,rfl⟩;have hws:(w:Int)=A.size:=by omega
        rw[hwd] at hb hMw;simp only[List.length_append,List.length_cons,List.length_nil,Nat.zero_add] at hlo hra;have i1:I64 (A.size-1):=by unfold I64;omega
        obtain⟨c2,hc2⟩:∃c2,Ob.cells 3 [[AV.c (Value.int IntKind.i64 0),AV.c (Value.slice none 0 0),AV.c (Value.slice none 0 0)]]=c2:=⟨_,rfl⟩;obtain⟨ml,hml⟩:∃ml,A.edges.length=ml:=⟨_,rfl⟩;have hbT:(σ++(.dead::c2::τ))[b]? = some (.cells 1 (q.map (be w))):=by rw[←hc2];exact hb
        have hrT:aQ (σ++(.dead::c2::τ)) (σ.length+2) q A.edges:=by rw[←hc2];exact hra
        have hbl:b<σ.length+2+τ.length:=by have:=(List.getElem?_eq_some_iff.1 hbT).1;simp at this;omega
        have hset:∀(T:aa) (p:Nat) (o:Ob),σ.length+2≤p→p<σ.length+2+T.length→∀X:aa,(σ++.dead::c2::(T++X)).set p o=σ++.dead::c2::(T.set (p-(σ.length+2)) o++X):=fun T p o h1 h2 X=>by
         obtain⟨d,rfl⟩:∃d,p=σ.length+(d+2):=⟨p-(σ.length+2),by omega⟩
         rw[List.set_append_right _ _ (by omega)]
         have e1:σ.length+(d+2)-σ.length=d+1+1:=by omega
         have e2:σ.length+(d+2)-(σ.length+2)=d:=by omega
         rw[e1,e2,List.set_cons_succ,List.set_cons_succ,List.set_append_left _ _ (by omega)]
        have hget:∀(T X:aa) (p:Nat) (o:Ob),(σ++(.dead::c2::T))[p]? = some o→(σ++.dead::c2::(T++X))[p]? = some o:=fun T X p o h=>by
         have e:σ++.dead::c2::(T++X)=(σ++(.dead::c2::T))++X:=by simp
         rw[e,List.getElem?_append_left (List.getElem?_eq_some_iff.1 h).1];exact h
        refine ay e (fun i _ (s:aa×List (List Int))=>s.1.length=τ.length∧dK A.size e A.edges s.2 i 0∧(σ++(.dead::c2::s.1))[b]? = some (.cells 1 (q.map (be w)))∧aQ (σ++(.dead::c2::s.1)) (σ.length+2) q s.2)
         (fun i _ _=>[(13,ab i)]) (fun _ s _=>σ++(.dead::c2::(s.1++[.cells 3 [[.c (.int .i64 A.size),.sl (A.best.map aE),.own b 1 0 A.edges.length A.edges.length]],.cells 3 [[.c (.int .i64 A.size),.sl (A.best.map aE),.own b 1 0 A.edges.length A.edges.length]],.cells 3 [[.c (.int .i64 A.size),.sl (A.best.map aE),.own b 1 0 A.edges.length A.edges.length]],.cells 3 [[.c (.int .i64 A.size),.sl (A.best.map aE),.own b 1 0 A.edges.length A.edges.length]]]))) (τ,A.edges) [] ⟨rfl,hst,hbT,hrT⟩ (by rw[←hc2]) (ai ?_) ?_ ?_
        ·exact g_w
        ·rintro i r ⟨T,M⟩ τ9 hi0 hi1 ⟨g1,g2,g3,g4⟩ L hL;have g1:T.length=τ.length:=g1;have hiA:i<A.edges.length:=by rw[←hes];exact hi1
         obtain⟨u,hu⟩:∃u,at0 e i=u:=⟨_,rfl⟩;have hvr:=hx _ (aA e hi0 hi1);rw[hu] at hvr;simp -implicitDefEqProofs only[go_sem]
         (repeat' (first|(refine g_s fun K hK=>?_)|(refine g_b ?_)|(refine g_k ?_;simp only[ah,ae])|(refine g_C (fun h=>?_) (fun h=>?_)<;>(try exact g_f))|(refine g_g ?_;(try simp -implicitDefEqProofs only[go_sem,hu,g1.symm]))|(refine hK _ _ ?_;clear hK K)|(with_reducible refine And.intro ?_ ?_;· exact g_x)|fail))
         have g2:dK A.size e A.edges M i 0:=g2;have g3:(σ++(.dead::c2::T))[b]? = some (.cells 1 (q.map (be w))):=g3;have g4:aQ (σ++(.dead::c2::T)) (σ.length+2) q M:=g4;have hJ2:=hK;clear hK;refine ay (ints A.size) (fun k _ (s:aa×List (List Int))=>s.1.length=τ.length∧dK A.size e A.edges s.2 i k∧(σ++(.dead::c2::s.1))[b]? = some (.cells 1 (q.map (be w)))∧aQ (σ++(.dead::c2::s.1)) (σ.length+2) q s.2)
          (fun k _ _=>[(15,ab k),(14,ab (u / 2 ^ k.toNat))]) (fun _ s _=>σ++(.dead::c2::(s.1++[.cells 3 [[.c (.int .i64 A.size),.sl (A.best.map aE),.own b 1 0 A.edges.length A.edges.length]],.cells 3 [[.c (.int .i64 A.size),.sl (A.best.map aE),.own b 1 0 A.edges.length A.edges.length]],.cells 3 [[.c (.int .i64 A.size),.sl (A.best.map aE),.own b 1 0 A.edges.length A.edges.length]],.cells 3 [[.c (.int .i64 A.size),.sl (A.best.map aE),.own b 1 0 A.edges.length A.edges.length]]]))) (T,M) [] ⟨g1,g2,g3,g4⟩ rfl (ai ?_) ?_ ?_
         ·simp -implicitDefEqProofs only[go_sem];simp
         ·rintro k r2 ⟨T1,M1⟩ τ8 hk0 hk1 ⟨f1,f2,f3,f4⟩ L2 hL2;have f1:T1.length=τ.length:=f1;have f2:dK A.size e A.edges M1 i k:=f2;have f3:(σ++(.dead::c2::T1))[b]? = some (.cells 1 (q.map (be w))):=f3;have f4:aQ (σ++(.dead::c2::T1)) (σ.length+2) q M1:=f4;rw[ao] at hk1;have hkk:k<A.size:=by omega
          have hM1:=f2.1;have hiE:i.toNat<M1.length:=by omega
          have hiq:i.toNat<q.length:=by rw[f4.1];exact hiE
          have hpos:(0:Int)<2 ^ k.toNat:=Int.pow_pos (by decide)
          have hnx:u / 2 ^ (k+1).toNat=u / 2 ^ k.toNat / 2:=by rw[←hp2 k hk0,Int.ediv_ediv_of_nonneg (Int.le_of_lt hpos),Int.mul_comm]
          obtain⟨z,hz⟩:∃z,u / 2 ^ k.toNat=z:=⟨_,rfl⟩;have hz0:0≤z:=hz▸Int.ediv_nonneg hvr.1 (Int.le_of_lt hpos);have hzv:z≤u:=hz▸Int.ediv_le_self _ hvr.1;rw[hz] at hnx;have z1:z.tmod 2=z % 2:=Int.tmod_eq_emod_of_nonneg hz0;have z2:z.tdiv 2=z / 2:=Int.tdiv_eq_ediv_of_nonneg hz0;have z3:I64 (z / 2):=by unfold I64;omega
          have z4:I64 (z % 2):=by unfold I64;omega
          have hbit:my (at0 e i) k=decide (z % 2=1):=by rw[hu,CF,hz]
          have hq2:=f4.2 i.toNat hiq hiE;obtain⟨qi,hqi⟩:∃qi,q[i.toNat]'hiq=qi:=⟨_,rfl⟩;rw[hqi] at hq2;have hrow:(q.map (be w))[i.toNat]? = some [.own qi 1 0 w w]:=by
           rw[List.getElem?_map,List.getElem?_eq_getElem hiq,hqi];rfl
          have hMr:M1[i.toNat]=at0 M1 i:=by simp [at0,List.getD_eq_getElem?_getD,hiE]
          obtain⟨row,hrw⟩:∃row,at0 M1 i=row:=⟨_,rfl⟩;rw[hMr,hrw] at hq2;have hrl:row.length=w:=by rw[←hrw,←hwd];exact f2.2.1 _ (aA M1 hi0 (by omega))
          have hgb:=hget T1 [.cells 3 [[.c (.int .i64 A.size),.sl (A.best.map aE),.own b 1 0 A.edges.length A.edges.length]],.cells 3 [[.c (.int .i64 A.size),.sl (A.best.map aE),.own b 1 0 A.edges.length A.edges.length]],.cells 3 [[.c (.int .i64 A.size),.sl (A.best.map aE),.own b 1 0 A.edges.length A.edges.length]],.cells 3 [[.c (.int .i64 A.size),.sl (A.best.map aE),.own b 1 0 A.edges.length A.edges.length]]] b _ f3;have hgq:=hget T1 [.cells 3 [[.c (.int .i64 A.size),.sl (A.best.map aE),.own b 1 0 A.edges.length A.edges.length]],.cells 3 [[.c (.int .i64 A.size),.sl (A.best.map aE),.own b 1 0 A.edges.length A.edges.length]],.cells 3 [[.c (.int .i64 A.size),.sl (A.best.map aE),.own b 1 0 A.edges.length A.edges.length]],.cells 3 [[.c (.int .i64 A.size),.sl (A.best.map aE),.own b 1 0 A.edges.length A.edges.length]]] qi _ hq2.2;have hgk:(row.map au)[k.toNat]? = some [.c (.int .i64 (at0 row k))]:=by
           have:k.toNat<row.length:=by omega
           simp [at0,List.getD_eq_getElem?_getD,this,au]
          have hsk:=tt row k.toNat (A.size-1);have hqlt:qi<σ.length+2+T1.length:=by have:=(List.getElem?_eq_some_iff.1 hq2.2).1;simp at this;omega
          have hst:=hset T1 qi (.cells 1 ((row.set k.toNat (A.size-1)).map au)) hq2.1 hqlt [.cells 3 [[.c (.int .i64 A.size),.sl (A.best.map aE),.own b 1 0 A.edges.length A.edges.length]],.cells 3 [[.c (.int .i64 A.size),.sl (A.best.map aE),.own b 1 0 A.edges.length A.edges.length]],.cells 3 [[.c (.int .i64 A.size),.sl (A.best.map aE),.own b 1 0 A.edges.length A.edges.length]],.cells 3 [[.c (.int .i64 A.size),.sl (A.best.map aE),.own b 1 0 A.edges.length A.edges.length]]];rw[hz];simp -implicitDefEqProofs only[go_sem];have f5:T.length=T1.length:=by omega
          (repeat' (first|(refine g_s fun K hK=>?_)|(refine g_b ?_)|(refine g_k ?_;simp only[ah,ae])|(refine g_C (fun h=>?_) (fun h=>?_)<;>(try exact g_f))|((first|refine g_g ?_|refine g_U ?_);(try simp -implicitDefEqProofs only[go_sem,hu,hx0,z1,z2,z3,z4,f5,hgb,hgq,hrow,hgk,hsk,i1]))|(refine hK _ _ ?_;clear hK K)|(with_reducible refine And.intro ?_ ?_;· exact g_x)|fail))
          ·have hb1:my (at0 e i) k=true:=by rw[hbit];exact decide_eq_true h
           have hput:=aQ.put f3 hnd f4 hiE hiq (row.set k.toNat (A.size-1));have hst0:=hset T1 qi (.cells 1 ((row.set k.toNat (A.size-1)).map au)) hq2.1 hqlt [];rw[List.append_nil,List.append_nil] at hst0;rw[hqi,hst0] at hput;have hfp:=f2.put hb1 hi0 hiA hk0 hkk;rw[hrw] at hfp;refine hL2 (T1.set (qi-(σ.length+2)) (.cells 1 ((row.set k.toNat (A.size-1)).map au)),M1.set i.toNat (row.set k.toNat (A.size-1))) τ8 _ _ ⟨by rw[List.length_set];exact f1,hfp,hput.1,hput.2⟩ (ai ?_) hst.symm
           rw[hnx];simp -implicitDefEqProofs only[go_sem,f5]
          ·have hb1:¬my (at0 e i) k=true:=by rw[hbit,decide_eq_true_eq];exact h
           refine hL2 (T1,M1) τ8 _ _ ⟨f1,f2.skip hb1,f3,f4⟩ (ai ?_) rfl;rw[hnx];simp -implicitDefEqProofs only[go_sem,f5]
         ·rintro k ⟨T1,M1⟩ τ8 hk ⟨f1,f2,f3,f4⟩ L2;rw[ao] at hk;have f2:dK A.size e A.edges M1 i k:=f2;have hkA:k=A.size:=by omega
          rw[hkA] at f2;have f1:T1.length=τ.length:=f1;have f5:T.length=T1.length:=by omega
          simp -implicitDefEqProofs only[go_sem]
          (repeat' (first|(refine g_s fun K hK=>?_)|(refine g_e ?_;simp only[ah,ae,↓reduceIte,Nat.reduceEqDiff])|(refine g_C (fun h=>?_) (fun h=>?_)<;>(try exact g_f))|(refine g_g ?_;(try simp -implicitDefEqProofs only[go_sem,f5]))|(refine hK _ _ ?_;clear hK K)|fail))
          refine hJ2 _ _ ?_;clear hJ2
          (repeat' (first|(refine g_g ?_;(try refine g_y ?_))|(with_reducible refine And.intro ?_ ?_;· exact g_x)|exact trivial|fail))
          refine hL (T1,M1) τ8 _ _ ⟨f1,f2.next,f3,f4⟩ (ai ?_) rfl;simp -implicitDefEqProofs only[go_sem,f1]
        ·rintro i ⟨T,M⟩ τ9 hi ⟨g1,g2,g3,g4⟩ L;have g1:T.length=τ.length:=g1;have g2:dK A.size e A.edges M i 0:=g2;have g3:(σ++(.dead::c2::T))[b]? = some (.cells 1 (q.map (be w))):=g3;have g4:aQ (σ++(.dead::c2::T)) (σ.length+2) q M:=g4;rw[hi] at g2;have hMe:=g2.done hfx hes;have hMl:=g2.1;have hMr:=g2.2.1;subst hc2;simp -implicitDefEqProofs only[go_sem]
         (repeat' (first|(refine g_s fun K hK=>?_)|(refine g_e ?_;simp only[ah,ae,↓reduceIte,Nat.reduceEqDiff])|(refine g_C (fun h=>?_) (fun h=>?_)<;>(try exact g_f))|(refine g_g ?_;(try refine g_y ?_))|(refine hK _ _ ?_;clear hK K)|exact trivial|fail))
         refine hJ _ _ ?_;clear hJ
         (repeat' (first|(refine g_s fun K hK=>?_)|((first|refine g_t ?_|refine g_g ?_);(try simp -implicitDefEqProofs only[go_sem,g1.symm]))|(refine hK _ _ ?_;clear hK K)|fail))
         have hfs:(en e A).size=A.size:=rfl;refine⟨_,rfl,_,by rw[hE];rfl,?_⟩
         rw[hE,if_pos rfl,hB];refine⟨b::q,_,rfl,?_⟩;rw[hfs,←hMe,hwd];have hgo:∀c:Nat,σ.length+2≤c→∀o,(σ++(Ob.dead::Ob.cells 3 [[AV.c (Value.int IntKind.i64 0),AV.c (Value.slice none 0 0),AV.c (Value.slice none 0 0)]]::T))[c]? = some o →
           ∀x X,(σ++.dead::x::(T++X))[c]? = some o:=fun c hc o ho x X=>by
          have h1:=hget T X c o ho;rw[←sE (σ:=σ) (X:=.dead::Ob.cells 3 [[AV.c (Value.int IntKind.i64 0),AV.c (Value.slice none 0 0),AV.c (Value.slice none 0 0)]]::(T++X)) (Y:=.dead::x::(T++X)) (k:=2) hc rfl];exact h1
         refine⟨fun r hr=>by rw[←hwd];exact hMr r hr,.inr ⟨b,q,rfl,hnd,?_,by rw[hMl],by omega,?_,?_⟩⟩
         ·intro e0;rw[e0] at hMl;exact hM (List.eq_nil_of_length_eq_zero hMl.symm)
         ·exact hgo b hlo _ g3 _ _
         ·exact g4.congr (by omega) fun c hc o ho=>hgo c (g4.lt c hc).2 o ho _ _
    ·rw[if_pos hes] at hE2;subst hE2;simp -implicitDefEqProofs only[go_sem]
     (repeat' (first|(refine g_s fun K hK=>?_)|(refine g_b ?_)|(refine g_k ?_;simp only[ah,ae])|(refine g_e ?_;simp only[ah,ae,↓reduceIte,Nat.reduceEqDiff])|(refine g_C (fun h=>?_) (fun h=>?_)<;>(try exact g_f))|((first|refine g_t ?_|refine g_g ?_);(try simp -implicitDefEqProofs only[go_sem,hx0]))|(refine hK _ _ ?_;clear hK K)|(clear hK K;first|(refine hK _ _ ?_;clear hK K)|(clear hK K;with_reducible refine hK _ _ ?_;clear hK K)|(clear hK K;clear hK K;with_reducible refine hK _ _ ?_;clear hK K))|(with_reducible refine ak (fun h=>?_) (fun h=>?_)<;>(try simp only[go_sem] at h)<;>(try exact g_f)<;>(try simp -implicitDefEqProofs only[go_sem,hx0]))|(with_reducible refine And.intro ?_ ?_;· exact g_x)|fail))
     exact bad (by decide) rfl
   ·rw[if_pos hn0] at hE2;subst hE2;simp -implicitDefEqProofs only[go_sem]
    (repeat' (first|(refine g_s fun K hK=>?_)|(refine g_b ?_)|(refine g_k ?_;simp only[ah,ae])|(refine g_e ?_;simp only[ah,ae,↓reduceIte,Nat.reduceEqDiff])|(refine g_C (fun h=>?_) (fun h=>?_)<;>(try exact g_f))|((first|refine g_t ?_|refine g_g ?_);(try simp -implicitDefEqProofs only[go_sem,hx0]))|(refine hK _ _ ?_;clear hK K)|(clear hK K;first|(refine hK _ _ ?_;clear hK K)|(clear hK K;with_reducible refine hK _ _ ?_;clear hK K)|(clear hK K;clear hK K;with_reducible refine hK _ _ ?_;clear hK K))|(with_reducible refine ak (fun h=>?_) (fun h=>?_)<;>(try simp only[go_sem] at h)<;>(try exact g_f)<;>(try simp -implicitDefEqProofs only[go_sem,hx0]))|(with_reducible refine And.intro ?_ ?_;· exact g_x)|fail))
    exact bad (by decide) rfl
 ·have hE3:C=E:=by rw[←hE2,hC,if_pos hc,if_pos hc]
  obtain⟨k',n',e',ps'⟩:=x;rw[a7] at ih;refine g_n Tryz.func57 rfl Tryz.results57 Tryz.ntmps57 ?_;refine g_s fun K hK=>?_;refine g_h ?_;refine hK _ _ ?_;clear hK K;refine g_0 1 rfl ?_
  (repeat' (first|(refine g_s fun K hK=>?_)|(refine g_b ?_)|(refine g_g ?_;(try refine g_y ?_))|(refine hK _ _ ?_;clear hK K)|exact trivial|fail))
  refine dx 2 ?_
  (repeat' (first|(refine g_s fun K hK=>?_)|(refine g_b ?_)|(refine g_k ?_;simp only[ah,ae])|(refine g_C (fun h=>?_) (fun h=>?_)<;>(try exact g_f))|(refine g_g ?_;(try simp -implicitDefEqProofs only[go_sem,hx0]))|(refine hK _ _ ?_;clear hK K)|fail))
  refine af.useX (ih _) ?_;rintro τ r ⟨a0,rfl,h0⟩;rw[hC,if_neg hc] at h0;subst h0;rw[hC];simp -implicitDefEqProofs only[go_sem]
  (repeat' (first|(refine g_s fun K hK=>?_)|(refine g_C (fun h=>?_) (fun h=>?_)<;>(try exact g_f))|((first|refine g_t ?_|refine g_g ?_);(try simp -implicitDefEqProofs only[go_sem,hx0]))|(refine hK _ _ ?_;clear hK K)|fail))
  rw[hE3];exact bad (by rw[←hE3];exact hc) rfl
end Go.Proofs.YtephecognbbaoaaGreat
namespace Go.Proofs.YtephecognbbaoaaGreat
theorem r7:∀(l:Nat),l≤4→∀(p:Pl),d8 p→∀σ:aa,af Tryz.prog 55 [.agg (plC p),ab l] σ fun r σ'=>σ'=σ∧r=ab (fl p l)
 | 0,_,.mk k n e ps,ok,σ=>by
  cases ok with
  | mk _ _ _ _ hk hn he hev hpl hp=>
  rw[lf,m4,a7];have hz0:((0:Nat):Int)=0:=rfl;rw[hz0];refine af.cutX ?_;refine g_n Tryz.func55 rfl Tryz.results55 Tryz.ntmps55 ?_;refine g_s fun K hK=>?_;refine g_h ?_;refine hK _ _ ?_;clear hK K;refine g_0 2 rfl ?_
  (repeat' (first|(refine g_s fun K hK=>?_)|(refine g_b ?_)|(refine g_g ?_;(try refine g_y ?_))|(refine hK _ _ ?_;clear hK K)|exact trivial|fail))
  refine dx 1 ?_
  (repeat' (first|(refine g_s fun K hK=>?_)|(refine g_e ?_;simp only[ah,ae,↓reduceIte,Nat.reduceEqDiff])|(refine g_C (fun h=>?_) (fun h=>?_)<;>(try exact g_f))|((first|refine g_t ?_|refine g_g ?_);(try refine g_y ?_))|(refine hK _ _ ?_;clear hK K)|(clear hK K;first|(refine hK _ _ ?_;clear hK K)|(clear hK K;with_reducible refine hK _ _ ?_;clear hK K)|(clear hK K;clear hK K;with_reducible refine hK _ _ ?_;clear hK K))|(with_reducible refine ak (fun h=>?_) (fun h=>?_)<;>(try simp only[go_sem] at h)<;>(try exact g_f)<;>(try refine g_y ?_))|exact trivial|fail))
  all_goals exact ax rfl rfl
 | l+1,hl4,.mk k n e ps,ok,σ=>by
  cases ok with
  | mk _ _ _ _ hk hn he hev hpl hp=>
  have ih:=r7 l (by omega)
  have hrng:=(le l).1;rw[lf,a7];obtain⟨m1,hm1⟩:∃m:Int,((l+1:Nat):Int)=m:=⟨_,rfl⟩;have hm0:0<m1:=by omega
  have hm2:I64 (m1-1):=by unfold I64;omega
  have hm3:m1-1=(l:Int):=by omega
  rw[hm1];obtain⟨V,hV⟩:∃V,deepL ps (l+1)=V:=⟨_,rfl⟩;have hV4:=(le (l+1)).2 ps;rw[hV] at hV4 ⊢;refine af.cutX ?_;refine g_n Tryz.func55 rfl Tryz.results55 Tryz.ntmps55 ?_;refine g_s fun K hK=>?_;refine g_h ?_;refine hK _ _ ?_;clear hK K;refine g_0 2 rfl ?_
  (repeat' (first|(refine g_s fun K hK=>?_)|(refine g_b ?_)|(refine g_g ?_;(try refine g_y ?_))|(refine hK _ _ ?_;clear hK K)|exact trivial|fail))
  have hJ:=hK;clear hK;refine ay ps (fun _ r out=>max out (1+deepL r (l+1))=1+V∧1≤out∧out≤6) (fun k out _=>[(6,ab k),(5,ab out)]) (fun _ _ τ=>σ++(.dead::τ)) 1 [] ⟨by rw[hV];omega,by omega,by omega⟩ rfl (ai ?_) ?_ ?_
  ·exact g_w
  ·rintro q r out τ hq0 hq1 ⟨h3,h4,h5⟩ L hL;have hmem:=aA ps hq0 hq1;obtain⟨x,hx⟩:∃x,at0 ps q=x:=⟨_,rfl⟩;rw[hx] at h3 hmem;rw[qA] at h3;have hxr:=hrng x;have ihx:=fun S=>ih x (hp x hmem) S;obtain⟨D,hD⟩:∃D,fl x l=D:=⟨_,rfl⟩;rw[hD] at ihx h3 hxr;obtain⟨k',n',e',ps'⟩:=x;rw[a7] at ihx;rw[←hm3] at ihx;have hr0:=((le (l+1)).2 r).1;simp -implicitDefEqProofs only[go_sem]
   (repeat' (first|(refine g_s fun K hK=>?_)|(refine g_b ?_)|(refine g_k ?_;simp only[ah,ae])|(refine g_C (fun h=>?_) (fun h=>?_)<;>(try exact g_f))|((first|refine g_g ?_|refine (ihx _).use ?_);(try simp -implicitDefEqProofs only[go_sem,hx,hm0,hm2]))|(refine hK _ _ ?_;clear hK K)|(with_reducible refine ak (fun h=>?_) (fun h=>?_)<;>(try simp only[go_sem] at h)<;>(try exact g_f)<;>(try simp -implicitDefEqProofs only[go_sem,hx,hm0,hm2]))|(with_reducible refine And.intro ?_ ?_;· exact g_x)|fail))
   ·refine hL (1+D) τ _ _ ⟨by omega,by omega,by omega⟩ (ai ?_) rfl
    simp -implicitDefEqProofs only[go_sem]
   ·refine hL out τ _ _ ⟨by omega,by omega,by omega⟩ (ai ?_) rfl
    simp -implicitDefEqProofs only[go_sem]
  ·rintro q out τ hq ⟨h3,h4,h5⟩ L;have h3:out=1+V:=by rw[deepL] at h3;omega
   subst h3;simp -implicitDefEqProofs only[go_sem]
   (repeat' (first|(refine g_s fun K hK=>?_)|(refine g_e ?_;simp only[ah,ae,↓reduceIte,Nat.reduceEqDiff])|(refine g_C (fun h=>?_) (fun h=>?_)<;>(try exact g_f))|(refine g_g ?_;(try refine g_y ?_))|(refine hK _ _ ?_;clear hK K)|(with_reducible refine ak (fun h=>?_) (fun h=>?_)<;>(try simp only[go_sem] at h)<;>(try exact g_f)<;>(try refine g_y ?_))|exact trivial|fail))
   refine hJ _ _ ?_;clear hJ
   (repeat' (first|(refine g_s fun K hK=>?_)|((first|refine g_t ?_|refine g_g ?_);(try refine g_y ?_))|(refine hK _ _ ?_;clear hK K)|exact trivial|fail))
   exact ax rfl rfl
theorem xd:∀(p:Pl),d8 p→∀σ:aa,af Tryz.prog 56 [.agg (plC p)] σ fun r σ'=>σ'=σ∧r = .c (.bool (cY p)):=by
 refine Pl.ind fun k n e ps ih ok σ=>?_
 cases ok with
 | mk _ _ _ _ hk hn he hev hpl hp=>
 rw[cY,a7];refine af.cutX ?_;refine g_n Tryz.func56 rfl Tryz.results56 Tryz.ntmps56 ?_;refine g_s fun K hK=>?_;refine g_h ?_;refine hK _ _ ?_;clear hK K;refine g_0 1 rfl ?_
 (repeat' (first|(refine g_s fun K hK=>?_)|(refine g_b ?_)|(refine g_k ?_;simp only[ah,ae])|(refine g_C (fun h=>?_) (fun h=>?_)<;>(try exact g_f))|((first|refine g_t ?_|refine g_g ?_);(try refine g_y ?_))|(refine hK _ _ ?_;clear hK K)|exact trivial|fail))
 ·refine ax rfl ?_;rw[decide_eq_true (by omega),Bool.true_or]
 have h8:¬8<e.length:=by omega
 rw[decide_eq_false h8,Bool.false_or];have hJ:=hK;clear hK;refine ay ps (fun _ r _=>wideL ps=wideL r) (fun k _ _=>[(3,ab k)]) (fun _ _ τ=>σ++(.dead::τ)) () [] rfl rfl (ai ?_) ?_ ?_
 ·exact g_w
 ·rintro q r _ τ hq0 hq1 h3 L hL;have hmem:=aA ps hq0 hq1;obtain⟨x,hx⟩:∃x,at0 ps q=x:=⟨_,rfl⟩;rw[hx] at h3 hmem;rw[wideL] at h3;have ihx:=ih x hmem (hp x hmem);obtain⟨D,hD⟩:∃D,cY x=D:=⟨_,rfl⟩;rw[hD] at ihx h3;obtain⟨k',n',e',ps'⟩:=x;rw[a7] at ihx;simp -implicitDefEqProofs only[go_sem]
  cases D
  ·(repeat' (first|(refine g_s fun K hK=>?_)|(refine g_b ?_)|(refine g_k ?_;simp only[ah,ae])|(refine g_C (fun h=>?_) (fun h=>?_)<;>(try exact g_f))|((first|refine g_g ?_|refine (ihx _).use ?_);(try simp -implicitDefEqProofs only[go_sem,hx]))|(refine hK _ _ ?_;clear hK K)|(with_reducible refine And.intro ?_ ?_;· exact g_x)|fail))
   refine hL () τ _ _ (by simpa using h3) (ai ?_) rfl
   simp -implicitDefEqProofs only[go_sem]
  ·(repeat' (first|(refine g_s fun K hK=>?_)|(refine g_b ?_)|(refine g_k ?_;simp only[ah,ae])|(refine g_C (fun h=>?_) (fun h=>?_)<;>(try exact g_f))|((first|refine g_t ?_|refine g_g ?_|refine (ihx _).use ?_);(try simp -implicitDefEqProofs only[go_sem,hx]))|(refine hK _ _ ?_;clear hK K)|(with_reducible refine And.intro ?_ ?_;· exact g_x)|fail))
   refine ax rfl ?_;rw[h3,Bool.true_or]
 ·rintro q _ τ hq h3 L;simp -implicitDefEqProofs only[go_sem]
  (repeat' (first|(refine g_s fun K hK=>?_)|(refine g_e ?_;simp only[ah,ae,↓reduceIte,Nat.reduceEqDiff])|(refine g_C (fun h=>?_) (fun h=>?_)<;>(try exact g_f))|(refine g_g ?_;(try refine g_y ?_))|(refine hK _ _ ?_;clear hK K)|exact trivial|fail))
  refine hJ _ _ ?_;clear hJ
  (repeat' (first|(refine g_s fun K hK=>?_)|((first|refine g_t ?_|refine g_g ?_);(try refine g_y ?_))|(refine hK _ _ ?_;clear hK K)|exact trivial|fail))
  refine ax rfl ?_;rw[h3,wideL];simp [h8]
end Go.Proofs.YtephecognbbaoaaGreat
