/- Engines, as the document checks them. -/
import Derived.Test.YtephecognbbaoaaGreatZEa
import Derived.Test.YtephecognbbaoaaGreatZSr
import Derived.Test.YtephecognbbaoaaGreatZBm
open Go
set_option linter.all false
set_option maxRecDepth 100000
set_option maxHeartbeats 4000000
namespace Go.Proofs.YtephecognbbaoaaGreat
open Go
set_option linter.all false
set_option maxRecDepth 100000
set_option maxHeartbeats 4000000
theorem eP (n:Net) (l:List Int) (hx:I64 (n.alg.size-1)) (hl:l.length≤1000000000000000000) (σ:aa):af Tryz.prog 53 [.agg (aH n),aF l] σ fun r σ'=>σ'=σ∧r=ab (aY n l):=by
 refine af.cutX ?_;unfold aY
 by_cases h0:(l.length:Int)≠n.nodes
 ·rw[if_pos h0];refine g_n Tryz.func53 rfl Tryz.results53 Tryz.ntmps53 ?_
  (repeat' (first|(refine g_s fun K hK=>?_)|(refine g_C (fun h=>?_) (fun h=>?_)<;>(try exact g_f))|((first|refine g_t ?_|refine g_g ?_);(try simp -implicitDefEqProofs only[go_sem,h0]))|(refine hK _ _ ?_;clear hK K)|fail))
  exact ax rfl rfl
 ·rw[if_neg h0];have h1:(l.length:Int)=n.nodes:=Decidable.not_not.1 h0;obtain⟨X,hX⟩:∃X,(if (l.any fun r => !inR r 0 (n.alg.size-1))=true then (5:Int) else 0)=X:=⟨_,rfl⟩
  rw[hX];refine g_n Tryz.func53 rfl Tryz.results53 Tryz.ntmps53 ?_;refine g_s fun K hK=>?_;refine g_h ?_;refine hK _ _ ?_;clear hK K;refine g_0 2 rfl ?_
  (repeat' (first|(refine g_s fun K hK=>?_)|(refine g_b ?_)|(refine g_k ?_;simp only[ah,ae])|(refine g_C (fun h=>?_) (fun h=>?_)<;>(try exact g_f))|(refine g_g ?_;(try simp -implicitDefEqProofs only[go_sem,h1]))|(refine hK _ _ ?_;clear hK K)|fail))
  have hJ:=hK;clear hK;refine ay l (fun _ r _=>(if (r.any fun r => !inR r 0 (n.alg.size-1))=true then (5:Int) else 0)=X) (fun k _ _=>[(5,ab k)]) (fun _ _ _=>σ++[.dead]) () [] hX rfl (ai ?_) ?_ ?_
  ·exact g_w
  ·rintro k r _ τ hk0 hk1 hH L hL;obtain⟨w,hw⟩:∃w,at0 l k=w:=⟨_,rfl⟩;rw[hw,List.any_cons] at hH;have hB:∀S,af Tryz.prog 62 [ab w,ab 0,ab (n.alg.size-1)] S fun r S'=>S'=S∧r = .c (.bool (inR w 0 (n.alg.size-1))):=bS w 0 (n.alg.size-1);simp -implicitDefEqProofs only[go_sem]
   cases hb:inR w 0 (n.alg.size-1)
   ·rw[hb] at hB hH
    (repeat' (first|(refine g_s fun K hK=>?_)|(refine g_b ?_)|(refine g_k ?_;simp only[ah,ae])|(refine g_C (fun h=>?_) (fun h=>?_)<;>(try exact g_f))|((first|refine g_t ?_|refine g_g ?_|refine g_U ?_|refine g_q (fun τ=>hB _) ?_);(try simp -implicitDefEqProofs only[go_sem,hw]))|(refine hK _ _ ?_;clear hK K)|(with_reducible refine And.intro ?_ ?_;· exact g_x)|fail))
    rw[←hH];exact ax rfl rfl
   ·rw[hb] at hB hH
    (repeat' (first|(refine g_s fun K hK=>?_)|(refine g_b ?_)|(refine g_k ?_;simp only[ah,ae])|(refine g_C (fun h=>?_) (fun h=>?_)<;>(try exact g_f))|((first|refine g_g ?_|refine g_U ?_|refine g_q (fun τ=>hB _) ?_);(try simp -implicitDefEqProofs only[go_sem,hw]))|(refine hK _ _ ?_;clear hK K)|(with_reducible refine And.intro ?_ ?_;· exact g_x)|fail))
    refine hL () [] _ _ (by simpa using hH) (ai ?_) rfl
    simp -implicitDefEqProofs only[go_sem]
  ·rintro k _ τ hk hH L;simp -implicitDefEqProofs only[go_sem]
   (repeat' (first|(refine g_s fun K hK=>?_)|(refine g_e ?_;simp only[ah,ae,↓reduceIte,Nat.reduceEqDiff])|(refine g_C (fun h=>?_) (fun h=>?_)<;>(try exact g_f))|(refine g_g ?_;(try refine g_y ?_))|(refine hK _ _ ?_;clear hK K)|exact trivial|fail))
   refine hJ _ _ ?_;clear hJ
   (repeat' (first|(refine g_s fun K hK=>?_)|((first|refine g_t ?_|refine g_g ?_);(try refine g_y ?_))|(refine hK _ _ ?_;clear hK K)|exact trivial|fail))
   rw[←hH];exact ax rfl rfl
def fbL (n:Net) (l:List Int):Bool:=decide (l≠[])&&decide ((l.length:Int)≠n.nodes)
def nbL (n:Net) (l:List Int):Bool:=decide (l≠[])&&decide (aY n l=5)
def mP (n:Net) (fb nb:Bool) (Y:Int):Int:=if fb=true then 1 else if nb=true then 5 else Y
def jN (n:Net) (e:Eng):Int:=
 if 120<e.bag.length then 2
 else if (e.bag.any fun m => !inR m.fr 0 (n.nodes-1) || !inR m.dst 0 (n.nodes-1))=true then 5
 else if (e.bag.any fun m=>decide (60<m.bytes.length))=true then 2
 else 0
theorem zW {n:Net} {e:Eng} (h0:aI n=0) (h1:(e.routers.length:Int)=n.nodes):ew n e=mP n (e.routers.any (dJ n)) (e.routers.any (eA n)) (jN n e):=by
 rw[ew,if_neg (not_not_intro h0),mP,jN];simp only[h1,not_true_eq_false,false_or,ne_eq]
theorem sK (n:Net) (e:Eng) (okn:dM n) (ok:cj e) (σ:aa):af Tryz.prog 19 [.agg (aH n),.agg (ba e)] σ fun r σ'=>σ'=σ∧r=ab (ew n e):=by
 have hC:=pI n okn;refine af.cutX ?_
 by_cases h0:aI n=0
 ·rw[h0] at hC;have hn:=aU h0;have n1:=hn.n1;have n6:=hn.n6;have hx:I64 (n.alg.size-1):=by have:=hn.alg.s2;have:=hn.alg.s24;unfold I64;omega
  by_cases h1:(e.routers.length:Int)=n.nodes
  ·rw[zW h0 h1];obtain⟨X,hX⟩:∃X,mP n (e.routers.any (dJ n)) (e.routers.any (eA n)) (jN n e)=X:=⟨_,rfl⟩;rw[hX];have hbl:=ok.bl;refine g_n Tryz.func19 rfl Tryz.results19 Tryz.ntmps19 ?_;refine g_s fun K hK=>?_;refine g_h ?_;refine hK _ _ ?_;clear hK K;refine g_0 2 rfl ?_;refine g_0 3 rfl ?_
   (repeat' (first|(refine g_s fun K hK=>?_)|(refine g_b ?_)|(refine g_k ?_;simp only[ah,ae])|(refine g_C (fun h=>?_) (fun h=>?_)<;>(try exact g_f))|((first|refine g_g ?_|refine (hC _).use ?_);(try simp -implicitDefEqProofs only[go_sem,h1]))|(refine hK _ _ ?_;clear hK K)|fail))
   have hJ:=hK;clear hK;refine ay e.routers (fun _ r none=>mP n (r.any (dJ n)) (none||r.any (eA n)) (jN n e)=X) (fun k none _=>[(7,ab k),(6,.c (.bool none))]) (fun _ _ τ=>σ++(.dead::.dead::τ)) false [] (by simpa using hX) rfl (ai ?_) ?_ ?_
   ·exact g_w
   ·rintro k r none τ hk0 hk1 hH L hL;obtain⟨w,hw⟩:∃w,at0 e.routers k=w:=⟨_,rfl⟩;have hwm:=aA e.routers hk0 hk1;rw[hw] at hH hwm;have hwo:=ok.rtr w hwm;have hrl:=hwo.rl;have htl:=hwo.tl;rw[List.any_cons,List.any_cons] at hH;have hR:=fun S=>eP n w.routes hx (by omega) S
    simp -implicitDefEqProofs only[go_sem]
    by_cases t1:(w.told.length:Int)=n.nodes
    ·by_cases t2:(w.routes.length:Int)=n.nodes
     ·have hfb:dJ n w=w.told.any (fbL n):=by
       rw[dJ,decide_eq_false (not_not_intro t1),decide_eq_false (not_not_intro t2),Bool.false_or,Bool.false_or];rfl
      have hnb:eA n w=(decide (aY n w.routes=5)||w.told.any (nbL n)):=rfl;rw[hfb,hnb,←Bool.or_assoc,←Bool.or_assoc] at hH;obtain⟨F,hF⟩:∃F,r.any (dJ n)=F:=⟨_,rfl⟩;obtain⟨G,hG⟩:∃G,r.any (eA n)=G:=⟨_,rfl⟩;rw[hF,hG] at hH;have h3:none=true∨(none=false∧aY n w.routes=5)∨(none=false∧aY n w.routes≠5):=by
       cases none
       ·by_cases h5:aY n w.routes=5
        ·exact .inr (.inl ⟨rfl,h5⟩)
        ·exact .inr (.inr ⟨rfl,h5⟩)
       ·exact .inl rfl
      obtain⟨nn,hnn⟩:∃nn,nn=(none||decide (aY n w.routes=5)):=⟨_,rfl⟩;rw[←hnn] at hH
      rcases h3 with hv|⟨hv,h5⟩|⟨hv,h5⟩
      all_goals
       subst hv
       first
       | (have hv:nn=true:=by rw[hnn,Bool.true_or])
       | (have hv:nn=true:=by rw[hnn,decide_eq_true h5,Bool.false_or])
       | (have hv:nn=false:=by rw[hnn,decide_eq_false h5,Bool.false_or])
      ·(repeat' (first|(refine g_s fun K hK=>?_)|(refine g_b ?_)|(refine g_k ?_;simp only[ah,ae])|(refine g_C (fun h=>?_) (fun h=>?_)<;>(try exact g_f))|(refine g_g ?_;(try simp -implicitDefEqProofs only[go_sem,hw,t1,t2]))|(refine hK _ _ ?_;clear hK K)|(with_reducible refine ak (fun h=>?_) (fun h=>?_)<;>(try simp only[go_sem] at h)<;>(try exact g_f)<;>(try simp -implicitDefEqProofs only[go_sem,hw,t1,t2]))|(with_reducible refine And.intro ?_ ?_;· exact g_x)|fail))
       have hJ:=hK;clear hK;refine ay w.told (fun _ r9 none9=>mP n (r9.any (fbL n)||F) (none9||r9.any (nbL n)||G) (jN n e)=X) (fun k9 none9 _=>[(9,ab k9),(6,.c (.bool none9))]) (fun _ _ τ9=>σ++(.dead::.dead::(τ++.cells 2 [bF w]::τ9))) nn [] hH (by simp [bF,aF,aL]) (ai ?_) ?_ ?_
       ·simp -implicitDefEqProofs only[go_sem,hv]
        all_goals simp [h5]
       ·rintro k9 r9 none9 τ9 hk90 hk91 hH9 L9 hL9;obtain⟨l,hl⟩:∃l,at0 w.told k9=l:=⟨_,rfl⟩;have hlm:=aA w.told hk90 hk91;rw[hl] at hH9 hlm;have hll:=hwo.tr l hlm;rw[List.any_cons,List.any_cons] at hH9;have hRl:=fun S=>eP n l hx (by omega) S
        simp -implicitDefEqProofs only[go_sem]
        by_cases c1:l=[]
        ·have e1:fbL n l=false:=by simp [fbL,c1]
         have e2:nbL n l=false:=by simp [nbL,c1]
         rw[e1,e2,Bool.false_or,Bool.false_or] at hH9;subst c1
         cases none9
         all_goals
          (repeat' (first|(refine g_s fun K hK=>?_)|(refine g_b ?_)|(refine g_k ?_;simp only[ah,ae])|(refine g_C (fun h=>?_) (fun h=>?_)<;>(try exact g_f))|((first|refine g_g ?_|refine g_U ?_);(try simp -implicitDefEqProofs only[go_sem,hw,hl]))|(refine hK _ _ ?_;clear hK K)|(with_reducible refine ak (fun h=>?_) (fun h=>?_)<;>(try simp only[go_sem] at h)<;>(try exact g_f)<;>(try simp -implicitDefEqProofs only[go_sem,hw,hl]))|(with_reducible refine And.intro ?_ ?_;· exact g_x)|fail))
          refine hL9 _ τ9 _ _ hH9 (ai ?_) (by simp [bF,aF,aL])
          simp -implicitDefEqProofs only[go_sem]
        ·have c0:0<l.length:=List.length_pos_iff.2 c1
         by_cases c2:(l.length:Int)=n.nodes
         ·have e1:fbL n l=false:=by simp [fbL,c2]
          have e2:nbL n l=decide (aY n l=5):=by simp [nbL,c1]
          rw[e1,e2,Bool.false_or,←Bool.or_assoc none9] at hH9
          cases none9
          ·by_cases c5:aY n l=5
           ·rw[decide_eq_true c5] at hH9
            (repeat' (first|(refine g_s fun K hK=>?_)|(refine g_b ?_)|(refine g_k ?_;simp only[ah,ae])|(refine g_C (fun h=>?_) (fun h=>?_)<;>(try exact g_f))|((first|refine g_g ?_|refine g_U ?_|refine g_q (fun τ=>hRl _) ?_);(try simp -implicitDefEqProofs only[go_sem,hw,hl,c0,c2,c5]))|(refine hK _ _ ?_;clear hK K)|(with_reducible refine ak (fun h=>?_) (fun h=>?_)<;>(try simp only[go_sem] at h)<;>(try exact g_f)<;>(try simp -implicitDefEqProofs only[go_sem,hw,hl,c0,c2,c5]))|(with_reducible refine And.intro ?_ ?_;· exact g_x)|fail))
            refine hL9 true τ9 _ _ hH9 (ai ?_) (by simp [bF,aF,aL])
            simp -implicitDefEqProofs only[go_sem]
            all_goals simp [c5]
           ·rw[decide_eq_false c5] at hH9
            (repeat' (first|(refine g_s fun K hK=>?_)|(refine g_b ?_)|(refine g_k ?_;simp only[ah,ae])|(refine g_C (fun h=>?_) (fun h=>?_)<;>(try exact g_f))|((first|refine g_g ?_|refine g_U ?_|refine g_q (fun τ=>hRl _) ?_);(try simp -implicitDefEqProofs only[go_sem,hw,hl,c0,c2,c5]))|(refine hK _ _ ?_;clear hK K)|(with_reducible refine ak (fun h=>?_) (fun h=>?_)<;>(try simp only[go_sem] at h)<;>(try exact g_f)<;>(try simp -implicitDefEqProofs only[go_sem,hw,hl,c0,c2,c5]))|(with_reducible refine And.intro ?_ ?_;· exact g_x)|fail))
            refine hL9 false τ9 _ _ hH9 (ai ?_) (by simp [bF,aF,aL])
            simp -implicitDefEqProofs only[go_sem]
            all_goals simp [c5]
          ·rw[Bool.true_or] at hH9
           (repeat' (first|(refine g_s fun K hK=>?_)|(refine g_b ?_)|(refine g_k ?_;simp only[ah,ae])|(refine g_C (fun h=>?_) (fun h=>?_)<;>(try exact g_f))|((first|refine g_g ?_|refine g_U ?_);(try simp -implicitDefEqProofs only[go_sem,hw,hl,c0,c2]))|(refine hK _ _ ?_;clear hK K)|(with_reducible refine ak (fun h=>?_) (fun h=>?_)<;>(try simp only[go_sem] at h)<;>(try exact g_f)<;>(try simp -implicitDefEqProofs only[go_sem,hw,hl,c0,c2]))|(with_reducible refine And.intro ?_ ?_;· exact g_x)|fail))
           refine hL9 true τ9 _ _ hH9 (ai ?_) (by simp [bF,aF,aL])
           simp -implicitDefEqProofs only[go_sem]
         ·have e1:fbL n l=true:=by simp [fbL,c1,c2]
          rw[e1] at hH9
          (repeat' (first|(refine g_s fun K hK=>?_)|(refine g_b ?_)|(refine g_k ?_;simp only[ah,ae])|(refine g_C (fun h=>?_) (fun h=>?_)<;>(try exact g_f))|((first|refine g_t ?_|refine g_g ?_|refine g_U ?_);(try simp -implicitDefEqProofs only[go_sem,hw,hl,c0,c2]))|(refine hK _ _ ?_;clear hK K)|(with_reducible refine ak (fun h=>?_) (fun h=>?_)<;>(try simp only[go_sem] at h)<;>(try exact g_f)<;>(try simp -implicitDefEqProofs only[go_sem,hw,hl,c0,c2]))|(with_reducible refine And.intro ?_ ?_;· exact g_x)|fail))
          rw[←hH9];exact ax rfl rfl
       ·rintro k9 none9 τ9 hk9 hH9 L9;simp -implicitDefEqProofs only[go_sem]
        (repeat' (first|(refine g_s fun K hK=>?_)|(refine g_e ?_;simp only[ah,ae,↓reduceIte,Nat.reduceEqDiff])|(refine g_C (fun h=>?_) (fun h=>?_)<;>(try exact g_f))|(refine g_g ?_;(try refine g_y ?_))|(refine hK _ _ ?_;clear hK K)|exact trivial|fail))
        refine hJ _ _ ?_;clear hJ
        (repeat' (first|(refine g_g ?_;(try refine g_y ?_))|(with_reducible refine And.intro ?_ ?_;· exact g_x)|exact trivial|fail))
        refine hL none9 (τ++.cells 2 [bF w]::τ9) _ _ ?_ (ai ?_) (by simp [bF,aF,aL])
        ·rw[hF,hG]
         simpa using hH9
        ·exact g_w
      ·(repeat' (first|(refine g_s fun K hK=>?_)|(refine g_b ?_)|(refine g_k ?_;simp only[ah,ae])|(refine g_C (fun h=>?_) (fun h=>?_)<;>(try exact g_f))|((first|refine g_g ?_|refine (hR _).use ?_);(try simp -implicitDefEqProofs only[go_sem,hw,t1,t2,h5]))|(refine hK _ _ ?_;clear hK K)|(with_reducible refine ak (fun h=>?_) (fun h=>?_)<;>(try simp only[go_sem] at h)<;>(try exact g_f)<;>(try simp -implicitDefEqProofs only[go_sem,hw,t1,t2,h5]))|(with_reducible refine And.intro ?_ ?_;· exact g_x)|fail))
       have hJ:=hK;clear hK;refine ay w.told (fun _ r9 none9=>mP n (r9.any (fbL n)||F) (none9||r9.any (nbL n)||G) (jN n e)=X) (fun k9 none9 _=>[(9,ab k9),(6,.c (.bool none9))]) (fun _ _ τ9=>σ++(.dead::.dead::(τ++.cells 2 [bF w]::τ9))) nn [] hH (by simp [bF,aF,aL]) (ai ?_) ?_ ?_
       ·simp -implicitDefEqProofs only[go_sem,hv]
        all_goals simp [h5]
       ·rintro k9 r9 none9 τ9 hk90 hk91 hH9 L9 hL9;obtain⟨l,hl⟩:∃l,at0 w.told k9=l:=⟨_,rfl⟩;have hlm:=aA w.told hk90 hk91;rw[hl] at hH9 hlm;have hll:=hwo.tr l hlm;rw[List.any_cons,List.any_cons] at hH9;have hRl:=fun S=>eP n l hx (by omega) S
        simp -implicitDefEqProofs only[go_sem]
        by_cases c1:l=[]
        ·have e1:fbL n l=false:=by simp [fbL,c1]
         have e2:nbL n l=false:=by simp [nbL,c1]
         rw[e1,e2,Bool.false_or,Bool.false_or] at hH9;subst c1
         cases none9
         all_goals
          (repeat' (first|(refine g_s fun K hK=>?_)|(refine g_b ?_)|(refine g_k ?_;simp only[ah,ae])|(refine g_C (fun h=>?_) (fun h=>?_)<;>(try exact g_f))|((first|refine g_g ?_|refine g_U ?_);(try simp -implicitDefEqProofs only[go_sem,hw,hl]))|(refine hK _ _ ?_;clear hK K)|(with_reducible refine ak (fun h=>?_) (fun h=>?_)<;>(try simp only[go_sem] at h)<;>(try exact g_f)<;>(try simp -implicitDefEqProofs only[go_sem,hw,hl]))|(with_reducible refine And.intro ?_ ?_;· exact g_x)|fail))
          refine hL9 _ τ9 _ _ hH9 (ai ?_) (by simp [bF,aF,aL])
          simp -implicitDefEqProofs only[go_sem]
        ·have c0:0<l.length:=List.length_pos_iff.2 c1
         by_cases c2:(l.length:Int)=n.nodes
         ·have e1:fbL n l=false:=by simp [fbL,c2]
          have e2:nbL n l=decide (aY n l=5):=by simp [nbL,c1]
          rw[e1,e2,Bool.false_or,←Bool.or_assoc none9] at hH9
          cases none9
          ·by_cases c5:aY n l=5
           ·rw[decide_eq_true c5] at hH9
            (repeat' (first|(refine g_s fun K hK=>?_)|(refine g_b ?_)|(refine g_k ?_;simp only[ah,ae])|(refine g_C (fun h=>?_) (fun h=>?_)<;>(try exact g_f))|((first|refine g_g ?_|refine g_U ?_|refine g_q (fun τ=>hRl _) ?_);(try simp -implicitDefEqProofs only[go_sem,hw,hl,c0,c2,c5]))|(refine hK _ _ ?_;clear hK K)|(with_reducible refine ak (fun h=>?_) (fun h=>?_)<;>(try simp only[go_sem] at h)<;>(try exact g_f)<;>(try simp -implicitDefEqProofs only[go_sem,hw,hl,c0,c2,c5]))|(with_reducible refine And.intro ?_ ?_;· exact g_x)|fail))
            refine hL9 true τ9 _ _ hH9 (ai ?_) (by simp [bF,aF,aL])
            simp -implicitDefEqProofs only[go_sem]
            all_goals simp [c5]
           ·rw[decide_eq_false c5] at hH9
            (repeat' (first|(refine g_s fun K hK=>?_)|(refine g_b ?_)|(refine g_k ?_;simp only[ah,ae])|(refine g_C (fun h=>?_) (fun h=>?_)<;>(try exact g_f))|((first|refine g_g ?_|refine g_U ?_|refine g_q (fun τ=>hRl _) ?_);(try simp -implicitDefEqProofs only[go_sem,hw,hl,c0,c2,c5]))|(refine hK _ _ ?_;clear hK K)|(with_reducible refine ak (fun h=>?_) (fun h=>?_)<;>(try simp only[go_sem] at h)<;>(try exact g_f)<;>(try simp -implicitDefEqProofs only[go_sem,hw,hl,c0,c2,c5]))|(with_reducible refine And.intro ?_ ?_;· exact g_x)|fail))
            refine hL9 false τ9 _ _ hH9 (ai ?_) (by simp [bF,aF,aL])
            simp -implicitDefEqProofs only[go_sem]
            all_goals simp [c5]
          ·rw[Bool.true_or] at hH9
           (repeat' (first|(refine g_s fun K hK=>?_)|(refine g_b ?_)|(refine g_k ?_;simp only[ah,ae])|(refine g_C (fun h=>?_) (fun h=>?_)<;>(try exact g_f))|((first|refine g_g ?_|refine g_U ?_);(try simp -implicitDefEqProofs only[go_sem,hw,hl,c0,c2]))|(refine hK _ _ ?_;clear hK K)|(with_reducible refine ak (fun h=>?_) (fun h=>?_)<;>(try simp only[go_sem] at h)<;>(try exact g_f)<;>(try simp -implicitDefEqProofs only[go_sem,hw,hl,c0,c2]))|(with_reducible refine And.intro ?_ ?_;· exact g_x)|fail))
           refine hL9 true τ9 _ _ hH9 (ai ?_) (by simp [bF,aF,aL])
           simp -implicitDefEqProofs only[go_sem]
         ·have e1:fbL n l=true:=by simp [fbL,c1,c2]
          rw[e1] at hH9
          (repeat' (first|(refine g_s fun K hK=>?_)|(refine g_b ?_)|(refine g_k ?_;simp only[ah,ae])|(refine g_C (fun h=>?_) (fun h=>?_)<;>(try exact g_f))|((first|refine g_t ?_|refine g_g ?_|refine g_U ?_);(try simp -implicitDefEqProofs only[go_sem,hw,hl,c0,c2]))|(refine hK _ _ ?_;clear hK K)|(with_reducible refine ak (fun h=>?_) (fun h=>?_)<;>(try simp only[go_sem] at h)<;>(try exact g_f)<;>(try simp -implicitDefEqProofs only[go_sem,hw,hl,c0,c2]))|(with_reducible refine And.intro ?_ ?_;· exact g_x)|fail))
          rw[←hH9];exact ax rfl rfl
       ·rintro k9 none9 τ9 hk9 hH9 L9;simp -implicitDefEqProofs only[go_sem]
        (repeat' (first|(refine g_s fun K hK=>?_)|(refine g_e ?_;simp only[ah,ae,↓reduceIte,Nat.reduceEqDiff])|(refine g_C (fun h=>?_) (fun h=>?_)<;>(try exact g_f))|(refine g_g ?_;(try refine g_y ?_))|(refine hK _ _ ?_;clear hK K)|exact trivial|fail))
        refine hJ _ _ ?_;clear hJ
        (repeat' (first|(refine g_g ?_;(try refine g_y ?_))|(with_reducible refine And.intro ?_ ?_;· exact g_x)|exact trivial|fail))
        refine hL none9 (τ++.cells 2 [bF w]::τ9) _ _ ?_ (ai ?_) (by simp [bF,aF,aL])
        ·rw[hF,hG]
         simpa using hH9
        ·exact g_w
      ·(repeat' (first|(refine g_s fun K hK=>?_)|(refine g_b ?_)|(refine g_k ?_;simp only[ah,ae])|(refine g_C (fun h=>?_) (fun h=>?_)<;>(try exact g_f))|((first|refine g_g ?_|refine (hR _).use ?_);(try simp -implicitDefEqProofs only[go_sem,hw,t1,t2,h5]))|(refine hK _ _ ?_;clear hK K)|(with_reducible refine ak (fun h=>?_) (fun h=>?_)<;>(try simp only[go_sem] at h)<;>(try exact g_f)<;>(try simp -implicitDefEqProofs only[go_sem,hw,t1,t2,h5]))|(with_reducible refine And.intro ?_ ?_;· exact g_x)|fail))
       have hJ:=hK;clear hK;refine ay w.told (fun _ r9 none9=>mP n (r9.any (fbL n)||F) (none9||r9.any (nbL n)||G) (jN n e)=X) (fun k9 none9 _=>[(9,ab k9),(6,.c (.bool none9))]) (fun _ _ τ9=>σ++(.dead::.dead::(τ++.cells 2 [bF w]::τ9))) nn [] hH (by simp [bF,aF,aL]) (ai ?_) ?_ ?_
       ·simp -implicitDefEqProofs only[go_sem,hv]
        all_goals simp [h5]
       ·rintro k9 r9 none9 τ9 hk90 hk91 hH9 L9 hL9;obtain⟨l,hl⟩:∃l,at0 w.told k9=l:=⟨_,rfl⟩;have hlm:=aA w.told hk90 hk91;rw[hl] at hH9 hlm;have hll:=hwo.tr l hlm;rw[List.any_cons,List.any_cons] at hH9;have hRl:=fun S=>eP n l hx (by omega) S
        simp -implicitDefEqProofs only[go_sem]
        by_cases c1:l=[]
        ·have e1:fbL n l=false:=by simp [fbL,c1]
         have e2:nbL n l=false:=by simp [nbL,c1]
         rw[e1,e2,Bool.false_or,Bool.false_or] at hH9;subst c1
         cases none9
         all_goals
          (repeat' (first|(refine g_s fun K hK=>?_)|(refine g_b ?_)|(refine g_k ?_;simp only[ah,ae])|(refine g_C (fun h=>?_) (fun h=>?_)<;>(try exact g_f))|((first|refine g_g ?_|refine g_U ?_);(try simp -implicitDefEqProofs only[go_sem,hw,hl]))|(refine hK _ _ ?_;clear hK K)|(with_reducible refine ak (fun h=>?_) (fun h=>?_)<;>(try simp only[go_sem] at h)<;>(try exact g_f)<;>(try simp -implicitDefEqProofs only[go_sem,hw,hl]))|(with_reducible refine And.intro ?_ ?_;· exact g_x)|fail))
          refine hL9 _ τ9 _ _ hH9 (ai ?_) (by simp [bF,aF,aL])
          simp -implicitDefEqProofs only[go_sem]
        ·have c0:0<l.length:=List.length_pos_iff.2 c1
         by_cases c2:(l.length:Int)=n.nodes
         ·have e1:fbL n l=false:=by simp [fbL,c2]
          have e2:nbL n l=decide (aY n l=5):=by simp [nbL,c1]
          rw[e1,e2,Bool.false_or,←Bool.or_assoc none9] at hH9
          cases none9
          ·by_cases c5:aY n l=5
           ·rw[decide_eq_true c5] at hH9
            (repeat' (first|(refine g_s fun K hK=>?_)|(refine g_b ?_)|(refine g_k ?_;simp only[ah,ae])|(refine g_C (fun h=>?_) (fun h=>?_)<;>(try exact g_f))|((first|refine g_g ?_|refine g_U ?_|refine g_q (fun τ=>hRl _) ?_);(try simp -implicitDefEqProofs only[go_sem,hw,hl,c0,c2,c5]))|(refine hK _ _ ?_;clear hK K)|(with_reducible refine ak (fun h=>?_) (fun h=>?_)<;>(try simp only[go_sem] at h)<;>(try exact g_f)<;>(try simp -implicitDefEqProofs only[go_sem,hw,hl,c0,c2,c5]))|(with_reducible refine And.intro ?_ ?_;· exact g_x)|fail))
            refine hL9 true τ9 _ _ hH9 (ai ?_) (by simp [bF,aF,aL])
            simp -implicitDefEqProofs only[go_sem]
            all_goals simp [c5]
           ·rw[decide_eq_false c5] at hH9
            (repeat' (first|(refine g_s fun K hK=>?_)|(refine g_b ?_)|(refine g_k ?_;simp only[ah,ae])|(refine g_C (fun h=>?_) (fun h=>?_)<;>(try exact g_f))|((first|refine g_g ?_|refine g_U ?_|refine g_q (fun τ=>hRl _) ?_);(try simp -implicitDefEqProofs only[go_sem,hw,hl,c0,c2,c5]))|(refine hK _ _ ?_;clear hK K)|(with_reducible refine ak (fun h=>?_) (fun h=>?_)<;>(try simp only[go_sem] at h)<;>(try exact g_f)<;>(try simp -implicitDefEqProofs only[go_sem,hw,hl,c0,c2,c5]))|(with_reducible refine And.intro ?_ ?_;· exact g_x)|fail))
            refine hL9 false τ9 _ _ hH9 (ai ?_) (by simp [bF,aF,aL])
            simp -implicitDefEqProofs only[go_sem]
            all_goals simp [c5]
          ·rw[Bool.true_or] at hH9
           (repeat' (first|(refine g_s fun K hK=>?_)|(refine g_b ?_)|(refine g_k ?_;simp only[ah,ae])|(refine g_C (fun h=>?_) (fun h=>?_)<;>(try exact g_f))|((first|refine g_g ?_|refine g_U ?_);(try simp -implicitDefEqProofs only[go_sem,hw,hl,c0,c2]))|(refine hK _ _ ?_;clear hK K)|(with_reducible refine ak (fun h=>?_) (fun h=>?_)<;>(try simp only[go_sem] at h)<;>(try exact g_f)<;>(try simp -implicitDefEqProofs only[go_sem,hw,hl,c0,c2]))|(with_reducible refine And.intro ?_ ?_;· exact g_x)|fail))
           refine hL9 true τ9 _ _ hH9 (ai ?_) (by simp [bF,aF,aL])
           simp -implicitDefEqProofs only[go_sem]
         ·have e1:fbL n l=true:=by simp [fbL,c1,c2]
          rw[e1] at hH9
          (repeat' (first|(refine g_s fun K hK=>?_)|(refine g_b ?_)|(refine g_k ?_;simp only[ah,ae])|(refine g_C (fun h=>?_) (fun h=>?_)<;>(try exact g_f))|((first|refine g_t ?_|refine g_g ?_|refine g_U ?_);(try simp -implicitDefEqProofs only[go_sem,hw,hl,c0,c2]))|(refine hK _ _ ?_;clear hK K)|(with_reducible refine ak (fun h=>?_) (fun h=>?_)<;>(try simp only[go_sem] at h)<;>(try exact g_f)<;>(try simp -implicitDefEqProofs only[go_sem,hw,hl,c0,c2]))|(with_reducible refine And.intro ?_ ?_;· exact g_x)|fail))
          rw[←hH9];exact ax rfl rfl
       ·rintro k9 none9 τ9 hk9 hH9 L9;simp -implicitDefEqProofs only[go_sem]
        (repeat' (first|(refine g_s fun K hK=>?_)|(refine g_e ?_;simp only[ah,ae,↓reduceIte,Nat.reduceEqDiff])|(refine g_C (fun h=>?_) (fun h=>?_)<;>(try exact g_f))|(refine g_g ?_;(try refine g_y ?_))|(refine hK _ _ ?_;clear hK K)|exact trivial|fail))
        refine hJ _ _ ?_;clear hJ
        (repeat' (first|(refine g_g ?_;(try refine g_y ?_))|(with_reducible refine And.intro ?_ ?_;· exact g_x)|exact trivial|fail))
        refine hL none9 (τ++.cells 2 [bF w]::τ9) _ _ ?_ (ai ?_) (by simp [bF,aF,aL])
        ·rw[hF,hG]
         simpa using hH9
        ·exact g_w
     ·(repeat' (first|(refine g_s fun K hK=>?_)|(refine g_b ?_)|(refine g_k ?_;simp only[ah,ae])|(refine g_C (fun h=>?_) (fun h=>?_)<;>(try exact g_f))|((first|refine g_t ?_|refine g_g ?_);(try simp -implicitDefEqProofs only[go_sem,hw,t1,t2]))|(refine hK _ _ ?_;clear hK K)|(with_reducible refine ak (fun h=>?_) (fun h=>?_)<;>(try simp only[go_sem] at h)<;>(try exact g_f)<;>(try simp -implicitDefEqProofs only[go_sem,hw,t1,t2]))|(with_reducible refine And.intro ?_ ?_;· exact g_x)|fail))
      refine ax rfl ?_;rw[←hH,mP,if_pos];simp [dJ,t2]
    ·(repeat' (first|(refine g_s fun K hK=>?_)|(refine g_b ?_)|(refine g_k ?_;simp only[ah,ae])|(refine g_C (fun h=>?_) (fun h=>?_)<;>(try exact g_f))|((first|refine g_t ?_|refine g_g ?_);(try simp -implicitDefEqProofs only[go_sem,hw,t1]))|(refine hK _ _ ?_;clear hK K)|(with_reducible refine ak (fun h=>?_) (fun h=>?_)<;>(try simp only[go_sem] at h)<;>(try exact g_f)<;>(try simp -implicitDefEqProofs only[go_sem,hw,t1]))|(with_reducible refine And.intro ?_ ?_;· exact g_x)|fail))
     refine ax rfl ?_;rw[←hH,mP,if_pos];simp [dJ,t1]
   ·rintro k none τ hk hH L;rw[List.any_nil,List.any_nil,Bool.or_false] at hH;simp -implicitDefEqProofs only[go_sem]
    (repeat' (first|(refine g_s fun K hK=>?_)|(refine g_e ?_;simp only[ah,ae,↓reduceIte,Nat.reduceEqDiff])|(refine g_C (fun h=>?_) (fun h=>?_)<;>(try exact g_f))|(refine g_g ?_;(try refine g_y ?_))|(refine hK _ _ ?_;clear hK K)|exact trivial|fail))
    refine hJ _ _ ?_;clear hJ
    cases none
    ·have hH:jN n e=X:=hH;rw[jN] at hH
     by_cases b1:120<e.bag.length
     ·rw[if_pos b1] at hH
      (repeat' (first|(refine g_s fun K hK=>?_)|(refine g_k ?_;simp only[ah,ae])|(refine g_C (fun h=>?_) (fun h=>?_)<;>(try exact g_f))|((first|refine g_t ?_|refine g_g ?_);(try simp -implicitDefEqProofs only[go_sem,b1]))|(refine hK _ _ ?_;clear hK K)|fail))
      rw[←hH];exact ax rfl rfl
     ·rw[if_neg b1] at hH
      (repeat' (first|(refine g_s fun K hK=>?_)|(refine g_b ?_)|(refine g_k ?_;simp only[ah,ae])|(refine g_C (fun h=>?_) (fun h=>?_)<;>(try exact g_f))|(refine g_g ?_;(try simp -implicitDefEqProofs only[go_sem,b1]))|(refine hK _ _ ?_;clear hK K)|fail))
      have hJ:=hK;clear hK;refine ay e.bag (fun _ r _=>(if (r.any fun m => !inR m.fr 0 (n.nodes-1) || !inR m.dst 0 (n.nodes-1))=true then 5 else if (e.bag.any fun m=>decide (60<m.bytes.length))=true then 2 else 0)=X) (fun k _ _=>[(10,ab k)]) (fun _ _ τ9=>σ++(.dead::.dead::(τ++τ9))) () [] hH (by simp) (ai ?_) ?_ ?_
      ·exact g_w
      ·rintro k r _ τ9 hk0 hk1 hH L2 hL2;obtain⟨w,hw⟩:∃w,at0 e.bag k=w:=⟨_,rfl⟩;rw[hw,List.any_cons] at hH;have hI1:=fun S=>jH n w.fr (by unfold I64;omega) S
       have hI2:=fun S=>jH n w.dst (by unfold I64;omega) S
       simp -implicitDefEqProofs only[go_sem]
       cases hb1:inR w.fr 0 (n.nodes-1)
       ·rw[hb1] at hI1 hH
        (repeat' (first|(refine g_s fun K hK=>?_)|(refine g_b ?_)|(refine g_k ?_;simp only[ah,ae])|(refine g_C (fun h=>?_) (fun h=>?_)<;>(try exact g_f))|((first|refine g_t ?_|refine g_g ?_|refine g_U ?_|refine g_q (fun τ=>hI1 _) ?_);(try simp -implicitDefEqProofs only[go_sem,hw]))|(refine hK _ _ ?_;clear hK K)|(with_reducible refine And.intro ?_ ?_;· exact g_x)|fail))
        rw[←hH];exact ax rfl rfl
       ·cases hb2:inR w.dst 0 (n.nodes-1)
        ·rw[hb1] at hI1 hH;rw[hb2] at hI2 hH
         (repeat' (first|(refine g_s fun K hK=>?_)|(refine g_b ?_)|(refine g_k ?_;simp only[ah,ae])|(refine g_C (fun h=>?_) (fun h=>?_)<;>(try exact g_f))|((first|refine g_t ?_|refine g_g ?_|refine g_U ?_|refine g_q (fun τ=>hI1 _) ?_|refine g_q (fun τ=>hI2 _) ?_);(try simp -implicitDefEqProofs only[go_sem,hw]))|(refine hK _ _ ?_;clear hK K)|(with_reducible refine And.intro ?_ ?_;· exact g_x)|fail))
         rw[←hH];exact ax rfl rfl
        ·rw[hb1] at hI1 hH;rw[hb2] at hI2 hH
         (repeat' (first|(refine g_s fun K hK=>?_)|(refine g_b ?_)|(refine g_k ?_;simp only[ah,ae])|(refine g_C (fun h=>?_) (fun h=>?_)<;>(try exact g_f))|((first|refine g_g ?_|refine g_U ?_|refine g_q (fun τ=>hI1 _) ?_|refine g_q (fun τ=>hI2 _) ?_);(try simp -implicitDefEqProofs only[go_sem,hw]))|(refine hK _ _ ?_;clear hK K)|(with_reducible refine And.intro ?_ ?_;· exact g_x)|fail))
         refine hL2 () τ9 _ _ (by simpa using hH) (ai ?_) (by simp)
         simp -implicitDefEqProofs only[go_sem]
      ·rintro k _ τ9 hk hH L2;have hH:(if (e.bag.any fun m=>decide (60<m.bytes.length))=true then 2 else 0)=X:=by simpa using hH
       simp -implicitDefEqProofs only[go_sem]
       (repeat' (first|(refine g_s fun K hK=>?_)|(refine g_e ?_;simp only[ah,ae,↓reduceIte,Nat.reduceEqDiff])|(refine g_C (fun h=>?_) (fun h=>?_)<;>(try exact g_f))|(refine g_g ?_;(try refine g_y ?_))|(refine hK _ _ ?_;clear hK K)|exact trivial|fail))
       refine hJ _ _ ?_;clear hJ
       (repeat' (first|(refine g_s fun K hK=>?_)|(refine g_b ?_)|(refine g_g ?_;(try refine g_y ?_))|(refine hK _ _ ?_;clear hK K)|exact trivial|fail))
       have hJ:=hK;clear hK;refine ay e.bag (fun _ r _=>(if (r.any fun m=>decide (60<m.bytes.length))=true then 2 else 0)=X) (fun k _ _=>[(11,ab k)]) (fun _ _ τ8=>σ++(.dead::.dead::(τ++(τ9++τ8)))) () [] hH (by simp) (ai ?_) ?_ ?_
       ·exact g_w
       ·rintro k r _ τ8 hk0 hk1 hH L3 hL3;obtain⟨w,hw⟩:∃w,at0 e.bag k=w:=⟨_,rfl⟩;have hwm:=aA e.bag hk0 hk1;rw[hw] at hH hwm;rw[List.any_cons] at hH;have hwl:=(ok.mail w hwm).len;simp -implicitDefEqProofs only[go_sem]
        by_cases c:60<w.bytes.length
        ·rw[decide_eq_true c] at hH
         (repeat' (first|(refine g_s fun K hK=>?_)|(refine g_b ?_)|(refine g_k ?_;simp only[ah,ae])|(refine g_C (fun h=>?_) (fun h=>?_)<;>(try exact g_f))|((first|refine g_t ?_|refine g_g ?_);(try simp -implicitDefEqProofs only[go_sem,hw,c]))|(refine hK _ _ ?_;clear hK K)|(with_reducible refine And.intro ?_ ?_;· exact g_x)|fail))
         rw[←hH];exact ax rfl rfl
        ·rw[decide_eq_false c] at hH
         (repeat' (first|(refine g_s fun K hK=>?_)|(refine g_b ?_)|(refine g_k ?_;simp only[ah,ae])|(refine g_C (fun h=>?_) (fun h=>?_)<;>(try exact g_f))|(refine g_g ?_;(try simp -implicitDefEqProofs only[go_sem,hw,c]))|(refine hK _ _ ?_;clear hK K)|(with_reducible refine And.intro ?_ ?_;· exact g_x)|fail))
         refine hL3 () τ8 _ _ (by simpa using hH) (ai ?_) (by simp)
         simp -implicitDefEqProofs only[go_sem]
       ·rintro k _ τ8 hk hH L3;simp -implicitDefEqProofs only[go_sem]
        (repeat' (first|(refine g_s fun K hK=>?_)|(refine g_e ?_;simp only[ah,ae,↓reduceIte,Nat.reduceEqDiff])|(refine g_C (fun h=>?_) (fun h=>?_)<;>(try exact g_f))|(refine g_g ?_;(try refine g_y ?_))|(refine hK _ _ ?_;clear hK K)|exact trivial|fail))
        refine hJ _ _ ?_;clear hJ
        (repeat' (first|(refine g_s fun K hK=>?_)|((first|refine g_t ?_|refine g_g ?_);(try refine g_y ?_))|(refine hK _ _ ?_;clear hK K)|exact trivial|fail))
        rw[←hH];exact ax rfl rfl
    ·(repeat' (first|(refine g_s fun K hK=>?_)|(refine g_C (fun h=>?_) (fun h=>?_)<;>(try exact g_f))|((first|refine g_t ?_|refine g_g ?_);(try refine g_y ?_))|(refine hK _ _ ?_;clear hK K)|exact trivial|fail))
     rw[←hH];exact ax rfl rfl
  ·rw[ew,if_neg (not_not_intro h0),if_pos (.inl h1)];refine g_n Tryz.func19 rfl Tryz.results19 Tryz.ntmps19 ?_;refine g_s fun K hK=>?_;refine g_h ?_;refine hK _ _ ?_;clear hK K;refine g_0 2 rfl ?_;refine g_0 3 rfl ?_
   (repeat' (first|(refine g_s fun K hK=>?_)|(refine g_k ?_;simp only[ah,ae])|(refine g_C (fun h=>?_) (fun h=>?_)<;>(try exact g_f))|((first|refine g_t ?_|refine g_g ?_|refine (hC _).use ?_);(try simp -implicitDefEqProofs only[go_sem,h1]))|(refine hK _ _ ?_;clear hK K)|fail))
   exact ax rfl rfl
 ·rw[ew,if_pos h0];refine g_n Tryz.func19 rfl Tryz.results19 Tryz.ntmps19 ?_;refine g_s fun K hK=>?_;refine g_h ?_;refine hK _ _ ?_;clear hK K;refine g_0 2 rfl ?_;refine g_0 3 rfl ?_
  (repeat' (first|(refine g_s fun K hK=>?_)|(refine g_C (fun h=>?_) (fun h=>?_)<;>(try exact g_f))|((first|refine g_t ?_|refine g_g ?_|refine (hC _).use ?_);(try simp -implicitDefEqProofs only[go_sem,h0]))|(refine hK _ _ ?_;clear hK K)|fail))
  exact ax rfl rfl
end Go.Proofs.YtephecognbbaoaaGreat
namespace Go.Proofs.YtephecognbbaoaaGreat
def cB (p:Rtr×Nat×Nat):List AV:=[.own p.2.1 1 0 p.1.routes.length p.1.routes.length,.own p.2.2 1 0 p.1.told.length p.1.told.length]
def cb (rb:Nat) (acc:List (Rtr×Nat×Nat)) (gi:List Nat):List Nat:=rb::(acc.map (·.2.1)++(acc.map (·.2.2)++gi))
def pd (S:aa) (gv:AV) (bag:List bg) (gi:List Nat):Prop:=∃gb,gi=[gb]∧gv = .own gb 3 0 bag.length bag.length∧S[gb]? = some (.cells 3 (bag.map aJ))
theorem pd.app {S τ:aa} {gv:AV} {bag:List bg} {gi:List Nat} (h:pd S gv bag gi):pd (S++τ) gv bag gi:=by
 obtain⟨gb,h1,h2,h3⟩:=h;exact⟨gb,h1,h2,az h3⟩
theorem pd.set {S:aa} {gv:AV} {bag:List bg} {gi:List Nat} {x:Nat} {o:Ob} (h:pd S gv bag gi) (hx:x∉gi):pd (S.set x o) gv bag gi:=by
 obtain⟨gb,h1,h2,h3⟩:=h;exact⟨gb,h1,h2,aT h3 (fun e=>hx (by rw[h1,e];simp))⟩
structure bP (S:aa) (lo:Nat) (e:Eng) (rb:Nat) (acc:List (Rtr×Nat×Nat)) (gv:AV) (gi:List Nat):Prop where
 hr:acc.map (·.1)=e.routers
 hrb:S[rb]? = some (.cells 2 (acc.map cB))
 ho:∀i (h:i<acc.length),S[acc[i].2.1]? = some (.cells 1 (acc[i].1.routes.map au))∧S[acc[i].2.2]? = some (.cells 1 (acc[i].1.told.map aE))
 bag:pd S gv e.bag gi
 nd:(cb rb acc gi).Nodup
 lo:∀x∈cb rb acc gi,lo≤x
section
variable {S:aa} {lo:Nat} {e:Eng} {rb:Nat} {acc:List (Rtr×Nat×Nat)} {gv:AV} {gi:List Nat}
theorem bP.len (h:bP S lo e rb acc gv gi):e.routers.length=acc.length:=by rw[←h.hr,List.length_map]
theorem bP.at (h:bP S lo e rb acc gv gi) {i:Int} (h0:0≤i) (h1:i<e.routers.length) :
  ∃ro to,acc[i.toNat]? = some (at0 e.routers i,ro,to)∧(acc.map cB)[i.toNat]? = some (cB (at0 e.routers i,ro,to))∧S[ro]? = some (.cells 1 ((at0 e.routers i).routes.map au))∧S[to]? = some (.cells 1 ((at0 e.routers i).told.map aE)):=by
 have hi:i.toNat<acc.length:=by rw[←h.len];omega
 have e1:at0 e.routers i=acc[i.toNat].1:=by
  rw[←h.hr];simp [at0,List.getD_eq_getElem?_getD,hi]
 have h2:=h.ho i.toNat hi;refine⟨acc[i.toNat].2.1,acc[i.toNat].2.2,?_,?_,?_,?_⟩
 ·rw[List.getElem?_eq_getElem hi,e1]
 ·rw[List.getElem?_map,List.getElem?_eq_getElem hi,e1];rfl
 ·rw[e1];exact h2.1
 ·rw[e1];exact h2.2
theorem bP.ne (h:bP S lo e rb acc gv gi):(∀k (hk:k<acc.length),rb≠acc[k].2.1∧rb≠acc[k].2.2∧acc[k].2.1∉gi∧acc[k].2.2∉gi)∧rb∉gi∧gi.Nodup∧(acc.map (·.2.1)).Nodup∧(acc.map (·.2.2)).Nodup∧∀k q (hk:k<acc.length) (hq:q<acc.length),acc[k].2.1≠acc[q].2.2:=by
 have:=h.nd;rw[cb,List.nodup_cons,List.nodup_append,List.nodup_append] at this;simp only[List.mem_append,not_or] at this;obtain⟨⟨h1,h2,h3⟩,h4,⟨h5,h6,h7⟩,h8⟩:=this;have m1:∀k (hk:k<acc.length),acc[k].2.1∈acc.map (·.2.1):=fun k hk=>List.mem_map.2 ⟨acc[k],List.getElem_mem hk,rfl⟩;have m2:∀k (hk:k<acc.length),acc[k].2.2∈acc.map (·.2.2):=fun k hk=>List.mem_map.2 ⟨acc[k],List.getElem_mem hk,rfl⟩;exact⟨fun k hk=>⟨fun e=>h1 (by rw[e];exact m1 k hk),fun e=>h2 (by rw[e];exact m2 k hk),fun hc=>h8 _ (m1 k hk) _ (.inr hc) rfl,fun hc=>h7 _ (m2 k hk) _ hc rfl⟩,h3,h6,h4,h5,fun k q hk hq=>h8 _ (m1 k hk) _ (.inl (m2 q hq))⟩
theorem bP.app {τ:aa} (h:bP S lo e rb acc gv gi):bP (S++τ) lo e rb acc gv gi:=
 ⟨h.hr,az h.hrb,fun i hi=>⟨az (h.ho i hi).1,az (h.ho i hi).2⟩,h.bag.app,h.nd,h.lo⟩
theorem bP.set (h:bP S lo e rb acc gv gi) {x:Nat} {o:Ob} (hx:x∉cb rb acc gi):bP (S.set x o) lo e rb acc gv gi:=by
 have hne:∀y∈cb rb acc gi,x≠y:=fun y hy e=>hx (e▸hy);refine⟨h.hr,aT h.hrb (hne _ (by simp [cb])),fun i hi=>⟨aT (h.ho i hi).1 (hne _ ?_),aT (h.ho i hi).2 (hne _ ?_)⟩,h.bag.set fun hc=>hne x (by simp [cb,hc]) rfl,h.nd,h.lo⟩
 ·exact List.mem_cons_of_mem _ (List.mem_append_left _ (List.mem_map.2 ⟨acc[i],List.getElem_mem hi,rfl⟩))
 ·exact List.mem_cons_of_mem _ (List.mem_append_right _ (List.mem_append_left _ (List.mem_map.2 ⟨acc[i],List.getElem_mem hi,rfl⟩)))
theorem bP.setLo (h:bP S lo e rb acc gv gi) {x:Nat} {o:Ob} (hx:x<lo):bP (S.set x o) lo e rb acc gv gi:=
 h.set fun hc=>by have:=h.lo x hc;omega
theorem bP.lt (h:bP S lo e rb acc gv gi):∀x∈cb rb acc gi,x<S.length:=fun x hx=>by
 simp only[cb,List.mem_cons,List.mem_append,List.mem_map] at hx
 rcases hx with rfl|⟨p,hp,rfl⟩|⟨p,hp,rfl⟩|hx
 ·exact (List.getElem?_eq_some_iff.1 h.hrb).1
 ·obtain⟨i,hi,rfl⟩:=List.mem_iff_getElem.1 hp;exact (List.getElem?_eq_some_iff.1 (h.ho i hi).1).1
 ·obtain⟨i,hi,rfl⟩:=List.mem_iff_getElem.1 hp;exact (List.getElem?_eq_some_iff.1 (h.ho i hi).2).1
 ·obtain⟨gb,h1,h2,h3⟩:=h.bag;rw[h1,List.mem_singleton] at hx;subst hx;exact (List.getElem?_eq_some_iff.1 h3).1
theorem bP.less {lo':Nat} (h:bP S lo e rb acc gv gi) (hl:lo'≤lo):bP S lo' e rb acc gv gi:=
 ⟨h.hr,h.hrb,h.ho,h.bag,h.nd,fun x hx=>Nat.le_trans hl (h.lo x hx)⟩
theorem D7 {bag:List bg} (h:pd S gv bag gi) {D:Nat→Prop} (hD:∀x∈gi,D x):bG S D gv (.sl (bag.map aJ)):=by
 obtain⟨gb,h1,h2,h3⟩:=h;rw[h2];exact .ownW (hD gb (by rw[h1];simp)) h3 (by simp) (.same _)
theorem bP.deepRows (h:bP S lo e rb acc gv gi) {D:Nat→Prop} (hD:∀x∈acc.map (·.2.1)++acc.map (·.2.2),D x):bW S D (acc.map cB) (e.routers.map bF):=by
 refine⟨by simp [h.len],fun i h1 h2=>?_⟩
 have hi:i<acc.length:=by simpa using h1
 have e1:(e.routers.map bF)[i]=bF acc[i].1:=by simp [←h.hr]
 rw[e1,List.getElem_map,cB,bF];refine .cons (.ownW (hD _ ?_) (h.ho i hi).1 (by simp) (.same _)) (.cons (.ownW (hD _ ?_) (h.ho i hi).2 (by simp) (.same _)) .nil)
 ·exact List.mem_append_left _ (List.mem_map.2 ⟨acc[i],List.getElem_mem hi,rfl⟩)
 ·exact List.mem_append_right _ (List.mem_map.2 ⟨acc[i],List.getElem_mem hi,rfl⟩)
theorem bP.deepI (h:bP S lo e rb acc gv gi) {D:Nat→Prop} (hD:∀x∈cb rb acc gi,D x):cG S D [.own rb 2 0 e.routers.length e.routers.length,gv] (ba e):=
 .cons (.ownW (hD rb (by simp [cb])) h.hrb (by rw[h.len,List.length_map]) (h.deepRows fun x hx=>hD x (by
  simp only[cb,List.mem_cons,List.mem_append] at hx ⊢
  rcases hx with h|h
  ·exact .inr (.inl h)
  ·exact .inr (.inr (.inl h))))) (.cons (D7 h.bag fun x hx=>hD x (by simp [cb,hx])) .nil)
theorem bP.deep (h:bP S lo e rb acc gv gi) {D:Nat→Prop} (hD:∀x,lo≤x→D x):cG S D [.own rb 2 0 e.routers.length e.routers.length,gv] (ba e):=
 h.deepI fun x hx=>hD x (h.lo x hx)
theorem ip {X Y:Type} (f:X→Y) (l:List X) (i:Nat) (p q:X) (hp:l[i]? = some p) (h:f q=f p):(l.set i q).map f=l.map f:=by
 obtain⟨hi,e1⟩:=List.getElem?_eq_some_iff.1 hp;rw[List.map_set,h,←e1,←List.getElem_map f (h:=by simpa using hi)]
 exact List.set_getElem_self _
theorem bP.routes (h:bP S lo e rb acc gv gi) {i:Int} {ro to:Nat} (h0:0≤i) (hp:acc[i.toNat]? = some (at0 e.routers i,ro,to)) (l:List Int) (hl:l.length=(at0 e.routers i).routes.length) :
  bP (S.set ro (.cells 1 (l.map au))) lo (aR e i ⟨l,(at0 e.routers i).told⟩) rb (acc.set i.toNat (⟨l,(at0 e.routers i).told⟩,ro,to)) gv gi:=by
 obtain⟨hi,hq⟩:=List.getElem?_eq_some_iff.1 hp;obtain⟨n1,n2,n3,n4,n5,n6⟩:=h.ne;have ea:acc[i.toNat].2.1=ro:=by rw[hq]
 have eO:cb rb (acc.set i.toNat (⟨l,(at0 e.routers i).told⟩,ro,to)) gi=cb rb acc gi:=by
  rw[cb,cb,ip (·.2.1) acc i.toNat _ (⟨l,(at0 e.routers i).told⟩,ro,to) hp rfl,ip (·.2.2) acc i.toNat _ (⟨l,(at0 e.routers i).told⟩,ro,to) hp rfl]
 have hm:=n1 i.toNat hi;rw[ea] at hm;refine⟨?_,?_,fun k hk=>?_,h.bag.set hm.2.2.1,by rw[eO];exact h.nd,by rw[eO];exact h.lo⟩
 ·rw[aR,List.map_set,h.hr]
 ·rw[ip cB acc _ _ _ hp (by simp [cB,hl])]
  exact aT h.hrb hm.1.symm
 ·have hk':k<acc.length:=by simpa using hk
  have hk2:=h.ho k hk'
  by_cases he:i.toNat=k
  ·subst he;simp only[List.getElem_set_self];rw[hq] at hk2;exact⟨bJ hk2.1,aT hk2.2 (by have:=n6 _ _ hi hi;rw[hq] at this;exact this)⟩
  ·simp only[List.getElem_set_ne he];refine⟨aT hk2.1 fun e1=>he ?_,aT hk2.2 fun e1=>n6 _ _ hi hk' (by rw[ea];exact e1)⟩
   exact om n4 _ _ (by simpa using hi) (by simpa using hk') (by simpa [ea] using e1)
theorem bP.told (h:bP S lo e rb acc gv gi) {i:Int} {ro to:Nat} (h0:0≤i) (hp:acc[i.toNat]? = some (at0 e.routers i,ro,to)) (l:List (List Int)) (hl:l.length=(at0 e.routers i).told.length) :
  bP (S.set to (.cells 1 (l.map aE))) lo (aR e i ⟨(at0 e.routers i).routes,l⟩) rb (acc.set i.toNat (⟨(at0 e.routers i).routes,l⟩,ro,to)) gv gi:=by
 obtain⟨hi,hq⟩:=List.getElem?_eq_some_iff.1 hp;obtain⟨n1,n2,n3,n4,n5,n6⟩:=h.ne;have ea:acc[i.toNat].2.2=to:=by rw[hq]
 have eO:cb rb (acc.set i.toNat (⟨(at0 e.routers i).routes,l⟩,ro,to)) gi=cb rb acc gi:=by
  rw[cb,cb,ip (·.2.1) acc i.toNat _ (⟨(at0 e.routers i).routes,l⟩,ro,to) hp rfl,ip (·.2.2) acc i.toNat _ (⟨(at0 e.routers i).routes,l⟩,ro,to) hp rfl]
 have hm:=n1 i.toNat hi;rw[ea] at hm;refine⟨?_,?_,fun k hk=>?_,h.bag.set hm.2.2.2,by rw[eO];exact h.nd,by rw[eO];exact h.lo⟩
 ·rw[aR,List.map_set,h.hr]
 ·rw[ip cB acc _ _ _ hp (by simp [cB,hl])]
  exact aT h.hrb hm.2.1.symm
 ·have hk':k<acc.length:=by simpa using hk
  have hk2:=h.ho k hk'
  by_cases he:i.toNat=k
  ·subst he;simp only[List.getElem_set_self];rw[hq] at hk2;exact⟨aT hk2.1 (by have:=n6 _ _ hi hi;rw[hq] at this;exact this.symm),bJ hk2.2⟩
  ·simp only[List.getElem_set_ne he];refine⟨aT hk2.1 fun e1=>n6 _ _ hk' hi (by rw[ea];exact e1.symm),aT hk2.2 fun e1=>he ?_⟩
   exact om n5 _ _ (by simpa using hi) (by simpa using hk') (by simpa [ea] using e1)
theorem bP.bagged (h:bP S lo e rb acc gv gi) {gv':AV} {gi':List Nat} {bag:List bg} {S':aa}
  (hs:∀x∈rb::(acc.map (·.2.1)++acc.map (·.2.2)),S'[x]? = S[x]?) (hbag:pd S' gv' bag gi') (hn:gi'.Nodup) (hg:∀x∈gi',S.length≤x) (hlo:lo≤S.length):bP S' lo ⟨e.routers,bag⟩ rb acc gv' gi':=by
 have hlt:∀x∈rb::(acc.map (·.2.1)++acc.map (·.2.2)),x<S.length:=fun x hx=>by
  simp only[List.mem_cons,List.mem_append,List.mem_map] at hx
  rcases hx with rfl|⟨p,hp,rfl⟩|⟨p,hp,rfl⟩
  ·exact (List.getElem?_eq_some_iff.1 h.hrb).1
  ·obtain⟨i,hi,rfl⟩:=List.mem_iff_getElem.1 hp;exact (List.getElem?_eq_some_iff.1 (h.ho i hi).1).1
  ·obtain⟨i,hi,rfl⟩:=List.mem_iff_getElem.1 hp;exact (List.getElem?_eq_some_iff.1 (h.ho i hi).2).1
 have h1:=h.nd;rw[cb,←List.append_assoc,←List.cons_append,List.nodup_append] at h1;refine⟨h.hr,?_,fun k hk=>⟨?_,?_⟩,hbag,?_,?_⟩
 ·rw[hs rb (by simp)]
  exact h.hrb
 ·rw[hs _ (List.mem_cons_of_mem _ (List.mem_append_left _ (List.mem_map.2 ⟨acc[k],List.getElem_mem hk,rfl⟩)))];exact (h.ho k hk).1
 ·rw[hs _ (List.mem_cons_of_mem _ (List.mem_append_right _ (List.mem_map.2 ⟨acc[k],List.getElem_mem hk,rfl⟩)))];exact (h.ho k hk).2
 ·rw[cb,←List.append_assoc,←List.cons_append,List.nodup_append];exact⟨h1.1,hn,fun x hx y hy e=>by have:=hlt x hx;have:=hg y hy;omega⟩
 ·intro x hx;rw[cb,←List.append_assoc,←List.cons_append,List.mem_append] at hx
  rcases hx with hx|hx
  ·exact h.lo x (by rw[cb,←List.append_assoc,←List.cons_append];exact List.mem_append_left _ hx)
  ·have:=hg x hx;omega
theorem bP.rebag {gb:Nat} (h:bP S lo e rb acc gv [gb]) {y:Nat} (hy:y<lo) {o o':Ob} {X:aa} {bag:List bg} {g:Nat} (hX:(((S.set gb o).set y o')++X)[g]? = some (.cells 3 (bag.map aJ))) (hg:S.length≤g) (hlo:lo≤S.length) :
  bP (((S.set gb o).set y o')++X) lo ⟨e.routers,bag⟩ rb acc (.own g 3 0 bag.length bag.length) [g]:=by
 obtain⟨n1,n2,n3,n4,n5,n6⟩:=h.ne;refine h.bagged (fun x hx=>?_) ⟨g,rfl,rfl,hX⟩ (by simp) (fun x hx=>by rw[List.mem_singleton.1 hx];exact hg) hlo
 have hlt:x<S.length:=by
  simp only[List.mem_cons,List.mem_append,List.mem_map] at hx
  rcases hx with rfl|⟨p,hp,rfl⟩|⟨p,hp,rfl⟩
  ·exact (List.getElem?_eq_some_iff.1 h.hrb).1
  ·obtain⟨i,hi,rfl⟩:=List.mem_iff_getElem.1 hp;exact (List.getElem?_eq_some_iff.1 (h.ho i hi).1).1
  ·obtain⟨i,hi,rfl⟩:=List.mem_iff_getElem.1 hp;exact (List.getElem?_eq_some_iff.1 (h.ho i hi).2).1
 have hxl:lo≤x:=h.lo x (by
  simp only[cb,List.mem_cons,List.mem_append] at hx ⊢
  rcases hx with h|h|h
  ·exact .inl h
  ·exact .inr (.inl h)
  ·exact .inr (.inr (.inl h)))
 have hxg:gb≠x:=by
  rintro rfl;simp only[List.mem_cons,List.mem_append,List.mem_map] at hx
  rcases hx with e|⟨p,hp,e⟩|⟨p,hp,e⟩
  ·exact n2 (by rw[←e];simp)
  ·obtain⟨i,hi,rfl⟩:=List.mem_iff_getElem.1 hp;exact (n1 i hi).2.2.1 (by rw[e];simp)
  ·obtain⟨i,hi,rfl⟩:=List.mem_iff_getElem.1 hp;exact (n1 i hi).2.2.2 (by rw[e];simp)
 rw[List.getElem?_append_left (by simpa using hlt),List.getElem?_set_ne (by omega),List.getElem?_set_ne hxg]
theorem bP.bagIn {gb:Nat} (h:bP S lo e rb acc gv [gb]) (bag:List bg) (ho:(S[gb]?).isSome=true):bP (S.set gb (.cells 3 (bag.map aJ))) lo ⟨e.routers,bag⟩ rb acc (.own gb 3 0 bag.length bag.length) [gb]:=by
 obtain⟨n1,n2,n3,n4,n5,n6⟩:=h.ne;obtain⟨o,ho⟩:=Option.isSome_iff_exists.1 ho;refine⟨h.hr,aT h.hrb (fun e=>n2 (by rw[e];simp)),fun i hi=>⟨aT (h.ho i hi).1 (fun e=>(n1 i hi).2.2.1 (by rw[e];simp)),aT (h.ho i hi).2 (fun e=>(n1 i hi).2.2.2 (by rw[e];simp))⟩,⟨gb,rfl,rfl,bJ ho⟩,h.nd,h.lo⟩
end
end Go.Proofs.YtephecognbbaoaaGreat
