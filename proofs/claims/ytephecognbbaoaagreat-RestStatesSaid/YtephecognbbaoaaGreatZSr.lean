/- Nets: links. -/
import Derived.Test.YtephecognbbaoaaGreatZAj
import Derived.DeepKeys5
import Derived.Test.YtephecognbbaoaaGreatZSy
import Derived.Test.YtephecognbbaoaaGreatZAb
open Go
set_option linter.all false
set_option maxRecDepth 100000
set_option maxHeartbeats 4000000
namespace Go.Proofs.YtephecognbbaoaaGreat
open Go
set_option linter.all false
set_option maxRecDepth 100000
set_option maxHeartbeats 4000000
def df (l:Lnk):List AV:=[ab l.fr,ab l.dst,ab l.edge]
def nF (l:List Lnk):AV:=.sl (l.map df)
def aH (n:Net):List AV:=[ab n.alg.size,aL n.alg.best,aL n.alg.edges,ab n.nodes,nF n.links]
attribute [go_sem] df nF aH
structure dM (n:Net):Prop where
 alg:Eu n.alg
 nodes:I64 n.nodes
 len:n.links.length≤5864062014634
 lnk:∀l∈n.links,I64 l.fr∧I64 l.dst∧I64 l.edge
theorem BF (n:Int):(Lit.int IntKind.i64 n).wf=true↔I64 n:=by simp [Lit.wf,IntKind.min,IntKind.max,IntKind.bits,IntKind.signed,I64]
theorem yn (d:Nat) (a b:Int) (ha:I64 a) (hb:I64 b):Tryz.prog.keyLits (d+2) 147 [.int .i64 a,.int .i64 b]=some [.int .i64 a,.int .i64 b]:=by
 have hc:Tryz.prog.cellsOf 147=2:=by kernel_rfl
 have hi:Tryz.prog.cellsOf 3=1:=by kernel_rfl
 simp [Program.keyLits,Tryz.underlying147,Tryz.underlying3,hc,hi,List.range_succ,(BF a).2 ha,(BF b).2 hb]
theorem v8 {a b:Int} (ha:I64 a) (hb:I64 b):rQ Tryz.prog 147 (.agg #[.int .i64 a,.int .i64 b])=True:=by
 refine eq_true ?_;have hk:Tryz.prog.keyType 147=true:=by kernel_rfl
 have hc:Tryz.prog.cellsOf 147=2:=by kernel_rfl
 have hf:(Value.agg #[.int .i64 a,.int .i64 b]).formed Tryz.prog 147=true:=by simp [Value.formed,Tryz.underlying147,hc]
 have hd:Tryz.prog.types.size+1=(Tryz.prog.types.size-1)+2:=by kernel_rfl
 have hl:=yn (Tryz.prog.types.size-1) a b ha hb;rw[←hd] at hl;refine⟨.string (keyBytes [.int .i64 a,.int .i64 b]),?_⟩;simp only[keyOf,Tryz.underlying147,hk,hf,Bool.and_self,if_true];rw[show (Value.agg #[.int .i64 a,.int .i64 b]).cells.toList=[.int .i64 a,.int .i64 b] from rfl,hl];rfl
theorem DS:laidOutB Tryz.prog=true:=by kernel_rfl
theorem A9:Go.Maps.Keyed Tryz.prog 147=True:=
 eq_true (Go.Maps.Keyed.of_law (deep_law_gate DS (by decide +kernel) (by decide +kernel) (by kernel_rfl) (by kernel_rfl)))
theorem xn:oV Tryz.prog 146=some (147,4):=by kernel_rfl
theorem tV:dy Tryz.prog 147=some [(0,1),(1,1)]:=by kernel_rfl
attribute [go_sem] A9 xn tV
theorem tZ:tJ Tryz.prog 38 0=some 0:=by kernel_rfl
theorem wy:uI Tryz.prog 38=some [(0,false),(1,false),(2,false),(3,false),(4,false)]:=by kernel_rfl
attribute [go_sem] tZ wy
theorem rO (x:Alg) (hr:cS x) (σ:aa):af Tryz.prog 74 [.agg (aS x)] σ fun r σ'=>σ'=σ∧r = .c (.bool (decide ((cR x dX).law=0))):=by
 refine af.cutX ?_;refine g_n Tryz.func74 rfl Tryz.results74 Tryz.ntmps74 ?_
 (repeat' (first|(refine g_s fun K hK=>?_)|((first|refine g_t ?_|refine g_G ?_|refine (yP x dX hr (by decide) (by decide) _).use ?_);(try refine g_y ?_))|(refine hK _ _ ?_;clear hK K)|exact trivial|fail))
 refine ax rfl ?_
 by_cases h:(cR x dX).law=0
 ·rw[z6 h];rfl
 ·simp [h]
theorem f8 (x:Alg) (hr:cS x) (σ:aa):af Tryz.prog 103 [.agg (aS x)] σ fun r σ'=>σ'=σ∧r = .c (.bool (decide ((cR x dX).law=0))):=by
 refine af.cutX ?_;refine g_n Tryz.func103 rfl Tryz.results103 Tryz.ntmps103 ?_
 (repeat' (first|(refine g_s fun K hK=>?_)|((first|refine g_t ?_|refine g_g ?_|refine g_U ?_|refine g_q (fun τ=>vA x dX hr (by decide) (by decide) _) ?_|refine g_q (fun τ=>wV _) ?_);(try refine g_y ?_))|(refine hK _ _ ?_;clear hK K)|exact trivial|fail))
 refine ax rfl ?_;rfl
theorem gO (n a b:Int) (σ:aa):af Tryz.prog 46 [ab n,ab a,ab b] σ fun r σ'=>σ'=σ∧r = .c (.bool (inR n a b)):=by
 refine g_n Tryz.func46 rfl Tryz.results46 Tryz.ntmps46 ?_
 (repeat' (first|(refine g_s fun K hK=>?_)|((first|refine g_t ?_|refine g_g ?_);(try refine g_y ?_))|(refine hK _ _ ?_;clear hK K)|(with_reducible refine ak (fun h=>?_) (fun h=>?_)<;>(try simp only[go_sem] at h)<;>(try exact g_f)<;>(try refine g_y ?_))|exact trivial|fail))
 all_goals (simp [inR];omega)
theorem jH (n:Net) (i:Int) (hn:I64 (n.nodes-1)) (σ:aa):af Tryz.prog 54 [.agg (aH n),ab i] σ fun r σ'=>σ'=σ∧r = .c (.bool (inR i 0 (n.nodes-1))):=by
 refine af.cutX ?_;refine g_n Tryz.func54 rfl Tryz.results54 Tryz.ntmps54 ?_
 (repeat' (first|(refine g_s fun K hK=>?_)|((first|refine g_t ?_|refine g_g ?_|refine (bS _ _ _ _).use ?_);(try refine g_y ?_))|(refine hK _ _ ?_;clear hK K)|(with_reducible refine And.intro ?_ ?_;· exact g_x)|exact trivial|fail))
 exact ax rfl rfl
end Go.Proofs.YtephecognbbaoaaGreat
namespace Go.Proofs.YtephecognbbaoaaGreat
open Go
set_option linter.all false
set_option maxRecDepth 100000
set_option maxHeartbeats 4000000
def mu (l:Lnk):Value:=.agg #[.int .i64 l.fr,.int .i64 l.dst]
def jE (pre:List Lnk):List (Value×AV):=pre.map fun l=>(mu l,.c (.bool true))
theorem rP (l x:Lnk):mu x=mu l↔l.like x=true:=by simp [mu,Lnk.like]
theorem yi (l:Lnk):∀pre:List Lnk,(fC (jE pre) (mu l)).getD (.c (.bool false)) = .c (.bool (pre.any l.like))
 | []=>rfl
 | x::r=>by
  have ih:=yi l r;simp only[jE,List.map_cons,fC,List.any_cons] at ih ⊢
  by_cases h:mu x=mu l
  ·rw[if_pos h,(rP l x).1 h];rfl
  ·rw[if_neg h,Bool.eq_false_iff.2 (fun e=>h ((rP l x).2 e)),ih];rfl
theorem Af {l:Lnk} {pre:List Lnk} (h:pre.any l.like=false):∀e∈jE pre,e.1≠mu l:=by
 intro e he;obtain⟨x,hx,rfl⟩:=List.mem_map.1 he;intro hc;have:=List.any_eq_false.1 h x hx;exact this ((rP l x).1 hc)
theorem EO {l:Lnk} {pre:List Lnk} (h:pre.any l.like=false):p6 (jE pre) (mu l) (.c (.bool true))=jE (pre++[l]):=by
 rw[oj (Af h)];simp [jE]
theorem vI {e:Value×AV} : ∀ {es:List (Value×AV)},DK es→(∀f∈es,f.1≠e.1)→DK (es++[e])
 | [],_,_=>⟨trivial,trivial⟩
 | f::r,h,hn=>by
  refine⟨so.2 fun g hg=>?_,vI h.2 fun g hg=>hn g (by simp [hg])⟩
  rcases List.mem_append.1 hg with hg|hg
  ·exact so.1 h.1 g hg
  ·rw[List.mem_singleton.1 hg];exact (hn f (by simp)).symm
theorem Fe {l:Lnk} {pre:List Lnk} (h:pre.any l.like=false) (hd:DK (jE pre)):DK (jE (pre++[l])):=by
 have:jE (pre++[l])=jE pre++[(mu l,.c (.bool true))]:=by simp [jE]
 rw[this];exact vI hd (Af h)
theorem Fd {pre:List Lnk} (h:∀l∈pre,I64 l.fr∧I64 l.dst):KK Tryz.prog 147 (jE pre)=True:=
 eq_true (sp.2 fun e he=>by
  obtain⟨x,hx,rfl⟩:=List.mem_map.1 he;exact of_eq_true (v8 (h x hx).1 (h x hx).2))
theorem zH (n:Net) (ok:dM n) (h1:1≤n.nodes) (h6:n.nodes≤6) (h8:n.alg.edges.length≤8) (σ:aa) :
    af Tryz.prog 75 [.agg (aH n)] σ fun r σ'=>σ'=σ∧r=ab (cz n [] n.links):=by
  have hlen:=ok.len
  refine af.cutX ?_
  refine g_n Tryz.func75 rfl Tryz.results75 Tryz.ntmps75 ?_
  refine g_s fun K hK=>?_
  refine g_h ?_
  refine hK _ _ ?_;clear hK K
  refine g_0 1 rfl ?_
  (repeat' (first|(refine g_s fun K hK=>?_)|(refine g_b ?_)|(refine g_g ?_;(try refine g_y ?_))|(refine hK _ _ ?_;clear hK K)|exact trivial|fail))
  have hJ:=hK
  clear hK
  refine ay n.links (fun k r pre=>n.links=pre++r∧cz n [] n.links=cz n pre r∧DK (jE pre)) (fun k _ _=>[(11,ab k)]) (fun _ pre τ=>σ++(.dead::.map (jE pre)::τ)) [] [] ⟨rfl,rfl,trivial⟩ rfl (ai ?_) ?_ ?_
  · exact g_w
  · rintro k r pre τ hk0 hk1 ⟨hP,hE,hD⟩ L hL
    have hmem:=aA n.links hk0 hk1
    obtain⟨l,hl⟩:∃l,at0 n.links k=l:=⟨_,rfl⟩
    rw[hl] at hP hE hmem
    have hi:=ok.lnk l hmem
    have hkk:=v8 hi.1 hi.2.1
    have hKK:=Fd (pre:=pre) fun x hx=>let h:=ok.lnk x (by rw[hP];simp [hx]);⟨h.1,h.2.1⟩
    have hDK:=eq_true hD
    have hfind:=yi l pre
    unfold mu at hfind
    simp -implicitDefEqProofs only[go_sem]
    (repeat' (first|(refine g_s fun K hK=>?_)|(refine g_b ?_)|(refine g_k ?_;simp only[ah,ae])|(refine g_C (fun h=>?_) (fun h=>?_)<;>(try exact g_f))|((first|refine g_t ?_|refine g_g ?_|refine (gO _ _ _ _).use ?_);(try simp -implicitDefEqProofs only[go_sem,hl,hkk,hKK,hDK,hfind]))|(refine hK _ _ ?_;clear hK K)|(with_reducible refine ak (fun h=>?_) (fun h=>?_)<;>(try simp only[go_sem] at h)<;>(try exact g_f)<;>(try simp -implicitDefEqProofs only[go_sem,hl,hkk,hKK,hDK,hfind]))|(with_reducible refine And.intro ?_ ?_;· exact g_x)|fail))
    all_goals first
      | (have e:cF n pre l=5:=by clear hL hJ hfind hkk hKK hDK;simp [cF, *]
         refine ax rfl ?_
         rw[hE,fc (by rw[e];decide),e]
         done)
      | (have e:cF n pre l=1:=by clear hL hJ hfind hkk hKK hDK;simp [cF, *]
         refine ax rfl ?_
         rw[hE,fc (by rw[e];decide),e]
         done)
      | (have e:cF n pre l=6:=by clear hL hJ hfind hkk hKK hDK;simp [cF, *]
         refine ax rfl ?_
         rw[hE,fc (by rw[e];decide),e]
         done)
      | skip
    all_goals
      have e:cF n pre l=0:=by clear hL hJ hfind hkk hKK hDK;simp [cF, *]
      have hn:=(qn e).2
      have hput:=EO hn
      unfold mu at hput
      rw[hput]
      refine hL (pre++[l]) _ _ _ ⟨by rw[hP];simp,by rw[hE,qU e],Fe hn hD⟩ (ai ?_) rfl
      simp -implicitDefEqProofs only[go_sem]
  · rintro k pre τ hk ⟨hP,hE,hD⟩ L
    simp -implicitDefEqProofs only[go_sem]
    (repeat' (first|(refine g_s fun K hK=>?_)|(refine g_e ?_;simp only[ah,ae,↓reduceIte,Nat.reduceEqDiff])|(refine g_C (fun h=>?_) (fun h=>?_)<;>(try exact g_f))|(refine g_g ?_;(try refine g_y ?_))|(refine hK _ _ ?_;clear hK K)|exact trivial|fail))
    refine hJ _ _ ?_
    clear hJ
    (repeat' (first|(refine g_s fun K hK=>?_)|((first|refine g_t ?_|refine g_g ?_);(try refine g_y ?_))|(refine hK _ _ ?_;clear hK K)|exact trivial|fail))
    refine ax rfl ?_
    rw[hE]
    rfl
end Go.Proofs.YtephecognbbaoaaGreat
namespace Go.Proofs.YtephecognbbaoaaGreat
theorem eZ (n:Net) (ok:dM n) (σ:aa):af Tryz.prog 34 [.agg (aH n)] σ fun r σ'=>σ'=σ∧r=ab (aI n):=by
 have hC:=zV n.alg ok.alg.hb ok.alg.he ok.alg.hs ok.alg.hrow;refine af.cutX ?_
 by_cases h1:dE n.alg=0
 ·have hr:=lL.1 h1;rw[h1] at hC
  by_cases h2:inR n.nodes 1 6=true
  ·have h3:=aG.1 h2;refine g_n Tryz.func34 rfl Tryz.results34 Tryz.ntmps34 ?_
   (repeat' (first|(refine g_s fun K hK=>?_)|(refine g_b ?_)|(refine g_k ?_;simp only[ah,ae])|(refine g_C (fun h=>?_) (fun h=>?_)<;>(try exact g_f))|((first|refine g_t ?_|refine g_g ?_|refine (hC _).use ?_|refine (rO n.alg hr _).use ?_|refine (gO _ _ _ _).use ?_|refine (zH n ok h3.1 h3.2 hr.e8 _).use ?_);(try refine g_y ?_))|(refine hK _ _ ?_;clear hK K)|exact trivial|fail))
   all_goals first
    | (rw[h2] at h;cases h;done)
    | (refine ax rfl ?_;simp [aI,h1,h2, *];done)
  ·refine g_n Tryz.func34 rfl Tryz.results34 Tryz.ntmps34 ?_
   (repeat' (first|(refine g_s fun K hK=>?_)|(refine g_b ?_)|(refine g_C (fun h=>?_) (fun h=>?_)<;>(try exact g_f))|((first|refine g_t ?_|refine g_g ?_|refine (hC _).use ?_|refine (rO n.alg hr _).use ?_|refine (gO _ _ _ _).use ?_);(try refine g_y ?_))|(refine hK _ _ ?_;clear hK K)|exact trivial|fail))
   all_goals first
    | (refine ax rfl ?_;simp [aI,h1,h2, *];done)
    | (exact absurd (aG.2 (by assumption)) h2)
 ·refine g_n Tryz.func34 rfl Tryz.results34 Tryz.ntmps34 ?_
  (repeat' (first|(refine g_s fun K hK=>?_)|(refine g_b ?_)|(refine g_C (fun h=>?_) (fun h=>?_)<;>(try exact g_f))|((first|refine g_t ?_|refine g_g ?_|refine (hC _).use ?_);(try refine g_y ?_))|(refine hK _ _ ?_;clear hK K)|exact trivial|fail))
  all_goals (refine ax rfl ?_;simp [aI,h1])
theorem Fg {n lo hi:Int} : inR n lo hi=false↔n<lo∨hi<n:=by rw[←Bool.not_eq_true'];exact ci
theorem at0_app {X:Type} [Inhabited X] (a b:List X) {k:Int} (h0:0≤k) (h:k<a.length):at0 (a++b) k=at0 a k:=by
 have:k.toNat<a.length:=by omega
 simp [at0,List.getD_eq_getElem?_getD,List.getElem?_append_left this]
theorem pI (n:Net) (ok:dM n) (σ:aa):af Tryz.prog 51 [.agg (aH n)] σ fun r σ'=>σ'=σ∧r=ab (aI n):=by
  have hC:=sd n.alg ok.alg.hb ok.alg.he ok.alg.hs ok.alg.hrow
  have hlen:=ok.len
  refine af.cutX ?_
  by_cases h1:dE n.alg=0
  · have hr:=lL.1 h1
    have h8:=hr.e8
    rw[h1] at hC
    by_cases h2:inR n.nodes 1 6=true
    · have h3:=aG.1 h2
      have hI:I64 (n.nodes-1):=by unfold I64;omega
      by_cases h4:(cR n.alg dX).law=0
      · have hN:aI n=cz n [] n.links:=by simp [aI,h1,h2,h4]
        rw[hN]
        refine g_n Tryz.func51 rfl Tryz.results51 Tryz.ntmps51 ?_
        refine g_s fun K hK=>?_
        refine g_h ?_
        refine hK _ _ ?_;clear hK K
        refine g_0 1 rfl ?_
        (repeat' (first|(refine g_s fun K hK=>?_)|(refine g_b ?_)|(refine g_k ?_;simp only[ah,ae])|(refine g_C (fun h=>?_) (fun h=>?_)<;>(try exact g_f))|((first|refine g_g ?_|refine (hC _).use ?_|refine (f8 n.alg hr _).use ?_|refine (bS _ _ _ _).use ?_);(try simp -implicitDefEqProofs only[go_sem,h4,decide_true]))|(refine hK _ _ ?_;clear hK K)|fail))
        have hJ:=hK
        clear hK
        refine ay n.links (fun k r pre=>n.links=pre++r∧(pre.length:Int)=k∧cz n [] n.links=cz n pre r) (fun k _ _=>[(4,ab k)]) (fun _ _ τ=>σ++(.dead::τ)) [] [] ⟨rfl,rfl,rfl⟩ rfl (ai ?_) ?_ ?_
        · exact g_w
        · rintro k r pre τ hk0 hk1 ⟨hP,hpl,hE⟩ L hL
          have hmem:=aA n.links hk0 hk1
          obtain⟨l,hl⟩:∃l,at0 n.links k=l:=⟨_,rfl⟩
          rw[hl] at hP hE hmem
          have hi:=ok.lnk l hmem
          simp -implicitDefEqProofs only[go_sem]
          (repeat' (first|(refine g_s fun K hK=>?_)|(refine g_b ?_)|(refine g_k ?_;simp only[ah,ae])|(refine g_C (fun h=>?_) (fun h=>?_)<;>(try exact g_f))|((first|refine g_t ?_|refine g_g ?_|refine (jH n _ hI _).use ?_|refine (bS _ _ _ _).use ?_);(try simp -implicitDefEqProofs only[go_sem,hl]))|(refine hK _ _ ?_;clear hK K)|(with_reducible refine ak (fun h=>?_) (fun h=>?_)<;>(try simp only[go_sem] at h)<;>(try exact g_f)<;>(try simp -implicitDefEqProofs only[go_sem,hl]))|(with_reducible refine And.intro ?_ ?_;· exact g_x)|fail))
          all_goals try
            (have e:cF n pre l=5:=by
               clear hL hJ
               first
               | (simp [cF, *];done)
               | (have hb:inR l.edge 0 (n.alg.edges.length-1)=false:=Fg.2 (by assumption)
                  simp [cF, *])
             refine ax rfl ?_
             rw[hE,fc (by rw[e];decide),e]
             done)
          all_goals try
            (have e:cF n pre l=1:=by
               clear hL hJ
               have hb:inR l.edge 0 (n.alg.edges.length-1)=true:=aG.2 (by assumption)
               simp [cF, *]
             refine ax rfl ?_
             rw[hE,fc (by rw[e];decide),e]
             done)
          have hpn:pre.length<n.links.length:=by rw[hP];simp
          have hJ2:=hK
          clear hK
          refine ay pre (fun j rr _=>pre.any l.like=rr.any l.like) (fun j _ _=>[(6,ab j)]) (fun _ _ τ'=>σ++(.dead::(τ++.cells 3 [df l]::τ'))) () [] rfl rfl (ai ?_) ?_ ?_
          · exact g_w
          · rintro j rr _ τ' hj0 hj1 hA L2 hL2
            obtain⟨x,hx⟩:∃x,at0 pre j=x:=⟨_,rfl⟩
            have hxn:at0 n.links j=x:=by rw[hP,at0_app _ _ hj0 hj1,hx]
            rw[hx,List.any_cons] at hA
            simp -implicitDefEqProofs only[go_sem]
            (repeat' (first|(refine g_s fun K hK=>?_)|(refine g_b ?_)|(refine g_k ?_;simp only[ah,ae])|(refine g_C (fun h=>?_) (fun h=>?_)<;>(try exact g_f))|((first|refine g_t ?_|refine g_g ?_|refine g_U ?_);(try simp -implicitDefEqProofs only[go_sem,hxn]))|(refine hK _ _ ?_;clear hK K)|(with_reducible refine ak (fun h=>?_) (fun h=>?_)<;>(try simp only[go_sem] at h)<;>(try exact g_f)<;>(try simp -implicitDefEqProofs only[go_sem,hxn]))|(with_reducible refine And.intro ?_ ?_;· exact g_x)|fail))
            all_goals try
              (have hk:l.like x=true:=by simp [Lnk.like, *]
               have e:cF n pre l=6:=by
                 rw[hk,Bool.true_or] at hA
                 clear hL hL2 hJ hJ2
                 have hb:inR l.edge 0 (n.alg.edges.length-1)=true:=aG.2 (by assumption)
                 simp [cF, *]
               refine ax rfl ?_
               rw[hE,fc (by rw[e];decide),e]
               done)
            all_goals
              have hk:l.like x=false:=by simp [Lnk.like, *]
              refine hL2 () τ' _ _ (by rw[hA,hk,Bool.false_or]) (ai ?_) rfl
              simp -implicitDefEqProofs only[go_sem]
          · rintro j _ τ' hj hA L2
            have e:cF n pre l=0:=by
              clear hL hJ hJ2
              have hb:inR l.edge 0 (n.alg.edges.length-1)=true:=aG.2 (by assumption)
              simp [cF, *]
            simp -implicitDefEqProofs only[go_sem]
            (repeat' (first|(refine g_s fun K hK=>?_)|(refine g_e ?_;simp only[ah,ae,↓reduceIte,Nat.reduceEqDiff])|(refine g_C (fun h=>?_) (fun h=>?_)<;>(try exact g_f))|(refine g_g ?_;(try refine g_y ?_))|(refine hK _ _ ?_;clear hK K)|exact trivial|fail))
            refine hJ2 _ _ ?_
            clear hJ2
            (repeat' (first|(refine g_g ?_;(try refine g_y ?_))|(with_reducible refine And.intro ?_ ?_;· exact g_x)|exact trivial|fail))
            refine hL (pre++[l]) (τ++.cells 3 [df l]::τ') _ _ ⟨by rw[hP];simp,by simp;omega,by rw[hE,qU e]⟩ (ai ?_) (by simp [df,ab])
            simp -implicitDefEqProofs only[go_sem]
        · rintro k pre τ hk ⟨hP,hpl,hE⟩ L
          simp -implicitDefEqProofs only[go_sem]
          (repeat' (first|(refine g_s fun K hK=>?_)|(refine g_e ?_;simp only[ah,ae,↓reduceIte,Nat.reduceEqDiff])|(refine g_C (fun h=>?_) (fun h=>?_)<;>(try exact g_f))|(refine g_g ?_;(try refine g_y ?_))|(refine hK _ _ ?_;clear hK K)|exact trivial|fail))
          refine hJ _ _ ?_
          clear hJ
          (repeat' (first|(refine g_s fun K hK=>?_)|((first|refine g_t ?_|refine g_g ?_);(try refine g_y ?_))|(refine hK _ _ ?_;clear hK K)|exact trivial|fail))
          refine ax rfl ?_
          rw[hE]
          rfl
      · refine g_n Tryz.func51 rfl Tryz.results51 Tryz.ntmps51 ?_
        (repeat' (first|(refine g_s fun K hK=>?_)|(refine g_k ?_;simp only[ah,ae])|(refine g_C (fun h=>?_) (fun h=>?_)<;>(try exact g_f))|((first|refine g_t ?_|refine g_g ?_|refine (hC _).use ?_|refine (f8 n.alg hr _).use ?_);(try simp -implicitDefEqProofs only[go_sem,h4,decide_false]))|(refine hK _ _ ?_;clear hK K)|fail))
        all_goals (refine ax rfl ?_;simp [aI,h1,h2,h4])
    · by_cases h4:(cR n.alg dX).law=0
      · refine g_n Tryz.func51 rfl Tryz.results51 Tryz.ntmps51 ?_
        (repeat' (first|(refine g_s fun K hK=>?_)|(refine g_k ?_;simp only[ah,ae])|(refine dg rfl (fun h=>?_) (fun h=>?_);focus (first|contradiction|(simp only[go_sem] at h;done)|((try simp only[go_sem] at h);exact g_f));(try simp only[go_sem] at h))|((first|refine g_g ?_|refine (hC _).use ?_|refine (f8 n.alg hr _).use ?_|refine (bS _ _ _ _).use ?_);(try simp -implicitDefEqProofs only[go_sem,h4,decide_true]))|(refine hK _ _ ?_;clear hK K)|fail))
        refine dg rfl (fun h=>?_) (fun h=>?_)
        · (repeat' (first|(refine g_s fun K hK=>?_)|((first|refine g_t ?_|refine g_g ?_);(try refine g_y ?_))|(refine hK _ _ ?_;clear hK K)|exact trivial|fail))
          refine ax rfl ?_
          simp [aI,h1,h2,h4]
        · exact absurd (by simpa [inR] using h) h2
      · refine g_n Tryz.func51 rfl Tryz.results51 Tryz.ntmps51 ?_
        (repeat' (first|(refine g_s fun K hK=>?_)|(refine g_k ?_;simp only[ah,ae])|(refine g_C (fun h=>?_) (fun h=>?_)<;>(try exact g_f))|((first|refine g_t ?_|refine g_g ?_|refine (hC _).use ?_|refine (f8 n.alg hr _).use ?_);(try simp -implicitDefEqProofs only[go_sem,h4,decide_false]))|(refine hK _ _ ?_;clear hK K)|fail))
        all_goals (refine ax rfl ?_;simp [aI,h1,h4])
  · refine g_n Tryz.func51 rfl Tryz.results51 Tryz.ntmps51 ?_
    (repeat' (first|(refine g_s fun K hK=>?_)|(refine g_C (fun h=>?_) (fun h=>?_)<;>(try exact g_f))|((first|refine g_t ?_|refine g_g ?_|refine (hC _).use ?_);(try refine g_y ?_))|(refine hK _ _ ?_;clear hK K)|exact trivial|fail))
    all_goals (refine ax rfl ?_;simp [aI,h1])
end Go.Proofs.YtephecognbbaoaaGreat
namespace Go.Proofs.YtephecognbbaoaaGreat
structure dN (x:List (List Int)):Prop where
 len:x.length≤5864062014634
 row:∀r∈x,r.length≤17592186044000
theorem af.argW {P:Program} {f:FuncId} {args args':List AV} {σ:aa} {R:AV→aa→Prop} (h:af P f args' σ R) (hw:WkL args args'):af P f args σ R:=fun K imm m w vs hs hv=>h K imm m w vs hs (hw _ _ _ hv)
theorem cZ (a b:List (List Int)) (ha:dN a) (σ:aa):af Tryz.prog 14 [aL a,aL b] σ fun r σ'=>σ'=σ∧r = .c (.bool (decide (a=b))):=by
 have hlen:=ha.len;refine g_n Tryz.func14 rfl Tryz.results14 Tryz.ntmps14 ?_
 (repeat' (first|(refine g_s fun K hK=>?_)|(refine g_b ?_)|(refine g_k ?_;simp only[ah,ae])|(refine g_C (fun h=>?_) (fun h=>?_)<;>(try exact g_f))|((first|refine g_t ?_|refine g_g ?_);(try refine g_y ?_))|(refine hK _ _ ?_;clear hK K)|exact trivial|fail))
 ·rw[decide_eq_false (fun e:a=b=>h (by rw[e]))]
 have hle:a.length=b.length:=by omega
 refine b8 (a.length:Int) (fun k _=>∀i:Int,0≤i→i<k→at0 a i=at0 b i) (fun k _ _=>[(5,ab k)]) (fun _ _ _=>σ) () [] (by omega) (fun i h1 h2=>by omega) rfl (ai ?_) ?_
 ·exact g_w
 ·rintro k _ τ hk0 hk1 hH L hL
  by_cases hk2:k<a.length
  ·have hml:(at0 a k).length≤1000000000000000000:=by have:=ha.row _ (aA a hk0 hk2);omega
   simp -implicitDefEqProofs only[go_sem]
   (repeat' (first|(refine g_s fun K hK=>?_)|(refine g_b ?_)|(refine g_k ?_;simp only[ah,ae])|(refine g_C (fun h=>?_) (fun h=>?_)<;>(try exact g_f))|((first|refine g_t ?_|refine g_g ?_|refine g_U ?_|refine g_q (fun τ=>kW _ _ hml _) ?_);(try refine g_y ?_))|(refine hK _ _ ?_;clear hK K)|(with_reducible refine And.intro ?_ ?_;· exact g_x)|exact trivial|fail))
   ·have hne:at0 a k≠at0 b k:=by simpa using h
    rw[decide_eq_false (fun e:a=b=>hne (by rw[e]))]
   ·have heq:at0 a k=at0 b k:=by simpa using h
    refine hL hk2 () [] _ _ ?_ (ai ?_) rfl
    ·intro i h1 h2
     rcases Int.lt_or_eq_of_le (Int.le_of_lt_add_one h2) with h3|h3
     ·exact hH i h1 h3
     ·rw[h3];exact heq
    ·exact g_w
  ·simp -implicitDefEqProofs only[go_sem]
   (repeat' (first|(refine g_s fun K hK=>?_)|(refine g_e ?_;simp only[ah,ae,↓reduceIte,Nat.reduceEqDiff])|(refine g_C (fun h=>?_) (fun h=>?_)<;>(try exact g_f))|((first|refine g_t ?_|refine g_g ?_);(try refine g_y ?_))|(refine hK _ _ ?_;clear hK K)|(clear hK K;first|(refine hK _ _ ?_;clear hK K)|(clear hK K;with_reducible refine hK _ _ ?_;clear hK K)|(clear hK K;clear hK K;with_reducible refine hK _ _ ?_;clear hK K))|exact trivial|fail))
   rw[decide_eq_true (jO hle fun i h1 h2=>hH i h1 (by omega):a=b)]
end Go.Proofs.YtephecognbbaoaaGreat
namespace Go.Proofs.YtephecognbbaoaaGreat
def mF (n:Int):AV:=.c (.int .u64 n)
attribute [go_sem] mF
theorem DG:aw Tryz.prog 151=true:=by kernel_rfl
theorem Fb:aw Tryz.prog 127=true:=by kernel_rfl
attribute [go_sem] DG Fb
theorem zE (n:Int) (h:n=1∨n=2∨n=3∨n=4∨n=5∨n=6) (σ:aa):af Tryz.prog 151 [mF 1,mF n] σ fun r σ'=>σ'=σ∧r = .tup [mF 0,mF n]:=by
 rcases h with rfl|rfl|rfl|rfl|rfl|rfl
 all_goals refine g_n Tryz.func151 rfl Tryz.results151 Tryz.ntmps151 ?_
 all_goals (repeat' (first|(refine g_s fun K hK=>?_)|((first|refine g_t ?_|refine g_g ?_);(try refine g_y ?_))|(refine hK _ _ ?_;clear hK K)|exact trivial|fail))
 all_goals rfl
theorem Cb (n:Int) (h:n=1∨n=2∨n=3∨n=4∨n=5∨n=6) (σ:aa):af Tryz.prog 127 [mF 1,mF n] σ fun r σ'=>σ'=σ∧r = .tup [mF 0,mF n]:=by
 have w1:IntKind.u64.wrap 1=1:=by decide
 have w0:IntKind.u64.wrap 0=0:=by decide
 have wn:IntKind.u64.wrap n=n:=by rcases h with rfl|rfl|rfl|rfl|rfl|rfl<;>decide
 refine g_n Tryz.func127 rfl Tryz.results127 Tryz.ntmps127 ?_
 (repeat' (first|(refine g_s fun K hK=>?_)|(refine g_g ?_;(try refine g_y ?_))|(refine hK _ _ ?_;clear hK K)|exact trivial|fail))
 refine C7 (fun h=>by cases h) (fun _=>?_)
 (repeat' (first|(refine g_s fun K hK=>?_)|(refine g_k ?_;simp only[ah,ae])|((first|refine g_t ?_|refine g_g ?_|refine (zE n h _).use ?_);(try simp -implicitDefEqProofs only[go_sem,w1,wn]))|(refine hK _ _ ?_;clear hK K)|fail))
theorem Cz {P:Program} {k k':IntKind} {n:Int} {σ:aa} {K:AV→aa→Prop} : fD P (some (.int k)) (some (.int .u64)) (.c (.int k' n)) σ K=K (.c (.int .u64 (IntKind.u64.wrap n))) σ:=rfl
attribute [go_sem] Cz
theorem nc0:((0:Nat):Int)=0:=rfl
theorem nc1:((1:Nat):Int)=1:=rfl
theorem nc2:((2:Nat):Int)=2:=rfl
theorem nc3:((3:Nat):Int)=3:=rfl
theorem nc4:((4:Nat):Int)=4:=rfl
theorem nc5:((5:Nat):Int)=5:=rfl
theorem nc6:((6:Nat):Int)=6:=rfl
theorem nk (v n:Int) (h:n=1∨n=2∨n=3∨n=4∨n=5∨n=6) (σ:aa):af Tryz.prog 92 [aF [v],ab n] σ fun r σ'=>σ'=σ++[.cells 1 ((List.replicate n.toNat v).map au)]∧r = .own σ.length 1 0 n.toNat n.toNat:=by
 have w1:IntKind.u64.wrap 1=1:=by decide
 have wn:IntKind.u64.wrap n=n:=by rcases h with rfl|rfl|rfl|rfl|rfl|rfl<;>decide
 have hm:=Cb n h
 rcases h with rfl|rfl|rfl|rfl|rfl|rfl
 all_goals refine g_n Tryz.func92 rfl Tryz.results92 Tryz.ntmps92 ?_
 all_goals (repeat' (first|(refine g_s fun K hK=>?_)|(refine g_b ?_)|(refine g_k ?_;simp only[ah,ae])|(refine g_C (fun h=>?_) (fun h=>?_)<;>(try exact g_f))|((first|refine g_g ?_|refine (hm _).use ?_);(try simp -implicitDefEqProofs only[go_sem,nc0,nc1,nc2,nc3,nc4,nc5,nc6,w1,wn,List.map_cons,List.map_nil,List.replicate]))|(refine hK _ _ ?_;clear hK K)|(with_reducible refine And.intro ?_ ?_;· exact g_x)|fail))
 all_goals refine dx 4 ?_
 all_goals (repeat' (first|(refine g_s fun K hK=>?_)|(refine g_b ?_)|(refine g_k ?_;simp only[ah,ae])|(refine g_e ?_;simp only[ah,ae,↓reduceIte,Nat.reduceEqDiff])|(refine g_C (fun h=>?_) (fun h=>?_)<;>(try exact g_f))|((first|refine g_t ?_|refine g_g ?_|refine C0 false true a9 (by decide +kernel) ?_);(try simp -implicitDefEqProofs only[go_sem,nc0,nc1,nc2,nc3,nc4,nc5,nc6,w1,wn,List.map_cons,List.map_nil,Nat.min_def,List.take,List.drop]))|(refine hK _ _ ?_;clear hK K)|(clear hK K;first|(refine hK _ _ ?_;clear hK K)|(clear hK K;with_reducible refine hK _ _ ?_;clear hK K)|(clear hK K;clear hK K;with_reducible refine hK _ _ ?_;clear hK K))|(with_reducible refine And.intro ?_ ?_;· exact g_x)|fail))
 all_goals rfl
end Go.Proofs.YtephecognbbaoaaGreat
namespace Go.Proofs.YtephecognbbaoaaGreat
theorem zU (l:List Int) (hl:l.length≤17592186044000) (σ:aa):af Tryz.prog 80 [aF l] σ fun r σ'=>σ'=σ∧r=aF l:=by
 refine af.cutX ?_;refine g_n Tryz.func80 rfl Tryz.results80 Tryz.ntmps80 ?_
 (repeat' (first|(refine g_s fun K hK=>?_)|(refine g_g ?_;(try refine g_y ?_))|(refine hK _ _ ?_;clear hK K)|exact trivial|fail))
 refine⟨fun h=>?_,?_⟩
 ·have e:l=[]:=List.eq_nil_of_length_eq_zero h;subst e;refine hK _ _ ?_;clear hK K
  (repeat' (first|(refine g_s fun K hK=>?_)|(refine g_C (fun h=>?_) (fun h=>?_)<;>(try exact g_f))|((first|refine g_t ?_|refine g_g ?_);(try refine g_y ?_))|(refine hK _ _ ?_;clear hK K)|exact trivial|fail))
  exact bM (τ:=[]) (by simp) (.c _) .nil
 ·refine hK _ _ ?_;clear hK K
  (repeat' (first|(refine g_s fun K hK=>?_)|(refine g_k ?_;simp only[ah,ae])|(refine g_C (fun h=>?_) (fun h=>?_)<;>(try exact g_f))|(refine g_g ?_;(try refine g_y ?_))|(refine hK _ _ ?_;clear hK K)|(with_reducible refine And.intro ?_ ?_;· exact g_x)|exact trivial|fail))
  refine fu 2 (a:=.own (σ.length+1) 1 0 l.length l.length) (es:=l.map au) (by first|rfl|(simp -implicitDefEqProofs only[go_sem];done)|(simp -implicitDefEqProofs only[go_sem];rfl)) (by simp [bO,st1]) ?_
  have hkil:ey (σ++[Ob.dead,Ob.cells 1 (List.map au l)]) (.own (σ.length+1) 1 0 l.length l.length)=σ++[.dead,.dead]:=by simp [ey]
  rw[hkil]
  (repeat' (first|(refine g_t ?_;(try refine g_y ?_))|exact trivial|fail))
  exact bM rfl (Bd.ints l) (.eq rfl)
end Go.Proofs.YtephecognbbaoaaGreat
namespace Go.Proofs.YtephecognbbaoaaGreat
theorem fP (n:Net) (i k:Int) (hl:n.links.length≤5864062014634) (σ:aa):af Tryz.prog 63 [.agg (aH n),ab i,ab k] σ fun r σ'=>σ'=σ∧r=ab (aM n i k):=by
  refine af.cutX ?_
  refine g_n Tryz.func63 rfl Tryz.results63 Tryz.ntmps63 ?_
  refine g_s fun K hK=>?_
  refine g_h ?_
  refine hK _ _ ?_;clear hK K
  refine g_0 3 rfl ?_
  (repeat' (first|(refine g_s fun K hK=>?_)|(refine g_b ?_)|(refine g_g ?_;(try refine g_y ?_))|(refine hK _ _ ?_;clear hK K)|exact trivial|fail))
  have hJ:=hK
  clear hK
  refine ay n.links (fun _ r _=>(n.links.find? fun l=>decide (l.fr=i)&&decide (l.dst=k))=r.find? fun l=>decide (l.fr=i)&&decide (l.dst=k)) (fun q _ _=>[(7,ab q)]) (fun _ _ _=>σ++[.dead]) () [] rfl rfl (ai ?_) ?_ ?_
  · exact g_w
  · rintro q r _ τ hq0 hq1 hH L hL
    obtain⟨l,hl⟩:∃l,at0 n.links q=l:=⟨_,rfl⟩
    rw[hl] at hH
    simp -implicitDefEqProofs only[go_sem]
    (repeat' (first|(refine g_s fun K hK=>?_)|(refine g_b ?_)|(refine g_k ?_;simp only[ah,ae])|(refine g_C (fun h=>?_) (fun h=>?_)<;>(try exact g_f))|((first|refine g_t ?_|refine g_g ?_);(try simp -implicitDefEqProofs only[go_sem,hl]))|(refine hK _ _ ?_;clear hK K)|(with_reducible refine ak (fun h=>?_) (fun h=>?_)<;>(try simp only[go_sem] at h)<;>(try exact g_f)<;>(try simp -implicitDefEqProofs only[go_sem,hl]))|(with_reducible refine And.intro ?_ ?_;· exact g_x)|fail))
    all_goals try
      (have e:(decide (l.fr=i)&&decide (l.dst=k))=true:=by simp [*]
       refine ax rfl ?_
       rw[List.find?_cons_of_pos (by exact e)] at hH
       rw[aM,hH]
       rfl)
    all_goals
      have e:¬(decide (l.fr=i)&&decide (l.dst=k))=true:=by simp [*]
      rw[List.find?_cons_of_neg (by exact e)] at hH
      refine hL () [] _ _ hH (ai ?_) rfl
      simp -implicitDefEqProofs only[go_sem]
  · rintro q _ τ hq hH L
    simp -implicitDefEqProofs only[go_sem]
    (repeat' (first|(refine g_s fun K hK=>?_)|(refine g_e ?_;simp only[ah,ae,↓reduceIte,Nat.reduceEqDiff])|(refine g_C (fun h=>?_) (fun h=>?_)<;>(try exact g_f))|(refine g_g ?_;(try refine g_y ?_))|(refine hK _ _ ?_;clear hK K)|exact trivial|fail))
    refine hJ _ _ ?_
    clear hJ
    (repeat' (first|(refine g_s fun K hK=>?_)|((first|refine g_t ?_|refine g_g ?_);(try refine g_y ?_))|(refine hK _ _ ?_;clear hK K)|exact trivial|fail))
    refine ax rfl ?_
    rw[aM,hH]
    rfl
theorem qS (n:Net) (i j:Int) (has:List Int) (hn:bI n) (hl:n.links.length≤5864062014634) (hlen:(has.length:Int)=n.nodes) (hv:∀v∈has,0≤v∧v<n.alg.size) (σ:aa) :
  af Tryz.prog 60 [.agg (aH n),ab i,ab j,aF has] σ fun r σ'=>σ'=σ∧r=ab (cV n i j fun k=>at0 has k):=by
 have s2:=hn.alg.s2;have s24:=hn.alg.s24;have n1:=hn.n1;have n6:=hn.n6;have hbl:=hn.alg.bl;refine af.cutX ?_;refine g_n Tryz.func60 rfl Tryz.results60 Tryz.ntmps60 ?_;refine g_s fun K hK=>?_;refine g_h ?_;refine hK _ _ ?_;clear hK K;refine g_0 4 rfl ?_
 (repeat' (first|(refine g_s fun K hK=>?_)|(refine g_g ?_;(try refine g_y ?_))|(refine hK _ _ ?_;clear hK K)|(with_reducible refine And.intro ?_ ?_;· exact g_x)|exact trivial|fail))
 have hR:∀α,ALe α [(9,ab (if i=j then 0 else n.alg.size-1)),(4,.cp (aH n) 0),(1,ab i),(2,ab j),(3,aF has)]→K α (σ++[.dead]):=by
  intro α ha;refine hK _ _ (aK.weak ha ?_);clear ha hK
  (repeat' (first|(refine g_s fun K hK=>?_)|(refine g_b ?_)|(refine g_g ?_;(try refine g_y ?_))|(refine hK _ _ ?_;clear hK K)|exact trivial|fail))
  have hJ:=hK;clear hK;refine ay (ints n.nodes) (fun _ r (out:Int)=>cV n i j (fun k=>at0 has k)=r.foldl (fun out k=>if 0≤aM n i k then bq n out (bc n (aM n i k) (at0 has k)) else out) out∧0≤out∧out<n.alg.size) (fun k out _=>[(10,ab k),(9,ab out)]) (fun _ _ _=>σ++[.dead]) (if i=j then 0 else n.alg.size-1) [] ⟨rfl,by split<;>omega⟩ rfl (ai ?_) ?_ ?_
  ·exact g_w
  ·rintro k r out τ hk0 hk1 ⟨hH,ho0,ho1⟩ L hL;rw[ao] at hk1;rw[cA hk0 (by omega),List.foldl_cons] at hH
   have hhv:=hv _ (aA has hk0 (by omega))
   have hbest:=hn.alg.best_len ho0 ho1;simp -implicitDefEqProofs only[go_sem]
   by_cases he:0≤aM n i k
   ·have hei:aM n i k<n.alg.edges.length:=by
     unfold aM at he ⊢
     cases hfd:n.links.find? fun l=>decide (l.fr=i)&&decide (l.dst=k) with
     | none=>rw[hfd] at he;simp at he
     | some l=>exact (hn.lnk l (List.mem_of_find?_eq_some hfd)).e1
    have hel:=hn.alg.edge_len he hei;have hov:=iy hn ⟨he,hei⟩ hhv;have hbi:=best_in hn ⟨ho0,ho1⟩ hov;simp only[bq,bc,at2] at hov hbi;rw[if_pos he] at hH
    (repeat' (first|(refine g_s fun K hK=>?_)|(refine g_b ?_)|(refine g_k ?_;simp only[ah,ae])|(refine g_C (fun h=>?_) (fun h=>?_)<;>(try exact g_f))|((first|refine g_g ?_|refine g_U ?_|refine (fP n i k hl _).use ?_);(try refine g_y ?_))|(refine hK _ _ ?_;clear hK K)|(with_reducible refine And.intro ?_ ?_;· exact g_x)|exact trivial|fail))
    refine hL (bq n out (bc n (aM n i k) (at0 has k))) [] _ _ ⟨hH,by simp only[bq,bc,at2];exact hbi⟩ (ai ?_) rfl
    simp -implicitDefEqProofs only[go_sem,bq,bc]
   ·rw[if_neg he] at hH
    (repeat' (first|(refine g_s fun K hK=>?_)|(refine g_b ?_)|(refine g_k ?_;simp only[ah,ae])|(refine g_C (fun h=>?_) (fun h=>?_)<;>(try exact g_f))|((first|refine g_g ?_|refine (fP n i k hl _).use ?_);(try refine g_y ?_))|(refine hK _ _ ?_;clear hK K)|(with_reducible refine And.intro ?_ ?_;· exact g_x)|exact trivial|fail))
    refine hL out [] _ _ ⟨hH,ho0,ho1⟩ (ai ?_) rfl;simp -implicitDefEqProofs only[go_sem]
  ·rintro k out τ hk ⟨hH,ho0,ho1⟩ L;rw[ao] at hk;simp -implicitDefEqProofs only[go_sem]
   (repeat' (first|(refine g_s fun K hK=>?_)|(refine g_e ?_;simp only[ah,ae,↓reduceIte,Nat.reduceEqDiff])|(refine g_C (fun h=>?_) (fun h=>?_)<;>(try exact g_f))|(refine g_g ?_;(try refine g_y ?_))|(refine hK _ _ ?_;clear hK K)|exact trivial|fail))
   refine hJ _ _ ?_;clear hJ
   (repeat' (first|(refine g_s fun K hK=>?_)|((first|refine g_t ?_|refine g_g ?_);(try refine g_y ?_))|(refine hK _ _ ?_;clear hK K)|exact trivial|fail))
   refine ax rfl ?_;rw[hH];rfl
 clear hK;refine dg rfl (fun h=>?_) (fun h=>?_)
 ·(repeat' (first|(refine g_g ?_;(try refine g_y ?_))|exact trivial|fail))
  refine hR _ (ai ?_);simp -implicitDefEqProofs only[go_sem]
  simp_all
 ·(repeat' (first|(refine g_k ?_;simp only[ah,ae])|fail))
  refine hR _ (ai ?_);simp -implicitDefEqProofs only[go_sem]
  simp_all
end Go.Proofs.YtephecognbbaoaaGreat
namespace Go.Proofs.YtephecognbbaoaaGreat
theorem sF {X Y:Type} [Inhabited X] [Inhabited Y] (f:X→Y) (l:List X) {k:Int} (h0:0≤k) (h:k<l.length):at0 (l.map f) k=f (at0 l k):=by
 have:k.toNat<l.length:=by omega
 simp [at0,List.getD_eq_getElem?_getD,this]
theorem af.useA {P:Program} {f:FuncId} {args:List AV} {σ S:aa} {X:AV} {R:AV→aa→Prop} (h:af P f args σ fun r σ'=>σ'=S∧r=X) (hr:R X S):af P f args σ R:=
 h.mono fun _ _ ⟨h1,h2⟩=>by subst h1;subst h2;exact hr
def Ext (σ S:aa):Prop:=∃τ,S=σ++τ
theorem Ext.a {σ τ:aa} : Ext σ (σ++τ):=⟨τ,rfl⟩
theorem Ext.b {σ τ τ':aa} : Ext σ ((σ++τ)++τ'):=⟨τ++τ',List.append_assoc ..⟩
theorem iv (l:List Int) (k:Nat) (v:Int):(l.map au).set k [.c (.int .i64 v)]=(l.set k v).map au:=by
 rw[List.map_set];rfl
theorem k8 (l:List Int) {k:Int} (h0:0≤k) (h:k<l.length):(l.map au)[k.toNat]? = some [.c (.int .i64 (at0 l k))]:=by
 have:k.toNat<l.length:=by omega
 simp [at0,List.getD_eq_getElem?_getD,this,au]
theorem vE (l:List Int) {k q:Int} (v:Int) (h0:0≤k) (hq:0≤q) (h:k<l.length):at0 (l.set k.toNat v) q=if q=k then v else at0 l q:=by
 simp only[at0,List.getD_eq_getElem?_getD,List.getElem?_set]
 by_cases e:q=k
 ·subst e;have:q.toNat<l.length:=by omega
  simp [this]
 ·have:¬k.toNat=q.toNat:=by omega
  simp [this,e]
theorem yR (m:Nat) (v:Int) {q:Int} (h0:0≤q) (h:q<m):at0 (List.replicate m v) q=v:=by
 have:q.toNat<m:=by omega
 simp [at0,List.getD_eq_getElem?_getD,List.getElem?_replicate,this]
end Go.Proofs.YtephecognbbaoaaGreat
namespace Go.Proofs.YtephecognbbaoaaGreat
def dT (n:Net) (i:Int):List Int:=(ints n.nodes).map fun j=>if i=j then 0 else n.alg.size-1
theorem qN (n:Net) (hn:bI n) (σ:aa):af Tryz.prog 44 [.agg (aH n)] σ fun r σ'=>σ'=σ∧r=aL (fQ n):=by
 have n1:=hn.n1;have n6:=hn.n6;have s2:=hn.alg.s2;have s24:=hn.alg.s24;have hns:n.nodes=1∨n.nodes=2∨n.nodes=3∨n.nodes=4∨n.nodes=5∨n.nodes=6:=by omega
 refine af.cutX ?_;refine g_n Tryz.func44 rfl Tryz.results44 Tryz.ntmps44 ?_;refine g_s fun K hK=>?_;refine g_h ?_;refine hK _ _ ?_;clear hK K;refine g_0 1 rfl ?_
 (repeat' (first|(refine g_s fun K hK=>?_)|(refine g_b ?_)|(refine g_G ?_;(try refine g_y ?_))|(refine hK _ _ ?_;clear hK K)|exact trivial|fail))
 refine bn ?_;have hJ:=hK;clear hK;refine ay (ints n.nodes) (fun i r acc=>acc++r.map (dT n)=fQ n) (fun i acc τ=>[(8,ab i),(3,aq 1 (σ.length+(τ.length+1)) acc)]) (fun _ acc τ=>σ++(.dead::(τ++[ap aE 1 acc]))) [] [] rfl ?_ (ai ?_) ?_ ?_
 ·simp [ap]
 ·simp -implicitDefEqProofs only[go_sem,aq,ap]
 ·rintro i r acc τ hi0 hi1 h3 L hL;rw[ao] at hi1;rw[cA hi0 (by omega)] at h3
  have hal:acc.length+1≤6:=by have:=congrArg List.length h3;simp [fQ,ao] at this;omega
  obtain⟨row0,hrow0⟩:∃l,l=List.replicate n.nodes.toNat (n.alg.size-1):=⟨_,rfl⟩;have hl0:(row0.length:Int)=n.nodes:=by rw[hrow0,List.length_replicate];omega
  have hg0:=k8 row0 hi0 (by omega)
  have hrow:row0.set i.toNat 0=dT n i:=by
   refine jO (by rw[List.length_set,dT,List.length_map,ao];omega) fun q h0 h1=>?_
   rw[List.length_set] at h1;rw[vE row0 0 hi0 h0 (by omega),dT,sF _ _ h0 (by rw[ao];omega),cA h0 (by omega)]
   by_cases e:q=i
   ·rw[if_pos e,if_pos e.symm]
   ·rw[if_neg e,if_neg (fun e2=>e e2.symm),hrow0,yR _ _ h0 (by omega)]
  have hrl:(dT n i).length=n.nodes.toNat:=by rw[dT,List.length_map,ao]
  rcases acc with _|⟨y,acc⟩<;>simp only[List.length_cons,List.length_nil] at hal<;>simp -implicitDefEqProofs only[go_sem,aq,ap]
  ·(repeat' (first|(refine g_s fun K hK=>?_)|(refine g_b ?_)|(refine g_k ?_;simp only[ah,ae])|(refine g_C (fun h=>?_) (fun h=>?_)<;>(try exact g_f))|(refine g_G ?_;(try refine g_y ?_))|(refine hK _ _ ?_;clear hK K)|exact trivial|fail))
   have hJ5:=hK;clear hK
   (refine fT 6 a9 (by kernel_rfl) ?_;simp -implicitDefEqProofs only[go_sem])
   (repeat' (first|((first|refine g_q (fun τ=>eC n.alg (by unfold I64;omega) _) ?_|refine af.useA (hrow0▸nk (n.alg.size-1) n.nodes hns _) ?_);(try refine g_y ?_))|exact trivial|fail))
   refine hJ5 _ _ ?_;clear hJ5;refine g_s fun K hK=>?_;have hJ6:=hK;clear hK
   (repeat' (first|(refine g_G ?_;(try simp -implicitDefEqProofs only[go_sem,hg0,iv]))|(with_reducible refine And.intro ?_ ?_;· exact g_x)|fail))
   refine hJ6 _ _ ?_;clear hJ6;rw[hrow];refine fu 5 (a:=.own (σ.length+(τ.length+2)) 1 0 n.nodes.toNat n.nodes.toNat) (es:=(dT n i).map au) (by first|rfl|(simp -implicitDefEqProofs only[go_sem];done)|(simp -implicitDefEqProofs only[go_sem];rfl)) (by simp [bO,st1,sc1,hrl]) ?_
   have hkil:ey (σ++(.dead::(τ++[.dead,.cells 1 ((dT n i).map au)]))) (.own (σ.length+(τ.length+2)) 1 0 n.nodes.toNat n.nodes.toNat)=σ++(.dead::(τ++[.dead,.dead])):=by simp [ey,AA]
   rw[hkil]
   (repeat' (first|(refine g_G ?_;(try refine g_y ?_))|(refine hK _ _ ?_;clear hK K)|(with_reducible refine And.intro ?_ ?_;· exact g_x)|exact trivial|fail))
   refine hL ([dT n i]) (τ++[.dead,.dead]) _ _ (by simpa using h3) (ai ?_) ?_
   ·simp -implicitDefEqProofs only[go_sem,aq]
   ·simp [ap,aE,aF]
  ·(repeat' (first|(refine g_s fun K hK=>?_)|(refine g_b ?_)|(refine g_k ?_;simp only[ah,ae])|(refine g_C (fun h=>?_) (fun h=>?_)<;>(try exact g_f))|(refine g_G ?_;(try refine g_y ?_))|(refine hK _ _ ?_;clear hK K)|exact trivial|fail))
   have hJ5:=hK;clear hK
   (refine fT 6 a9 (by kernel_rfl) ?_;simp -implicitDefEqProofs only[go_sem])
   (repeat' (first|((first|refine g_q (fun τ=>eC n.alg (by unfold I64;omega) _) ?_|refine af.useA (hrow0▸nk (n.alg.size-1) n.nodes hns _) ?_);(try refine g_y ?_))|exact trivial|fail))
   refine hJ5 _ _ ?_;clear hJ5;refine g_s fun K hK=>?_;have hJ6:=hK;clear hK
   (repeat' (first|(refine g_G ?_;(try simp -implicitDefEqProofs only[go_sem,hg0,iv]))|(with_reducible refine And.intro ?_ ?_;· exact g_x)|fail))
   refine hJ6 _ _ ?_;clear hJ6;rw[hrow];refine fu 5 (a:=.own (σ.length+(τ.length+2)) 1 0 n.nodes.toNat n.nodes.toNat) (es:=(dT n i).map au) (by first|rfl|(simp -implicitDefEqProofs only[go_sem];done)|(simp -implicitDefEqProofs only[go_sem];rfl)) (by simp [bO,st1,sc1,hrl]) ?_
   have hkil:ey (σ++(.dead::(τ++[.cells 1 ((y::acc).map aE),.cells 1 ((dT n i).map au)]))) (.own (σ.length+(τ.length+2)) 1 0 n.nodes.toNat n.nodes.toNat)=σ++(.dead::(τ++[.cells 1 ((y::acc).map aE),.dead])):=by simp [ey,AA]
   rw[hkil]
   (repeat' (first|(refine g_G ?_;(try refine g_y ?_))|(refine hK _ _ ?_;clear hK K)|(with_reducible refine And.intro ?_ ?_;· exact g_x)|exact trivial|fail))
   refine hL (y::acc++[dT n i]) (τ++[.dead,.dead]) _ _ (by simpa using h3) (ai ?_) ?_
   ·simp -implicitDefEqProofs only[go_sem,aq]
   ·simp [ap,aE,aF]
 ·rintro i acc τ hi h3 L;rw[ao] at hi;rw[List.map_nil,List.append_nil] at h3;simp -implicitDefEqProofs only[go_sem]
  (repeat' (first|(refine g_s fun K hK=>?_)|(refine g_e ?_;simp only[ah,ae,↓reduceIte,Nat.reduceEqDiff])|(refine g_C (fun h=>?_) (fun h=>?_)<;>(try exact g_f))|(refine g_g ?_;(try refine g_y ?_))|(refine hK _ _ ?_;clear hK K)|exact trivial|fail))
  refine hJ _ _ ?_;clear hJ;have est:σ++(.dead::(τ++[ap aE 1 acc]))=σ++((.dead::τ)++ap aE 1 acc::[]):=by simp
  rw[est];refine cC 3 aE 1 acc σ (.dead::τ) [] (by simp [aB,Nat.add_assoc]) ?_
  (repeat' (first|(refine g_s fun K hK=>?_)|((first|refine g_t ?_|refine g_G ?_);(try refine g_y ?_))|(refine hK _ _ ?_;clear hK K)|exact trivial|fail))
  rw[h3];exact bM rfl (Bd.rows _) (.eq rfl)
def eM:Net:=⟨jJ,2,[⟨0,1,0⟩,⟨1,0,0⟩]⟩
theorem kw:dM eM:=⟨⟨by decide,by decide,by unfold I64;decide,by decide⟩,by unfold I64;decide,by decide,by unfold I64;decide⟩
theorem pO:aI eM=0:=by decide +kernel
theorem EN {m:Nat} (n:Net):Bd m (.agg (aH n)):=.aggL (.cons (.c _) (.cons (.rows _) (.cons (.rows _) (.cons (.c _) (.cons (.slL (fun _=>.cons (.c _) (.cons (.c _) (.cons (.c _) .nil))) _) .nil)))))
theorem rm (σ:aa):af Tryz.prog 31 [] σ fun r σ'=>σ'=σ∧r = .agg (aH eM):=by
 refine af.cutX ?_;refine g_n Tryz.func31 rfl Tryz.results31 Tryz.ntmps31 ?_
 (repeat' (first|(refine g_s fun K hK=>?_)|((first|refine g_t ?_|refine g_G ?_|refine (uD _).use ?_);(try simp -implicitDefEqProofs only[go_sem,jJ]))|(refine hK _ _ ?_;clear hK K)|fail))
 refine bM rfl (EN eM) (.eq rfl)
end Go.Proofs.YtephecognbbaoaaGreat
namespace Go.Proofs.YtephecognbbaoaaGreat
theorem vt (l:List (List Int)) (p:List Int→Bool) (f:FuncId) (first cap:List AV) (σ:aa) (hl:l.length≤1000000000000000000) (hok:aw Tryz.prog f=true)
  (hf:∀x∈l,af Tryz.prog f (first++aF x::cap) σ fun r σ'=>σ'=σ∧r = .c (.bool (p x))) :
  af Tryz.prog 141 [aL l,.fn f first cap] σ fun r σ'=>σ'=σ∧r=ab (bU p 0 l):=by
 refine g_n Tryz.func141 rfl Tryz.results141 Tryz.ntmps141 ?_
 (repeat' (first|(refine g_s fun K hK=>?_)|(refine g_b ?_)|(refine g_g ?_;(try refine g_y ?_))|(refine hK _ _ ?_;clear hK K)|exact trivial|fail))
 refine ay l (fun k r _=>bU p 0 l=bU p k r) (fun k _ _=>[(8,ab k)]) (fun _ _ _=>σ) () [] rfl rfl (ai ?_) ?_ ?_
 ·exact g_w
 ·rintro k r s τ hk0 hk1 h1 L hL;have hc:=hf _ (aA l hk0 hk1);simp -implicitDefEqProofs only[go_sem]
  (repeat' (first|(refine g_s fun K hK=>?_)|(refine g_b ?_)|(refine g_k ?_;simp only[ah,ae])|(refine g_C (fun h=>?_) (fun h=>?_)<;>(try exact g_f))|((first|refine g_t ?_|refine g_g ?_|refine (hc).use ?_);(try refine g_y ?_))|(refine hK _ _ ?_;clear hK K)|(with_reducible refine And.intro ?_ ?_;· exact g_x)|exact trivial|fail))
  ·rw[h1,bU,if_pos (by assumption)]
  ·refine hL () [] _ _ ?_ (ai ?_) rfl
   ·rw[h1,bU,if_neg (by simp [*])]
   ·exact g_w
 ·intro k s τ hk h1 L;simp -implicitDefEqProofs only[go_sem]
  (repeat' (first|(refine g_s fun K hK=>?_)|(refine g_e ?_;simp only[ah,ae,↓reduceIte,Nat.reduceEqDiff])|(refine g_C (fun h=>?_) (fun h=>?_)<;>(try exact g_f))|((first|refine g_t ?_|refine g_g ?_);(try refine g_y ?_))|(refine hK _ _ ?_;clear hK K)|(clear hK K;first|(refine hK _ _ ?_;clear hK K)|(clear hK K;with_reducible refine hK _ _ ?_;clear hK K)|(clear hK K;clear hK K;with_reducible refine hK _ _ ?_;clear hK K))|exact trivial|fail))
  rw[h1,bU]
theorem mC (l:List (List Int)) (p:List Int→Bool) (f:FuncId) (first cap:List AV) (σ:aa) (hl:l.length≤1000000000000000000) (hok:aw Tryz.prog f=true)
  (hf:∀x∈l,af Tryz.prog f (first++aF x::cap) σ fun r σ'=>σ'=σ∧r = .c (.bool (p x))) :
  af Tryz.prog 112 [aL l,.fn f first cap] σ fun r σ'=>σ'=σ∧r = .c (.bool (l.any p)):=by
 have hc:=vt l p f first cap σ hl hok hf
 refine g_n Tryz.func112 rfl Tryz.results112 Tryz.ntmps112 ?_
 (repeat' (first|(refine g_s fun K hK=>?_)|((first|refine g_t ?_|refine g_g ?_|refine (hc).use ?_);(try refine g_y ?_))|(refine hK _ _ ?_;clear hK K)|exact trivial|fail))
 rw[←iE p l 0 (Int.le_refl _)]
end Go.Proofs.YtephecognbbaoaaGreat
