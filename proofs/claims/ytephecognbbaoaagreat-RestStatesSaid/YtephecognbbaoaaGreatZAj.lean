/- Algebras: the laws' shapes, what a law is asked of, and Holds. -/
import Derived.Test.YtephecognbbaoaaGreatZAb
import Derived.Test.YtephecognbbaoaaGreatZGr
import Derived.Test.YtephecognbbaoaaGreatZSy
open Go
set_option linter.all false
set_option maxRecDepth 100000
set_option maxHeartbeats 4000000
namespace Go.Proofs.YtephecognbbaoaaGreat
open Go
set_option linter.all false
set_option maxRecDepth 100000
set_option maxHeartbeats 4000000
theorem jP.mono {P:Program} {l:Nat} {args:List AV} {σ:aa} {R R':AV→aa→Prop} (h:jP P l args σ R) (hr:∀r σ',R r σ'→R' r σ'):jP P l args σ R':=
 fun K imm m w vs hs hv=>let ⟨rc,h1,h2,h3⟩:=h K imm m w vs hs hv
  ⟨rc,h1,h2,h3.mono fun _ _ ⟨i,m',v,r,s,a,b,c,d,e,f⟩=>⟨i,m',v,r,s,a,b,c,d,e,hr _ _ f⟩⟩
def FC (good:Brk→Bool) (l:List Brk):Option Brk:=l.find? fun b => !good b
theorem Am {good:Brk→Bool} {b:Brk} (h:good b=true) (l:List Brk):FC good (b::l)=FC good l:=by simp [FC,h]
theorem CS {good:Brk→Bool} {b:Brk} (h:good b=false) (l:List Brk):FC good (b::l)=some b:=by simp [FC,h]
theorem cA {n k:Int} (h0:0≤k) (h1:k<n):at0 (ints n) k=k:=by
 have:k.toNat<(ints n).length:=by rw[ao];omega
 rw[at0,List.getD_eq_getElem?_getD,List.getElem?_eq_getElem this];simp [ints];omega
def sh3 (x:Alg) (law a b c:Int):List Brk:=(ints (upN (dn law) x.edges.length)).map fun e=>⟨law,a,b,c,e⟩
def sh2 (x:Alg) (law a b:Int):List Brk:=(ints (upN (decide (2<aV law)) x.size)).flatMap (sh3 x law a b)
def sh1 (x:Alg) (law a:Int):List Brk:=(ints (upN (decide (1<aV law)) x.size)).flatMap (sh2 x law a)
theorem rh {b:Bool} {n:Int} (h:0≤n∧n≤24):0≤upN b n∧upN b n≤24:=by unfold upN;split<;>omega
theorem yI (x:Alg) (law:Int) (hr:cS x) (l:Nat) (σ:aa) (good:Brk→Bool) (E:Brk→aa→Prop)
  (hy:∀b∈bQ x law,∀τ,jP Tryz.prog l [.agg (cX b)] (σ++τ) fun r σ'=>(good b=true∧r = .c (.bool true)∧∃τ',σ'=σ++τ')∨(good b=false∧r = .c (.bool false)∧E b σ')) :
  af Tryz.prog 145 [.c (.func (.yield l) #[] #[]),.cp [ab (aV law),.c (.bool (dn law))] 0,.cp (aS x) 0,.cp [ab law] 0] σ fun _ σ'=>match FC good (bQ x law) with|none=>∃τ',σ'=σ++τ'|some b=>E b σ':=by
 have hm:=vo law;have s2:=hr.s2;have s24:=hr.s24;have e8:=hr.e8;have nA:=rh (b:=decide (0<aV law)) (n:=x.size) (by omega)
 have nB:=rh (b:=decide (1<aV law)) (n:=x.size) (by omega)
 have nC:=rh (b:=decide (2<aV law)) (n:=x.size) (by omega)
 have nE:=rh (b:=dn law) (n:=x.edges.length) (by omega)
 refine g_n Tryz.func145 rfl Tryz.results145 Tryz.ntmps145 ?_
 (repeat' (first|(refine g_s fun K hK=>?_)|(refine g_b ?_)|((first|refine g_g ?_|refine (mE _ _ _).use ?_);(try refine g_y ?_))|(refine hK _ _ ?_;clear hK K)|exact trivial|fail))
 refine ay (ints (upN (decide (0<aV law)) x.size)) (fun _ r _=>FC good (bQ x law)=FC good (r.flatMap (sh1 x law))) (fun k _ _=>[(15,ab k)]) (fun _ _ τ=>σ++τ) () [] rfl ?_ (ai ?_) ?_ ?_
 ·simp
 ·exact g_w
 ·rintro ka ra _ τa hka0 hka1 hHa La hLa;rw[ao] at hka1;rw[cA hka0 (by omega),List.flatMap_cons] at hHa
  simp -implicitDefEqProofs only[go_sem]
  (repeat' (first|(refine g_s fun K hK=>?_)|(refine g_b ?_)|(refine g_k ?_;simp only[ah,ae])|(refine g_C (fun h=>?_) (fun h=>?_)<;>(try exact g_f))|((first|refine g_g ?_|refine (mE _ _ _).use ?_);(try refine g_y ?_))|(refine hK _ _ ?_;clear hK K)|exact trivial|fail))
  refine ay (ints (upN (decide (1<aV law)) x.size)) (fun _ r _=>FC good (bQ x law)=FC good (r.flatMap (sh2 x law ka)++ra.flatMap (sh1 x law))) (fun k _ _=>[(24,ab k)]) (fun _ _ τ=>σ++τ) () τa hHa rfl (ai ?_) ?_ ?_
  ·exact g_w
  ·rintro kb rb _ τb hkb0 hkb1 hHb Lb hLb;rw[ao] at hkb1;rw[cA hkb0 (by omega),List.flatMap_cons,List.append_assoc] at hHb
   simp -implicitDefEqProofs only[go_sem]
   (repeat' (first|(refine g_s fun K hK=>?_)|(refine g_b ?_)|(refine g_k ?_;simp only[ah,ae])|(refine g_C (fun h=>?_) (fun h=>?_)<;>(try exact g_f))|((first|refine g_g ?_|refine (mE _ _ _).use ?_);(try refine g_y ?_))|(refine hK _ _ ?_;clear hK K)|exact trivial|fail))
   refine ay (ints (upN (decide (2<aV law)) x.size)) (fun _ r _=>FC good (bQ x law)=FC good (r.flatMap (sh3 x law ka kb)++(rb.flatMap (sh2 x law ka)++ra.flatMap (sh1 x law)))) (fun k _ _=>[(33,ab k)]) (fun _ _ τ=>σ++τ) () τb hHb rfl (ai ?_) ?_ ?_
   ·exact g_w
   ·rintro kc rc _ τc hkc0 hkc1 hHc Lc hLc;rw[ao] at hkc1;rw[cA hkc0 (by omega),List.flatMap_cons,List.append_assoc] at hHc
    simp -implicitDefEqProofs only[go_sem]
    (repeat' (first|(refine g_s fun K hK=>?_)|(refine g_b ?_)|(refine g_k ?_;simp only[ah,ae])|(refine g_C (fun h=>?_) (fun h=>?_)<;>(try exact g_f))|((first|refine g_g ?_|refine (mE _ _ _).use ?_);(try refine g_y ?_))|(refine hK _ _ ?_;clear hK K)|exact trivial|fail))
    refine ay (ints (upN (dn law) x.edges.length)) (fun _ r _=>FC good (bQ x law)=FC good (r.map (fun e=>(⟨law,ka,kb,kc,e⟩:Brk))++(rc.flatMap (sh3 x law ka kb)++(rb.flatMap (sh2 x law ka)++ra.flatMap (sh1 x law))))) (fun k _ _=>[(42,ab k)]) (fun _ _ τ=>σ++τ) () τc hHc rfl (ai ?_) ?_ ?_
    ·exact g_w
    ·rintro ke re _ τe hke0 hke1 hHe Le hLe;rw[ao] at hke1;rw[cA hke0 (by omega),List.map_cons,List.cons_append] at hHe
     have hmem:(⟨law,ka,kb,kc,ke⟩:Brk)∈bQ x law:=fk.2 ⟨rfl,⟨hka0,by simp only;omega⟩,⟨hkb0,by simp only;omega⟩,⟨hkc0,by simp only;omega⟩,⟨hke0,by simp only;omega⟩⟩
     simp -implicitDefEqProofs only[go_sem]
     (repeat' (first|(refine g_s fun K hK=>?_)|(refine g_b ?_)|(refine g_k ?_;simp only[ah,ae])|(refine g_C (fun h=>?_) (fun h=>?_)<;>(try exact g_f))|(refine g_g ?_;(try refine g_y ?_))|(refine hK _ _ ?_;clear hK K)|exact trivial|fail))
     refine jP.mono (hy _ hmem τe) (fun r9 σ9 hr9=>?_)
     rcases hr9 with ⟨hg,rfl,τ9,rfl⟩|⟨hg,rfl,hE⟩
     ·simp -implicitDefEqProofs only[go_sem]
      (repeat' (first|(refine g_k ?_;simp only[ah,ae])|(refine g_C (fun h=>?_) (fun h=>?_)<;>(try exact g_f))|(refine g_g ?_;(try refine g_y ?_))|(refine hK _ _ ?_;clear hK K)|(with_reducible refine And.intro ?_ ?_;· exact g_x)|exact trivial|fail))
      refine hLe () τ9 _ _ (by rw[hHe,Am hg]) (ai ?_) rfl
      simp -implicitDefEqProofs only[go_sem]
     ·simp -implicitDefEqProofs only[go_sem]
      (repeat' (first|(refine g_C (fun h=>?_) (fun h=>?_)<;>(try exact g_f))|(refine g_t ?_;(try refine g_y ?_))|(refine hK _ _ ?_;clear hK K)|exact trivial|fail))
      rw[hHe,CS hg];exact hE
    ·rintro ke _ τe hke hHe Le;rw[ao] at hke;simp -implicitDefEqProofs only[go_sem]
     (repeat' (first|(refine g_s fun K hK=>?_)|(refine g_e ?_;simp only[ah,ae,↓reduceIte,Nat.reduceEqDiff])|(refine g_C (fun h=>?_) (fun h=>?_)<;>(try exact g_f))|(refine g_g ?_;(try refine g_y ?_))|(refine hK _ _ ?_;clear hK K)|(clear hK K;first|(refine hK _ _ ?_;clear hK K)|(clear hK K;with_reducible refine hK _ _ ?_;clear hK K)|(clear hK K;clear hK K;with_reducible refine hK _ _ ?_;clear hK K))|(with_reducible refine And.intro ?_ ?_;· exact g_x)|exact trivial|fail))
     refine hLc () τe _ _ hHe (ai ?_) rfl;simp -implicitDefEqProofs only[go_sem]
   ·rintro kc _ τc hkc hHc Lc;rw[ao] at hkc;simp -implicitDefEqProofs only[go_sem]
    (repeat' (first|(refine g_s fun K hK=>?_)|(refine g_e ?_;simp only[ah,ae,↓reduceIte,Nat.reduceEqDiff])|(refine g_C (fun h=>?_) (fun h=>?_)<;>(try exact g_f))|(refine g_g ?_;(try refine g_y ?_))|(refine hK _ _ ?_;clear hK K)|(clear hK K;first|(refine hK _ _ ?_;clear hK K)|(clear hK K;with_reducible refine hK _ _ ?_;clear hK K)|(clear hK K;clear hK K;with_reducible refine hK _ _ ?_;clear hK K))|(with_reducible refine And.intro ?_ ?_;· exact g_x)|exact trivial|fail))
    refine hLb () τc _ _ hHc (ai ?_) rfl;simp -implicitDefEqProofs only[go_sem]
  ·rintro kb _ τb hkb hHb Lb;rw[ao] at hkb;simp -implicitDefEqProofs only[go_sem]
   (repeat' (first|(refine g_s fun K hK=>?_)|(refine g_e ?_;simp only[ah,ae,↓reduceIte,Nat.reduceEqDiff])|(refine g_C (fun h=>?_) (fun h=>?_)<;>(try exact g_f))|(refine g_g ?_;(try refine g_y ?_))|(refine hK _ _ ?_;clear hK K)|(clear hK K;first|(refine hK _ _ ?_;clear hK K)|(clear hK K;with_reducible refine hK _ _ ?_;clear hK K)|(clear hK K;clear hK K;with_reducible refine hK _ _ ?_;clear hK K))|(with_reducible refine And.intro ?_ ?_;· exact g_x)|exact trivial|fail))
   refine hLa () τb _ _ hHb (ai ?_) rfl;simp -implicitDefEqProofs only[go_sem]
 ·rintro ka _ τa hka hHa La;rw[ao] at hka;simp -implicitDefEqProofs only[go_sem]
  (repeat' (first|(refine g_s fun K hK=>?_)|(refine g_e ?_;simp only[ah,ae,↓reduceIte,Nat.reduceEqDiff])|(refine g_C (fun h=>?_) (fun h=>?_)<;>(try exact g_f))|(refine g_g ?_;(try refine g_y ?_))|(refine hK _ _ ?_;clear hK K)|exact trivial|fail))
  simp -implicitDefEqProofs only[go_sem];rw[hHa];exact⟨τa,rfl⟩
end Go.Proofs.YtephecognbbaoaaGreat
namespace Go.Proofs.YtephecognbbaoaaGreat
open Go
set_option linter.all false
set_option maxRecDepth 100000
set_option maxHeartbeats 4000000
theorem Fi (good:Brk→Bool) (l r:List Brk):FC good (l++r)=(FC good l).or (FC good r):=by simp [FC]
theorem EQ {r:Loop} (h:r.state = .ready) (h2:r.pending=none):({ r with state:=.ready,pending:=none } : Loop)=r:=by
 cases r;simp_all
def dF (x:Alg) (law:Int):AV:=.fn 145 [] [.cp [ab (aV law),.c (.bool (dn law))] 0,.cp (aS x) 0,.cp [ab law] 0]
theorem wT (x:Alg) (laws:List Int) (hr:cS x) (hl:laws.length≤100) (hlaw:∀law∈laws,1≤law∧law≤9)
  (hcases:∀law∈laws,∀σ,af Tryz.prog 120 [.agg (aS x),ab law] σ fun r σ'=>σ'=σ∧r=dF x law) (σ:aa) :
  af Tryz.prog 88 [.agg (aS x),aF laws] σ fun r σ'=>σ'=σ∧r = .agg (cX (cR x laws)):=by
 refine af.cutX ?_;refine g_n Tryz.func88 rfl Tryz.results88 Tryz.ntmps88 ?_;refine g_s fun K hK=>?_;refine g_h ?_;refine hK _ _ ?_;clear hK K;refine g_0 2 rfl ?_
 (repeat' (first|(refine g_s fun K hK=>?_)|(refine g_b ?_)|(refine g_g ?_;(try refine g_y ?_))|(refine hK _ _ ?_;clear hK K)|exact trivial|fail))
 have hJ:=hK;clear hK;refine ay laws (fun _ r _=>FC (ct x) (laws.flatMap (bQ x))=FC (ct x) (r.flatMap (bQ x))) (fun k _ _=>[(10,ab k)]) (fun _ _ τ=>σ++(.dead::.cells 5 [cX dp]::τ)) () [] rfl rfl (ai ?_) ?_ ?_
 ·exact g_w
 ·rintro k r _ τ hk0 hk1 hH L hL;have hmem:=aA laws hk0 hk1;obtain⟨law,hla⟩:∃law,at0 laws k=law:=⟨_,rfl⟩;rw[hla] at hH hmem;simp -implicitDefEqProofs only[go_sem]
  (repeat' (first|(refine g_s fun K hK=>?_)|(refine g_b ?_)|(refine g_k ?_;simp only[ah,ae])|(refine g_C (fun h=>?_) (fun h=>?_)<;>(try exact g_f))|((first|refine g_g ?_|refine (hcases law hmem _).use ?_);(try simp -implicitDefEqProofs only[go_sem,hla]))|(refine hK _ _ ?_;clear hK K)|(with_reducible refine And.intro ?_ ?_;· exact g_x)|fail))
  refine aK.weak (β:=[(16,dF x law),(10,ab k),(9,ab laws.length),(8,aF laws),(2,.cp (aS x) 0),(4,.ptr (σ.length+1) 5 0 0),(0,.agg (aS x)),(1,aF laws)]) (ai ?_) ?_
  ·exact g_w
  refine CV (g:=145) rfl (by simp only[go_sem]) (fun l rc g1 g2 g3 g4 g5=>?_)
  obtain⟨rd,hrd⟩:∃q:Loop,q = { rc with state:=.done,pending:=some .ret } := ⟨_,rfl⟩
  have hy:∀b∈bQ x law,∀S:aa,S[σ.length+1]? = some (.cells 5 [cX dp])→S[σ.length+(τ.length+2)]? = some (.lp l [(16,dF x law),(10,ab k),(9,ab laws.length),(8,aF laws),(2,.cp (aS x) 0),(4,.ptr (σ.length+1) 5 0 0),(0,.agg (aS x)),(1,aF laws)] 25 rc)→jP Tryz.prog l [.agg (cX b)] S fun r σ'=>
    (ct x b=true∧r = .c (.bool true)∧∃τ',σ'=S++τ') ∨
    (ct x b=false∧r = .c (.bool false)∧∃τ',σ'=(S.set (σ.length+1) (.cells 5 [cX b])).set (σ.length+(τ.length+2)) (.lp l [(16,dF x law),(10,ab k),(9,ab laws.length),(8,aF laws),(2,.cp (aS x) 0),(4,.ptr (σ.length+1) 5 0 0),(0,.agg (aS x)),(1,aF laws)] 25 rd)++τ'):=by
   intro b hb S hS1 hS2;have hbl:=(fk.1 hb).1;have hin:InR x b:=Co hr (qC.2 ⟨by rw[hbl];exact hlaw law hmem,by rw[hbl];exact hb⟩)
   have hlt1:σ.length+1<S.length:=(List.getElem?_eq_some_iff.1 hS1).1;have hlt2:σ.length+(τ.length+2)<S.length:=(List.getElem?_eq_some_iff.1 hS2).1;refine CO (b:=σ.length+(τ.length+2)) (N:=25) (al:=[(16,dF x law),(10,ab k),(9,ab laws.length),(8,aF laws),(2,.cp (aS x) 0),(4,.ptr (σ.length+1) 5 0 0),(0,.agg (aS x)),(1,aF laws)]) hS2 g1 g3 (by omega) ?_
   clear hJ hL hK;obtain⟨rb,hrb⟩:∃q:Loop,q = { rc with state:=.busy } := ⟨_,rfl⟩
   rw[←hrb,g4,g5];refine g_h ?_;refine⟨by rw[List.getElem?_append_left hlt2];exact hS2,?_⟩
   rw[List.set_append_left _ _ hlt2];obtain⟨S2,hS⟩:∃q:aa,q=S.set (σ.length+(τ.length+2)) (.lp l [(16,dF x law),(10,ab k),(9,ab laws.length),(8,aF laws),(2,.cp (aS x) 0),(4,.ptr (σ.length+1) 5 0 0),(0,.agg (aS x)),(1,aF laws)] 25 rb):=⟨_,rfl⟩;have hlen:S.length=S2.length:=by rw[hS];simp
   have h21:S2[σ.length+1]? = some (.cells 5 [cX dp]):=by rw[hS,List.getElem?_set_ne (by omega)];exact hS1
   have h22:S2[σ.length+(τ.length+2)]? = some (.lp l [(16,dF x law),(10,ab k),(9,ab laws.length),(8,aF laws),(2,.cp (aS x) 0),(4,.ptr (σ.length+1) 5 0 0),(0,.agg (aS x)),(1,aF laws)] 25 rb):=by rw[hS,List.getElem?_set_self (by omega)]
   have h4:∀ρ:aa,(S2++ρ)[σ.length+1]? = some (.cells 5 [cX dp]):=fun ρ=>by rw[List.getElem?_append_left (by omega)];exact h21
   have h5:∀(ρ:aa) (ob:Ob),(S2++ρ).set (σ.length+1) ob=S2.set (σ.length+1) ob++ρ:=fun ρ ob=>List.set_append_left _ _ (by omega)
   have hback:S2.set (σ.length+(τ.length+2)) (.lp l [(16,dF x law),(10,ab k),(9,ab laws.length),(8,aF laws),(2,.cp (aS x) 0),(4,.ptr (σ.length+1) 5 0 0),(0,.agg (aS x)),(1,aF laws)] 25 { rc with state:=.ready,pending:=none })=S:=by
    rw[hS,List.set_set,EQ g1 g2];apply List.ext_getElem?;intro i
    by_cases e:i=σ.length+(τ.length+2)
    ·rw[e,List.getElem?_set_self (by omega),hS2]
    ·rw[List.getElem?_set_ne (by omega)]
   have hgo:aK (some l) Tryz.prog 25 rc.body (un l (σ.length+(τ.length+2)) [(16,dF x law),(10,ab k),(9,ab laws.length),(8,aF laws),(2,.cp (aS x) 0),(4,.ptr (σ.length+1) 5 0 0),(0,.agg (aS x)),(1,aF laws)] 25 rc fun r σ'=>
    (ct x b=true∧r = .c (.bool true)∧∃τ',σ'=S++τ') ∨
    (ct x b=false∧r = .c (.bool false)∧∃τ',σ'=(S.set (σ.length+1) (.cells 5 [cX b])).set (σ.length+(τ.length+2)) (.lp l [(16,dF x law),(10,ab k),(9,ab laws.length),(8,aF laws),(2,.cp (aS x) 0),(4,.ptr (σ.length+1) 5 0 0),(0,.agg (aS x)),(1,aF laws)] 25 rd)++τ'))
    [(7,.ptr S2.length 5 0 0),(2,.cp (aS x) 0),(4,.ptr (σ.length+1) 5 0 0),(0,.agg (aS x)),(1,aF laws)] (S2++[.cells 5 [cX b]]):=by
    rw[g5]
    (repeat' (first|(refine g_s fun K hK=>?_)|(refine g_b ?_)|(refine g_k ?_;simp only[ah,ae])|(refine g_C (fun h=>?_) (fun h=>?_)<;>(try exact g_f))|((first|refine g_t ?_|refine g_g ?_|refine (zJ x b hr hin _).use ?_);(try simp -implicitDefEqProofs only[go_sem,h4,h5]))|(refine hK _ _ ?_;clear hK K)|fail))
    ·simp only[un];refine⟨?_,.inr ⟨by assumption,trivial,[.cells 5 [cX b]],?_⟩⟩
     ·rw[List.getElem?_append_left (by simp;omega),List.getElem?_set_ne (by omega)]
      rw[hrb] at h22;exact h22
     ·rw[←hrd,List.set_append_left _ _ (by simp;omega)]
      have e:(S2.set (σ.length+1) (.cells 5 [cX b])).set (σ.length+(τ.length+2)) (.lp l [(16,dF x law),(10,ab k),(9,ab laws.length),(8,aF laws),(2,.cp (aS x) 0),(4,.ptr (σ.length+1) 5 0 0),(0,.agg (aS x)),(1,aF laws)] 25 rd)=(S.set (σ.length+1) (.cells 5 [cX b])).set (σ.length+(τ.length+2)) (.lp l [(16,dF x law),(10,ab k),(9,ab laws.length),(8,aF laws),(2,.cp (aS x) 0),(4,.ptr (σ.length+1) 5 0 0),(0,.agg (aS x)),(1,aF laws)] 25 rd):=by
       rw[hS,List.set_comm _ _ (by omega),List.set_set]
       exact List.set_comm _ _ (by omega)
      exact congrArg (· ++ [Ob.cells 5 [cX b]]) e
    ·simp only[un];refine⟨?_,.inl ⟨by assumption,trivial,[.cells 5 [cX b]],?_⟩⟩
     ·rw[List.getElem?_append_left (by omega)]
      rw[hrb] at h22;exact h22
     ·rw[List.set_append_left _ _ (by omega)]
      exact congrArg (· ++ [Ob.cells 5 [cX b]]) hback
   rw[g5,hS] at hgo;refine aK.weak (ai ?_) hgo;simp -implicitDefEqProofs only[go_sem,List.length_set]
  have hc1:=yI x law hr l (σ++(.dead::.cells 5 [cX dp]::(τ++[.lp l [(16,dF x law),(10,ab k),(9,ab laws.length),(8,aF laws),(2,.cp (aS x) 0),(4,.ptr (σ.length+1) 5 0 0),(0,.agg (aS x)),(1,aF laws)] 25 rc]))) (ct x) (fun b σ'=>∃τ',σ'=σ++(.dead::.cells 5 [cX b]::(τ++(.lp l [(16,dF x law),(10,ab k),(9,ab laws.length),(8,aF laws),(2,.cp (aS x) 0),(4,.ptr (σ.length+1) 5 0 0),(0,.agg (aS x)),(1,aF laws)] 25 rd::τ'))))
   (fun b hb τ2=>jP.mono (hy b hb _ (by simp) (by simp)) (fun r9 σ9 h9=>by
    rcases h9 with ⟨h1,h2,τ',h3⟩|⟨h1,h2,τ',h3⟩
    ·exact .inl ⟨h1,h2,τ2++τ',by rw[h3];simp⟩
    ·exact .inr ⟨h1,h2,τ2++τ',by rw[h3];simp⟩))
  have e:σ++(.dead::.cells 5 [cX dp]::τ)++[.lp l [(16,dF x law),(10,ab k),(9,ab laws.length),(8,aF laws),(2,.cp (aS x) 0),(4,.ptr (σ.length+1) 5 0 0),(0,.agg (aS x)),(1,aF laws)] 25 rc]=σ++(.dead::.cells 5 [cX dp]::(τ++[.lp l [(16,dF x law),(10,ab k),(9,ab laws.length),(8,aF laws),(2,.cp (aS x) 0),(4,.ptr (σ.length+1) 5 0 0),(0,.agg (aS x)),(1,aF laws)] 25 rc])):=by simp
  rw[←e] at hc1;rw[List.flatMap_cons,Fi] at hH;refine af.mono hc1 (fun r9 σ9 h9=>?_)
  cases hF:FC (ct x) (bQ x law) with
  | none=>
   rw[hF] at h9 hH;obtain⟨τ',rfl⟩:=h9;refine⟨rc,by simp,by rw[g1];simp,?_⟩
   rw[g2];simp only[ae,ah];simp -implicitDefEqProofs only[go_sem];refine hK _ _ ?_;clear hK
   (repeat' (first|(refine g_g ?_;(try refine g_y ?_))|(with_reducible refine And.intro ?_ ?_;· exact g_x)|exact trivial|fail))
   refine hL () (τ++.dead::τ') _ _ (by rw[hH];rfl) (ai ?_) (by simp [cX,ab])
   simp -implicitDefEqProofs only[go_sem]
  | some b=>
   rw[hF] at h9 hH;obtain⟨τ',rfl⟩:=h9;refine⟨rd,by simp,by rw[hrd];simp,?_⟩
   rw[hrd];simp only;refine Aq ?_;simp -implicitDefEqProofs only[go_sem];have hb:cR x laws=b:=by
    show (FC (ct x) (laws.flatMap (bQ x))).getD dp=b;rw[hH];rfl
   rw[hb];refine bM rfl ?_ ?_
   ·(repeat' (first|exact Bd.c _|exact Bd.emp|exact BdL.nil|exact Bd.ints _|refine Bd.aggL ?_|refine Bd.tupL ?_|refine BdL.cons ?_ ?_))
   ·(repeat' (first|exact Wk.nil|exact Wk.emp|exact WkL.nil|(with_reducible exact Wk.refl _)|refine Wk.agg ?_|refine Wk.tup ?_|refine WkL.cons ?_ ?_|(refine Wk.eq ?_;rfl)))
 ·rintro k _ τ hk hH L;simp -implicitDefEqProofs only[go_sem]
  (repeat' (first|(refine g_s fun K hK=>?_)|(refine g_e ?_;simp only[ah,ae,↓reduceIte,Nat.reduceEqDiff])|(refine g_C (fun h=>?_) (fun h=>?_)<;>(try exact g_f))|(refine g_g ?_;(try refine g_y ?_))|(refine hK _ _ ?_;clear hK K)|exact trivial|fail))
  refine hJ _ _ ?_;clear hJ
  (repeat' (first|(refine g_s fun K hK=>?_)|((first|refine g_t ?_|refine g_g ?_);(try refine g_y ?_))|(refine hK _ _ ?_;clear hK K)|exact trivial|fail))
  have hb:cR x laws=dp:=by
   show (FC (ct x) (laws.flatMap (bQ x))).getD dp=dp;rw[hH];rfl
  rw[hb];refine bM rfl ?_ ?_
  ·(repeat' (first|exact Bd.c _|exact Bd.emp|exact BdL.nil|exact Bd.ints _|refine Bd.aggL ?_|refine Bd.tupL ?_|refine BdL.cons ?_ ?_))
  ·(repeat' (first|exact Wk.nil|exact Wk.emp|exact WkL.nil|(with_reducible exact Wk.refl _)|refine Wk.agg ?_|refine Wk.tup ?_|refine WkL.cons ?_ ?_|(refine Wk.eq ?_;rfl)))
end Go.Proofs.YtephecognbbaoaaGreat
namespace Go.Proofs.YtephecognbbaoaaGreat
open Go
set_option linter.all false
set_option maxRecDepth 100000
set_option maxHeartbeats 4000000
def fJ (n:Int) (e:Bool):AV:=.agg [ab n,.c (.bool e)]
def kV:List (Value×AV):=[(.int .i64 1,fJ 2 false),(.int .i64 2,fJ 3 false),(.int .i64 3,fJ 2 false),(.int .i64 4,fJ 1 false),(.int .i64 5,fJ 1 false),
 (.int .i64 6,fJ 0 true),(.int .i64 7,fJ 1 true),(.int .i64 8,fJ 1 true),(.int .i64 9,fJ 2 true)]
def BdM (n:Nat):List (Value×AV)→Prop
 | []=>True
 | e::r=>Bd n e.2∧BdM n r
theorem BdM.get {n:Nat} : ∀ {es:List (Value×AV)},BdM n es→∀i (h:i<es.length),Bd n es[i].2
 | [],_,i,h=>by simp at h
 | e::r,hb,0,_=>hb.1
 | e::r,hb,i+1,h=>BdM.get hb.2 i (by simpa using h)
theorem Bd.cmL {n:Nat} {es:List (Value×AV)} (h:BdM n es):Bd n (.cm es):=.cm _ h.get
theorem Bd.cpL {n:Nat} {l:List AV} {off:Nat} (h:BdL n l):Bd n (.cp l off):=.cp _ _ h
theorem Bd.fnL {n:Nat} {f:FuncId} {l l':List AV} (h:BdL n l) (h':BdL n l'):Bd n (.fn f l l'):=.fn _ _ _ h h'
theorem BT:KK Tryz.prog 3 kV=True:=by simp [KK,kV,tE,I64]
theorem BU:DK kV=True:=by simp [DK,NK,kV]
theorem zo (law:Int) (h:1≤law∧law≤9):fC kV (.int .i64 law)=some (fJ (aV law) (dn law)):=by
 have:law=1∨law=2∨law=3∨law=4∨law=5∨law=6∨law=7∨law=8∨law=9:=by omega
 rcases this with rfl|rfl|rfl|rfl|rfl|rfl|rfl|rfl|rfl<;>simp [fC,kV,aV,dn]
attribute [go_sem] BT BU
theorem xL (σ:aa):af Tryz.prog 76 [] σ fun r σ'=>σ'=σ∧r = .cm kV:=by
 refine af.cutX ?_;refine g_n Tryz.func76 rfl Tryz.results76 Tryz.ntmps76 ?_;refine g_s fun K hK=>?_;refine g_h ?_;refine hK _ _ ?_;clear hK K;refine g_s fun K hK=>?_
 (refine cU ?_;simp -implicitDefEqProofs only[go_sem,p6,Value.int.injEq,I64])
 refine hK _ _ ?_;clear hK K;refine Ab 0 rfl (by first|rfl|(simp -implicitDefEqProofs only[go_sem];done)|(simp -implicitDefEqProofs only[go_sem];rfl)) ?_
 (repeat' (first|(refine g_t ?_;(try refine g_y ?_))|exact trivial|fail))
 refine bM rfl ?_ ?_
 ·refine .cmL ⟨?_,?_,?_,?_,?_,?_,?_,?_,?_,trivial⟩
  all_goals (repeat' (first|exact Bd.c _|exact Bd.emp|exact BdL.nil|exact Bd.ints _|refine Bd.aggL ?_|refine Bd.tupL ?_|refine BdL.cons ?_ ?_))
 ·exact .eq rfl
theorem CH {n:Nat} (x:Alg) (law:Int):Bd n (dF x law):=by
 refine .fnL .nil (.cons (.cpL (.cons (.c _) (.cons (.c _) .nil))) (.cons (.cpL (.cons (.c _) (.cons (.rows _) (.cons (.rows _) .nil)))) (.cons (.cpL (.cons (.c _) .nil)) .nil)))
theorem zY (x:Alg) (law:Int) (hl:1≤law∧law≤9) (σ:aa):af Tryz.prog 120 [.agg (aS x),ab law] σ fun r σ'=>σ'=σ∧r=dF x law:=by
 have hf:=zo law hl;have hi:I64 law:=by unfold I64;omega
 refine af.cutX ?_;refine g_n Tryz.func120 rfl Tryz.results120 Tryz.ntmps120 ?_;refine g_s fun K hK=>?_;refine g_h ?_;refine hK _ _ ?_;clear hK K;refine g_0 2 rfl ?_;refine g_0 3 rfl ?_;refine g_s fun K hK=>?_;refine wq a9 (by decide +kernel) (by rfl) ?_
 simp -implicitDefEqProofs only[go_sem];refine we (fun τ=>xL _) ?_;simp -implicitDefEqProofs only[go_sem,hf,fJ,hi];refine hK _ _ ?_;clear hK K;refine aC 5 rfl (by first|rfl|(simp -implicitDefEqProofs only[go_sem];done)|(simp -implicitDefEqProofs only[go_sem];rfl)) ?_
 (repeat' (first|(refine g_s fun K hK=>?_)|((first|refine g_t ?_|refine g_g ?_);(try refine g_y ?_))|(refine hK _ _ ?_;clear hK K)|exact trivial|fail))
 refine bM rfl ?_ ?_
 ·exact CH x law
 ·exact .eq rfl
end Go.Proofs.YtephecognbbaoaaGreat
namespace Go.Proofs.YtephecognbbaoaaGreat
theorem s7 {x:Alg} (h:x.size<2∨24<x.size):dE x=3:=by
 unfold dE;rw[if_pos (ci.2 h)]
theorem s8 {x:Alg} (h:2≤x.size∧x.size≤24) (h2:8<x.edges.length):dE x=2:=by
 unfold dE;rw[if_neg (by rw[ci];omega),if_pos h2]
theorem s9 {x:Alg} (h:2≤x.size∧x.size≤24) (h2:x.edges.length≤8) (h3:(x.best.length:Int)≠x.size):dE x=1:=by
 unfold dE;rw[if_neg (by rw[ci];omega),if_neg (by omega),if_pos h3]
theorem uQ {x:Alg} (h:2≤x.size∧x.size≤24) (h2:x.edges.length≤8) (h3:(x.best.length:Int)=x.size) {r:List Int} (hr:r∈x.best++x.edges) (hn:(r.length:Int)≠x.size):dE x=1:=by
 unfold dE;rw[if_neg (by rw[ci];omega),if_neg (by omega),if_neg (by omega),if_pos (List.any_eq_true.2 ⟨r,hr,by simpa using hn⟩)]
theorem uP {x:Alg} (h:2≤x.size∧x.size≤24) (h2:x.edges.length≤8) (h3:(x.best.length:Int)=x.size) (h4:∀r∈x.best++x.edges,(r.length:Int)=x.size) {r:List Int} (hr:r∈x.best++x.edges) {n:Int} (hn:n∈r)
  (hb:n<0∨x.size-1<n):dE x=5:=by
 unfold dE;rw[if_neg (by rw[ci];omega),if_neg (by omega),if_neg (by omega),if_neg,if_pos (List.any_eq_true.2 ⟨r,hr,List.any_eq_true.2 ⟨n,hn,ci.2 hb⟩⟩)]
 intro hc;obtain⟨r,hr,hn⟩:=List.any_eq_true.1 hc;exact (of_decide_eq_true hn) (h4 r hr)
def pV (l:List (List Int)):List AV:=[aL l]
attribute [go_sem] pV
theorem zV (x:Alg) (hb:x.best.length≤5864062014634) (he:x.edges.length≤5864062014634) (hs:I64 x.size) (hrow:∀r∈x.best++x.edges,r.length≤17592186044000) (σ:aa) :
  af Tryz.prog 38 [.agg (aS x)] σ fun r σ'=>σ'=σ∧r=ab (dE x):=by
 refine af.cutX ?_;refine g_n Tryz.func38 rfl Tryz.results38 Tryz.ntmps38 ?_;refine g_s fun K hK=>?_;refine g_h ?_;refine hK _ _ ?_;clear hK K;refine g_0 1 rfl ?_
 (repeat' (first|(refine g_s fun K hK=>?_)|(refine g_b ?_)|(refine g_k ?_;simp only[ah,ae])|(refine g_C (fun h=>?_) (fun h=>?_)<;>(try exact g_f))|((first|refine g_t ?_|refine g_g ?_|refine (rg _ _ _ _).use ?_);(try refine g_y ?_))|(refine hK _ _ ?_;clear hK K)|exact trivial|fail))
 ·exact ax rfl (by rw[s7 (ci.1 (by rw[h];rfl))])
 ·rename_i h1
  exact ax rfl (by rw[s8 (aG.1 h1) (by omega)])
 ·rename_i h1 h2
  exact ax rfl (by rw[s9 (aG.1 h1) (by omega) h])
 rename_i h1 h2
 have hsz:=aG.1 h1;have hbl:=h;have he8:x.edges.length≤8:=by omega
 clear h h1 h2;have hJ:=hK;clear hK
 generalize hls:[x.best,x.edges]=ls
 have hlsm:∀l∈ls,∀r∈l,r∈x.best++x.edges:=by
  subst hls;intro l hl r hr;simp only[List.mem_cons,List.not_mem_nil,or_false] at hl
  rcases hl with rfl|rfl
  ·exact List.mem_append_left _ hr
  ·exact List.mem_append_right _ hr
 have hlsl:∀l∈ls,l.length≤24:=by
  subst hls;intro l hl;simp only[List.mem_cons,List.not_mem_nil,or_false] at hl
  rcases hl with rfl|rfl<;>omega
 have hst:σ++[Ob.dead,Ob.cells 1 [[AV.sl (List.map aE x.best)],[AV.sl (List.map aE x.edges)]]]=σ++[Ob.dead,Ob.cells 1 (ls.map pV)]:=by subst hls;rfl
 have hll:ls.length=2:=by subst hls;rfl
 rw[hst];refine ay ls (fun k r _=>∀l∈ls,l∈r∨∀w∈l,(w.length:Int)=x.size) (fun k _ _=>[(38,ab k)]) (fun _ _ _=>σ++[.dead,.cells 1 (ls.map pV)]) () [] (fun l hl=>.inl hl) rfl (ai ?_) ?_ ?_
 ·exact g_w
 ·rintro k r _ τ hk0 hk1 hH L hL;have hmem:=aA ls hk0 hk1;obtain⟨l,hl⟩:∃l,at0 ls k=l:=⟨_,rfl⟩;rw[hl] at hH hmem;simp -implicitDefEqProofs only[go_sem]
  (repeat' (first|(refine g_s fun K hK=>?_)|(refine g_b ?_)|(refine g_k ?_;simp only[ah,ae])|(refine g_C (fun h=>?_) (fun h=>?_)<;>(try exact g_f))|(refine g_g ?_;(try simp -implicitDefEqProofs only[go_sem,hl]))|(refine hK _ _ ?_;clear hK K)|(with_reducible refine And.intro ?_ ?_;· exact g_x)|fail))
  refine ay l (fun _ r' _=>∀w∈l,w∈r'∨(w.length:Int)=x.size) (fun k' _ _=>[(44,ab k')]) (fun _ _ _=>σ++[.dead,.cells 1 (ls.map pV)]) () [] (fun w hw=>.inl hw) rfl (ai ?_) ?_ ?_
  ·exact g_w
  ·rintro k' r' _ τ' hk0' hk1' hH' L' hL';have hmem':=aA l hk0' hk1';have h24:=hlsl l hmem;simp -implicitDefEqProofs only[go_sem]
   (repeat' (first|(refine g_s fun K hK=>?_)|(refine g_b ?_)|(refine g_k ?_;simp only[ah,ae])|(refine g_C (fun h=>?_) (fun h=>?_)<;>(try exact g_f))|((first|refine g_t ?_|refine g_g ?_);(try refine g_y ?_))|(refine hK _ _ ?_;clear hK K)|(with_reducible refine And.intro ?_ ?_;· exact g_x)|exact trivial|fail))
   ·exact ax rfl (by rw[uQ hsz he8 hbl (hlsm l hmem _ hmem') h])
   ·refine hL' () [] _ _ (fun w hw=>?_) (ai ?_) rfl
    ·rcases hH' w hw with h9|h9
     ·rcases List.mem_cons.1 h9 with rfl|h9
      ·exact .inr h
      ·exact .inl h9
     ·exact .inr h9
    ·exact g_w
  ·rintro k' _ τ' hk' hH' L';simp -implicitDefEqProofs only[go_sem]
   (repeat' (first|(refine g_s fun K hK=>?_)|(refine g_e ?_;simp only[ah,ae,↓reduceIte,Nat.reduceEqDiff])|(refine g_C (fun h=>?_) (fun h=>?_)<;>(try exact g_f))|(refine g_g ?_;(try refine g_y ?_))|(refine hK _ _ ?_;clear hK K)|(clear hK K;first|(refine hK _ _ ?_;clear hK K)|(clear hK K;with_reducible refine hK _ _ ?_;clear hK K)|(clear hK K;clear hK K;with_reducible refine hK _ _ ?_;clear hK K))|(with_reducible refine And.intro ?_ ?_;· exact g_x)|exact trivial|fail))
   refine hL () [] _ _ (fun l' hl'=>?_) (ai ?_) rfl
   ·rcases hH l' hl' with h9|h9
    ·rcases List.mem_cons.1 h9 with rfl|h9
     ·exact .inr fun w hw=>(hH' w hw).resolve_left (by simp)
     ·exact .inl h9
    ·exact .inr h9
   ·exact g_w
 ·rintro k _ τ hk hH L;have hgood:∀r∈x.best++x.edges,(r.length:Int)=x.size:=fun r hr=>by
   subst hls
   rcases List.mem_append.1 hr with h|h
   ·exact (hH x.best (by simp)).resolve_left (by simp) r h
   ·exact (hH x.edges (by simp)).resolve_left (by simp) r h
  simp -implicitDefEqProofs only[go_sem]
  (repeat' (first|(refine g_s fun K hK=>?_)|(refine g_e ?_;simp only[ah,ae,↓reduceIte,Nat.reduceEqDiff])|(refine g_C (fun h=>?_) (fun h=>?_)<;>(try exact g_f))|(refine g_g ?_;(try refine g_y ?_))|(refine hK _ _ ?_;clear hK K)|exact trivial|fail))
  refine hJ _ _ ?_;clear hJ
  (repeat' (first|(refine g_s fun K hK=>?_)|(refine g_b ?_)|(refine g_g ?_;(try refine g_y ?_))|(refine hK _ _ ?_;clear hK K)|exact trivial|fail))
  have hJ:=hK;clear hK;refine ay ls (fun _ r _=>∀l∈ls,l∈r∨∀w∈l,∀n∈w,inR n 0 (x.size-1)=true) (fun k _ _=>[(57,ab k)]) (fun _ _ _=>σ++[.dead,.cells 1 (ls.map pV)]) () [] (fun l hl=>.inl hl) rfl (ai ?_) ?_ ?_
  ·exact g_w
  ·rintro k r _ τ hk0 hk1 hH L hL;have hmem:=aA ls hk0 hk1;obtain⟨l,hl⟩:∃l,at0 ls k=l:=⟨_,rfl⟩;rw[hl] at hH hmem;simp -implicitDefEqProofs only[go_sem]
   (repeat' (first|(refine g_s fun K hK=>?_)|(refine g_b ?_)|(refine g_k ?_;simp only[ah,ae])|(refine g_C (fun h=>?_) (fun h=>?_)<;>(try exact g_f))|(refine g_g ?_;(try simp -implicitDefEqProofs only[go_sem,hl]))|(refine hK _ _ ?_;clear hK K)|(with_reducible refine And.intro ?_ ?_;· exact g_x)|fail))
   refine ay l (fun _ r' _=>∀w∈l,w∈r'∨∀n∈w,inR n 0 (x.size-1)=true) (fun k' _ _=>[(63,ab k')]) (fun _ _ _=>σ++[.dead,.cells 1 (ls.map pV)]) () [] (fun w hw=>.inl hw) rfl (ai ?_) ?_ ?_
   ·exact g_w
   ·rintro k' r' _ τ' hk0' hk1' hH' L' hL';have hmem':=aA l hk0' hk1';have h24:=hlsl l hmem;obtain⟨w,hw⟩:∃w,at0 l k'=w:=⟨_,rfl⟩;rw[hw] at hH' hmem';have hwl:=hgood w (hlsm l hmem w hmem');simp -implicitDefEqProofs only[go_sem]
    (repeat' (first|(refine g_s fun K hK=>?_)|(refine g_b ?_)|(refine g_k ?_;simp only[ah,ae])|(refine g_C (fun h=>?_) (fun h=>?_)<;>(try exact g_f))|(refine g_g ?_;(try simp -implicitDefEqProofs only[go_sem,hw]))|(refine hK _ _ ?_;clear hK K)|(with_reducible refine And.intro ?_ ?_;· exact g_x)|fail))
    refine ay w (fun _ r9 _=>∀n∈w,n∈r9∨inR n 0 (x.size-1)=true) (fun k9 _ _=>[(69,ab k9)]) (fun _ _ _=>σ++[.dead,.cells 1 (ls.map pV)]) () [] (fun n hn=>.inl hn) rfl (ai ?_) ?_ ?_
    ·exact g_w
    ·rintro k9 r9 _ τ9 hk09 hk19 hH9 L9 hL9;have hmem9:=aA w hk09 hk19;simp -implicitDefEqProofs only[go_sem]
     (repeat' (first|(refine g_s fun K hK=>?_)|(refine g_b ?_)|(refine g_k ?_;simp only[ah,ae])|(refine g_C (fun h=>?_) (fun h=>?_)<;>(try exact g_f))|((first|refine g_t ?_|refine g_g ?_|refine (tF x _ (by unfold I64;omega) _).use ?_);(try refine g_y ?_))|(refine hK _ _ ?_;clear hK K)|(with_reducible refine And.intro ?_ ?_;· exact g_x)|exact trivial|fail))
     ·exact ax rfl (by rw[uP hsz he8 hbl hgood (hlsm l hmem _ hmem') hmem9 (ci.1 (by rw[h];rfl))])
     ·refine hL9 () [] _ _ (fun n hn=>?_) (ai ?_) rfl
      ·rcases hH9 n hn with g|g
       ·rcases List.mem_cons.1 g with rfl|g
        ·exact .inr h
        ·exact .inl g
       ·exact .inr g
      ·exact g_w
    ·rintro k9 _ τ9 hk9 hH9 L9;simp -implicitDefEqProofs only[go_sem]
     (repeat' (first|(refine g_s fun K hK=>?_)|(refine g_e ?_;simp only[ah,ae,↓reduceIte,Nat.reduceEqDiff])|(refine g_C (fun h=>?_) (fun h=>?_)<;>(try exact g_f))|(refine g_g ?_;(try refine g_y ?_))|(refine hK _ _ ?_;clear hK K)|(clear hK K;first|(refine hK _ _ ?_;clear hK K)|(clear hK K;with_reducible refine hK _ _ ?_;clear hK K)|(clear hK K;clear hK K;with_reducible refine hK _ _ ?_;clear hK K))|(with_reducible refine And.intro ?_ ?_;· exact g_x)|exact trivial|fail))
     refine hL' () [] _ _ (fun w' hw'=>?_) (ai ?_) rfl
     ·rcases hH' w' hw' with g|g
      ·rcases List.mem_cons.1 g with rfl|g
       ·exact .inr fun n hn=>(hH9 n hn).resolve_left (by simp)
       ·exact .inl g
      ·exact .inr g
     ·exact g_w
   ·rintro k' _ τ' hk' hH' L';simp -implicitDefEqProofs only[go_sem]
    (repeat' (first|(refine g_s fun K hK=>?_)|(refine g_e ?_;simp only[ah,ae,↓reduceIte,Nat.reduceEqDiff])|(refine g_C (fun h=>?_) (fun h=>?_)<;>(try exact g_f))|(refine g_g ?_;(try refine g_y ?_))|(refine hK _ _ ?_;clear hK K)|(clear hK K;first|(refine hK _ _ ?_;clear hK K)|(clear hK K;with_reducible refine hK _ _ ?_;clear hK K)|(clear hK K;clear hK K;with_reducible refine hK _ _ ?_;clear hK K))|(with_reducible refine And.intro ?_ ?_;· exact g_x)|exact trivial|fail))
    refine hL () [] _ _ (fun l' hl'=>?_) (ai ?_) rfl
    ·rcases hH l' hl' with g|g
     ·rcases List.mem_cons.1 g with rfl|g
      ·exact .inr fun w hw=>(hH' w hw).resolve_left (by simp)
      ·exact .inl g
     ·exact .inr g
    ·exact g_w
  ·rintro k _ τ hk hH L;have hright:cS x:=⟨hsz.1,hsz.2,he8,hbl,hgood,fun r hr n hn=>by
    subst hls
    rcases List.mem_append.1 hr with g|g
    ·exact aG.1 ((hH x.best (by simp)).resolve_left (by simp) r g n hn)
    ·exact aG.1 ((hH x.edges (by simp)).resolve_left (by simp) r g n hn)⟩
   simp -implicitDefEqProofs only[go_sem]
   (repeat' (first|(refine g_s fun K hK=>?_)|(refine g_e ?_;simp only[ah,ae,↓reduceIte,Nat.reduceEqDiff])|(refine g_C (fun h=>?_) (fun h=>?_)<;>(try exact g_f))|(refine g_g ?_;(try refine g_y ?_))|(refine hK _ _ ?_;clear hK K)|exact trivial|fail))
   refine hJ _ _ ?_;clear hJ
   (repeat' (first|(refine g_s fun K hK=>?_)|((first|refine g_t ?_|refine g_g ?_);(try refine g_y ?_))|(refine hK _ _ ?_;clear hK K)|exact trivial|fail))
   exact ax rfl (by rw[lL.2 hright])
end Go.Proofs.YtephecognbbaoaaGreat
namespace Go.Proofs.YtephecognbbaoaaGreat
structure Eu (x:Alg):Prop where
 hb:x.best.length≤5864062014634
 he:x.edges.length≤5864062014634
 hs:I64 x.size
 hrow:∀r∈x.best++x.edges,r.length≤17592186044000
theorem yP (x:Alg) (laws:List Int) (hr:cS x) (hl:laws.length≤100) (hlaw:∀law∈laws,1≤law∧law≤9) (σ:aa) :
  af Tryz.prog 88 [.agg (aS x),aF laws] σ fun r σ'=>σ'=σ∧r = .agg (cX (cR x laws)):=
 wT x laws hr hl hlaw (fun law h σ=>zY x law (hlaw law h) σ) σ
theorem wV (σ:aa):af Tryz.prog 132 [] σ fun r σ'=>σ'=σ∧r=aF dX:=by
 refine af.cutX ?_;refine g_n Tryz.func132 rfl Tryz.results132 Tryz.ntmps132 ?_
 (repeat' (first|(refine g_s fun K hK=>?_)|((first|refine g_t ?_|refine g_G ?_);(try refine g_y ?_))|(refine hK _ _ ?_;clear hK K)|exact trivial|fail))
 refine bM (τ:=[]) (by simp) (Bd.ints dX) (.eq rfl)
def jJ:Alg:=⟨3,[[0,0,0],[0,1,1],[0,1,2]],[[1,2,2]]⟩
theorem E3 {n:Nat} (x:Alg):Bd n (.agg (aS x)):=.aggL (.cons (.c _) (.cons (.rows _) (.cons (.rows _) .nil)))
theorem uD (σ:aa):af Tryz.prog 36 [] σ fun r σ'=>σ'=σ∧r = .agg (aS jJ):=by
 refine af.cutX ?_;refine g_n Tryz.func36 rfl Tryz.results36 Tryz.ntmps36 ?_
 (repeat' (first|(refine g_s fun K hK=>?_)|((first|refine g_t ?_|refine g_G ?_);(try refine g_y ?_))|(refine hK _ _ ?_;clear hK K)|exact trivial|fail))
 refine bM rfl (E3 jJ) (.eq rfl)
end Go.Proofs.YtephecognbbaoaaGreat
namespace Go.Proofs.YtephecognbbaoaaGreat
theorem vA (x:Alg) (laws:List Int) (hr:cS x) (hl:laws.length≤100) (hlaw:∀law∈laws,1≤law∧law≤9) (σ:aa) :
  af Tryz.prog 131 [.agg (aS x),aF laws] σ fun r σ'=>σ'=σ∧r = .agg (cX (cR x laws)):=by
 have s2:=hr.s2;have s24:=hr.s24;have e8:=hr.e8;have hss:x.size*x.size≤24*x.size:=Int.mul_le_mul_of_nonneg_right (by omega) (by omega)
 have hss0:0≤x.size*x.size:=Int.mul_nonneg (by omega) (by omega)
 have hsss:x.size*x.size*x.size≤576*x.size:=Int.mul_le_mul_of_nonneg_right (by omega) (by omega)
 have hsss0:0≤x.size*x.size*x.size:=Int.mul_nonneg (by omega) (by omega)
 refine af.cutX ?_;refine g_n Tryz.func131 rfl Tryz.results131 Tryz.ntmps131 ?_;refine g_s fun K hK=>?_;refine g_h ?_;refine hK _ _ ?_;clear hK K;refine g_0 2 rfl ?_
 (repeat' (first|(refine g_s fun K hK=>?_)|(refine g_b ?_)|(refine g_g ?_;(try refine g_y ?_))|(refine hK _ _ ?_;clear hK K)|exact trivial|fail))
 have hJ:=hK;clear hK;refine ay laws (fun _ r _=>FC (ct x) (laws.flatMap (bQ x))=FC (ct x) (r.flatMap (bQ x))) (fun k _ _=>[(5,ab k)]) (fun _ _ τ=>σ++(.dead::.cells 5 [cX dp]::τ)) () [] rfl rfl (ai ?_) ?_ ?_
 ·exact g_w
 ·rintro k r _ τ hk0 hk1 hH L hL;have hmem:=aA laws hk0 hk1;obtain⟨law,hla⟩:∃law,at0 laws k=law:=⟨_,rfl⟩;rw[hla] at hH hmem;rw[List.flatMap_cons,uR s2] at hH;have hlw:=hlaw law hmem;have hm:=vo law;have hp0:=Fa (s:=x.size) (m:=aV law) s2;have hp1:=Fp (s:=x.size) (m:=aV law) ⟨s2,s24⟩;have nE:=rh (b:=dn law) (n:=x.edges.length) (by omega)
  simp -implicitDefEqProofs only[go_sem]
  (repeat' (first|(refine g_s fun K hK=>?_)|(refine g_b ?_)|(refine g_k ?_;simp only[ah,ae])|(refine dg rfl (fun h=>?_) (fun h=>?_);rotate_left 1;focus (first|contradiction|(simp only[go_sem] at h;done)|((try simp only[go_sem] at h);exact g_f));(try simp only[go_sem] at h))|((first|refine g_g ?_|refine (zD _ _).use ?_);(try simp -implicitDefEqProofs only[go_sem,hla]))|(refine hK _ _ ?_;clear hK K)|(with_reducible refine And.intro ?_ ?_;· exact g_x)|fail))
  have hR:∀α,ALe α [(8,ab (upN (dn law) x.edges.length)),(6,ab (aV law)),(5,ab k),(2,.cp (aS x) 0),(4,.ptr (σ.length+1) 5 0 0),(0,.agg (aS x)),(1,aF laws)]→K α (σ++(.dead::.cells 5 [cX dp]::τ)):=by
   intro α ha;refine hK _ _ (aK.weak ha ?_);clear ha hK
   (repeat' (first|(refine g_s fun K hK=>?_)|(refine g_b ?_)|(refine g_g ?_;(try refine g_y ?_))|(refine hK _ _ ?_;clear hK K)|exact trivial|fail))
   have hm3:aV law=0∨aV law=1∨aV law=2∨aV law=3:=by omega
   have hP:∀α,ALe α [(9,ab (pw x.size (aV law))),(8,ab (upN (dn law) x.edges.length)),(6,ab (aV law)),(5,ab k),(2,.cp (aS x) 0),(4,.ptr (σ.length+1) 5 0 0),(0,.agg (aS x)),(1,aF laws)]→K α (σ++(.dead::.cells 5 [cX dp]::τ)):=by
    intro α ha;refine hK _ _ (aK.weak ha ?_);clear ha hK
    (repeat' (first|(refine g_s fun K hK=>?_)|(refine g_b ?_)|(refine g_g ?_;(try refine g_y ?_))|(refine hK _ _ ?_;clear hK K)|exact trivial|fail))
    refine ay (ints (pw x.size (aV law))) (fun _ rn _=>FC (ct x) (laws.flatMap (bQ x))=FC (ct x) (rn.flatMap (uL x law)++r.flatMap (bQ x))) (fun kn _ _=>[(11,ab kn)]) (fun _ _ τ=>σ++(.dead::.cells 5 [cX dp]::τ)) () τ hH rfl (ai ?_) ?_ ?_
    ·exact g_w
    ·rintro kn rn _ τn hkn0 hkn1 hHn Ln hLn;rw[ao] at hkn1;rw[cA hkn0 (by omega),List.flatMap_cons,List.append_assoc] at hHn
     simp -implicitDefEqProofs only[go_sem]
     (repeat' (first|(refine g_s fun K hK=>?_)|(refine g_b ?_)|(refine g_k ?_;simp only[ah,ae])|(refine dg rfl (fun h=>?_) (fun h=>?_);rotate_left 1;focus (first|contradiction|(simp only[go_sem] at h;done)|((try simp only[go_sem] at h);exact g_f));(try simp only[go_sem] at h))|(refine g_g ?_;(try refine g_y ?_))|(refine hK _ _ ?_;clear hK K)|(with_reducible refine And.intro ?_ ?_;· exact g_x)|exact trivial|fail))
     have hD:∀α,ALe α [(12,.ptr (σ.length+(τn.length+2)) 3 0 0),(11,ab kn),(9,ab (pw x.size (aV law))),(8,ab (upN (dn law) x.edges.length)),(6,ab (aV law)),(5,ab k),(2,.cp (aS x) 0),(4,.ptr (σ.length+1) 5 0 0),(0,.agg (aS x)),(1,aF laws)]→K α (σ++(.dead::.cells 5 [cX dp]::(τn++[.cells 3 [[ab (dg0 x.size (aV law) kn),ab (dg1 x.size (aV law) kn),ab (dg2 x.size (aV law) kn)]]]))):=by
      intro α ha;refine hK _ _ (aK.weak ha ?_);clear ha hK
      (repeat' (first|(refine g_s fun K hK=>?_)|(refine g_b ?_)|(refine g_g ?_;(try refine g_y ?_))|(refine hK _ _ ?_;clear hK K)|exact trivial|fail))
      refine ay (ints (upN (dn law) x.edges.length)) (fun _ re _=>FC (ct x) (laws.flatMap (bQ x))=FC (ct x) (re.map (fun e=>(⟨law,dg0 x.size (aV law) kn,dg1 x.size (aV law) kn,dg2 x.size (aV law) kn,e⟩:Brk))++(rn.flatMap (uL x law)++r.flatMap (bQ x)))) (fun ke _ _=>[(15,ab ke)])
       (fun _ _ τ=>σ++(.dead::.cells 5 [cX dp]::(τn++.cells 3 [[ab (dg0 x.size (aV law) kn),ab (dg1 x.size (aV law) kn),ab (dg2 x.size (aV law) kn)]]::τ))) () [] hHn rfl (ai ?_) ?_ ?_
      ·exact g_w
      ·rintro ke re _ τe hke0 hke1 hHe Le hLe;rw[ao] at hke1;rw[cA hke0 (by omega),List.map_cons,List.cons_append] at hHe
       have hcm:(⟨law,dg0 x.size (aV law) kn,dg1 x.size (aV law) kn,dg2 x.size (aV law) kn,ke⟩:Brk)∈bQ x law:=by
        rw[uR s2];exact List.mem_flatMap.2 ⟨kn,cf.2 ⟨hkn0,by omega⟩,List.mem_map.2 ⟨ke,cf.2 ⟨hke0,by omega⟩,rfl⟩⟩
       have hin:InR x ⟨law,dg0 x.size (aV law) kn,dg1 x.size (aV law) kn,dg2 x.size (aV law) kn,ke⟩:=Co hr (qC.2 ⟨hlw,hcm⟩);simp -implicitDefEqProofs only[go_sem]
       (repeat' (first|(refine g_s fun K hK=>?_)|(refine g_b ?_)|(refine g_k ?_;simp only[ah,ae])|(refine g_C (fun h=>?_) (fun h=>?_)<;>(try exact g_f))|((first|refine g_t ?_|refine g_g ?_|refine g_A ?_|refine (wP x ⟨law,dg0 x.size (aV law) kn,dg1 x.size (aV law) kn,dg2 x.size (aV law) kn,ke⟩ hr hin _).use ?_);(try simp -implicitDefEqProofs only[go_sem,hla]))|(refine hK _ _ ?_;clear hK K)|(with_reducible refine And.intro ?_ ?_;· exact g_x)|fail))
       ·have hb:cR x laws=⟨law,dg0 x.size (aV law) kn,dg1 x.size (aV law) kn,dg2 x.size (aV law) kn,ke⟩:=by
         show (FC (ct x) (laws.flatMap (bQ x))).getD dp=_;rw[hHe,CS h];rfl
        rw[hb];refine bM rfl ?_ ?_
        ·(repeat' (first|exact Bd.c _|exact Bd.emp|exact BdL.nil|exact Bd.ints _|refine Bd.aggL ?_|refine Bd.tupL ?_|refine BdL.cons ?_ ?_))
        ·(repeat' (first|exact Wk.nil|exact Wk.emp|exact WkL.nil|(with_reducible exact Wk.refl _)|refine Wk.agg ?_|refine Wk.tup ?_|refine WkL.cons ?_ ?_|(refine Wk.eq ?_;rfl)))
       ·refine hLe () _ _ _ (by rw[hHe,Am h]) (ai ?_) rfl
        simp -implicitDefEqProofs only[go_sem]
      ·rintro ke _ τe hke hHe Le;rw[ao] at hke;rw[List.map_nil,List.nil_append] at hHe;simp -implicitDefEqProofs only[go_sem]
       (repeat' (first|(refine g_s fun K hK=>?_)|(refine g_e ?_;simp only[ah,ae,↓reduceIte,Nat.reduceEqDiff])|(refine dg rfl (fun h=>?_) (fun h=>?_);focus (first|contradiction|(simp only[go_sem] at h;done)|((try simp only[go_sem] at h);exact g_f));(try simp only[go_sem] at h))|(refine g_g ?_;(try refine g_y ?_))|(refine hK _ _ ?_;clear hK K)|(clear hK K;first|(refine hK _ _ ?_;clear hK K)|(clear hK K;with_reducible refine hK _ _ ?_;clear hK K)|(clear hK K;clear hK K;with_reducible refine hK _ _ ?_;clear hK K))|(with_reducible refine And.intro ?_ ?_;· exact g_x)|exact trivial|fail))
       refine hLn () (τn++.cells 3 [[ab (dg0 x.size (aV law) kn),ab (dg1 x.size (aV law) kn),ab (dg2 x.size (aV law) kn)]]::τe) _ _ hHe (ai ?_) (by simp [cX,ab])
       simp -implicitDefEqProofs only[go_sem]
     clear hK;have t1:kn.tmod x.size=kn % x.size:=Int.tmod_eq_emod_of_nonneg hkn0;have t2:kn.tdiv x.size=kn / x.size:=Int.tdiv_eq_ediv_of_nonneg hkn0;have q0:0≤kn / x.size:=Int.ediv_nonneg hkn0 (by omega)
     have q1:kn / x.size≤kn:=Int.ediv_le_self _ hkn0;have t3:(kn / x.size).tmod x.size=kn / x.size % x.size:=Int.tmod_eq_emod_of_nonneg q0;have t4:(kn / x.size).tdiv x.size=kn / x.size / x.size:=Int.tdiv_eq_ediv_of_nonneg q0;have p0:0≤kn / x.size / x.size:=Int.ediv_nonneg q0 (by omega)
     have p1:kn / x.size / x.size≤kn / x.size:=Int.ediv_le_self _ q0;have t5:(kn / x.size / x.size).tmod x.size=kn / x.size / x.size % x.size:=Int.tmod_eq_emod_of_nonneg p0;have t6:(kn / x.size / x.size).tdiv x.size=kn / x.size / x.size / x.size:=Int.tdiv_eq_ediv_of_nonneg p0;have r0:0≤kn / x.size / x.size / x.size:=Int.ediv_nonneg p0 (by omega)
     have r1:kn / x.size / x.size / x.size≤kn / x.size / x.size:=Int.ediv_le_self _ p0
     rcases hm3 with e|e|e|e
     all_goals simp only[e] at hD ⊢
     all_goals refine dx 4 ?_
     all_goals (repeat' (first|(refine g_s fun K hK=>?_)|(refine g_b ?_)|(refine g_k ?_;simp only[ah,ae])|(refine g_e ?_;simp only[ah,ae,↓reduceIte,Nat.reduceEqDiff])|(refine dg rfl (fun h=>?_) (fun h=>?_);focus (first|contradiction|(simp only[go_sem] at h;done)|((try simp only[go_sem] at h);exact g_f));(try simp only[go_sem] at h))|(refine dg rfl (fun h=>?_) (fun h=>?_);rotate_left 1;focus (first|contradiction|(simp only[go_sem] at h;done)|((try simp only[go_sem] at h);exact g_f));(try simp only[go_sem] at h))|(refine g_g ?_;(try simp -implicitDefEqProofs only[go_sem,t1,t2,t3,t4,t5,t6]))|(refine hK _ _ ?_;clear hK K)|(with_reducible refine And.intro ?_ ?_;· exact g_x)|fail))
     all_goals refine hD _ (ai ?_)
     all_goals simp -implicitDefEqProofs only[go_sem]
    ·rintro kn _ τn hkn hHn Ln;rw[ao] at hkn;rw[List.flatMap_nil,List.nil_append] at hHn;simp -implicitDefEqProofs only[go_sem]
     (repeat' (first|(refine g_s fun K hK=>?_)|(refine g_e ?_;simp only[ah,ae,↓reduceIte,Nat.reduceEqDiff])|(refine dg rfl (fun h=>?_) (fun h=>?_);focus (first|contradiction|(simp only[go_sem] at h;done)|((try simp only[go_sem] at h);exact g_f));(try simp only[go_sem] at h))|(refine g_g ?_;(try refine g_y ?_))|(refine hK _ _ ?_;clear hK K)|(clear hK K;first|(refine hK _ _ ?_;clear hK K)|(clear hK K;with_reducible refine hK _ _ ?_;clear hK K)|(clear hK K;clear hK K;with_reducible refine hK _ _ ?_;clear hK K))|(with_reducible refine And.intro ?_ ?_;· exact g_x)|exact trivial|fail))
     refine hL () τn _ _ hHn (ai ?_) rfl;simp -implicitDefEqProofs only[go_sem]
   clear hK
   rcases hm3 with e|e|e|e
   all_goals rw[e]
   all_goals refine dx 4 ?_
   all_goals (repeat' (first|(refine g_s fun K hK=>?_)|(refine g_b ?_)|(refine g_k ?_;simp only[ah,ae])|(refine g_e ?_;simp only[ah,ae,↓reduceIte,Nat.reduceEqDiff])|(refine dg rfl (fun h=>?_) (fun h=>?_);focus (first|contradiction|(simp only[go_sem] at h;done)|((try simp only[go_sem] at h);exact g_f));(try simp only[go_sem] at h))|(refine dg rfl (fun h=>?_) (fun h=>?_);rotate_left 1;focus (first|contradiction|(simp only[go_sem] at h;done)|((try simp only[go_sem] at h);exact g_f));(try simp only[go_sem] at h))|(refine g_g ?_;(try simp -implicitDefEqProofs only[go_sem,Int.one_mul]))|(refine hK _ _ ?_;clear hK K)|(with_reducible refine And.intro ?_ ?_;· exact g_x)|fail))
   all_goals refine hP _ (ai ?_)
   all_goals simp -implicitDefEqProofs only[go_sem,pw,e]
  clear hK;refine dg rfl (fun h=>?_) (fun h=>?_)
  ·(repeat' (first|(refine g_g ?_;(try refine g_y ?_))|exact trivial|fail))
   refine hR _ (ai ?_);simp -implicitDefEqProofs only[go_sem,upN,h]
  ·(repeat' (first|(refine g_k ?_;simp only[ah,ae])|fail))
   refine hR _ (ai ?_);simp -implicitDefEqProofs only[go_sem,upN,h]
 ·rintro k _ τ hk hH L;simp -implicitDefEqProofs only[go_sem]
  (repeat' (first|(refine g_s fun K hK=>?_)|(refine g_e ?_;simp only[ah,ae,↓reduceIte,Nat.reduceEqDiff])|(refine g_C (fun h=>?_) (fun h=>?_)<;>(try exact g_f))|(refine g_g ?_;(try refine g_y ?_))|(refine hK _ _ ?_;clear hK K)|exact trivial|fail))
  refine hJ _ _ ?_;clear hJ
  (repeat' (first|(refine g_s fun K hK=>?_)|((first|refine g_t ?_|refine g_g ?_);(try refine g_y ?_))|(refine hK _ _ ?_;clear hK K)|exact trivial|fail))
  have hb:cR x laws=dp:=by
   show (FC (ct x) (laws.flatMap (bQ x))).getD dp=dp;rw[hH];rfl
  rw[hb];refine bM rfl ?_ ?_
  ·(repeat' (first|exact Bd.c _|exact Bd.emp|exact BdL.nil|exact Bd.ints _|refine Bd.aggL ?_|refine Bd.tupL ?_|refine BdL.cons ?_ ?_))
  ·(repeat' (first|exact Wk.nil|exact Wk.emp|exact WkL.nil|(with_reducible exact Wk.refl _)|refine Wk.agg ?_|refine Wk.tup ?_|refine WkL.cons ?_ ?_|(refine Wk.eq ?_;rfl)))
end Go.Proofs.YtephecognbbaoaaGreat
namespace Go.Proofs.YtephecognbbaoaaGreat
theorem sd (x:Alg) (hb:x.best.length≤5864062014634) (he:x.edges.length≤5864062014634) (hs:I64 x.size) (hrow:∀r∈x.best++x.edges,r.length≤17592186044000) (σ:aa) :
  af Tryz.prog 102 [.agg (aS x)] σ fun r σ'=>σ'=σ∧r=ab (dE x):=by
 refine af.cutX ?_;refine g_n Tryz.func102 rfl Tryz.results102 Tryz.ntmps102 ?_;refine g_s fun K hK=>?_;refine g_h ?_;refine hK _ _ ?_;clear hK K;refine g_0 1 rfl ?_
 (repeat' (first|(refine g_s fun K hK=>?_)|(refine g_b ?_)|(refine g_k ?_;simp only[ah,ae])|(refine g_C (fun h=>?_) (fun h=>?_)<;>(try exact g_f))|((first|refine g_t ?_|refine g_g ?_|refine (bS _ _ _ _).use ?_|refine sq true a9 (by decide +kernel) ?_);(try refine g_y ?_))|(refine hK _ _ ?_;clear hK K)|(with_reducible refine And.intro ?_ ?_;· exact g_x)|exact trivial|fail))
 ·exact ax rfl (by rw[s7 h])
 ·rename_i h1
  exact ax rfl (by rw[s8 h1 (by omega)])
 ·rename_i h1 h2
  exact ax rfl (by rw[s9 h1 (by omega) h])
 rename_i hsz he8
 have hbl:=h;clear h;have hJ:=hK;clear hK;refine fu 3 (a:=.own (σ.length+3) 1 0 (x.best.length+x.edges.length) (x.best.length+x.edges.length)) (es:=(x.best++x.edges).map aE) (by first|rfl|(simp -implicitDefEqProofs only[go_sem];done)|(simp -implicitDefEqProofs only[go_sem];rfl)) (by simp [bO,st1]) ?_
 have hkil:ey (σ++[Ob.dead,Ob.dead,Ob.dead,Ob.cells 1 (List.map aE x.best++List.map aE x.edges)]) (.own (σ.length+3) 1 0 (x.best.length+x.edges.length) (x.best.length+x.edges.length))=σ++[.dead,.dead,.dead,.dead]:=by simp [ey]
 rw[hkil]
 generalize hall:x.best++x.edges=all at *
 have hal:all.length≤32:=by rw[←hall,List.length_append];omega
 refine ay all (fun k r _=>∀w∈all,w∈r∨(w.length:Int)=x.size) (fun k _ _=>[(4,ab k)]) (fun _ _ _=>σ++[.dead,.dead,.dead,.dead]) () [] (fun w hw=>.inl hw) rfl (ai ?_) ?_ ?_
 ·exact g_w
 ·rintro k r _ τ hk0 hk1 hH L hL;have hmem:=aA all hk0 hk1;simp -implicitDefEqProofs only[go_sem]
  (repeat' (first|(refine g_s fun K hK=>?_)|(refine g_b ?_)|(refine g_k ?_;simp only[ah,ae])|(refine g_C (fun h=>?_) (fun h=>?_)<;>(try exact g_f))|((first|refine g_t ?_|refine g_g ?_|refine g_U ?_);(try refine g_y ?_))|(refine hK _ _ ?_;clear hK K)|(with_reducible refine And.intro ?_ ?_;· exact g_x)|exact trivial|fail))
  ·exact ax rfl (by rw[uQ hsz (by omega) hbl (hall▸hmem) h])
  ·refine hL () [] _ _ (fun w hw=>?_) (ai ?_) rfl
   ·rcases hH w hw with h9|h9
    ·rcases List.mem_cons.1 h9 with rfl|h9
     ·exact .inr h
     ·exact .inl h9
    ·exact .inr h9
   ·exact g_w
 ·rintro k _ τ hk hH L;have hgood:∀w∈all,(w.length:Int)=x.size:=fun w hw=>(hH w hw).resolve_left (by simp)
  simp -implicitDefEqProofs only[go_sem]
  (repeat' (first|(refine g_s fun K hK=>?_)|(refine g_e ?_;simp only[ah,ae,↓reduceIte,Nat.reduceEqDiff])|(refine g_C (fun h=>?_) (fun h=>?_)<;>(try exact g_f))|(refine g_g ?_;(try refine g_y ?_))|(refine hK _ _ ?_;clear hK K)|exact trivial|fail))
  refine hJ _ _ ?_;clear hJ
  (repeat' (first|(refine g_s fun K hK=>?_)|(refine g_b ?_)|(refine g_g ?_;(try refine g_y ?_))|(refine hK _ _ ?_;clear hK K)|exact trivial|fail))
  have hJ:=hK;clear hK;refine ay all (fun k r _=>∀w∈all,w∈r∨∀n∈w,0≤n∧n≤x.size-1) (fun k _ _=>[(5,ab k)]) (fun _ _ _=>σ++[.dead,.dead,.dead,.dead]) () [] (fun w hw=>.inl hw) rfl (ai ?_) ?_ ?_
  ·exact g_w
  ·rintro k r _ τ hk0 hk1 hH L hL;have hmem:=aA all hk0 hk1;obtain⟨w,hw⟩:∃w,at0 all k=w:=⟨_,rfl⟩;rw[hw] at hH hmem;have hwl:=hgood w hmem;simp -implicitDefEqProofs only[go_sem]
   (repeat' (first|(refine g_s fun K hK=>?_)|(refine g_b ?_)|(refine g_k ?_;simp only[ah,ae])|(refine g_C (fun h=>?_) (fun h=>?_)<;>(try exact g_f))|(refine g_g ?_;(try refine g_y ?_))|(refine hK _ _ ?_;clear hK K)|exact trivial|fail))
   refine ay w (fun _ r9 _=>∀n∈w,n∈r9∨(0≤n∧n≤x.size-1)) (fun k9 _ _=>[(6,ab k9)]) (fun _ _ _=>σ++[.dead,.dead,.dead,.dead]) () [] (fun n hn=>.inl hn) rfl (ai ?_) ?_ ?_
   ·exact g_w
   ·rintro k9 r9 _ τ9 hk09 hk19 hH9 L9 hL9;have hmem9:=aA w hk09 hk19;simp -implicitDefEqProofs only[go_sem]
    (repeat' (first|(refine g_s fun K hK=>?_)|(refine g_b ?_)|(refine g_k ?_;simp only[ah,ae])|(refine g_C (fun h=>?_) (fun h=>?_)<;>(try exact g_f))|((first|refine g_t ?_|refine g_g ?_|refine g_U ?_|refine g_q (fun τ=>bS _ _ _ _) ?_);(try simp -implicitDefEqProofs only[go_sem,hw]))|(refine hK _ _ ?_;clear hK K)|(with_reducible refine And.intro ?_ ?_;· exact g_x)|fail))
    ·exact ax rfl (by rw[uP hsz (by omega) hbl (hall▸hgood) (hall▸hmem) hmem9 h])
    ·refine hL9 () [] _ _ (fun n hn=>?_) (ai ?_) rfl
     ·rcases hH9 n hn with g|g
      ·rcases List.mem_cons.1 g with rfl|g
       ·exact .inr h
       ·exact .inl g
      ·exact .inr g
     ·exact g_w
   ·rintro k9 _ τ9 hk9 hH9 L9;simp -implicitDefEqProofs only[go_sem]
    (repeat' (first|(refine g_s fun K hK=>?_)|(refine g_e ?_;simp only[ah,ae,↓reduceIte,Nat.reduceEqDiff])|(refine g_C (fun h=>?_) (fun h=>?_)<;>(try exact g_f))|(refine g_g ?_;(try refine g_y ?_))|(refine hK _ _ ?_;clear hK K)|(clear hK K;first|(refine hK _ _ ?_;clear hK K)|(clear hK K;with_reducible refine hK _ _ ?_;clear hK K)|(clear hK K;clear hK K;with_reducible refine hK _ _ ?_;clear hK K))|(with_reducible refine And.intro ?_ ?_;· exact g_x)|exact trivial|fail))
    refine hL () [] _ _ (fun w' hw'=>?_) (ai ?_) rfl
    ·rcases hH w' hw' with g|g
     ·rcases List.mem_cons.1 g with rfl|g
      ·exact .inr fun n hn=>(hH9 n hn).resolve_left (by simp)
      ·exact .inl g
     ·exact .inr g
    ·exact g_w
  ·rintro k _ τ hk hH L;have hright:cS x:=⟨hsz.1,hsz.2,by omega,hbl,by rw[hall];exact hgood,fun r hr n hn=>(hH r (hall▸hr)).resolve_left (by simp) n hn⟩
   simp -implicitDefEqProofs only[go_sem]
   (repeat' (first|(refine g_s fun K hK=>?_)|(refine g_e ?_;simp only[ah,ae,↓reduceIte,Nat.reduceEqDiff])|(refine g_C (fun h=>?_) (fun h=>?_)<;>(try exact g_f))|(refine g_g ?_;(try refine g_y ?_))|(refine hK _ _ ?_;clear hK K)|exact trivial|fail))
   refine hJ _ _ ?_;clear hJ
   (repeat' (first|(refine g_s fun K hK=>?_)|((first|refine g_t ?_|refine g_g ?_);(try refine g_y ?_))|(refine hK _ _ ?_;clear hK K)|exact trivial|fail))
   exact ax rfl (by rw[lL.2 hright])
end Go.Proofs.YtephecognbbaoaaGreat
