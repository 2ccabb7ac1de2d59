/- Step, whose answer is the caller's own. -/
import Derived.Test.YtephecognbbaoaaGreatZHd
import Derived.Test.YtephecognbbaoaaGreatZGk
import Derived.Test.YtephecognbbaoaaGreatZSr
import Derived.Test.YtephecognbbaoaaGreatZVs
import Derived.Test.YtephecognbbaoaaGreatZPs
import Derived.Test.YtephecognbbaoaaGreatZBp
open Go
set_option linter.all false
set_option maxRecDepth 100000
set_option maxHeartbeats 4000000
namespace Go.Proofs.YtephecognbbaoaaGreat
open Go
set_option linter.all false
set_option maxRecDepth 100000
set_option maxHeartbeats 4000000
section
variable {S:aa} {lo b:Nat} {n:Net} {e:Eng} {rb:Nat} {rs:List RO} {rx:List RX} {gv:AV} {gi:List Nat}
theorem ez.put (h:ez S lo e rb rx gv gi) (lt:∀x∈rb::(rx.flatMap RX.ids++gi),x<S.length) {i:Int} (h0:0≤i) (h1:i<e.routers.length) (x':RX) (hlo:lo≤S.length) {S':aa}
  (hS:∀(y:Nat) (o:Ob),y≠rb→S[y]? = some o→S'[y]? = some o) (hrb:S'[rb]? = some (.cells 2 ((rx.set i.toNat x').map rxC))) (hr:mA S' x') (hnd:x'.ids.Nodup) (hid:∀y∈x'.ids,S.length≤y) :
  ez S' lo (aR e i x'.rtr) rb (rx.set i.toNat x') gv gi:=by
 have hN:=h.nd;have hrbn:rb∉rx.flatMap RX.ids∧rb∉gi:=by
  rw[List.nodup_cons] at hN
  simpa only[List.mem_append,not_or] using hN.1
 have hi1:i.toNat<rx.length:=by have:=h.len;omega
 obtain⟨A,r,B,e1,e2⟩:∃A r B,rx=A++r::B∧rx.set i.toNat x'=A++x'::B:=by
  refine⟨rx.take i.toNat,rx[i.toNat],rx.drop (i.toNat+1),?_,?_⟩
  ·rw[←List.drop_eq_getElem_cons,List.take_append_drop]
  ·rw[List.set_eq_take_append_cons_drop,if_pos hi1]
 have hfl:∀q:RX,rb::((A++q::B).flatMap RX.ids++gi)=(rb::A.flatMap RX.ids)++(q.ids++(B.flatMap RX.ids++gi)):=fun q=>by simp [List.append_assoc]
 have lt':=lt;have hlo':=h.lo;rw[e1,hfl] at hN lt' hlo';refine⟨hrb,?_,fun x hx=>?_,?_,?_,?_⟩
 ·rw[aR,List.map_set,h.er]
 ·rcases List.mem_or_eq_of_mem_set hx with hx|rfl
  ·exact (h.ho x hx).congr fun y hy o ho=>hS y o (fun e=>hrbn.1 (e▸List.mem_flatMap.2 ⟨x,hx,hy⟩)) ho
  ·exact hr
 ·rcases h.bag with ⟨h1,h2,h3⟩|⟨gb,rest,h1,h2,h3,h4,h5⟩
  ·exact .inl ⟨h1,h2,h3⟩
  ·exact .inr ⟨gb,rest,h1,h2,hS gb _ (fun e=>hrbn.2 (by rw[←e,h1];simp)) h3,h4,h5⟩
 ·rw[e2,hfl];exact ut hN hnd fun x hx=>.inr fun hc=>absurd (lt' x hc) (by have:=hid x hx;omega)
 ·intro x hx;rw[e2,hfl] at hx;simp only[List.mem_append] at hx
  rcases hx with hx|hx|hx
  ·exact hlo' x (List.mem_append_left _ hx)
  ·exact Nat.le_trans hlo (hid x hx)
  ·exact hlo' x (List.mem_append_right _ (List.mem_append_right _ (List.mem_append.2 hx)))
theorem a6.fresh (h:a6 S lo b n e rb rs gv gi) {i:Int} (h0:0≤i) (h1:i<e.routers.length) (x':RX) (hlo:lo≤S.length) {S':aa}
  (hS:∀(y:Nat) (o:Ob),y≠rb→S[y]? = some o→S'[y]? = some o) (hrb:S'[rb]? = some (.cells 2 ((rs.map cJ).set i.toNat (rxC x')))) (hr:mA S' x') (hnd:x'.ids.Nodup) (hid:∀y∈x'.ids,S.length≤y) :
  ez S' lo (aR e i x'.rtr) rb ((rs.map xQ).set i.toNat x') gv gi:=by
 refine h.engO.put (fun x hx=>?_) h0 h1 x' hlo hS ?_ hr hnd hid
 ·rw[tw] at hx;exact h.lta x (List.mem_cons_of_mem _ hx)
 ·rw[List.map_set,List.map_map];exact hrb
end
theorem tS.app {ρ S τ:aa} {b:Nat} {n:Net} {e:Eng} (h:tS ρ S b n e):tS ρ (S++τ) b n e:=by
 obtain⟨hK0,rb,rx,gv,gi,hb,M⟩:=h;exact⟨hK0.app,rb,rx,gv,gi,az hb,M.app⟩
theorem vl (n:Net) (e:Eng) (hc:aI n=0) (hl:n.links.length≤5864062014634) (he:a8 n e) (ρ S:aa) (b:Nat) (hS:bD ρ S b n e) (v:Evt) (hv:v.routes.length≤17592186044000) (h0:0≤v.at') (h1:v.at'<n.nodes) :
  af Tryz.prog 87 [.ptr b 7 0 0,.agg (cl v)] S fun r S'=>tS ρ S' b n (if aY n v.routes≠0 then e else aR e v.at' (dD n v.routes))∧r=ab (aY n v.routes):=by
 have hn:=aU hc;have n1:=hn.n1;have n6:=hn.n6;have s2:=hn.alg.s2;have s24:=hn.alg.s24;have hx:I64 (n.alg.size-1):=by unfold I64;omega
 have hel:=he.len;have hir:v.at'<e.routers.length:=by omega
 have hE:=hS.eng;obtain⟨hK0,rb,rs,gv,gi,M⟩:=hS;have hb:=M.hb;have hbL:∀τ,(S++τ)[b]? = some (.cells 7 [aH n++[.own rb 2 0 e.routers.length e.routers.length,gv]]):=fun τ=>az hb;have hro:=oi n v.routes hx (by omega)
 by_cases c1:aY n v.routes=0
 ·rw[if_neg (by omega)]
  rw[c1] at hro ⊢;have hrz:=cM.1 c1;have hrne:v.routes≠[]:=fun e=>by
   have:=hrz.1;rw[e] at this;simp at this;omega
  have hcl:=nM v.routes (by have:=hrz.1;omega) hrne
  obtain⟨p,hp1,hp2,hRr,hA,hpe⟩:=M.row h0 hir;have hrN:∀τ,(S++τ)[rb]? = some (.cells 2 (rs.map cJ)):=fun τ=>az M.hrb;have hrS:∀τ o,(S++τ).set rb o=S.set rb o++τ:=fun τ o=>bt M.hrb;have hzl:rs.length=e.routers.length:=M.len.symm;rw[cJ] at hRr;refine g_n Tryz.func87 rfl Tryz.results87 Tryz.ntmps87 ?_;refine g_s fun K hK=>?_;refine g_h ?_;refine hK _ _ ?_;clear hK K;refine g_0 3 rfl ?_
  (repeat' (first|(refine g_s fun K hK=>?_)|(refine g_k ?_;simp only[ah,ae])|(refine g_C (fun h=>?_) (fun h=>?_)<;>(try exact g_f))|((first|refine g_t ?_|refine g_G ?_|refine wm true a9 (by decide +kernel) ?_|refine CC (hro _) ?_|refine eG (hcl _) ?_);(try simp -implicitDefEqProofs only[go_sem,hbL,hrN,hrS,hRr,hzl]))|(refine hK _ _ ?_;clear hK K)|(with_reducible refine And.intro ?_ ?_;· exact g_x)|fail))
  have hF:=M.fresh h0 hir (S':=S.set rb (.cells 2 ((rs.map cJ).set v.at'.toNat [.own (S.length+1) 1 0 v.routes.length v.routes.length,.sl (List.replicate n.nodes.toNat [.c (.slice none 0 0)])]))++[.dead,.cells 1 (v.routes.map au)]) ⟨v.routes,S.length+1,.sl (List.replicate n.nodes.toNat [.c (.slice none 0 0)]),List.replicate n.nodes.toNat [],[],[]⟩ hK0.len
   (fun y o hy ho=>az (by rw[List.getElem?_set_ne (Ne.symm hy)];exact ho))
   (az (List.getElem?_set_self (List.getElem?_eq_some_iff.1 M.hrb).1))
   ⟨(fun y hy=>by cases hy),(by rw[List.getElem?_append_right (by simp)];simp),.inl ⟨by simp,fun l hl=>List.eq_of_mem_replicate hl,rfl,rfl⟩⟩
   (by simp [RX.ids]) (fun y hy=>by simp [RX.ids] at hy;omega)
  exact⟨(hK0.set (M.lo rb (by simp))).app,rb,_,_,_,(by simp only[aR,List.length_set];exact az (aT hb M.ne.1.symm)),hF⟩
 ·rw[if_pos c1];refine g_n Tryz.func87 rfl Tryz.results87 Tryz.ntmps87 ?_;refine g_s fun K hK=>?_;refine g_h ?_;refine hK _ _ ?_;clear hK K;refine g_0 3 rfl ?_
  (repeat' (first|(refine g_s fun K hK=>?_)|(refine g_C (fun h=>?_) (fun h=>?_)<;>(try exact g_f))|((first|refine g_t ?_|refine g_g ?_|refine g_U ?_|refine g_q (fun τ=>hro _) ?_);(try simp -implicitDefEqProofs only[go_sem,hbL,c1]))|(refine hK _ _ ?_;clear hK K)|fail))
  exact hE.app
theorem xw (n:Net) (e:Eng) (hc:aI n=0) (hl:n.links.length≤5864062014634) (he:a8 n e) (hby:cu e) (ρ S:aa) (b:Nat) (hS:bD ρ S b n e) (v:Evt) (hv:v.routes.length≤17592186044000) (hk:v.kind=7) :
  af Tryz.prog 40 [.ptr b 7 0 0,.agg (cl v)] S fun r S'=>tS ρ S' b n (aN n e v).1∧r=ab (aN n e v).2:=by
 have hS1:bD ρ (S++[.dead]) b n e:=hS.app;have hn:=aU hc;have n6:=hn.n6;obtain⟨hK0,rb,tb,gv,gi,M⟩:=hS;have hbL:∀τ,(S++τ)[b]? = some (.cells 7 [aH n++[.own rb 2 0 e.routers.length e.routers.length,gv]]):=fun τ=>az M.hb;have hN:=ft n v.at'
 by_cases hat:0≤v.at'∧v.at'<n.nodes
 ·have hT:inR v.at' 0 (n.nodes-1)=true:=aG.2 (by omega)
  have hs:aN n e v=(if aY n v.routes≠0 then e else aR e v.at' (dD n v.routes),aY n v.routes):=by
   unfold aN;rw[hk,hT]
   by_cases h:aY n v.routes=0
   ·rw[h];rfl
   ·show (if aY n v.routes≠0 then (e,aY n v.routes) else (aR e v.at' (dD n v.routes),0))=_
    rw[if_pos h,if_pos h]
  rw[hT] at hN;rw[hs];refine g_n Tryz.func40 rfl Tryz.results40 Tryz.ntmps40 ?_;refine g_s fun K hK=>?_;refine g_h ?_;refine hK _ _ ?_;clear hK K;refine g_0 3 rfl ?_
  (repeat' (first|(refine g_s fun K hK=>?_)|(refine g_b ?_)|(refine g_k ?_;simp only[ah,ae])|(refine g_C (fun h=>?_) (fun h=>?_)<;>(try exact g_f))|((first|refine g_g ?_|refine g_U ?_|refine g_q (fun τ=>hN _) ?_);(try simp -implicitDefEqProofs only[go_sem,hbL,hk]))|(refine hK _ _ ?_;clear hK K)|fail))
  have hX:=vl n e hc hl he ρ _ b hS1 v hv hat.1 hat.2;simp only[cl,hk] at hX;refine hX.mono ?_;rintro r S' ⟨h,rfl⟩
  (repeat' (first|(refine g_t ?_;(try refine g_y ?_))|(refine hK _ _ ?_;clear hK K)|exact trivial|fail))
  exact h
 ·have hT:inR v.at' 0 (n.nodes-1)=false:=by
   rw[←Bool.not_eq_true,aG];omega
  have hs:aN n e v=(e,5):=by
   unfold aN;rw[hk,hT];rfl
  rw[hT] at hN;rw[hs];refine g_n Tryz.func40 rfl Tryz.results40 Tryz.ntmps40 ?_;refine g_s fun K hK=>?_;refine g_h ?_;refine hK _ _ ?_;clear hK K;refine g_0 3 rfl ?_
  (repeat' (first|(refine g_s fun K hK=>?_)|(refine g_b ?_)|(refine g_C (fun h=>?_) (fun h=>?_)<;>(try exact g_f))|((first|refine g_t ?_|refine g_g ?_|refine g_U ?_|refine g_q (fun τ=>hN _) ?_);(try simp -implicitDefEqProofs only[go_sem,hbL,hk]))|(refine hK _ _ ?_;clear hK K)|fail))
  exact hS1.eng
theorem zk (n:Net) (e:Eng) (hc:aI n=0) (hl:n.links.length≤5864062014634) (he:a8 n e) (hby:cu e) (ρ S:aa) (b:Nat) (hS:bD ρ S b n e) (v:Evt) (hv:v.routes.length≤17592186044000) :
  af Tryz.prog 40 [.ptr b 7 0 0,.agg (cl v)] S fun r S'=>tS ρ S' b n (aN n e v).1∧r=ab (aN n e v).2:=by
 by_cases h7:v.kind=7
 ·exact xw n e hc hl he hby ρ S b hS v hv h7
 ·have h:af Tryz.prog 40 [.ptr b 7 0 0,.agg (cl v)] S fun r S'=>bD ρ S' b n (aN n e v).1∧r=ab (aN n e v).2:=by
   rcases (by omega:(v.kind<1∨7<v.kind)∨v.kind=1∨v.kind=2∨v.kind=3∨v.kind=4∨v.kind=5∨v.kind=6) with h|h|h|h|h|h|h
   ·exact xD n e hc hl he hby ρ S b hS v hv h
   ·exact xC n e hc hl he hby ρ S b hS v hv h
   ·exact xB n e hc hl he hby ρ S b hS v hv h
   ·exact xA n e hc hl he hby ρ S b hS v hv h
   ·exact xz n e hc hl he hby ρ S b hS v hv h
   ·exact xy n e hc hl he hby ρ S b hS v hv h
   ·exact xx n e hc hl he hby ρ S b hS v hv h
  refine h.mono ?_;rintro r S' ⟨g1,g2⟩;exact⟨g1.eng,g2⟩
def uV (S:aa) (lo:Nat) (n:Net) (e:Eng) (a:AV):Prop:=(e=noE∧a = .agg [.c (.slice none 0 0),.c (.slice none 0 0)])∨bI n∧a8 n e∧∃rb rx gv gi,a = .agg [.own rb 2 0 e.routers.length e.routers.length,gv]∧ez S lo e rb rx gv gi
theorem uV.form {S:aa} {lo:Nat} {n:Net} {e:Eng} {a:AV} (h:uV S lo n e a):∃q1 q2,a = .agg [q1,q2]∧cw q1=true∧cw q2=true:=by
 rcases h with ⟨_,rfl⟩|⟨_,_,rb,rx,gv,gi,rfl,M⟩
 ·exact⟨_,_,rfl,rfl,rfl⟩
 ·refine⟨_,_,rfl,rfl,?_⟩
  rcases M.bag with ⟨_,_,rfl⟩|⟨_,_,_,rfl,_⟩<;>rfl
theorem uV.deep {S S':aa} {lo:Nat} {n:Net} {e:Eng} {a:AV} (h:uV S lo n e a) (g:∀y,lo≤y→∀o,S[y]? = some o→S'[y]? = some o) {D:Nat→Prop} (hD:∀y,lo≤y→D y):bG S' D a (.agg (ba e)):=by
 rcases h with ⟨rfl,rfl⟩|⟨_,_,rb,rx,gv,gi,rfl,M⟩
 ·exact .aggL (.cons .nil (.cons .nil .nil))
 ·have M':ez S' lo e rb rx gv gi:=⟨g _ (M.lo _ (by simp)) _ M.hrb,M.er,fun x hx=>(M.ho x hx).congr fun y hy o ho=>g y (M.lo y (List.mem_cons_of_mem _ (List.mem_append_left _ (List.mem_flatMap.2 ⟨x,hx,hy⟩)))) o ho,by
   rcases M.bag with ⟨h1,h2,h3⟩|⟨gb,rest,h1,h2,h3,h4,h5⟩
   ·exact .inl ⟨h1,h2,h3⟩
   ·exact .inr ⟨gb,rest,h1,h2,g gb (M.lo gb (by rw[h1];simp)) _ h3,h4,h5⟩,M.nd,M.lo⟩
  exact .aggL (M'.deep hD)
theorem rX (n:Net) (e:Eng) (okn:dM n) (ok:cj e) (v:Evt) (hv:v.routes.length≤17592186044000) (σ:aa):af Tryz.prog 22 [.agg (aH n),.agg (ba e),.agg (cl v)] σ fun r σ'=>∃τ,σ'=σ++τ∧∃a,r = .tup [a,ab (mM n e v).2]∧uV (σ++τ) σ.length n (mM n e v).1 a:=by
 have hC:=sc n e okn ok;unfold mM
 by_cases h0:ew n e=0
 ·rw[if_neg (not_not_intro h0)];rw[h0] at hC;obtain⟨hc,he⟩:=yA h0;have hn:=aU hc;have hby:cu e:=fun m hm=>(ok.mail m hm).rng;have hS:=zk n e hc (by have:=okn.len;omega) he hby
  have hin:=Ae hc he v;obtain⟨R,hR⟩:∃R,aN n e v=R:=⟨_,rfl⟩;rw[hR] at hin ⊢;obtain⟨X,hX⟩:∃X,(if R.2≠0 then (noE,R.2) else R)=X:=⟨_,rfl⟩
  rw[hX];refine g_n Tryz.func22 rfl Tryz.results22 Tryz.ntmps22 ?_;refine g_s fun K hK=>?_;refine g_h ?_;refine hK _ _ ?_;clear hK K;refine g_0 3 rfl ?_;refine g_0 4 rfl ?_;refine g_0 5 rfl ?_
  (repeat' (first|(refine g_s fun K hK=>?_)|(refine g_k ?_;simp only[ah,ae])|(refine g_C (fun h=>?_) (fun h=>?_)<;>(try exact g_f))|((first|refine g_g ?_|refine (hC _).use ?_);(try refine g_y ?_))|(refine hK _ _ ?_;clear hK K)|exact trivial|fail))
  obtain⟨ρ,hρ⟩:∃ρ:aa,σ++[.dead,.dead,.dead,.cells 2 [[.c (.slice none 0 0),.c (.slice none 0 0)]]]=ρ:=⟨_,rfl⟩;have hlen:ρ.length=σ.length+4:=by rw[←hρ];simp
  have hcL:∀τ,(ρ++τ)[σ.length+3]? = some (.cells 2 [[.c (.slice none 0 0),.c (.slice none 0 0)]]):=fun τ=>by rw[←hρ];exact az (by simp)
  have hcS:∀τ o,(ρ++τ).set (σ.length+3) o=σ++([.dead,.dead,.dead,o]++τ):=fun τ o=>by
   rw[←hρ,List.append_assoc,List.set_append_right _ _ (by omega),Nat.add_sub_cancel_left]
   rfl
  rw[hρ];refine (zS n e hn he ok ρ).mono ?_;rintro r S' ⟨τ,rfl,b,rb0,rs0,gv0,gi0,rfl,hM⟩
  (repeat' (first|(refine g_s fun K hK=>?_)|(refine g_g ?_;(try refine g_y ?_))|(refine hK _ _ ?_;clear hK K)|exact trivial|fail))
  refine (hS ρ _ b ⟨⟨τ,rfl⟩,rb0,rs0,gv0,gi0,hM⟩ v hv).mono ?_;rw[hR];rintro r S' ⟨⟨⟨τ2,rfl⟩,rb,rx,gv,gi,hb,M⟩,rfl⟩;have hM3:∀o,ez (σ++([.dead,.dead,.dead,o]++τ2)) ρ.length R.1 rb rx gv gi:=fun o=>by
   rw[←hcS τ2 o];exact M.set_lo (by omega)
  have hM4:∀o,ez (σ++([.dead,.dead,.dead,o]++τ2)) σ.length R.1 rb rx gv gi:=fun o=>⟨(hM3 o).hrb,(hM3 o).er,(hM3 o).ho,(hM3 o).bag,(hM3 o).nd,fun x hx=>by
   have:=(hM3 o).lo x hx;omega⟩
  by_cases hr:R.2=0
  ·rw[if_neg (not_not_intro hr)] at hX;subst hX
   rcases M.bag with ⟨h1,h2,rfl⟩|⟨gb,rest,h1,rfl,h3,h4,h5⟩
   all_goals
    (repeat' (first|(refine g_s fun K hK=>?_)|(refine g_k ?_;simp only[ah,ae])|(refine g_C (fun h=>?_) (fun h=>?_)<;>(try exact g_f))|((first|refine g_t ?_|refine g_g ?_);(try simp -implicitDefEqProofs only[go_sem,hcL,hcS,hb,hr]))|(refine hK _ _ ?_;clear hK K)|fail))
    exact⟨_,rfl,_,rfl,.inr ⟨hn,hin,rb,rx,_,gi,rfl,hM4 _⟩⟩
  ·rw[if_pos hr] at hX;subst hX
   (repeat' (first|(refine g_s fun K hK=>?_)|(refine g_C (fun h=>?_) (fun h=>?_)<;>(try exact g_f))|((first|refine g_t ?_|refine g_g ?_);(try simp -implicitDefEqProofs only[go_sem,hcL,hcS,hb,hr]))|(refine hK _ _ ?_;clear hK K)|fail))
   exact⟨_,rfl,_,rfl,.inl ⟨rfl,rfl⟩⟩
 ·rw[if_pos h0];refine g_n Tryz.func22 rfl Tryz.results22 Tryz.ntmps22 ?_;refine g_s fun K hK=>?_;refine g_h ?_;refine hK _ _ ?_;clear hK K;refine g_0 3 rfl ?_;refine g_0 4 rfl ?_;refine g_0 5 rfl ?_
  (repeat' (first|(refine g_s fun K hK=>?_)|(refine g_C (fun h=>?_) (fun h=>?_)<;>(try exact g_f))|((first|refine g_t ?_|refine g_g ?_|refine (hC _).use ?_);(try simp -implicitDefEqProofs only[go_sem,h0]))|(refine hK _ _ ?_;clear hK K)|fail))
  exact⟨_,rfl,_,rfl,.inl ⟨rfl,rfl⟩⟩
end Go.Proofs.YtephecognbbaoaaGreat
namespace Go.Proofs.YtephecognbbaoaaGreat
def dU (ids:List Nat) (S S':aa):Prop:=S'.length=S.length∧∀x,x∉ids→S'[x]? = S[x]?
theorem dU.refl (ids:List Nat) (S:aa):dU ids S S:=⟨rfl,fun _ _=>rfl⟩
theorem dU.set {ids:List Nat} {S S':aa} (h:dU ids S S') {x:Nat} (hx:x∈ids) (o:Ob):dU ids S (S'.set x o):=
 ⟨by rw[List.length_set];exact h.1,fun y hy=>by rw[List.getElem?_set_ne (fun e:x=y=>hy (by rw[←e];exact hx))];exact h.2 y hy⟩
theorem dU.more {ids ids':List Nat} {S S':aa} (h:dU ids S S') (hi:∀x∈ids,x∈ids'):dU ids' S S':=⟨h.1,fun y hy=>h.2 y fun hc=>hy (hi y hc)⟩
theorem dU.trans {ids:List Nat} {S S' S'':aa} (h:dU ids S S') (h':dU ids S' S''):dU ids S S'':=⟨h'.1.trans h.1,fun y hy=>(h'.2 y hy).trans (h.2 y hy)⟩
def SpR (S:aa) (ids:List Nat) (v:AV):Prop:=v = .c (.slice none 0 0)∨v = .sl []∨∃(id:Nat) (l:List Int),id∈ids∧l.length≤1000∧v = .own id 1 0 l.length l.length∧S[id]? = some (.cells 1 (l.map au))
theorem SpR.set {S:aa} {ids:List Nat} {v:AV} (h:SpR S ids v) {id:Nat} {l l':List Int} (ho:S[id]? = some (.cells 1 (l.map au))) (hl:l'.length=l.length):SpR (S.set id (.cells 1 (l'.map au))) ids v:=by
 rcases h with h|h|⟨id2,l2,h1,h2,h3,h4⟩
 ·exact .inl h
 ·exact .inr (.inl h)
 ·by_cases e:id=id2
  ·subst e;rw[ho] at h4;have e2:l.length=l2.length:=by
    have:=congrArg (fun o:Option Ob=>match o with|some (.cells _ es)=>es.length|_=>0) h4
    simpa using this
   exact .inr (.inr ⟨id,l',h1,by omega,by rw[h3,hl,e2],List.getElem?_set_self (List.getElem?_eq_some_iff.1 ho).1⟩)
  ·exact .inr (.inr ⟨id2,l2,h1,h2,h3,by rw[List.getElem?_set_ne e];exact h4⟩)
theorem ni (S:aa) (b:Nat) (es:List (List AV)) (ids:List Nat) (hl:es.length≤1000) (hb:S[b]? = some (.cells 1 es)) (hbi:b∉ids) (hr:∀i (h:i<es.length),∃v,es[i]=[v]∧SpR S ids v) :
  af Tryz.prog 29 [.own b 1 0 es.length es.length] S fun r S'=>r = .tup []∧dU ids S S':=by
 refine g_n Tryz.func29 rfl Tryz.results29 Tryz.ntmps29 ?_
 (repeat' (first|(refine g_s fun K hK=>?_)|(refine g_b ?_)|(refine g_g ?_;(try refine g_y ?_))|(refine hK _ _ ?_;clear hK K)|exact trivial|fail))
 refine b8 (es.length:Int) (fun k (S2:aa)=>dU ids S S2∧∀i (h:i<es.length),∃v,es[i]=[v]∧SpR S2 ids v) (fun k _ _=>[(2,ab k)]) (fun _ S2 _=>S2) S [] (by omega) ⟨dU.refl _ _,hr⟩ rfl (ai ?_) ?_
 ·exact g_w
 ·rintro k S2 τ hk0 hk1 ⟨hE,hR⟩ L hL;have hbE:S2[b]? = some (.cells 1 es):=by rw[hE.2 b hbi];exact hb
  by_cases hk:k<es.length
  ·obtain⟨v,hv,hS⟩:=hR k.toNat (by omega)
   have hg:es[k.toNat]? = some [v]:=by rw[List.getElem?_eq_getElem (by omega),hv]
   have ik:I64 (k+1):=by unfold I64;omega
   rcases hS with rfl|rfl|⟨id,l,i1,i2,rfl,i4⟩
   ·simp -implicitDefEqProofs only[go_sem]
    (repeat' (first|(refine g_s fun K hK=>?_)|(refine g_b ?_)|(refine g_k ?_;simp only[ah,ae])|(refine g_C (fun h=>?_) (fun h=>?_)<;>(try exact g_f))|(refine g_g ?_;(try simp -implicitDefEqProofs only[go_sem,hbE,hg,hk,ik]))|(refine hK _ _ ?_;clear hK K)|fail))
    refine b8 0 (fun _ (_:Unit)=>True) (fun q _ _=>[(3,ab q)]) (fun _ _ _=>S2) () [] (by omega) trivial rfl (ai ?_) ?_
    ·exact g_w
    ·rintro q _ τ9 hq0 hq1 _ L2 hL2;have hq:q=0:=by omega
     subst hq;simp -implicitDefEqProofs only[go_sem]
     (repeat' (first|(refine g_s fun K hK=>?_)|(refine g_e ?_;simp only[ah,ae,↓reduceIte,Nat.reduceEqDiff])|(refine g_C (fun h=>?_) (fun h=>?_)<;>(try exact g_f))|(refine g_g ?_;(try simp -implicitDefEqProofs only[go_sem,hbE,hg,hk,ik]))|(refine hK _ _ ?_;clear hK K)|(clear hK K;first|(refine hK _ _ ?_;clear hK K)|(clear hK K;with_reducible refine hK _ _ ?_;clear hK K)|(clear hK K;clear hK K;with_reducible refine hK _ _ ?_;clear hK K))|(with_reducible refine And.intro ?_ ?_;· exact g_x)|fail))
     refine hL hk S2 [] _ _ ⟨hE,hR⟩ (ai ?_) rfl;simp -implicitDefEqProofs only[go_sem]
   ·simp -implicitDefEqProofs only[go_sem]
    (repeat' (first|(refine g_s fun K hK=>?_)|(refine g_b ?_)|(refine g_k ?_;simp only[ah,ae])|(refine g_C (fun h=>?_) (fun h=>?_)<;>(try exact g_f))|(refine g_g ?_;(try simp -implicitDefEqProofs only[go_sem,hbE,hg,hk,ik]))|(refine hK _ _ ?_;clear hK K)|fail))
    refine b8 0 (fun _ (_:Unit)=>True) (fun q _ _=>[(3,ab q)]) (fun _ _ _=>S2) () [] (by omega) trivial rfl (ai ?_) ?_
    ·exact g_w
    ·rintro q _ τ9 hq0 hq1 _ L2 hL2;have hq:q=0:=by omega
     subst hq;simp -implicitDefEqProofs only[go_sem]
     (repeat' (first|(refine g_s fun K hK=>?_)|(refine g_e ?_;simp only[ah,ae,↓reduceIte,Nat.reduceEqDiff])|(refine g_C (fun h=>?_) (fun h=>?_)<;>(try exact g_f))|(refine g_g ?_;(try simp -implicitDefEqProofs only[go_sem,hbE,hg,hk,ik]))|(refine hK _ _ ?_;clear hK K)|(clear hK K;first|(refine hK _ _ ?_;clear hK K)|(clear hK K;with_reducible refine hK _ _ ?_;clear hK K)|(clear hK K;clear hK K;with_reducible refine hK _ _ ?_;clear hK K))|(with_reducible refine And.intro ?_ ?_;· exact g_x)|fail))
     refine hL hk S2 [] _ _ ⟨hE,hR⟩ (ai ?_) rfl;simp -implicitDefEqProofs only[go_sem]
   ·simp -implicitDefEqProofs only[go_sem]
    (repeat' (first|(refine g_s fun K hK=>?_)|(refine g_b ?_)|(refine g_k ?_;simp only[ah,ae])|(refine g_C (fun h=>?_) (fun h=>?_)<;>(try exact g_f))|(refine g_g ?_;(try simp -implicitDefEqProofs only[go_sem,hbE,hg,hk,ik]))|(refine hK _ _ ?_;clear hK K)|fail))
    refine b8 (l.length:Int) (fun q (s:List Int×aa)=>s.1.length=l.length∧dU ids S s.2∧(∀i (h:i<es.length),∃v,es[i]=[v]∧SpR s.2 ids v)∧s.2[id]? = some (.cells 1 (s.1.map au))) (fun q _ _=>[(3,ab q)]) (fun _ s _=>s.2) (l,S2) [] (by omega) ⟨rfl,hE,hR,i4⟩ rfl (ai ?_) ?_
    ·exact g_w
    ·rintro q ⟨l2,S3⟩ τ9 hq0 hq1 ⟨j1,j2,j3,j4⟩ L2 hL2;simp only at j1 j2 j3 j4;have hbE3:S3[b]? = some (.cells 1 es):=by rw[j2.2 b hbi];exact hb
     by_cases hq:q<l.length
     ·have iq:I64 (q+1):=by unfold I64;omega
      have hgl:=k8 l2 hq0 (by omega:q<l2.length)
      have hsl:=iv l2 q.toNat (-7);simp -implicitDefEqProofs only[go_sem]
      (repeat' (first|(refine g_s fun K hK=>?_)|(refine g_b ?_)|(refine g_k ?_;simp only[ah,ae])|(refine g_C (fun h=>?_) (fun h=>?_)<;>(try exact g_f))|(refine g_g ?_;(try simp -implicitDefEqProofs only[go_sem,hbE3,hg,hk,hq,iq,j1,j4,hgl,hsl]))|(refine hK _ _ ?_;clear hK K)|(with_reducible refine And.intro ?_ ?_;· exact g_x)|fail))
      refine hL2 hq (l2.set q.toNat (-7),S3.set id (.cells 1 ((l2.set q.toNat (-7)).map au))) [] _ _ ⟨by simp [j1],j2.set i1 _,fun i h=>?_,List.getElem?_set_self (List.getElem?_eq_some_iff.1 j4).1⟩ (ai ?_) rfl
      ·obtain⟨v,h1,h2⟩:=j3 i h;exact⟨v,h1,h2.set j4 (by simp)⟩
      ·exact g_w
     ·have hq:q=l.length:=by omega
      subst hq;simp -implicitDefEqProofs only[go_sem]
      (repeat' (first|(refine g_s fun K hK=>?_)|(refine g_e ?_;simp only[ah,ae,↓reduceIte,Nat.reduceEqDiff])|(refine g_C (fun h=>?_) (fun h=>?_)<;>(try exact g_f))|(refine g_g ?_;(try simp -implicitDefEqProofs only[go_sem,hbE3,hg,hk,ik]))|(refine hK _ _ ?_;clear hK K)|(clear hK K;first|(refine hK _ _ ?_;clear hK K)|(clear hK K;with_reducible refine hK _ _ ?_;clear hK K)|(clear hK K;clear hK K;with_reducible refine hK _ _ ?_;clear hK K))|(with_reducible refine And.intro ?_ ?_;· exact g_x)|fail))
      refine hL hk S3 [] _ _ ⟨j2,j3⟩ (ai ?_) rfl;simp -implicitDefEqProofs only[go_sem]
  ·have hk:k=es.length:=by omega
   subst hk;simp -implicitDefEqProofs only[go_sem]
   (repeat' (first|(refine g_s fun K hK=>?_)|(refine g_e ?_;simp only[ah,ae,↓reduceIte,Nat.reduceEqDiff])|(refine g_C (fun h=>?_) (fun h=>?_)<;>(try exact g_f))|(refine g_g ?_;(try simp -implicitDefEqProofs only[go_sem,hbE]))|(refine hK _ _ ?_;clear hK K)|fail))
   exact⟨rfl,hE⟩
theorem vO (S:aa):af Tryz.prog 29 [.c (.slice none 0 0)] S fun r S'=>r = .tup []∧S'=S:=by
 refine g_n Tryz.func29 rfl Tryz.results29 Tryz.ntmps29 ?_
 (repeat' (first|(refine g_s fun K hK=>?_)|(refine g_b ?_)|(refine g_g ?_;(try refine g_y ?_))|(refine hK _ _ ?_;clear hK K)|exact trivial|fail))
 refine b8 0 (fun _ (_:Unit)=>True) (fun k _ _=>[(2,ab k)]) (fun _ _ _=>S) () [] (by omega) trivial rfl (ai ?_) ?_
 ·exact g_w
 ·rintro k _ τ hk0 hk1 _ L hL;have hk:k=0:=by omega
  subst hk;simp -implicitDefEqProofs only[go_sem]
  (repeat' (first|(refine g_s fun K hK=>?_)|(refine g_e ?_;simp only[ah,ae,↓reduceIte,Nat.reduceEqDiff])|(refine g_C (fun h=>?_) (fun h=>?_)<;>(try exact g_f))|(refine g_g ?_;(try refine g_y ?_))|(refine hK _ _ ?_;clear hK K)|exact trivial|fail))
  exact⟨rfl,rfl⟩
theorem xF (S:aa) (lo w:Nat) (ids:List Nat) (a:AV) (M:List (List Int)) (hM:cT S lo w ids a M) (hw:w≤1000) (hl:M.length≤1000):af Tryz.prog 29 [a] S fun r S'=>r = .tup []∧dU ids S S':=by
 by_cases hne:M=[]
 ·rcases hM.2 with ⟨_,rfl,_⟩|⟨b,q,_,_,h,_⟩
  ·refine (vO S).mono ?_;rintro r S' ⟨h1,rfl⟩;exact⟨h1,dU.refl _ _⟩
  ·exact absurd hne h
 ·obtain⟨b,q,e1,rfl,e3,e4,e5,e6,e7⟩:=hM.parts hne;rw[List.nodup_cons] at e5;have hq:(q.map (be w)).length=M.length:=by rw[List.length_map,e4]
  have h:=ni S b (q.map (be w)) q (by omega) e3 e5.1 (fun i hi=>by
   have hiq:i<q.length:=by simpa using hi
   obtain⟨g1,g2⟩:=e7.2 i hiq (by omega)
   have hwl:=hM.1 _ (List.getElem_mem (by omega:i<M.length))
   exact⟨_,by rw[List.getElem_map,be],.inr (.inr ⟨q[i],M[i],List.getElem_mem hiq,by omega,by rw[hwl],g2⟩)⟩)
  rw[hq] at h;refine h.mono ?_;rintro r S' ⟨h1,h2⟩;exact⟨h1,h2.more fun x hx=>by rw[e1];exact List.mem_cons_of_mem _ hx⟩
end Go.Proofs.YtephecognbbaoaaGreat
namespace Go.Proofs.YtephecognbbaoaaGreat
def imE (M:List (Int×AV)):List (Value×AV):=M.map fun e=>(.int .i64 e.1,e.2)
def uC (M:List (Int×AV)) (k:Int):Bool:=M.any fun e=>decide (e.1=k)
def qt (M:List (Int×AV)) (k:Int):Option AV:=(M.find? fun e=>decide (e.1=k)).map (·.2)
theorem vv (k:Int):∀M:List (Int×AV),fC (imE M) (.int .i64 k)=qt M k
 | []=>rfl
 | e::r=>by
  have ih:=vv k r;simp only[imE,qt,List.map_cons,fC] at ih ⊢
  by_cases h:e.1=k
  ·rw[if_pos (by rw[h]),List.find?_cons_of_pos (by simpa using h)]
   rfl
  ·rw[if_neg (by simpa using h),List.find?_cons_of_neg (by simpa using h),ih]
theorem Cp {M:List (Int×AV)} {k:Int} (h:uC M k=false):∀e∈imE M,e.1 ≠ .int .i64 k:=by
 intro e he;obtain⟨x,hx,rfl⟩:=List.mem_map.1 he;have:=List.any_eq_false.1 h x hx
 simpa using this
theorem Fh {M:List (Int×AV)} {k:Int} (v:AV) (h:uC M k=false):p6 (imE M) (.int .i64 k) v=imE (M++[(k,v)]):=by
 rw[oj (Cp h)];simp [imE]
theorem Fr {M:List (Int×AV)} {k:Int} {v:AV} (h:uC M k=false) (hd:DK (imE M)):DK (imE (M++[(k,v)])):=by
 have:imE (M++[(k,v)])=imE M++[(.int .i64 k,v)]:=by simp [imE]
 rw[this];exact vI hd (Cp h)
theorem Fq {M:List (Int×AV)} (h:∀e∈M,I64 e.1):KK Tryz.prog 3 (imE M)=True:=
 eq_true (sp.2 fun e he=>by
  obtain⟨x,hx,rfl⟩:=List.mem_map.1 he;exact (tE x.1).mpr (h x hx))
end Go.Proofs.YtephecognbbaoaaGreat
namespace Go.Proofs.YtephecognbbaoaaGreat
theorem wg {l:Lnk} {r:List Lnk} : ∀ {pre:List Lnk},lv (pre++l::r)→∀x∈pre,l.like x=false
 | [],_,_,hx=>by cases hx
 | y::pre,h,x,hx=>by
  rcases List.mem_cons.1 hx with rfl|hx
  ·exact h.1 l (by simp)
  ·exact wg h.2 x hx
def c9 (n:Net) (i:Int) (has:Int→Int) (pre:List Lnk):List (Int×AV):=(pre.filter fun l=>decide (l.fr=i)).map fun l=>(l.dst,ab (bc n l.edge (has l.dst)))
theorem Ce {n:Net} {i:Int} {has:Int→Int} {l:Lnk} {pre r:List Lnk} (h:lv (pre++l::r)) (hl:l.fr=i):uC (c9 n i has pre) l.dst=false:=by
 unfold uC c9;rw[List.any_eq_false];intro e he;obtain⟨x,hx,rfl⟩:=List.mem_map.1 he;have hx:=List.mem_filter.1 hx;have h1:=wg h x hx.1;have h2:x.fr=i:=by simpa using hx.2
 rw[decide_eq_true_eq];intro e;have e:x.dst=l.dst:=e;have:l.like x=true:=by simp [Lnk.like];omega
 rw[this] at h1
 cases h1
theorem uv {n:Net} {i:Int} {has:Int→Int} {l:Lnk} {pre:List Lnk} (hl:l.fr=i):c9 n i has (pre++[l])=c9 n i has pre++[(l.dst,ab (bc n l.edge (has l.dst)))]:=by
 simp [c9,List.filter_append,hl]
theorem uw {n:Net} {i:Int} {has:Int→Int} {l:Lnk} {pre:List Lnk} (hl:¬l.fr=i):c9 n i has (pre++[l])=c9 n i has pre:=by
 simp [c9,List.filter_append,hl]
theorem Cf (n:Net) (i:Int) (has:Int→Int) (k:Int) (hin:∀l∈n.links,0≤l.edge):qt (c9 n i has n.links) k=if 0≤aM n i k then some (ab (bc n (aM n i k) (has k))) else none:=by
 unfold aM;have key:∀(L:List Lnk),(∀l∈L,0≤l.edge)→qt (c9 n i has L) k=if 0≤((L.find? fun l=>decide (l.fr=i)&&decide (l.dst=k)).map (·.edge)).getD (-1) then some (ab (bc n (((L.find? fun l=>decide (l.fr=i)&&decide (l.dst=k)).map (·.edge)).getD (-1)) (has k))) else none:=by
  intro L
  induction L with
  | nil=>intro _;rfl
  | cons l L ih=>
   intro hL;have ih:=ih fun x hx=>hL x (by simp [hx])
   by_cases h1:l.fr=i
   ·have e:c9 n i has (l::L)=(l.dst,ab (bc n l.edge (has l.dst)))::c9 n i has L:=by simp [c9,h1]
    rw[e]
    by_cases h2:l.dst=k
    ·rw[List.find?_cons_of_pos (by simp [h1,h2])]
     unfold qt;rw[List.find?_cons_of_pos (by simpa using h2)]
     have h3:=hL l (by simp)
     simp only[Option.map_some,Option.getD_some];rw[if_pos h3,h2]
    ·rw[List.find?_cons_of_neg (by simp [h2]),←ih]
     unfold qt;rw[List.find?_cons_of_neg (by simpa using h2)]
   ·have e:c9 n i has (l::L)=c9 n i has L:=by simp [c9,h1]
    rw[e,List.find?_cons_of_neg (by simp [h1]),ih]
 exact key _ hin
theorem sO (n:Net) (i j:Int) (has:Int→Int) (pre:List Lnk) (l:Lnk):cq n i j has (pre++[l])=if l.fr=i then bq n (cq n i j has pre) (bc n l.edge (has l.dst)) else cq n i j has pre:=by
 unfold cq;rw[List.foldl_append];rfl
theorem um {n:Net} (hn:bI n) {i j:Int} {has:Int→Int} (hh:∀k,0≤k→k<n.nodes→0≤has k∧has k<n.alg.size) (L:List Lnk) (hL:∀l∈L,l∈n.links):0≤cq n i j has L∧cq n i j has L<n.alg.size:=by
 have s2:=hn.alg.s2;have:=oD hn i (fun l=>bc n l.edge (has l.dst)) L (if i=j then 0 else n.alg.size-1) (fun l hl=>let q:=hn.lnk l (hL l hl);iy hn ⟨q.e0,q.e1⟩ (hh _ q.d0 q.d1)) (by unfold InV;split<;>omega)
 exact this.1
theorem tB {n:Net} (hn:bI n) (i:Int) (H:Int→Int) {pre:List Lnk} (hp:∀l∈pre,l∈n.links):KK Tryz.prog 3 (imE (c9 n i H pre))=True:=Fq fun e hm=>by
 obtain⟨y,hy,rfl⟩:=List.mem_map.1 hm;have q:=hn.lnk y (hp y (List.mem_filter.1 hy).1);have h0:=q.d0;have h1:=q.d1;have h6:=hn.n6;show I64 y.dst;unfold I64;omega
theorem Dg (n:Net) (x:List (List Int)) (i j:Int) (hc:aI n=0) (hx:RowsIn n x) (hl:n.links.length≤5864062014634) (hi0:0≤i) (hi1:i<n.nodes) (hj0:0≤j) (hj1:j<n.nodes) (σ:aa) :
  af Tryz.prog 59 [.agg (aH n),aL x,ab i,ab j] σ fun r σ'=>σ'=σ∧r=ab (toL n i j fun k=>at2 x k j):=by
 have hn:=aU hc;have n1:=hn.n1;have n6:=hn.n6;have s2:=hn.alg.s2;have s24:=hn.alg.s24;have hbl:=hn.alg.bl;have hxl:=hx.len;have hap:=yS hc;have hh0:∀k,0≤k→k<n.nodes→0≤at2 x k j∧at2 x k j<n.alg.size:=fun k h0 h1=>sj hx ⟨h0,h1⟩ ⟨hj0,hj1⟩;obtain⟨H,hH⟩:∃H:Int→Int,H=fun k=>at2 x k j:=⟨_,rfl⟩;have hHk:∀k,at0 (at0 x k) j=H k:=fun k=>by rw[hH];rfl
 have hh:∀k,0≤k→k<n.nodes→0≤H k∧H k<n.alg.size:=fun k h0 h1=>by rw[hH];exact hh0 k h0 h1
 rw[←hH];refine af.cutX ?_
 by_cases hij:i=j
 ·have e:toL n i j H = -1:=by rw[toL,if_pos hij]
  rw[e];refine g_n Tryz.func59 rfl Tryz.results59 Tryz.ntmps59 ?_
  (repeat' (first|(refine g_s fun K hK=>?_)|(refine g_C (fun h=>?_) (fun h=>?_)<;>(try exact g_f))|((first|refine g_t ?_|refine g_g ?_);(try refine g_y ?_))|(refine hK _ _ ?_;clear hK K)|exact trivial|fail))
  exact ax rfl rfl
 ·refine g_n Tryz.func59 rfl Tryz.results59 Tryz.ntmps59 ?_;refine g_s fun K hK=>?_;refine g_h ?_;refine hK _ _ ?_;clear hK K;refine g_0 4 rfl ?_
  (repeat' (first|(refine g_s fun K hK=>?_)|(refine g_b ?_)|(refine g_k ?_;simp only[ah,ae])|(refine g_C (fun h=>?_) (fun h=>?_)<;>(try exact g_f))|((first|refine g_g ?_|refine (eC n.alg (by unfold I64;omega) _).use ?_);(try simp -implicitDefEqProofs only[go_sem,hij]))|(refine hK _ _ ?_;clear hK K)|fail))
  have hJ:=hK;clear hK;refine ay n.links (fun _ r pre=>n.links=pre++r∧DK (imE (c9 n i H pre))) (fun k pre _=>[(28,ab k),(10,ab (cq n i j H pre))])
   (fun _ pre τ=>σ++(.dead::.map (imE (c9 n i H pre))::τ)) [] [] ⟨rfl,trivial⟩ rfl (ai ?_) ?_ ?_
  ·simp -implicitDefEqProofs only[go_sem];simp [cq,hij]
  ·rintro k r pre τ hk0 hk1 ⟨hP,hD⟩ L hL;have hmem:=aA n.links hk0 hk1;obtain⟨l,hla⟩:∃l,at0 n.links k=l:=⟨_,rfl⟩;rw[hla] at hP hmem;have hlk:=hn.lnk l hmem;have hd0:=hlk.d0;have hd1:=hlk.d1;have he0:=hlk.e0;have he1:=hlk.e1;simp -implicitDefEqProofs only[go_sem]
   by_cases he:l.fr=i
   ·have hnew:=Ce (n:=n) (has:=H) (by rw[←hP];exact hap:lv (pre++l::r)) he
    have hri:=um hn (i:=i) (j:=j) hh pre (fun x hx=>by rw[hP];simp [hx])
    have hHd:=hh l.dst hd0 hd1;have hov:=iy hn ⟨he0,he1⟩ hHd;have hxr:=hx.row _ (aA x hd0 (by omega))
    have hbr:=hn.alg.best_len hri.1 hri.2;have her:=hn.alg.edge_len he0 he1;have hI:I64 l.dst:=by unfold I64;omega
    have hput:=Fh (ab (bc n l.edge (H l.dst))) hnew;have hD2:=Fr (v:=ab (bc n l.edge (H l.dst))) hnew hD;rw[←uv he] at hput hD2;have hp1:∀x∈pre,x∈n.links:=fun x hx=>by rw[hP];simp [hx]
    have hp2:∀x∈pre++[l],x∈n.links:=fun x hx=>by
     rcases List.mem_append.1 hx with hx|hx
     ·exact hp1 x hx
     ·rw[List.mem_singleton.1 hx];exact hmem
    have hKK:=tB hn i H hp1;have hKK2:=tB hn i H hp2;have hfind:fC (imE (c9 n i H (pre++[l]))) (.int .i64 l.dst)=some (ab (bc n l.edge (H l.dst))):=by
     rw[vv,uv he];unfold qt;rw[List.find?_append,List.find?_eq_none.2 (fun e hm=>by have:=List.any_eq_false.1 hnew e hm;exact this)]
     simp
    have hDa:=eq_true hD;have hDb:=eq_true hD2;have hov2:bc n l.edge (H l.dst)=at0 (at0 n.alg.edges l.edge) (H l.dst):=rfl;rw[hov2] at hput hfind hov;unfold ab at hput hfind
    (repeat' (first|(refine g_s fun K hK=>?_)|(refine g_b ?_)|(refine g_k ?_;simp only[ah,ae])|(refine g_C (fun h=>?_) (fun h=>?_)<;>(try exact g_f))|((first|refine g_g ?_|refine g_U ?_);(try simp -implicitDefEqProofs only[go_sem,hla,he,hHk,hput,hfind,hDa,hDb,hKK,hKK2]))|(refine hK _ _ ?_;clear hK K)|(with_reducible refine And.intro ?_ ?_;· exact g_x)|fail))
    refine hL (pre++[l]) (τ++[.cells 3 [df l]]) _ _ ⟨by rw[hP];simp,hD2⟩ (ai ?_) ?_
    ·simp -implicitDefEqProofs only[go_sem,sO,he,bq,bc]
    ·simp [df,ab,he]
   ·(repeat' (first|(refine g_s fun K hK=>?_)|(refine g_b ?_)|(refine g_k ?_;simp only[ah,ae])|(refine g_C (fun h=>?_) (fun h=>?_)<;>(try exact g_f))|(refine g_g ?_;(try simp -implicitDefEqProofs only[go_sem,hla,he]))|(refine hK _ _ ?_;clear hK K)|(with_reducible refine And.intro ?_ ?_;· exact g_x)|fail))
    refine hL (pre++[l]) (τ++[.cells 3 [df l]]) _ _ ⟨by rw[hP];simp,by rw[uw he];exact hD⟩ (ai ?_) ?_
    ·simp -implicitDefEqProofs only[go_sem,sO,he]
    ·rw[uw he];simp [df,ab]
  ·rintro k pre τ hk ⟨hP,hD⟩ L;rw[List.append_nil] at hP;subst hP;have hget:=fun k=>Cf n i H k fun l hl=>(hn.lnk l hl).e0;have hri:=um hn (i:=i) (j:=j) hh n.links (fun x hx=>hx);have hKK:=tB hn i H (pre:=n.links) fun x hx=>hx;have hDa:=eq_true hD;simp -implicitDefEqProofs only[go_sem]
   (repeat' (first|(refine g_s fun K hK=>?_)|(refine g_e ?_;simp only[ah,ae,↓reduceIte,Nat.reduceEqDiff])|(refine g_C (fun h=>?_) (fun h=>?_)<;>(try exact g_f))|(refine g_g ?_;(try refine g_y ?_))|(refine hK _ _ ?_;clear hK K)|exact trivial|fail))
   refine hJ _ _ ?_;clear hJ
   (repeat' (first|(refine g_s fun K hK=>?_)|(refine g_b ?_)|(refine g_k ?_;simp only[ah,ae])|(refine g_C (fun h=>?_) (fun h=>?_)<;>(try exact g_f))|((first|refine g_t ?_|refine g_g ?_);(try refine g_y ?_))|(refine hK _ _ ?_;clear hK K)|exact trivial|fail))
   ·exact ax rfl (by rw[toL,if_neg hij,if_pos (by assumption)])
   have hbest:¬cq n i j H n.links=n.alg.size-1:=by assumption
   have etl:toL n i j H=((ints n.nodes).find? fun k=>decide (0≤aM n i k)&&decide (bc n (aM n i k) (H k)=cq n i j H n.links)).getD (-1):=by
    rw[toL,if_neg hij,if_neg hbest]
    split<;>(rename_i h9;rw[h9];rfl)
   rw[etl];have hJ:=hK;clear hK;refine ay (ints n.nodes) (fun _ r _=>((ints n.nodes).find? fun k=>decide (0≤aM n i k)&&decide (bc n (aM n i k) (H k)=cq n i j H n.links))=r.find? fun k=>decide (0≤aM n i k)&&decide (bc n (aM n i k) (H k)=cq n i j H n.links))
    (fun q _ _=>[(74,ab q)]) (fun _ _ _=>σ++(.dead::.map (imE (c9 n i H n.links))::τ)) () [] rfl rfl (ai ?_) ?_ ?_
   ·exact g_w
   ·rintro q r9 _ τ9 hq0 hq1 h9 L9 hL9;rw[ao] at hq1;rw[cA hq0 (by omega)] at h9
    have hg9:=hget q;rw[←vv] at hg9;have hI:I64 q:=by unfold I64;omega
    by_cases he:0≤aM n i q
    ·rw[if_pos he] at hg9;obtain⟨v,hv⟩:∃v,bc n (aM n i q) (H q)=v:=⟨_,rfl⟩;rw[hv] at hg9;unfold ab at hg9
     by_cases hvb:v=cq n i j H n.links
     ·rw[List.find?_cons_of_pos (by simp [he,hv,hvb])] at h9
      rw[h9];simp -implicitDefEqProofs only[go_sem]
      (repeat' (first|(refine g_s fun K hK=>?_)|(refine g_b ?_)|(refine g_k ?_;simp only[ah,ae])|(refine g_C (fun h=>?_) (fun h=>?_)<;>(try exact g_f))|((first|refine g_t ?_|refine g_g ?_);(try simp -implicitDefEqProofs only[go_sem,hg9,hDa,hKK,hvb]))|(refine hK _ _ ?_;clear hK K)|(with_reducible refine And.intro ?_ ?_;· exact g_x)|fail))
      exact ax rfl rfl
     ·rw[List.find?_cons_of_neg (by simp [he,hv,hvb])] at h9
      simp -implicitDefEqProofs only[go_sem]
      (repeat' (first|(refine g_s fun K hK=>?_)|(refine g_b ?_)|(refine g_k ?_;simp only[ah,ae])|(refine g_C (fun h=>?_) (fun h=>?_)<;>(try exact g_f))|(refine g_g ?_;(try simp -implicitDefEqProofs only[go_sem,hg9,hDa,hKK,hvb]))|(refine hK _ _ ?_;clear hK K)|(with_reducible refine And.intro ?_ ?_;· exact g_x)|fail))
      refine hL9 () [] _ _ h9 (ai ?_) rfl;simp -implicitDefEqProofs only[go_sem]
    ·rw[if_neg he] at hg9;rw[List.find?_cons_of_neg (by simp [he])] at h9
     simp -implicitDefEqProofs only[go_sem]
     (repeat' (first|(refine g_s fun K hK=>?_)|(refine g_b ?_)|(refine g_k ?_;simp only[ah,ae])|(refine g_C (fun h=>?_) (fun h=>?_)<;>(try exact g_f))|(refine g_g ?_;(try simp -implicitDefEqProofs only[go_sem,hg9,hDa,hKK]))|(refine hK _ _ ?_;clear hK K)|(with_reducible refine And.intro ?_ ?_;· exact g_x)|fail))
     refine hL9 () [] _ _ h9 (ai ?_) rfl;simp -implicitDefEqProofs only[go_sem]
   ·rintro q _ τ9 hq h9 L9;rw[ao] at hq;simp -implicitDefEqProofs only[go_sem]
    (repeat' (first|(refine g_s fun K hK=>?_)|(refine g_e ?_;simp only[ah,ae,↓reduceIte,Nat.reduceEqDiff])|(refine g_C (fun h=>?_) (fun h=>?_)<;>(try exact g_f))|(refine g_g ?_;(try refine g_y ?_))|(refine hK _ _ ?_;clear hK K)|exact trivial|fail))
    refine hJ _ _ ?_;clear hJ
    (repeat' (first|(refine g_s fun K hK=>?_)|((first|refine g_t ?_|refine g_g ?_);(try refine g_y ?_))|(refine hK _ _ ?_;clear hK K)|exact trivial|fail))
    exact ax rfl (by rw[etl,h9];rfl)
end Go.Proofs.YtephecognbbaoaaGreat
namespace Go.Proofs.YtephecognbbaoaaGreat
def iu (n:Net) (x:List (List Int)) (i:Int):List Int:=(ints n.nodes).map fun j=>toR n i j fun k=>at2 x k j
theorem At (n:Net) (x:List (List Int)) (i j:Int) (hc:aI n=0) (hx:RowsIn n x) (hl:n.links.length≤5864062014634) (hi0:0≤i) (hi1:i<n.nodes) (hj0:0≤j) (hj1:j<n.nodes) (σ:aa) :
  af Tryz.prog 59 [.agg (aH n),aL x,ab i,ab j] σ fun r σ'=>σ'=σ∧r=ab (toR n i j fun k=>at2 x k j):=by
 rw[←Fl hc (has:=fun k=>at2 x k j) fun k h0 h1=>sj hx ⟨h0,h1⟩ ⟨hj0,hj1⟩];exact Dg n x i j hc hx hl hi0 hi1 hj0 hj1 σ
theorem xj (n:Net) (x:List (List Int)) (okn:dM n) (ok:dN x) (σ:aa):af Tryz.prog 24 [.agg (aH n),aL x] σ fun r σ'=>∃τ,σ'=σ++τ∧∃ids a,r = .tup [a,ab (da n x)]∧cT (σ++τ) σ.length n.nodes.toNat ids a (if da n x=0 then xk n x else []):=by
 have hF:=ou n x okn ok
 by_cases h0:da n x=0
 ·have hc:aI n=0:=by
   apply Classical.byContradiction;intro hc;rw[da,if_pos hc] at h0;exact hc h0
  have hx:RowsIn n x:=og (by rw[da,if_neg (by omega)] at h0;exact h0)
  have hn:=aU hc;have n1:=hn.n1;have n6:=hn.n6;have hl:=okn.len;rw[h0] at hF;rw[h0,if_pos rfl];obtain⟨M,hM⟩:∃M,(ints n.nodes).map (iu n x)=M:=⟨_,rfl⟩;have hMw:∀r∈M,r.length=n.nodes.toNat:=fun r hr=>by
   rw[←hM] at hr;obtain⟨i,_,rfl⟩:=List.mem_map.1 hr;rw[iu,List.length_map,ao]
  have hMl:M.length=n.nodes.toNat:=by rw[←hM,List.length_map,ao]
  have hMr:xk n x=M:=by rw[←hM];rfl
  rw[hMr];refine g_n Tryz.func24 rfl Tryz.results24 Tryz.ntmps24 ?_;refine g_s fun K hK=>?_;refine g_h ?_;refine hK _ _ ?_;clear hK K;refine g_0 2 rfl ?_
  (repeat' (first|(refine g_s fun K hK=>?_)|(refine g_b ?_)|(refine g_k ?_;simp only[ah,ae])|(refine g_C (fun h=>?_) (fun h=>?_)<;>(try exact g_f))|((first|refine g_g ?_|refine (hF _).use ?_);(try refine g_y ?_))|(refine hK _ _ ?_;clear hK K)|exact trivial|fail))
  obtain⟨ρ,hρ⟩:∃ρ:aa,σ++[.dead]=ρ:=⟨_,rfl⟩;have hlen:ρ.length=σ.length+1:=by rw[←hρ];simp
  rw[hρ];refine bn ?_;have hJ:=hK;clear hK;refine ay (ints n.nodes) (fun i r (s:List Nat×aa)=>∃M',M'++r.map (iu n x)=M∧aQ (ρ++s.2) ρ.length s.1 M'∧s.1.Nodup)
   (fun i s _=>[(19,ab i),(7,aq 1 (ρ.length+s.2.length) s.1)]) (fun _ s _=>ρ++(s.2++[ap (be n.nodes.toNat) 1 s.1])) ([],[]) [] ⟨[],hM,aQ.nil _ _,List.nodup_nil⟩ rfl (ai ?_) ?_ ?_
  ·simp -implicitDefEqProofs only[go_sem,aq]
  ·rintro i r ⟨q,T⟩ τ hi0 hi1 ⟨M',h3,h4,h5⟩ L hL;rw[ao] at hi1;rw[cA hi0 (by omega),List.map_cons] at h3
   have hql:q.length+1≤6:=by have:=congrArg List.length h3;have:=h4.1;simp at *;omega
   have h4:aQ (ρ++T) ρ.length q M':=h4;simp -implicitDefEqProofs only[go_sem]
   (repeat' (first|(refine g_s fun K hK=>?_)|(refine g_b ?_)|(refine g_k ?_;simp only[ah,ae])|(refine g_C (fun h=>?_) (fun h=>?_)<;>(try exact g_f))|(refine g_g ?_;(try refine g_y ?_))|(refine hK _ _ ?_;clear hK K)|exact trivial|fail))
   refine bn ?_;have hJ2:=hK;clear hK;refine ay (ints n.nodes) (fun j r row=>row++r.map (fun j=>toR n i j fun k=>at2 x k j)=iu n x i) (fun j row τ2=>[(24,ab j),(9,aq 1 (ρ.length+(T.length+(τ2.length+1))) row)]) (fun _ row τ2=>ρ++(T++ap (be n.nodes.toNat) 1 q::(τ2++[ap au 1 row]))) [] [] rfl ?_ (ai ?_) ?_ ?_
   ·simp [ap]
   ·simp -implicitDefEqProofs only[go_sem,aq,ap]
   ·rintro j rj row τ2 hj0 hj1 g4 L2 hL2;rw[ao] at hj1;rw[cA hj0 (by omega)] at g4
    have hrl:row.length+1≤6:=by have:=congrArg List.length g4;simp [iu,ao] at this;omega
    have hT:=fun S=>At n x i j hc hx hl hi0 (by omega) hj0 (by omega) S
    obtain⟨v,hv⟩:∃v,(toR n i j fun k=>at2 x k j)=v:=⟨_,rfl⟩;rw[hv] at hT;rw[List.map_cons,hv] at g4
    rcases row with _|⟨y,row⟩<;>simp only[List.length_cons,List.length_nil] at hrl<;>simp -implicitDefEqProofs only[go_sem,aq,ap]
    all_goals (repeat' (first|(refine g_s fun K hK=>?_)|(refine g_b ?_)|(refine g_k ?_;simp only[ah,ae])|(refine g_C (fun h=>?_) (fun h=>?_)<;>(try exact g_f))|((first|refine g_g ?_|refine (hT _).use ?_);(try refine g_y ?_))|(refine hK _ _ ?_;clear hK K)|(with_reducible refine And.intro ?_ ?_;· exact g_x)|exact trivial|fail))
    ·refine hL2 [v] (τ2++[.dead,.cells 1 [[ab v]]]) _ _ (by simpa using g4) (ai ?_) ?_
     ·simp -implicitDefEqProofs only[go_sem,aq]
     ·simp [ap,au,ab]
    ·refine hL2 (y::row++[v]) (τ2++[.dead,.cells 1 [[ab v]]]) _ _ (by simpa using g4) (ai ?_) ?_
     ·simp -implicitDefEqProofs only[go_sem,aq]
     ·simp [ap,au,ab]
   ·rintro j row τ2 hj g4 L2;rw[ao] at hj;rw[List.map_nil,List.append_nil] at g4;have hrl:row.length=n.nodes.toNat:=by rw[g4,iu,List.length_map,ao]
    rcases row with _|⟨y0,row⟩
    ·simp at hrl;omega
    simp only[List.length_cons] at hrl;have hN:∀X,aQ (ρ++(T++.dead::(τ2++.cells 1 ((y0::row).map au)::X))) ρ.length (q++[ρ.length+(T.length+(τ2.length+1))]) (M'++[y0::row]):=fun X=>by
     refine aQ.snoc (h4.congr (Nat.le_refl _) fun b hb o ho=>?_) (by omega) ?_
     ·rw[←List.append_assoc];exact az ho
     ·rw[List.getElem?_append_right (by omega),Nat.add_sub_cancel_left,List.getElem?_append_right (by omega),Nat.add_sub_cancel_left,List.getElem?_cons_succ,List.getElem?_append_right (by omega),Nat.sub_self]
      rfl
    have hNd:(q++[ρ.length+(T.length+(τ2.length+1))]).Nodup:=by
     rw[List.nodup_append];refine⟨h5,by simp,fun a ha b hb=>?_⟩
     have:=(h4.lt a ha).1;rw[List.length_append] at this;rw[List.mem_singleton.1 hb];omega
    rcases q with _|⟨y,q⟩<;>simp only[List.length_cons,List.length_nil] at hql<;>simp -implicitDefEqProofs only[go_sem,aq,ap]
    all_goals
     (repeat' (first|(refine g_s fun K hK=>?_)|(refine g_e ?_;simp only[ah,ae,↓reduceIte,Nat.reduceEqDiff])|(refine g_C (fun h=>?_) (fun h=>?_)<;>(try exact g_f))|(refine g_g ?_;(try refine g_y ?_))|(refine hK _ _ ?_;clear hK K)|exact trivial|fail))
     refine hJ2 _ _ ?_;clear hJ2
     (repeat' (first|(refine g_g ?_;(try simp -implicitDefEqProofs only[go_sem,hrl]))|(clear hK K;first|(refine hK _ _ ?_;clear hK K)|(clear hK K;with_reducible refine hK _ _ ?_;clear hK K)|(clear hK K;clear hK K;with_reducible refine hK _ _ ?_;clear hK K))|(with_reducible refine And.intro ?_ ?_;· exact g_x)|fail))
    ·refine hL ([]++[ρ.length+(T.length+(τ2.length+1))],T++.dead::(τ2++[.cells 1 ((y0::row).map au),.cells 1 [be n.nodes.toNat (ρ.length+(T.length+(τ2.length+1)))]])) τ _ _ ⟨M'++[y0::row],by rw[g4];simpa using h3,hN _,hNd⟩ (ai ?_) ?_
     ·simp -implicitDefEqProofs only[go_sem,aq,be]
     ·simp [ap,be]
    ·refine hL ((y::q)++[ρ.length+(T.length+(τ2.length+1))],T++.dead::(τ2++[.cells 1 ((y0::row).map au),.cells 1 [be n.nodes.toNat (ρ.length+(T.length+(τ2.length+1)))]])) τ _ _ ⟨M'++[y0::row],by rw[g4];simpa using h3,hN _,hNd⟩ (ai ?_) ?_
     ·simp -implicitDefEqProofs only[go_sem,aq,be]
     ·simp [ap,be]
  ·rintro i ⟨q,T⟩ τ hi ⟨M',h3,h4,h5⟩ L;rw[ao] at hi;simp -implicitDefEqProofs only[go_sem]
   (repeat' (first|(refine g_s fun K hK=>?_)|(refine g_e ?_;simp only[ah,ae,↓reduceIte,Nat.reduceEqDiff])|(refine g_C (fun h=>?_) (fun h=>?_)<;>(try exact g_f))|(refine g_g ?_;(try refine g_y ?_))|(refine hK _ _ ?_;clear hK K)|exact trivial|fail))
   refine hJ _ _ ?_;clear hJ;have h4:aQ (ρ++T) ρ.length q M':=h4;have h5:q.Nodup:=h5;have h3:M'=M:=by simpa using h3
   subst h3;have hl:=h4.1
   rcases q with _|⟨y,q⟩
   ·rw[←hl] at hMl;simp at hMl;omega
   simp -implicitDefEqProofs only[go_sem,aq,ap]
   (repeat' (first|(refine g_s fun K hK=>?_)|((first|refine g_t ?_|refine g_g ?_);(try refine g_y ?_))|(refine hK _ _ ?_;clear hK K)|exact trivial|fail))
   have hl:q.length+1=M'.length:=h4.1;refine⟨.dead::(T++[.cells 1 ((y::q).map (be n.nodes.toNat))]),by rw[←hρ];simp,(ρ.length+T.length)::y::q,_,rfl,hMw,.inr ⟨_,y::q,rfl,?_,?_,by rw[hl],by omega,?_,?_⟩⟩
   ·rw[List.nodup_cons];refine⟨fun hm=>?_,h5⟩;have:=(h4.lt _ hm).1;simp only[List.length_append] at this;omega
   ·intro e;rw[e] at hl;simp at hl
   ·have e9:ρ.length+T.length=σ.length+(T.length+1):=by omega
    rw[e9,List.getElem?_append_right (by omega),Nat.add_sub_cancel_left,List.getElem?_cons_succ,List.getElem?_append_right (by omega),Nat.sub_self]
    rfl
   ·have h9:=h4.congr (lo':=σ.length) (S':=ρ++(T++[.cells 1 ((y::q).map (be n.nodes.toNat))])) (by omega) fun b hb o ho=>by
     rw[←List.append_assoc];exact az ho
    rw[←hρ] at h9
    simpa using h9
 ·rw[if_neg h0];refine g_n Tryz.func24 rfl Tryz.results24 Tryz.ntmps24 ?_
  (repeat' (first|(refine g_s fun K hK=>?_)|(refine g_C (fun h=>?_) (fun h=>?_)<;>(try exact g_f))|((first|refine g_t ?_|refine g_g ?_|refine (hF _).use ?_);(try simp -implicitDefEqProofs only[go_sem,h0]))|(refine hK _ _ ?_;clear hK K)|fail))
  exact⟨_,rfl,[],_,rfl,fun r hr=>(by cases hr),.inl ⟨rfl,rfl,rfl⟩⟩
end Go.Proofs.YtephecognbbaoaaGreat
namespace Go.Proofs.YtephecognbbaoaaGreat
def ng (S:aa) (lo:Nat) (r:AV) (A:Alg):Prop:=∃ids a bi bv,r = .agg [ab A.size,bv,a]∧cT S lo A.size.toNat ids a A.edges∧cT S lo A.size.toNat bi bv A.best∧∀x∈bi,x∉ids
theorem qQ (n k:Int) (e:List Int) (ps:List Pl) (f:FuncId) (F:Int→Int→Int) (hn:1≤n∧n≤22) (he:e.length≤24) (hok:aw Tryz.prog f=true)
  (hF:∀x∈e,∀a,0≤a→a<n+1→∀S,af Tryz.prog f [ab x,ab a] S fun r S'=>S'=S∧r=ab (F x a)) (σ:aa) :
  af Tryz.prog 105 [.agg (plC (.mk k n e ps)),.fn f [] []] σ fun r σ'=>∃τ,σ'=σ++τ∧ng (σ++τ) σ.length r (co n e F):=by
 have hT1:=lk 135 [] [] (fun i k=>min i k) (n+2) (n+2) (by omega) (by omega) (by omega) (by omega) (by kernel_rfl) (fun i k _ _ _ _ S=>Do i k S)
 have hT2:=lk 136 [] [.cp [ab (n+2)] 0,.cp [.fn f [] []] 0,.cp (plC (.mk k n e ps)) 0] (fun i a=>if a=n+1 then a else min (F (at0 e i) a) (n+1)) e.length (n+2) (by omega) (by omega) (by omega) (by omega) (by kernel_rfl)
  (fun i a i0 i1 a0 a1 S=>Dn n k i a e ps f F hn i0 i1 ⟨a0,a1⟩ hok (fun hne S=>hF _ (aA e i0 i1) a a0 (by omega) S) S)
 have hE:((ints e.length).map fun i=>(ints (n+2)).map fun a=>if a=n+1 then a else min (F (at0 e i) a) (n+1))=(co n e F).edges:=Ff (fun x=>(ints (n+2)).map fun a=>if a=n+1 then a else min (F x a) (n+1)) e
 have hB:((ints (n+2)).map fun i=>(ints (n+2)).map fun k=>min i k)=(co n e F).best:=rfl;have h2:I64 (n+2):=by unfold I64;omega
 rw[a7] at hT2 ⊢;refine g_n Tryz.func105 rfl Tryz.results105 Tryz.ntmps105 ?_;refine g_s fun K hK=>?_;refine g_h ?_;refine hK _ _ ?_;clear hK K;refine g_0 2 rfl ?_;refine g_0 3 rfl ?_;refine g_s fun K hK=>?_
 (refine cU ?_;simp -implicitDefEqProofs only[go_sem,h2])
 refine hK _ _ ?_;clear hK K;refine aC 5 rfl (by first|rfl|(simp -implicitDefEqProofs only[go_sem];done)|(simp -implicitDefEqProofs only[go_sem];rfl)) ?_
 simp -implicitDefEqProofs only[go_sem]
 (repeat' (first|(refine g_s fun K hK=>?_)|(refine g_g ?_;(try refine g_y ?_))|(refine hK _ _ ?_;clear hK K)|exact trivial|fail))
 refine af.useX (hT1 _) ?_;rintro τ1 r1 ⟨ids1,g1⟩;rw[hB] at g1;rw[List.append_assoc] at g1;have w1:(co n e F).size=n+2:=rfl
 rcases g1.form with rfl|⟨b1,m1,rfl⟩
 all_goals
  simp -implicitDefEqProofs only[go_sem]
  (repeat' (first|(refine g_s fun K hK=>?_)|(refine g_g ?_;(try refine g_y ?_))|(refine hK _ _ ?_;clear hK K)|exact trivial|fail))
  refine af.useX (hT2 _) ?_;rintro τ r ⟨ids,h⟩;rw[hE] at h;rw[List.append_assoc] at h
  rcases h.form with rfl|⟨b,m,rfl⟩
  all_goals
   simp -implicitDefEqProofs only[go_sem]
   (repeat' (first|(refine g_s fun K hK=>?_)|((first|refine g_t ?_|refine g_g ?_);(try refine g_y ?_))|(refine hK _ _ ?_;clear hK K)|exact trivial|fail))
   have g2:=g1.congr (S':=_++τ) (Nat.le_refl _) fun b _ o ho=>az ho;simp only[List.append_assoc,List.cons_append,List.nil_append] at g2;exact⟨_,rfl,ids,_,ids1,_,rfl,h.skip (k:=5) (by simp) rfl,g2.skip (k:=5) (by simp) rfl,fun x hx hi=>by
    have l1:=(g1.lt x hx).1;have l2:=(h.lt x hi).2;simp at l1 l2;omega⟩
theorem zy (x y:Alg) (fx:ce x) (fy:ce y) (he:x.edges.length=y.edges.length) (h24:(x.size-1)*(y.size-1)+1≤24) (hel:x.edges.length≤24) (σ:aa) :
  af Tryz.prog 108 [.agg (aS x),.agg (aS y)] σ fun r σ'=>∃τ,σ'=σ++τ∧ng (σ++τ) σ.length r (dd x y):=by
 have hN:=iD fx fy;have x2:=fx.s2;have x24:=fx.s24;have y2:=fy.s2;have y24:=fy.s24;have hT1:=lk 138 [] [.cp [ab ((x.size-1)*(y.size-1))] 0,.cp [ab (y.size-1)] 0,.cp [.fn 137 [] [.cp (aS x) 0,.cp [ab (y.size-1)] 0,.cp [ab ((x.size-1)*(y.size-1))] 0]] 0,.cp (aS y) 0,.cp (aS x) 0] (bf x y)
  ((x.size-1)*(y.size-1)+1) ((x.size-1)*(y.size-1)+1) (by omega) (by omega) (by omega) (by omega) (by kernel_rfl) (fun i k i0 i1 k0 k1 S=>DC x y fx fy i k i0 i1 k0 k1 S)
 have hT2:=lk 139 [] [.cp [ab ((x.size-1)*(y.size-1))] 0,.cp [.fn 137 [] [.cp (aS x) 0,.cp [ab (y.size-1)] 0,.cp [ab ((x.size-1)*(y.size-1))] 0]] 0,.cp (aS x) 0,.cp [ab (y.size-1)] 0,.cp (aS y) 0] (cx x y)
  x.edges.length ((x.size-1)*(y.size-1)+1) (by omega) (by omega) (by omega) (by omega) (by kernel_rfl) (fun e k e0 e1 k0 k1 S=>DB x y fx fy he e k e0 e1 k0 k1 S)
 have hE:((ints x.edges.length).map fun e=>(ints ((x.size-1)*(y.size-1)+1)).map (cx x y e))=(dd x y).edges:=rfl;have hs:(dd x y).size=(x.size-1)*(y.size-1)+1:=rfl;have hB:(dd x y).best=((ints ((x.size-1)*(y.size-1)+1)).map fun i=>(ints ((x.size-1)*(y.size-1)+1)).map (bf x y i)):=rfl;have i1:I64 (x.size-1):=by unfold I64;omega
 have i2:I64 (y.size-1):=by unfold I64;omega
 have hX:∀(S:aa) (lo:Nat) (r:AV),ng S lo r (dd x y)=∃ids a bi bv,r = .agg [ab ((x.size-1)*(y.size-1)+1),bv,a]∧cT S lo ((x.size-1)*(y.size-1)+1).toNat ids a (dd x y).edges∧cT S lo ((x.size-1)*(y.size-1)+1).toNat bi bv (dd x y).best∧∀x∈bi,x∉ids:=fun _ _ _=>rfl;simp only[hX];rw[hE] at hT2;rw[←hB] at hT1;obtain⟨bests,hbests⟩:∃b,(dd x y).best=b:=⟨_,rfl⟩;obtain⟨edges,hedges⟩:∃b,(dd x y).edges=b:=⟨_,rfl⟩;rw[hbests] at hT1 ⊢;rw[hedges] at hT2 ⊢;clear hX hE hs hB;obtain⟨L,hL⟩:∃L,(x.size-1)*(y.size-1)=L:=⟨_,rfl⟩;rw[hL] at hT1 hT2 hN h24 ⊢;have i3:I64 L:=by unfold I64;omega
 have i4:I64 (L+1):=by unfold I64;omega
 refine g_n Tryz.func108 rfl Tryz.results108 Tryz.ntmps108 ?_;refine g_s fun K hK=>?_;refine g_h ?_;refine hK _ _ ?_;clear hK K;refine g_0 2 rfl ?_;refine g_0 3 rfl ?_;refine g_s fun K hK=>?_
 (refine cU ?_;simp -implicitDefEqProofs only[go_sem,i2])
 refine hK _ _ ?_;clear hK K;refine aC 5 rfl (by first|rfl|(simp -implicitDefEqProofs only[go_sem];done)|(simp -implicitDefEqProofs only[go_sem];rfl)) ?_
 simp -implicitDefEqProofs only[go_sem];refine g_s fun K hK=>?_
 (refine cU ?_;simp -implicitDefEqProofs only[go_sem,i1,hL,i3])
 refine hK _ _ ?_;clear hK K;refine aC 6 rfl (by first|rfl|(simp -implicitDefEqProofs only[go_sem];done)|(simp -implicitDefEqProofs only[go_sem];rfl)) ?_
 simp -implicitDefEqProofs only[go_sem];refine g_s fun K hK=>?_
 (refine cU ?_;simp -implicitDefEqProofs only[go_sem,i4])
 refine hK _ _ ?_;clear hK K;refine g_s fun K hK=>?_;refine g_h ?_;refine hK _ _ ?_;clear hK K;refine aC 8 rfl (by first|rfl|(simp -implicitDefEqProofs only[go_sem];done)|(simp -implicitDefEqProofs only[go_sem];rfl)) ?_
 simp -implicitDefEqProofs only[go_sem]
 (repeat' (first|(refine g_s fun K hK=>?_)|(refine g_g ?_;(try simp -implicitDefEqProofs only[go_sem,i4]))|fail))
 refine af.useX (hT1 _) ?_;rintro τ1 r1 ⟨ids1,g1⟩;rw[List.append_assoc] at g1
 rcases g1.form with rfl|⟨b1,m1,rfl⟩
 all_goals
  simp -implicitDefEqProofs only[go_sem]
  (repeat' (first|(refine g_s fun K hK=>?_)|(refine g_g ?_;(try simp -implicitDefEqProofs only[go_sem,i4]))|(refine hK _ _ ?_;clear hK K)|fail))
  refine af.useX (hT2 _) ?_;rintro τ r ⟨ids,h⟩;rw[List.append_assoc] at h
  rcases h.form with rfl|⟨b,m,rfl⟩
  all_goals
   simp -implicitDefEqProofs only[go_sem]
   (repeat' (first|(refine g_s fun K hK=>?_)|((first|refine g_t ?_|refine g_g ?_);(try refine g_y ?_))|(refine hK _ _ ?_;clear hK K)|exact trivial|fail))
   have g2:=g1.congr (S':=_++τ) (Nat.le_refl _) fun b _ o ho=>az ho;simp only[List.append_assoc,List.cons_append,List.nil_append] at g2;exact⟨_,rfl,ids,_,ids1,_,rfl,h.skip (k:=7) (by simp) rfl,g2.skip (k:=7) (by simp) rfl,fun x hx hi=>by
    have l1:=(g1.lt x hx).1;have l2:=(h.lt x hi).2;simp at l1 l2;omega⟩
end Go.Proofs.YtephecognbbaoaaGreat
