/- Engines stay such as they came in. -/
import Derived.Test.YtephecognbbaoaaGreatZEi
import Derived.Test.YtephecognbbaoaaGreatZFi
import Derived.Test.YtephecognbbaoaaGreatZHd
import Derived.Test.YtephecognbbaoaaGreatZPs
open Go
set_option linter.all false
set_option maxRecDepth 100000
set_option maxHeartbeats 4000000
namespace Go.Proofs.YtephecognbbaoaaGreat
open Go
set_option linter.all false
theorem tK {n:Net} (hn:bI n) {e:Eng} (he:a8 n e) (hb:cu e):cj e:=by
 have n6:=hn.n6;have h1:=he.len;have h2:=he.bag;refine⟨by omega,fun r hr=>?_,by omega,fun m hm=>?_⟩
 ·have h:=he.rtr r hr;have h3:=h.rl;have h4:=h.tl;refine⟨by omega,by omega,fun l hl=>?_⟩
  rcases h.tr l hl with rfl|⟨h5,_⟩
  ·exact Nat.zero_le _
  ·omega
 ·have h:=he.mail m hm;have h3:=h.fr;have h4:=h.dst;have h5:=h.len;exact⟨by unfold I64;omega,by unfold I64;omega,by omega,hb m hm⟩
theorem Fm {n:Net} (hc:aI n=0) {e:Eng} (he:a8 n e) (hb:cu e) {a:Int} (ha:0≤a∧a<n.nodes):cu (gL n e a).1:=by
 have hn:=aU hc;have n1:=hn.n1;unfold gL
 split
 ·exact hb
 ·intro m hm
  rcases List.mem_append.1 hm with hm|hm
  ·exact hb m hm
  ·obtain⟨k,hk,rfl⟩:=List.mem_map.1 hm;exact rf (Ah hn (by rw[fM];omega) (tC hc (gu he ha) a) ha (iB.1 hk).1)
theorem E9 {n:Net} {e:Eng} (hb:cu e) {v:Evt} (h0:0≤v.at') (h1:v.at'<e.bag.length):cu (fH e v).1:=by
 unfold fH
 split
 ·exact hb
 ·intro m hm
  rcases nD hm with hm|rfl
  ·exact hb m hm
  ·intro c hcm
   rcases nD hcm with hcm|rfl
   ·exact hb _ (aA e.bag h0 h1) c hcm
   ·exact w9 _ _
theorem Fn {n:Net} {e:Eng} (hb:cu e) (m:bg):cu (lh n e m):=by
 unfold lh
 split
 ·exact hb
 ·exact hb
theorem Fo {n:Net} (hc:aI n=0) {e:Eng} (he:a8 n e) (hb:cu e) (v:Evt):cu (aN n e v).1:=by
 unfold aN
 split
 ·exact hb
 ·split
  ·split
   ·exact hb
   ·rename_i h1
    rw[ci] at h1
    split
    ·exact Fn (fun m hm=>hb m (List.mem_of_mem_eraseIdx hm)) _
    ·split
     ·split
      ·exact hb
      ·intro m hm
       rcases List.mem_append.1 hm with hm|hm
       ·exact hb m hm
       ·rw[List.mem_singleton.1 hm];exact hb _ (aA e.bag (by omega) (by omega))
     ·split
      ·exact fun m hm=>hb m (List.mem_of_mem_eraseIdx hm)
      ·exact E9 (n:=n) hb (by omega) (by omega)
  ·split
   ·exact hb
   ·rename_i h1
    rw[ci] at h1
    split
    ·exact Fm hc he hb (by omega)
    ·split
     ·split<;>exact hb
     ·split<;>exact hb
end Go.Proofs.YtephecognbbaoaaGreat
namespace Go.Proofs.YtephecognbbaoaaGreat
theorem bW.put {S:aa} {D:Nat→Prop} {l l':List (List AV)} {a c:List AV} (h:bW S D l l') (k:Nat) (ha:cG S D a c):bW S D (l.set k a) (l'.set k c):=
 ⟨by simp [h.1],fun i h1 h2=>by
  rw[List.getElem_set,List.getElem_set]
  split
  ·exact ha
  ·exact h.2 i (by simpa using h1) (by simpa using h2)⟩
theorem wH (n:Net) (e:Eng) (hc:aI n=0) (hl:n.links.length≤5864062014634) (he:a8 n e) (hby:cu e) (ok:cj e) (K1 at' b c:Int) (rts:List Int) (hat:I64 at') (hb:I64 b) (hcc:I64 c) (hrts:rts.length≤17592186044000) (h0:0≤at') (h1:at'<n.nodes) (hr:aY n rts≠0) (σ:aa) :
  af Tryz.prog 27 [.agg (aH n),.agg (ba e),.agg (cl ⟨7,at',b,c,rts⟩)] σ fun r σ'=>σ'=σ∧r = .tup [.agg (ba noE),ab (aY n rts)]:=by
 have hn:=aU hc;have n1:=hn.n1;have n6:=hn.n6;have hel:=he.len;have hbag:=he.bag;have hB:=bp 7 1 7 true (by decide)
 have hB2:=bp 7 2 5 false (by decide)
 have hB3:=f7 n at' true (by unfold I64;omega) (aG.2 (by omega))
 have hx:I64 (n.alg.size-1):=by have:=hn.alg.s2;have:=hn.alg.s24;unfold I64;omega
 have hRw:=fun S=>eP n rts hx (by omega) S
 refine af.deep ?_;refine g_n Tryz.func27 rfl Tryz.results27 Tryz.ntmps27 ?_;refine g_s fun K hK=>?_;refine g_h ?_;refine hK _ _ ?_;clear hK K;refine aC 3 rfl (by first|rfl|(simp -implicitDefEqProofs only[go_sem];done)|(simp -implicitDefEqProofs only[go_sem];rfl)) ?_
 simp only[ss0,List.set_cons_zero];refine aC 4 rfl (by first|rfl|(simp -implicitDefEqProofs only[go_sem];done)|(simp -implicitDefEqProofs only[go_sem];rfl)) ?_
 simp only[ss1,List.set_cons_zero,List.set_cons_succ];refine aC 5 rfl (by first|rfl|(simp -implicitDefEqProofs only[go_sem];done)|(simp -implicitDefEqProofs only[go_sem];rfl)) ?_
 simp only[ss1,List.set_cons_zero,List.set_cons_succ]
 (repeat' (first|(refine g_s fun K hK=>?_)|(refine g_b ?_)|(refine g_k ?_;simp only[ah,ae])|(refine g_C (fun h=>?_) (fun h=>?_)<;>(try exact g_f))|((first|refine g_t ?_|refine g_g ?_|refine (hB _).use ?_|refine (hB2 _).use ?_|refine (hB3 _).use ?_|refine (hRw _).use ?_);(try simp -implicitDefEqProofs only[go_sem,hr]))|(refine hK _ _ ?_;clear hK K)|(with_reducible refine ak (fun h=>?_) (fun h=>?_)<;>(try simp only[go_sem] at h)<;>(try exact g_f)<;>(try simp -implicitDefEqProofs only[go_sem,hr]))|fail))
 exact bL rfl (.tupL (.cons (.eng _) (.cons (.c _) .nil))) (.tupL (.cons (.aggL (.cons .nil (.cons .nil .nil))) (.cons (.same _) .nil)))
theorem vh (n:Net) (e:Eng) (hc:aI n=0) (hl:n.links.length≤5864062014634) (he:a8 n e) (hby:cu e) (ok:cj e) (K1 at' b c:Int) (rts:List Int) (hat:I64 at') (hb:I64 b) (hcc:I64 c) (hrts:rts.length≤17592186044000) (h0:0≤at') (h1:at'<n.nodes) (hr:aY n rts=0) (σ:aa) :
  af Tryz.prog 27 [.agg (aH n),.agg (ba e),.agg (cl ⟨7,at',b,c,rts⟩)] σ fun r σ'=>σ'=σ∧r = .tup [.agg (ba (aR e at' (dD n rts))),ab 0]:=by
 have hn:=aU hc;have n1:=hn.n1;have n6:=hn.n6;have hel:=he.len;have hbag:=he.bag;have hB:=bp 7 1 7 true (by decide)
 have hB2:=bp 7 2 5 false (by decide)
 have hB3:=f7 n at' true (by unfold I64;omega) (aG.2 (by omega))
 have hx:I64 (n.alg.size-1):=by have:=hn.alg.s2;have:=hn.alg.s24;unfold I64;omega
 have hRw:=fun S=>eP n rts hx (by omega) S
 rw[hr] at hRw;refine af.deep ?_;refine g_n Tryz.func27 rfl Tryz.results27 Tryz.ntmps27 ?_;refine g_s fun K hK=>?_;refine g_h ?_;refine hK _ _ ?_;clear hK K;refine aC 3 rfl (by first|rfl|(simp -implicitDefEqProofs only[go_sem];done)|(simp -implicitDefEqProofs only[go_sem];rfl)) ?_
 simp only[ss0,List.set_cons_zero];refine aC 4 rfl (by first|rfl|(simp -implicitDefEqProofs only[go_sem];done)|(simp -implicitDefEqProofs only[go_sem];rfl)) ?_
 simp only[ss1,List.set_cons_zero,List.set_cons_succ];refine aC 5 rfl (by first|rfl|(simp -implicitDefEqProofs only[go_sem];done)|(simp -implicitDefEqProofs only[go_sem];rfl)) ?_
 simp only[ss1,List.set_cons_zero,List.set_cons_succ]
 (repeat' (first|(refine g_s fun K hK=>?_)|(refine g_b ?_)|(refine g_k ?_;simp only[ah,ae])|(refine g_C (fun h=>?_) (fun h=>?_)<;>(try exact g_f))|((first|refine g_g ?_|refine (hB _).use ?_|refine (hB2 _).use ?_|refine (hB3 _).use ?_|refine (hRw _).use ?_);(try refine g_y ?_))|(refine hK _ _ ?_;clear hK K)|(with_reducible refine ak (fun h=>?_) (fun h=>?_)<;>(try simp only[go_sem] at h)<;>(try exact g_f)<;>(try refine g_y ?_))|exact trivial|fail))
 obtain⟨ρ,hρ⟩:∃ρ:aa,σ++[.dead,.dead,.dead,.cells 2 [[.c (.slice none 0 0),.c (.slice none 0 0)]]]=ρ:=⟨_,rfl⟩;have hlen:ρ.length=σ.length+4:=by rw[←hρ];simp
 have hcL:∀X,(ρ++X)[σ.length+3]? = some (.cells 2 [[.c (.slice none 0 0),.c (.slice none 0 0)]]):=fun X=>by rw[←hρ];exact az (by simp)
 have hcS:∀X o,(ρ++X).set (σ.length+3) o=σ++([.dead,.dead,.dead,o]++X):=fun X o=>by
  rw[←hρ,List.append_assoc,List.set_append_right _ _ (by omega),Nat.add_sub_cancel_left]
  rfl
 rw[hρ];refine (fg n e hn he ok ρ).mono ?_;rintro r S' ⟨τ,rfl,rb,acc,gv,gi,rfl,hM⟩;obtain⟨gb,rfl,rfl,hgb⟩:=hM.bag;have hir:at'<e.routers.length:=by omega
 have hrl:=(cM.1 hr).1;obtain⟨ro,to,q1,q2,q3,q4⟩:=hM.at h0 hir;have hKe:bX σ (ρ++τ):=⟨[.dead,.dead,.dead,.cells 2 [[.c (.slice none 0 0),.c (.slice none 0 0)]]]++τ,by rw[←hρ,List.append_assoc]⟩
 have hcL0:(ρ++τ)[σ.length+3]? = some (.cells 2 [[.c (.slice none 0 0),.c (.slice none 0 0)]]):=hcL τ;have hlo:ρ.length≤(ρ++τ).length:=by simp
 clear hcL hcS;obtain⟨γ,hγ⟩:∃γ,ρ++τ=γ:=⟨_,rfl⟩;rw[hγ] at hM hKe hcL0 hlo ⊢;have hal:(acc.map cB).length=e.routers.length:=by rw[List.length_map,hM.len]
 have hcl:=(List.getElem?_eq_some_iff.1 hcL0).1;have hrlt:=(List.getElem?_eq_some_iff.1 hM.hrb).1;have hrlo:=hM.lo rb (by simp [cb])
 have hrL:∀X,(γ++X)[rb]? = some (.cells 2 (acc.map cB)):=fun X=>az hM.hrb;have hrS:∀X o,(γ++X).set rb o=γ.set rb o++X:=fun X o=>bt hM.hrb;have hbD:∀o o' X,(γ.set rb o'++o::X)[γ.length]? = some o:=fun o o' X=>by
  rw[List.getElem?_append_right (by simp),List.length_set,Nat.sub_self]
  rfl
 have hcD0:∀o,(γ.set rb o)[σ.length+3]? = some (.cells 2 [[.c (.slice none 0 0),.c (.slice none 0 0)]]):=fun o=>aT hcL0 (by omega)
 have hcD:∀o X,(γ.set rb o++X)[σ.length+3]? = some (.cells 2 [[.c (.slice none 0 0),.c (.slice none 0 0)]]):=fun o X=>az (hcD0 o);have hcE:∀o X o',(γ.set rb o++X).set (σ.length+3) o'=(γ.set rb o).set (σ.length+3) o'++X:=fun o X o'=>bt (hcD0 o);have hcF:∀o o' X,((γ.set rb o).set (σ.length+3) o'++X)[σ.length+3]? = some o':=fun o o' X=>az (bJ (hcD0 o));simp only[cB] at q2;simp -implicitDefEqProofs only[go_sem]
 (repeat' (first|(refine g_s fun K hK=>?_)|((first|refine g_t ?_|refine g_g ?_|refine wm false a9 (by decide +kernel) ?_);(try simp -implicitDefEqProofs only[go_sem,hrL,hrS,hal,hbD,hcD,hcE,hcF,hrl,q2]))|(refine hK _ _ ?_;clear hK K)|(with_reducible refine And.intro ?_ ?_;· exact g_x)|fail))
 obtain⟨o1,ho1⟩:∃o1:Ob,o1 = .cells 2 ((acc.map cB).set at'.toNat [.own (γ.length+2) 1 0 rts.length rts.length,.sl (List.replicate n.nodes.toNat [.c (.slice none 0 0)])]):=⟨_,rfl⟩;obtain⟨o2,ho2⟩:∃o2:Ob,o2 = .cells 2 [[.own rb 2 0 e.routers.length e.routers.length,.own gb 3 0 e.bag.length e.bag.length]]:=⟨_,rfl⟩;rw[←ho1,←ho2];obtain⟨T,hT⟩:bX σ ((γ.set rb o1).set (σ.length+3) o2++[o2,.dead,.cells 1 (rts.map au)]):=((hKe.set (by omega)).set (by omega)).app
 have hnd:=hM.nd;rw[cb,←List.append_assoc,List.nodup_cons] at hnd;have hrows:bW ((γ.set rb o1).set (σ.length+3) o2++[o2,.dead,.cells 1 (rts.map au)]) (σ.length ≤ ·) (acc.map cB) (e.routers.map bF):=by
  refine (hM.deepRows (D:=(· ∈ acc.map (·.2.1)++acc.map (·.2.2))) fun x hx=>hx).congr fun x hx=>?_;have hxl:=hM.lo x (by rw[cb,←List.append_assoc];exact List.mem_cons_of_mem _ (List.mem_append_left _ hx))
  have hxr:rb≠x:=fun e=>hnd.1 (List.mem_append_left _ (e▸hx));exact⟨by omega,fun o ho=>az (aT (aT ho hxr) (by omega))⟩
 have hro:(aR e at' (dD n rts)).routers.map bF=(e.routers.map bF).set at'.toNat (bF (dD n rts)):=by rw[aR,List.map_set]
 have e8:(dD n rts).told.map aE=List.replicate n.nodes.toNat [.sl []]:=by simp [dD,aE,aF]
 have hL2:((γ.set rb o1).set (σ.length+3) o2++[o2,.dead,.cells 1 (rts.map au)])[γ.length+2]? = some (.cells 1 (rts.map au)):=by
  rw[List.getElem?_append_right (by simp),List.length_set,List.length_set,Nat.add_sub_cancel_left]
  rfl
 have hput:=hrows.put at'.toNat (a:=[.own (γ.length+2) 1 0 rts.length rts.length,.sl (List.replicate n.nodes.toNat [.c (.slice none 0 0)])]) (c:=bF (dD n rts)) (.cons (.ownW (by omega) hL2 (by simp) (.same _)) (.cons (by rw[aL,e8];exact .slR (bW.repl (.cons .nil .nil) _)) .nil))
 rw[←hro] at hput;have hrb9:((γ.set rb o1).set (σ.length+3) o2++[o2,.dead,.cells 1 (rts.map au)])[rb]? = some (.cells 2 ((acc.map cB).set at'.toNat [.own (γ.length+2) 1 0 rts.length rts.length,.sl (List.replicate n.nodes.toNat [.c (.slice none 0 0)])])):=by
  rw[←ho1];exact az (aT (bJ hM.hrb) (by omega))
 have hgb9:((γ.set rb o1).set (σ.length+3) o2++[o2,.dead,.cells 1 (rts.map au)])[gb]? = some (.cells 3 (e.bag.map aJ)):=by
  refine az (aT (aT (by rw[←hγ];exact hgb) ?_) ?_)
  ·exact fun e=>hnd.1 (by rw[e];simp)
  ·have:=hM.lo gb (by simp [cb]);omega
 have hgl:=hM.lo gb (by simp [cb])
 show qH σ (.tup [.agg (ba (aR e at' (dD n rts))),ab 0]) _ _;exact bL hT (.tupL (.cons (.eng _) (.cons (.c _) .nil))) (.tupL (.cons (.aggL (.cons (.ownW (by omega) hrb9 (by rw[List.length_set];exact hal.symm) hput) (.cons (.ownW (by omega) hgb9 (by simp) (.same _)) .nil))) (.cons (.same _) .nil)))
end Go.Proofs.YtephecognbbaoaaGreat
namespace Go.Proofs.YtephecognbbaoaaGreat
theorem bX.kill {ρ:aa} : ∀ {S:aa} (ids:List Nat),bX ρ S→(∀x∈ids,ρ.length≤x)→bX ρ (killL ids S)
 | _,[],h,_=>h
 | _,i::r,h,hi=>bX.kill r (h.set (hi i (by simp))) fun x hx=>hi x (by simp [hx])
theorem tD {S:aa} {ids:List Nat} {x:Nat} (h:x∉ids):(killL ids S)[x]? = S[x]? := by
 rw[lS,if_neg fun hc=>h hc.1]
theorem uy (n:Net) (e:Eng) (hc:aI n=0) (hl:n.links.length≤5864062014634) (he:a8 n e) (ok:cj e) (i:Int) (h0:0≤i) (h1:i<n.nodes) (S ρ:aa) (lo rb:Nat) (acc:List (Rtr×Nat×Nat)) (gv:AV) (gi:List Nat) (O:List Nat)
  (hM:bP S lo e rb acc gv gi) (hO:cb rb acc gi=O) (hK:bX ρ S) (hlo:ρ.length≤lo) :
  af Tryz.prog 64 [.agg (aH n),.agg [.own rb 2 0 e.routers.length e.routers.length,gv],ab i] S fun r S'=>∃T,S'=ρ++T∧∃rb acc gv gi,r = .agg [.own rb 2 0 e.routers.length e.routers.length,gv]∧bP (ρ++T) S.length (bh n e i) rb acc gv gi∧∀x,x∉O→x<S.length→S'[x]? = S[x]? := by
 subst hO;refine af.useD (cb rb acc gi) _ (fi.kill _ S) (.cons (.same _) (.cons (.aggL (hM.deepI fun x hx=>hx)) (.cons (.same _) .nil))) ?_;refine (rM n e hc hl he ok i h0 h1 _).mono ?_;rintro r S' ⟨τ,rfl,rb',acc',gv',gi',rfl,hM'⟩;obtain⟨T,hT⟩:=(hK.kill (cb rb acc gi) fun x hx=>Nat.le_trans hlo (hM.lo x hx)).app (τ:=τ);refine⟨T,hT,rb',acc',gv',gi',rfl,?_,fun x hx hx2=>?_⟩
 ·rw[←hT];rw[fN] at hM';exact hM'
 ·rw[List.getElem?_append_left (by rw[fN];exact hx2),tD hx]
theorem wG (n:Net) (e:Eng) (hc:aI n=0) (hl:n.links.length≤5864062014634) (he:a8 n e) (hby:cu e) (ok:cj e) (K1 at' b c:Int) (rts:List Int) (hat:I64 at') (hb:I64 b) (hcc:I64 c) (hrts:rts.length≤17592186044000) (h0:0≤at') (h1:at'<n.nodes) (b0:0≤b) (b1:b<n.nodes) (σ:aa) :
  af Tryz.prog 27 [.agg (aH n),.agg (ba e),.agg (cl ⟨6,at',b,c,rts⟩)] σ fun r σ'=>σ'=σ∧r = .tup [.agg (ba (bh n (aR e at' (cP (at0 e.routers at') b [])) at')),ab 0]:=by
 have hn:=aU hc;have n1:=hn.n1;have n6:=hn.n6;have hel:=he.len;have hbag:=he.bag;have hB:=bp 6 1 7 true (by decide)
 have hB2:=bp 6 2 5 false (by decide)
 have hB3:=f7 n at' true (by unfold I64;omega) (aG.2 (by omega))
 have hB4:=f7 n b true (by unfold I64;omega) (aG.2 (by omega))
 refine af.deep ?_;refine g_n Tryz.func27 rfl Tryz.results27 Tryz.ntmps27 ?_;refine g_s fun K hK=>?_;refine g_h ?_;refine hK _ _ ?_;clear hK K;refine aC 3 rfl (by first|rfl|(simp -implicitDefEqProofs only[go_sem];done)|(simp -implicitDefEqProofs only[go_sem];rfl)) ?_
 simp only[ss0,List.set_cons_zero];refine aC 4 rfl (by first|rfl|(simp -implicitDefEqProofs only[go_sem];done)|(simp -implicitDefEqProofs only[go_sem];rfl)) ?_
 simp only[ss1,List.set_cons_zero,List.set_cons_succ];refine aC 5 rfl (by first|rfl|(simp -implicitDefEqProofs only[go_sem];done)|(simp -implicitDefEqProofs only[go_sem];rfl)) ?_
 simp only[ss1,List.set_cons_zero,List.set_cons_succ]
 (repeat' (first|(refine g_s fun K hK=>?_)|(refine g_b ?_)|(refine g_k ?_;simp only[ah,ae])|(refine g_C (fun h=>?_) (fun h=>?_)<;>(try exact g_f))|((first|refine g_g ?_|refine (hB _).use ?_|refine (hB2 _).use ?_|refine (hB3 _).use ?_|refine (hB4 _).use ?_);(try refine g_y ?_))|(refine hK _ _ ?_;clear hK K)|(with_reducible refine ak (fun h=>?_) (fun h=>?_)<;>(try simp only[go_sem] at h)<;>(try exact g_f)<;>(try refine g_y ?_))|exact trivial|fail))
 obtain⟨ρ,hρ⟩:∃ρ:aa,σ++[.dead,.dead,.dead,.cells 2 [[.c (.slice none 0 0),.c (.slice none 0 0)]]]=ρ:=⟨_,rfl⟩;have hlen:ρ.length=σ.length+4:=by rw[←hρ];simp
 have hcL:∀X,(ρ++X)[σ.length+3]? = some (.cells 2 [[.c (.slice none 0 0),.c (.slice none 0 0)]]):=fun X=>by rw[←hρ];exact az (by simp)
 have hcS:∀X o,(ρ++X).set (σ.length+3) o=σ++([.dead,.dead,.dead,o]++X):=fun X o=>by
  rw[←hρ,List.append_assoc,List.set_append_right _ _ (by omega),Nat.add_sub_cancel_left]
  rfl
 rw[hρ];refine (fg n e hn he ok ρ).mono ?_;rintro r S' ⟨τ,rfl,rb,acc,gv,gi,rfl,hM⟩;obtain⟨gb,rfl,rfl,hgb⟩:=hM.bag;have hir:at'<e.routers.length:=by omega
 obtain⟨ro,to,q1,q2,q3,q4⟩:=hM.at h0 hir;obtain⟨R,hRe⟩:∃R,at0 e.routers at'=R:=⟨_,rfl⟩;have hR:=gu he ⟨h0,h1⟩;rw[hRe] at q1 q2 q3 q4 hR;rw[hRe];have htl:=hR.tl;have hKe:bX ρ (ρ++τ):=⟨τ,rfl⟩;obtain⟨γ,hγ⟩:∃γ,ρ++τ=γ:=⟨_,rfl⟩;rw[hγ] at hM q3 q4 hKe hgb ⊢;simp only[cB] at q2;have hal:(acc.map cB).length=e.routers.length:=by rw[List.length_map,hM.len]
 have hrL:∀X,(γ++X)[rb]? = some (.cells 2 (acc.map cB)):=fun X=>az hM.hrb;have htL:∀X,(γ++X)[to]? = some (.cells 1 (R.told.map aE)):=fun X=>az q4;have htS:∀X o,(γ++X).set to o=γ.set to o++X:=fun X o=>bt q4;have htlt:=(List.getElem?_eq_some_iff.1 q4).1;have hgr:=eQ aE R.told b0 (by omega:b<R.told.length)
 have hbD:∀o o' X,(γ.set to o'++o::X)[γ.length]? = some o:=fun o o' X=>by
  rw[List.getElem?_append_right (by simp),List.length_set,Nat.sub_self]
  rfl
 simp -implicitDefEqProofs only[go_sem]
 (repeat' (first|(refine g_s fun K hK=>?_)|((first|refine g_g ?_|refine g_U ?_);(try simp -implicitDefEqProofs only[go_sem,hrL,q2,hal,htL,htS,hgr,hbD]))|(refine hK _ _ ?_;clear hK K)|(with_reducible refine And.intro ?_ ?_;· exact g_x)|fail))
 have hst:(γ.set to (.cells 1 ((R.told.map aE).set b.toNat [.c (.slice none 0 0)]))++[Ob.cells 2 [[.own rb 2 0 e.routers.length e.routers.length,.own gb 3 0 e.bag.length e.bag.length]]])[to]? = some (.cells 1 ((R.told.map aE).set b.toNat [.c (.slice none 0 0)])):=az (bJ q4);refine af.useD [] _ ((fi.kill [] _).cell (b:=to) (k:=1) (es':=(R.told.map aE).set b.toNat [.sl []]) (by simp) hst (bW.setL _ _ (.cons .nil .nil))) (cG.same _) ?_
 have hkl:(killL [] (γ.set to (.cells 1 ((R.told.map aE).set b.toNat [.c (.slice none 0 0)]))++[Ob.cells 2 [[.own rb 2 0 e.routers.length e.routers.length,.own gb 3 0 e.bag.length e.bag.length]]])).set to (.cells 1 ((R.told.map aE).set b.toNat [.sl []]))=γ.set to (.cells 1 ((R.told.set b.toNat []).map aE))++[Ob.cells 2 [[.own rb 2 0 e.routers.length e.routers.length,.own gb 3 0 e.bag.length e.bag.length]]]:=by
  have e1:=xO R.told b.toNat [];rw[List.map_nil] at e1;rw[e1];show (γ.set to _++[Ob.cells 2 _]).set to _=_;rw[bt (bJ q4),List.set_set]
 rw[hkl];have hin2:a8 n (aR e at' (cP R b [])):=iw he (kx hR (.inl rfl) _) _;have hby2:cu (aR e at' (cP R b [])):=hby;have hM2:=hM.told h0 (by rw[hRe];exact q1) (R.told.set b.toNat []) (by rw[hRe];simp)
 rw[hRe] at hM2;have hto:=hM.lo to (List.mem_cons_of_mem _ (List.mem_append_right _ (List.mem_append_left _ (List.mem_map.2 ⟨(R,ro,to),List.mem_of_getElem? q1,rfl⟩))));have hel2:(aR e at' (cP R b [])).routers.length=e.routers.length:=by simp [aR]
 have hlk:=uy n _ hc hl hin2 (tK hn hin2 hby2) at' h0 h1 _ ρ ρ.length rb _ _ _ _ (hM2.app (τ:=[Ob.cells 2 [[.own rb 2 0 e.routers.length e.routers.length,.own gb 3 0 e.bag.length e.bag.length]]])) rfl ((hKe.set hto).app) (Nat.le_refl _);rw[hel2] at hlk;refine hlk.mono ?_;rintro r S' ⟨T,rfl,rb',acc',gv',gi',rfl,hM',hS'⟩;obtain⟨gb',rfl,rfl,hgb'⟩:=hM'.bag;simp -implicitDefEqProofs only[go_sem,hcL,hcS]
 (repeat' (first|(refine g_t ?_;(try simp -implicitDefEqProofs only[go_sem,hcL,hcS]))|(refine hK _ _ ?_;clear hK K)|fail))
 have hf:=(hM'.setLo (x:=σ.length+3) (o:=.cells 2 [[.own rb' 2 0 e.routers.length e.routers.length,.own gb' 3 0 (bh n (aR e at' (cP R b [])) at').bag.length (bh n (aR e at' (cP R b [])) at').bag.length]]) (by
  have:=congrArg List.length hγ;simp at this ⊢;omega)).deep (D:=(σ.length ≤ ·)) fun x hx=>by
   have:=congrArg List.length hγ;simp at this hx;omega
 rw[hcS] at hf;have hel3:(bh n (aR e at' (cP R b [])) at').routers.length=e.routers.length:=by simp [bh,aR]
 rw[hel3] at hf;subst hRe;exact bL rfl (.tupL (.cons (.eng _) (.cons (.c _) .nil))) (.tupL (.cons (.aggL hf) (.cons (.same _) .nil)))
end Go.Proofs.YtephecognbbaoaaGreat
namespace Go.Proofs.YtephecognbbaoaaGreat
theorem sM (l:List Int) (hl:l.length≤1000) (hb:∀c∈l,0≤c∧c≤255) (σ:aa):af Tryz.prog 109 [.c (.string (strOfNums l))] σ fun r σ'=>σ'=σ∧r=ab (c8 1 l):=by
 refine g_n Tryz.func109 rfl Tryz.results109 Tryz.ntmps109 ?_
 (repeat' (first|(refine g_s fun K hK=>?_)|(refine g_b ?_)|(refine g_g ?_;(try refine g_y ?_))|(refine hK _ _ ?_;clear hK K)|exact trivial|fail))
 refine ay l (fun _ r s=>c8 1 l=c8 s r∧0≤s∧s<65521) (fun k s _=>[(3,ab s),(4,ab k)]) (fun _ _ _=>σ) 1 [] ?_ ?_ (ai ?_) ?_ ?_
 ·simp
 ·rfl
 ·exact g_w
 ·rintro k r s τ hk0 hk1 ⟨h1,h2,h3⟩ L hL;have hc:=hb _ (aA l hk0 hk1);simp -implicitDefEqProofs only[go_sem]
  (repeat' (first|(refine g_s fun K hK=>?_)|(refine g_b ?_)|(refine g_k ?_;simp only[ah,ae])|(refine g_C (fun h=>?_) (fun h=>?_)<;>(try exact g_f))|(refine g_g ?_;(try simp -implicitDefEqProofs only[go_sem,lg hb]))|(refine hK _ _ ?_;clear hK K)|(with_reducible refine And.intro ?_ ?_;· exact g_x)|fail))
  refine hL ((s*31+at0 l k) % 65521) [] _ _ ⟨by rw[h1,c8],by omega,by omega⟩ (ai ?_) rfl
  simp -implicitDefEqProofs only[go_sem];rw[Int.tmod_eq_emod_of_nonneg (by omega),Int.mul_comm]
 ·rintro k s τ hk ⟨h1,h2,h3⟩ L;simp -implicitDefEqProofs only[go_sem]
  (repeat' (first|(refine g_s fun K hK=>?_)|(refine g_e ?_;simp only[ah,ae,↓reduceIte,Nat.reduceEqDiff])|(refine g_C (fun h=>?_) (fun h=>?_)<;>(try exact g_f))|((first|refine g_t ?_|refine g_g ?_);(try refine g_y ?_))|(refine hK _ _ ?_;clear hK K)|(clear hK K;first|(refine hK _ _ ?_;clear hK K)|(clear hK K;with_reducible refine hK _ _ ?_;clear hK K)|(clear hK K;clear hK K;with_reducible refine hK _ _ ?_;clear hK K))|exact trivial|fail))
  rw[h1,c8]
theorem Bj (p:fS) (h1:((p.fr::p.dst::p.routes).any fun n => !de n)=false) (h2:p.routes.length≤54):∀c∈[83,p.fr,p.dst,(p.routes.length:Int)]++p.routes,0≤c∧c≤255:=by
 simp [de] at h1;intro c hc;simp only[List.cons_append,List.nil_append,List.mem_cons] at hc
 rcases hc with rfl|rfl|rfl|rfl|hc
 ·omega
 ·omega
 ·omega
 ·omega
 ·have:=h1.2.2 c hc;omega
theorem wr (p:fS) (hl:p.routes.length≤17592186044000) (σ:aa):af Tryz.prog 65 [.agg (m8 p)] σ fun r σ'=>σ'=σ∧r = .tup [.c (.string (strOfNums (bz p).1)),.c (.int .i64 (bz p).2)]:=by
 refine af.cutX ?_;refine g_n Tryz.func65 rfl Tryz.results65 Tryz.ntmps65 ?_;refine g_s fun K hK=>?_;refine g_h ?_;refine hK _ _ ?_;clear hK K;refine g_0 1 rfl ?_;have hbad:((p.fr::p.dst::p.routes).any fun n => !de n)=true→bz p=([],3):=fun h=>by simp only[bz,h,if_true]
 (repeat' (first|(refine g_s fun K hK=>?_)|(refine g_b ?_)|(refine g_k ?_;simp only[ah,ae])|(refine g_C (fun h=>?_) (fun h=>?_)<;>(try exact g_f))|((first|refine g_t ?_|refine g_g ?_|refine (bS _ _ _ _).use ?_);(try refine g_y ?_))|(refine hK _ _ ?_;clear hK K)|(with_reducible refine ak (fun h=>?_) (fun h=>?_)<;>(try simp only[go_sem] at h)<;>(try exact g_f)<;>(try refine g_y ?_))|exact trivial|fail))
 ·rename_i h1
  refine pK rfl (bd2 _ _) ?_;rw[hbad (by simp [de];omega)]
 ·rename_i h1
  refine pK rfl (bd2 _ _) ?_;rw[hbad (by simp [de];omega)]
 ·rename_i h1
  have h2:=h;clear h;refine ay p.routes (fun k r _=>∀x,x∈p.routes→x∉r→de x=true) (fun k _ _=>[(4,ab k)]) (fun _ _ τ=>σ++.dead::τ) () [] (fun x h h'=>absurd h h') rfl (ai ?_) ?_ ?_
  ·exact g_w
  ·rintro k r _ τ hk0 hk1 hH L hL;simp -implicitDefEqProofs only[go_sem]
   (repeat' (first|(refine g_s fun K hK=>?_)|(refine g_b ?_)|(refine g_k ?_;simp only[ah,ae])|(refine g_C (fun h=>?_) (fun h=>?_)<;>(try exact g_f))|((first|refine g_t ?_|refine g_g ?_|refine (bS _ _ _ _).use ?_);(try refine g_y ?_))|(refine hK _ _ ?_;clear hK K)|(with_reducible refine And.intro ?_ ?_;· exact g_x)|exact trivial|fail))
   ·refine pK rfl (bd2 _ _) ?_;rw[hbad (by simp only[List.any_cons,Bool.or_eq_true];exact .inr (.inr (List.any_eq_true.2 ⟨_,aA p.routes hk0 hk1,by simp [de];omega⟩)))]
   ·refine hL () _ _ _ (fun x hx hx'=>?_) (ai ?_) rfl
    ·by_cases e:x=at0 p.routes k
     ·subst e;simp [de];omega
     ·exact hH x hx (by simp [e,hx'])
    ·exact g_w
  ·rintro k _ τ hk hH L;have hok:((p.fr::p.dst::p.routes).any fun n => !de n)=false:=by
    simp only[List.any_eq_false,List.mem_cons];rintro x (rfl|rfl|hx)
    ·simp [de];omega
    ·simp [de];omega
    ·simp [hH x hx (by simp)]
   simp -implicitDefEqProofs only[go_sem]
   (repeat' (first|(refine g_s fun K hK=>?_)|(refine g_b ?_)|(refine g_k ?_;simp only[ah,ae])|(refine g_e ?_;simp only[ah,ae,↓reduceIte,Nat.reduceEqDiff])|(refine g_C (fun h=>?_) (fun h=>?_)<;>(try exact g_f))|((first|refine g_t ?_|refine g_g ?_);(try refine g_y ?_))|(refine hK _ _ ?_;clear hK K)|(clear hK K;first|(refine hK _ _ ?_;clear hK K)|(clear hK K;with_reducible refine hK _ _ ?_;clear hK K)|(clear hK K;clear hK K;with_reducible refine hK _ _ ?_;clear hK K))|(with_reducible refine And.intro ?_ ?_;· exact g_x)|exact trivial|fail))
   ·refine pK rfl (bd2 _ _) ?_;rw[bz,hok,if_neg (by simp),if_pos (by omega)]
   ·have hb:=Bj p hok (by omega)
    have w1:=iX h1.1 (Int.le_trans h1.2 (by omega))
    have w2:=iX h2.1 (Int.le_trans h2.2 (by omega))
    have w3:IntKind.u8.wrap (p.routes.length:Int)=p.routes.length:=iX (by omega) (by omega)
    skip
    refine ay p.routes (fun k r bs=>bs++r=[83,p.fr,p.dst,(p.routes.length:Int)]++p.routes) (fun k bs _=>[(5,.c (.string (strOfNums bs))),(6,ab k)]) (fun _ _ τ=>σ++.dead::τ) [83,p.fr,p.dst,(p.routes.length:Int)] _ rfl rfl (ai ?_) ?_ ?_
    ·simp -implicitDefEqProofs only[go_sem,w1,w2,w3]
    ·rintro k r bs τ' hk0 hk1 h3 L hL;have hr:=hb (at0 p.routes k) (by simp [aA p.routes hk0 hk1])
     have hw:=iX hr.1 hr.2;have hbl:bs.length≤60:=by
      have:=congrArg List.length h3;simp at this;omega
     simp -implicitDefEqProofs only[go_sem]
     (repeat' (first|(refine g_s fun K hK=>?_)|(refine g_b ?_)|(refine g_k ?_;simp only[ah,ae])|(refine g_C (fun h=>?_) (fun h=>?_)<;>(try exact g_f))|(refine g_g ?_;(try simp -implicitDefEqProofs only[go_sem,hw]))|(refine hK _ _ ?_;clear hK K)|(with_reducible refine And.intro ?_ ?_;· exact g_x)|fail))
     refine hL (bs++[at0 p.routes k]) _ _ _ (by rw[←h3];simp) (ai ?_) rfl
     simp -implicitDefEqProofs only[go_sem,hw]
    ·rintro k bs τ' hk h3 L;rw[List.append_nil] at h3;subst h3;simp -implicitDefEqProofs only[go_sem];have hS:=pq (83::p.fr::p.dst::(p.routes.length:Int)::p.routes) 1 (by omega) (by omega)
     have v1:IntKind.u8.wrap ((c8 1 (83::p.fr::p.dst::(p.routes.length:Int)::p.routes)).tdiv 256)=c8 1 (83::p.fr::p.dst::(p.routes.length:Int)::p.routes) / 256:=by
      rw[Int.tdiv_eq_ediv_of_nonneg hS.1,iX (by omega) (by omega)]
     have vq:I64 ((c8 1 (83::p.fr::p.dst::(p.routes.length:Int)::p.routes)).tdiv 256):=by
      rw[Int.tdiv_eq_ediv_of_nonneg hS.1];unfold I64;omega
     have v2:IntKind.u8.wrap ((c8 1 (83::p.fr::p.dst::(p.routes.length:Int)::p.routes)).tmod 256)=c8 1 (83::p.fr::p.dst::(p.routes.length:Int)::p.routes) % 256:=by
      rw[Int.tmod_eq_emod_of_nonneg hS.1,BG];omega
     (repeat' (first|(refine g_s fun K hK=>?_)|(refine g_e ?_;simp only[ah,ae,↓reduceIte,Nat.reduceEqDiff])|(refine g_C (fun h=>?_) (fun h=>?_)<;>(try exact g_f))|((first|refine g_t ?_|refine g_g ?_|refine (sM _ (by simp;omega) hb _).use ?_);(try simp -implicitDefEqProofs only[go_sem,v1,v2]))|(refine hK _ _ ?_;clear hK K)|(clear hK K;first|(refine hK _ _ ?_;clear hK K)|(clear hK K;with_reducible refine hK _ _ ?_;clear hK K)|(clear hK K;clear hK K;with_reducible refine hK _ _ ?_;clear hK K))|(with_reducible refine And.intro ?_ ?_;· exact g_x)|fail))
     refine pK rfl (bd2 _ _) ?_;rw[bz,hok,if_neg (by simp),if_neg (by omega)]
     simp
end Go.Proofs.YtephecognbbaoaaGreat
namespace Go.Proofs.YtephecognbbaoaaGreat
theorem xX (l:List Int) (hl:l.length≤140737488351232) (hb:∀c∈l,0≤c∧c≤255) (σ:aa):af Tryz.prog 67 [.c (.string (strOfNums l))] σ fun r σ'=>σ'=σ∧r = .tup [.agg (m8 (dP l).1),.c (.int .i64 (dP l).2)]:=by
 refine af.cutX ?_;have r0:=dm hb 0;have r1:=dm hb 1;have r2:=dm hb 2;have r3:=dm hb 3;refine g_n Tryz.func67 rfl Tryz.results67 Tryz.ntmps67 ?_
 (repeat' (first|(refine g_s fun K hK=>?_)|(refine g_b ?_)|(refine g_k ?_;simp only[ah,ae])|(refine g_C (fun h=>?_) (fun h=>?_)<;>(try exact g_f))|((first|refine g_t ?_|refine g_g ?_|refine g_A ?_);(try simp -implicitDefEqProofs only[go_sem,lg hb]))|(refine hK _ _ ?_;clear hK K)|(with_reducible refine ak (fun h=>?_) (fun h=>?_)<;>(try simp only[go_sem] at h)<;>(try exact g_f)<;>(try simp -implicitDefEqProofs only[go_sem,lg hb]))|(with_reducible refine And.intro ?_ ?_;· exact g_x)|fail))
 ·have e:dP l=(⟨0,0,[]⟩,2):=by rw[dP,if_pos (by omega)]
  rw[e];refine bM rfl ?_ ?_
  ·(repeat' (first|exact Bd.c _|exact Bd.emp|exact BdL.nil|exact Bd.ints _|refine Bd.aggL ?_|refine Bd.tupL ?_|refine BdL.cons ?_ ?_))
  ·(repeat' (first|exact Wk.nil|exact Wk.emp|exact WkL.nil|(with_reducible exact Wk.refl _)|refine Wk.agg ?_|refine Wk.tup ?_|refine WkL.cons ?_ ?_|(refine Wk.eq ?_;rfl)))
 iterate 5
  ·have e:dP l=(⟨0,0,[]⟩,1):=by rw[dP,if_neg (by omega),if_pos (by omega)]
   rw[e];refine bM rfl ?_ ?_
   ·(repeat' (first|exact Bd.c _|exact Bd.emp|exact BdL.nil|exact Bd.ints _|refine Bd.aggL ?_|refine Bd.tupL ?_|refine BdL.cons ?_ ?_))
   ·(repeat' (first|exact Wk.nil|exact Wk.emp|exact WkL.nil|(with_reducible exact Wk.refl _)|refine Wk.agg ?_|refine Wk.tup ?_|refine WkL.cons ?_ ?_|(refine Wk.eq ?_;rfl)))
 generalize hm:(l.take (l.length-2)).drop 4=mid
 have hmb:∀c∈mid,0≤c∧c≤255:=fun c hc=>by
  subst hm;exact hb c (List.mem_of_mem_take (List.mem_of_mem_drop hc))
 have hml:(mid.length:Int)=l.length-6:=by
  subst hm;simp;omega
 refine bn ?_;have hJ:=hK;clear hK;simp -implicitDefEqProofs only[go_sem];refine ay mid (fun k r acc=>acc++r=mid∧∀c∈acc,c≤250) (fun k acc τ=>[(5,ab (4+k))]) (fun _ acc τ=>σ++(.cells 3 [[.c (.int .i64 0),.c (.int .i64 0),.c (.slice none 0 0)]]::.cells 3 [[ab (at0 l 1),ab (at0 l 2),aq 1 (σ.length+(τ.length+2)) acc]]::(τ++[ap au 1 acc]))) [] [] ⟨rfl,fun c hc=>by cases hc⟩ ?_ ?_ ?_ ?_
 ·simp -implicitDefEqProofs only[go_sem,aq,ap]
 ·refine ai ?_;simp -implicitDefEqProofs only[go_sem]
 ·rintro k r acc τ' hk0 hk1 ⟨h3,h4⟩ L hL;have hr:=hmb _ (aA mid hk0 hk1);have hal:acc.length≤60:=by have:=congrArg List.length h3;simp at this;omega
  have hat:at0 l (4+k)=at0 mid k:=by
   have:=CI l 4 k.toNat (l.length-2) (by omega)
   rw[hm] at this;have e:((k.toNat:Nat):Int)=k:=by omega
   rw[e] at this;exact this.symm
  rcases acc with _|⟨x,acc⟩<;>simp only[List.length_cons,List.length_nil] at hal<;>simp -implicitDefEqProofs only[go_sem,aq,ap]
  all_goals (repeat' (first|(refine g_s fun K hK=>?_)|(refine g_b ?_)|(refine g_k ?_;simp only[ah,ae])|(refine g_C (fun h=>?_) (fun h=>?_)<;>(try exact g_f))|((first|refine g_t ?_|refine g_g ?_|refine g_U ?_);(try simp -implicitDefEqProofs only[go_sem,lg hb,lg hmb,hat]))|(refine hK _ _ ?_;clear hK K)|(with_reducible refine And.intro ?_ ?_;· exact g_x)|fail))
  ·have e:dP l=(⟨0,0,[]⟩,1):=by
    rw[dP,if_neg (by omega),if_neg (by omega),if_pos]
    rw[hm];exact List.any_eq_true.2 ⟨_,aA mid hk0 hk1,by simpa using h⟩
   rw[e];refine bM rfl ?_ ?_
   ·(repeat' (first|exact Bd.c _|exact Bd.emp|exact BdL.nil|exact Bd.ints _|refine Bd.aggL ?_|refine Bd.tupL ?_|refine BdL.cons ?_ ?_))
   ·(repeat' (first|exact Wk.nil|exact Wk.emp|exact WkL.nil|(with_reducible exact Wk.refl _)|refine Wk.agg ?_|refine Wk.tup ?_|refine WkL.cons ?_ ?_|(refine Wk.eq ?_;rfl)))
  ·refine hL [at0 mid k] (τ'++[.dead]) _ _ ⟨by simpa using h3,fun c hc=>by simp at hc;omega⟩ (ai ?_) ?_
   ·simp -implicitDefEqProofs only[go_sem];rw[Int.add_assoc]
   ·simp [aq,ap,au,ab]
  ·have e:dP l=(⟨0,0,[]⟩,1):=by
    rw[dP,if_neg (by omega),if_neg (by omega),if_pos]
    rw[hm];exact List.any_eq_true.2 ⟨_,aA mid hk0 hk1,by simpa using h⟩
   rw[e];refine bM rfl ?_ ?_
   ·(repeat' (first|exact Bd.c _|exact Bd.emp|exact BdL.nil|exact Bd.ints _|refine Bd.aggL ?_|refine Bd.tupL ?_|refine BdL.cons ?_ ?_))
   ·(repeat' (first|exact Wk.nil|exact Wk.emp|exact WkL.nil|(with_reducible exact Wk.refl _)|refine Wk.agg ?_|refine Wk.tup ?_|refine WkL.cons ?_ ?_|(refine Wk.eq ?_;rfl)))
  ·refine hL (x::acc++[at0 mid k]) (τ'++[.dead]) _ _ ⟨by simpa using h3,fun c hc=>?_⟩ (ai ?_) ?_
   ·rcases List.mem_append.1 hc with hc|hc
    ·exact h4 c hc
    ·simp at hc;omega
   ·simp -implicitDefEqProofs only[go_sem];rw[Int.add_assoc]
   ·simp [aq,ap,au,ab]
 ·rintro k acc τ' hk ⟨h3,h4⟩ L;rw[List.append_nil] at h3;subst h3;have r8:=dm hb ((l.length:Int)-2);have r9:=dm hb ((l.length:Int)-1);simp -implicitDefEqProofs only[go_sem]
  (repeat' (first|(refine g_s fun K hK=>?_)|(refine g_e ?_;simp only[ah,ae,↓reduceIte,Nat.reduceEqDiff])|(refine g_C (fun h=>?_) (fun h=>?_)<;>(try exact g_f))|(refine g_g ?_;(try refine g_y ?_))|(refine hK _ _ ?_;clear hK K)|(with_reducible refine And.intro ?_ ?_;· exact g_x)|exact trivial|fail))
  refine hJ _ _ ?_;clear hJ;refine fw σ [.cells 3 [[.c (.int .i64 0),.c (.int .i64 0),.c (.slice none 0 0)]]] τ' [] 0 2 au acc rfl rfl rfl (by simp;omega) ?_
  simp -implicitDefEqProofs only[go_sem];have ht:((l.length:Int)-2).toNat=l.length-2:=by omega
  have hrd:dP l=if c8 1 (l.take (l.length-2))≠256*at0 l (l.length-2)+at0 l (l.length-1) then (⟨0,0,[]⟩,1) else (⟨at0 l 1,at0 l 2,acc⟩,0):=by
   rw[dP,if_neg (by omega),if_neg (by omega),if_neg]
   ·rw[cE,hm]
   ·rw[hm];intro hc;obtain⟨c,hc,hx⟩:=List.any_eq_true.1 hc;have:=h4 c hc;simp at hx;omega
  (repeat' (first|(refine g_s fun K hK=>?_)|(refine g_k ?_;simp only[ah,ae])|(refine g_C (fun h=>?_) (fun h=>?_)<;>(try exact g_f))|((first|refine g_t ?_|refine g_g ?_|refine g_U ?_|refine g_q (fun τ=>sM (l.take (l.length-2)) (by simp;omega) (fun c hc=>hb c (List.mem_of_mem_take hc)) _) ?_);(try simp -implicitDefEqProofs only[go_sem,lg hb,ht]))|(refine hK _ _ ?_;clear hK K)|(with_reducible refine And.intro ?_ ?_;· exact g_x)|fail))
  ·rw[hrd,if_pos h];refine bM rfl ?_ ?_
   ·(repeat' (first|exact Bd.c _|exact Bd.emp|exact BdL.nil|exact Bd.ints _|refine Bd.aggL ?_|refine Bd.tupL ?_|refine BdL.cons ?_ ?_))
   ·(repeat' (first|exact Wk.nil|exact Wk.emp|exact WkL.nil|(with_reducible exact Wk.refl _)|refine Wk.agg ?_|refine Wk.tup ?_|refine WkL.cons ?_ ?_|(refine Wk.eq ?_;rfl)))
  ·rw[hrd,if_neg (by omega)]
   refine bM rfl ?_ ?_
   ·(repeat' (first|exact Bd.c _|exact Bd.emp|exact BdL.nil|exact Bd.ints _|refine Bd.aggL ?_|refine Bd.tupL ?_|refine BdL.cons ?_ ?_))
   ·(repeat' (first|exact Wk.nil|exact Wk.emp|exact WkL.nil|(with_reducible exact Wk.refl _)|refine Wk.agg ?_|refine Wk.tup ?_|refine WkL.cons ?_ ?_|(refine Wk.eq ?_;rfl)))
end Go.Proofs.YtephecognbbaoaaGreat
namespace Go.Proofs.YtephecognbbaoaaGreat
theorem AN (l:List Int):(bm l).1.routes.length≤l.length:=by
 have h:(cE l).routes.length≤l.length:=by simp [cE];omega
 unfold bm
 repeat' split
 all_goals first|exact h|exact Nat.zero_le _
theorem vi (n:Net) (e:Eng) (hc:aI n=0) (hl:n.links.length≤5864062014634) (he:a8 n e) (hby:cu e) (ok:cj e) (K1 at' b c:Int) (rts:List Int) (hat:I64 at') (hb:I64 b) (hcc:I64 c) (hrts:rts.length≤17592186044000) (h0:0≤at') (h1:at'<e.bag.length) (σ:aa) :
  af Tryz.prog 27 [.agg (aH n),.agg (ba e),.agg (cl ⟨2,at',b,c,rts⟩)] σ fun r σ'=>σ'=σ∧r = .tup [.agg (ba (eu n e at')),ab 0]:=by
 have hn:=aU hc;have n1:=hn.n1;have n6:=hn.n6;have hel:=he.len;have hbag:=he.bag;have hB:=bp 2 1 7 true (by decide)
 have hB2:=bp 2 2 5 true (by decide)
 have hB3:=bp at' 0 (e.bag.length-1) true (aG.2 (by omega))
 obtain⟨m,hm⟩:∃m,at0 e.bag at'=m:=⟨_,rfl⟩;have hmm:m∈e.bag:=by rw[←hm];exact aA e.bag h0 h1
 have hmi:=he.mail m hmm;have hmo:=ok.mail m hmm;have hmf:=hmi.fr;have hmd:=hmi.dst;have hml:=hmi.len;have hRd:=fun S=>xX m.bytes hmo.len hmo.rng S;rw[←ED m.bytes hmo.rng] at hRd;obtain⟨p,hp⟩:∃p,(bm m.bytes).1=p:=⟨_,rfl⟩;obtain⟨f,hf⟩:∃f,(bm m.bytes).2=f:=⟨_,rfl⟩;have hX:eu n e at'=if (decide (f=0)&&(decide (p.fr=m.fr)&&(decide (p.dst=m.dst)&&(decide (aY n p.routes=0)&&decide (0≤aM n m.dst m.fr)))))=true then bh n (aR (bZ e at') m.dst (cP (at0 (bZ e at').routers m.dst) m.fr p.routes)) m.dst else bZ e at':=by
  rw[eu,hm,lh,lw,hp,hf]
 obtain⟨X,hXe⟩:∃X,eu n e at'=X:=⟨_,rfl⟩;rw[hXe];rw[hX] at hXe;rw[hp,hf] at hRd;have hx:I64 (n.alg.size-1):=by have:=hn.alg.s2;have:=hn.alg.s24;unfold I64;omega
 have hpl:p.routes.length≤60:=by rw[←hp];exact Nat.le_trans (AN m.bytes) hml
 have hRo:=fun S=>eP n p.routes hx (by omega) S
 have hEd:=fun S=>fP n m.dst m.fr hl S;refine af.deep ?_;refine g_n Tryz.func27 rfl Tryz.results27 Tryz.ntmps27 ?_;refine g_s fun K hK=>?_;refine g_h ?_;refine hK _ _ ?_;clear hK K;refine aC 3 rfl (by first|rfl|(simp -implicitDefEqProofs only[go_sem];done)|(simp -implicitDefEqProofs only[go_sem];rfl)) ?_
 simp only[ss0,List.set_cons_zero];refine aC 4 rfl (by first|rfl|(simp -implicitDefEqProofs only[go_sem];done)|(simp -implicitDefEqProofs only[go_sem];rfl)) ?_
 simp only[ss1,List.set_cons_zero,List.set_cons_succ];refine aC 5 rfl (by first|rfl|(simp -implicitDefEqProofs only[go_sem];done)|(simp -implicitDefEqProofs only[go_sem];rfl)) ?_
 simp only[ss1,List.set_cons_zero,List.set_cons_succ]
 (repeat' (first|(refine g_s fun K hK=>?_)|(refine g_b ?_)|(refine g_k ?_;simp only[ah,ae])|(refine g_C (fun h=>?_) (fun h=>?_)<;>(try exact g_f))|((first|refine g_g ?_|refine (hB _).use ?_|refine (hB2 _).use ?_|refine (hB3 _).use ?_);(try simp -implicitDefEqProofs only[go_sem,hm]))|(refine hK _ _ ?_;clear hK K)|(with_reducible refine And.intro ?_ ?_;· exact g_x)|fail))
 obtain⟨ρ,hρ⟩:∃ρ:aa,σ++[.dead,.dead,.dead,.cells 2 [[.c (.slice none 0 0),.c (.slice none 0 0)]],.cells 3 [[.c (.int .i64 m.fr),.c (.int .i64 m.dst),.c (.string (strOfNums m.bytes))]]]=ρ:=⟨_,rfl⟩;have hlen:ρ.length=σ.length+5:=by rw[←hρ];simp
 have hcL:∀X,(ρ++X)[σ.length+3]? = some (.cells 2 [[.c (.slice none 0 0),.c (.slice none 0 0)]]):=fun X=>by rw[←hρ];exact az (by simp)
 have hmL:∀X,(ρ++X)[σ.length+4]? = some (.cells 3 [[.c (.int .i64 m.fr),.c (.int .i64 m.dst),.c (.string (strOfNums m.bytes))]]):=fun X=>by rw[←hρ];exact az (by simp)
 have hKρ:bX σ ρ:=⟨_,hρ.symm⟩;rw[hρ];refine (qM n e hn he ok at' h0 h1 ρ).mono ?_;rintro r S' ⟨τ,rfl,rb,acc,gv,gi,rfl,hM⟩;obtain⟨gb,rfl,rfl,hgb⟩:=hM.bag;have hcL0:=hcL τ;have hmL0:=hmL τ;have hKe:bX ρ (ρ++τ):=⟨τ,rfl⟩;obtain⟨γ,hγ⟩:∃γ,ρ++τ=γ:=⟨_,rfl⟩;rw[hγ] at hM hKe hgb hcL0 hmL0 ⊢;have hcl:=(List.getElem?_eq_some_iff.1 hmL0).1;have hcγ:∀X,(γ++X)[σ.length+3]? = some (.cells 2 [[.c (.slice none 0 0),.c (.slice none 0 0)]]):=fun X=>az hcL0;have hmγ:∀X,(γ++X)[σ.length+4]? = some (.cells 3 [[.c (.int .i64 m.fr),.c (.int .i64 m.dst),.c (.string (strOfNums m.bytes))]]):=fun X=>az hmL0;have hcS:∀X o,(γ++X).set (σ.length+3) o=γ.set (σ.length+3) o++X:=fun X o=>bt hcL0;have hcF:∀o X,(γ.set (σ.length+3) o++X)[σ.length+3]? = some o:=fun o X=>az (bJ hcL0);have hKσ:bX σ γ:=by
  obtain⟨T1,hT1⟩:=hKρ;obtain⟨T2,hT2⟩:=hKe;exact⟨T1++T2,by rw[hT2,hT1,List.append_assoc]⟩
 have hlo:ρ.length≤γ.length:=hKe.len;have fin0:∀o X,∀r,r=bZ e at'→qH σ (.tup [.agg (ba r),ab 0]) (.tup [.agg [.own rb 2 0 e.routers.length e.routers.length,.own gb 3 0 (bZ e at').bag.length (bZ e at').bag.length],.c (.int .i64 0)]) (γ.set (σ.length+3) o++X):=fun o X r hr=>by
  subst hr;have hf:=((hM.setLo (x:=σ.length+3) (o:=o) (by omega)).app (τ:=X)).deep (D:=(σ.length ≤ ·)) fun x hx=>by omega
  obtain⟨T,hT⟩:bX σ (γ.set (σ.length+3) o++X):=(hKσ.set (by omega)).app
  exact bL hT (.tupL (.cons (.eng _) (.cons (.c _) .nil))) (.tupL (.cons (.aggL hf) (.cons (.same _) .nil)))
 simp -implicitDefEqProofs only[go_sem]
 by_cases c1:f=0
 ·by_cases c2:p.fr=m.fr
  ·by_cases c3:p.dst=m.dst
   ·by_cases c4:aY n p.routes=0
    ·by_cases c5:0≤aM n m.dst m.fr
     ·rw[if_pos (by simp [c1,c2,c3,c4,c5])] at hXe
      have hmR:m.dst<(bZ e at').routers.length:=by show m.dst<(e.routers.length:Int);omega
      have heD:=qz he at';have hbD':cu (bZ e at'):=fun q hq=>hby q (List.mem_of_mem_eraseIdx hq);obtain⟨ro,to,q1,q2,q3,q4⟩:=hM.at hmd.1 hmR;obtain⟨R,hRe⟩:∃R,at0 (bZ e at').routers m.dst=R:=⟨_,rfl⟩;have hR:=gu heD hmd;rw[hRe] at q1 q2 q3 q4 hR hXe;have htl:=hR.tl;simp only[cB] at q2;have hal:(acc.map cB).length=e.routers.length:=by rw[List.length_map,←hM.len];rfl
      have hrL:∀X,(γ++X)[rb]? = some (.cells 2 (acc.map cB)):=fun X=>az hM.hrb;have htL:∀X,(γ++X)[to]? = some (.cells 1 (R.told.map aE)):=fun X=>az q4;have htS:∀X o,(γ++X).set to o=γ.set to o++X:=fun X o=>bt q4;have htlt:=(List.getElem?_eq_some_iff.1 q4).1;have hgr:=eQ aE R.told hmf.1 (by omega:m.fr<R.told.length)
      have hsr:=xO R.told m.fr.toNat p.routes;have hto:=hM.lo to (List.mem_cons_of_mem _ (List.mem_append_right _ (List.mem_append_left _ (List.mem_map.2 ⟨(R,ro,to),List.mem_of_getElem? q1,rfl⟩))));have hbD:∀o o' X,(γ.set to o'++o::X)[γ.length]? = some o:=fun o o' X=>by
       rw[List.getElem?_append_right (by simp),List.length_set,Nat.sub_self]
       rfl
      have hmD:∀o X,(γ.set to o++X)[σ.length+4]? = some (.cells 3 [[.c (.int .i64 m.fr),.c (.int .i64 m.dst),.c (.string (strOfNums m.bytes))]]):=fun o X=>az (aT hmL0 (by omega))
      (repeat' (first|(refine g_s fun K hK=>?_)|(refine g_C (fun h=>?_) (fun h=>?_)<;>(try exact g_f))|((first|refine g_g ?_|refine g_U ?_|refine (hRd _).use ?_|refine (hRo _).use ?_|refine (hEd _).use ?_);(try simp -implicitDefEqProofs only[go_sem,c1,c2,c3,c4,c5,hmγ,hcγ,hcS,hcF,hrL,q2,hal,htL,htS,hgr,hsr,hbD,hmD,htl]))|(refine hK _ _ ?_;clear hK K)|(with_reducible refine ak (fun h=>?_) (fun h=>?_)<;>(try simp only[go_sem] at h)<;>(try exact g_f)<;>(try simp -implicitDefEqProofs only[go_sem,c1,c2,c3,c4,c5,hmγ,hcγ,hcS,hcF,hrL,q2,hal,htL,htS,hgr,hsr,hbD,hmD,htl]))|(with_reducible refine And.intro ?_ ?_;· exact g_x)|fail))
      have hgv:∀v∈p.routes,InV n v:=(cM.1 c4).2;have hpl2:=(cM.1 c4).1;have hin2:a8 n (aR (bZ e at') m.dst (cP R m.fr p.routes)):=iw heD (kx hR (.inr ⟨hpl2,hgv⟩) _) _;have hby2:cu (aR (bZ e at') m.dst (cP R m.fr p.routes)):=hbD';have hM2:=hM.told hmd.1 (by rw[hRe];exact q1) (R.told.set m.fr.toNat p.routes) (by rw[hRe];simp)
      rw[hRe] at hM2;obtain⟨B,hBe⟩:∃B:Ob,B = .cells 2 [[.own rb 2 0 e.routers.length e.routers.length,.own gb 3 0 (bZ e at').bag.length (bZ e at').bag.length]]:=⟨_,rfl⟩;obtain⟨PK,hPK⟩:∃B:Ob,B = .cells 3 [[.c (.int .i64 m.fr),.c (.int .i64 m.dst),.sl (p.routes.map au)]]:=⟨_,rfl⟩;rw[←hBe,←hPK];have hel2:(aR (bZ e at') m.dst (cP R m.fr p.routes)).routers.length=e.routers.length:=by simp [aR,bZ]
      have hlk:=uy n _ hc hl hin2 (tK hn hin2 hby2) m.dst hmd.1 hmd.2 _ ρ ρ.length rb _ _ _ _ (hM2.app (τ:=[B,PK])) rfl ((hKe.set hto).app) (Nat.le_refl _);rw[hel2] at hlk;refine hlk.mono ?_;rintro r S' ⟨T,rfl,rb',acc',gv',gi',rfl,hM',hS'⟩;obtain⟨gb',rfl,rfl,hgb'⟩:=hM'.bag;have hcpl:∀x∈cb rb (acc.set m.dst.toNat (⟨R.routes,R.told.set m.fr.toNat p.routes⟩,ro,to)) [gb],x<γ.length:=fun x hx=>by
       have hM3:bP (γ.set to (.cells 1 ((R.told.set m.fr.toNat p.routes).map aE))) ρ.length (aR (bZ e at') m.dst ⟨R.routes,R.told.set m.fr.toNat p.routes⟩) rb (acc.set m.dst.toNat (⟨R.routes,R.told.set m.fr.toNat p.routes⟩,ro,to)) (.own gb 3 0 (bZ e at').bag.length (bZ e at').bag.length) [gb]:=hM2;have:=hM3.lt x hx
       simpa using this
      have hb15:(ρ++T)[γ.length]? = some B:=by
       rw[hS' γ.length (fun hm=>Nat.lt_irrefl _ (hcpl _ hm)) (by simp)]
       exact hbD _ _ _
      have hc15:(ρ++T)[σ.length+3]? = some (.cells 2 [[.c (.slice none 0 0),.c (.slice none 0 0)]]):=hcL T;rw[hBe] at hb15;have hSl:γ.length+2≤(γ.set to (.cells 1 ((R.told.set m.fr.toNat p.routes).map aE))++[B,PK]).length:=by simp
      have hKT:bX σ (ρ++T):=by
       obtain⟨T1,hT1⟩:=hKρ;exact⟨T1++T,by rw[hT1,List.append_assoc]⟩
      obtain⟨G,hG⟩:∃G,ρ++T=G:=⟨_,rfl⟩;rw[hG] at hb15 hc15 hM' hKT hgb' ⊢;have hb16:∀o,(G.set γ.length o)[γ.length]? = some o:=fun o=>bJ hb15;have hc16:∀o,(G.set γ.length o)[σ.length+3]? = some (.cells 2 [[.c (.slice none 0 0),.c (.slice none 0 0)]]):=fun o=>aT hc15 (by omega)
      have hc17:∀o o',((G.set γ.length o).set (σ.length+3) o')[σ.length+3]? = some o':=fun o o'=>bJ (hc16 o);simp -implicitDefEqProofs only[go_sem,hb15]
      (repeat' (first|(refine g_s fun K hK=>?_)|((first|refine g_t ?_|refine g_g ?_);(try simp -implicitDefEqProofs only[go_sem,hb15,hb16,hc16,hc17]))|(refine hK _ _ ?_;clear hK K)|fail))
      obtain⟨O,hO⟩:∃O:Ob,O = .cells 2 [[.own rb' 2 0 e.routers.length e.routers.length,.own gb' 3 0 (bh n (aR (bZ e at') m.dst (cP R m.fr p.routes)) m.dst).bag.length (bh n (aR (bZ e at') m.dst (cP R m.fr p.routes)) m.dst).bag.length]]:=⟨_,rfl⟩;rw[←hO];have hf:=((hM'.setLo (x:=γ.length) (o:=O) (by omega)).setLo (x:=σ.length+3) (o:=O) (by omega)).deep (D:=(σ.length ≤ ·)) fun x hx=>by omega
      have hel4:(bh n (aR (bZ e at') m.dst (cP R m.fr p.routes)) m.dst).routers.length=e.routers.length:=by simp [bh,aR,bZ]
      rw[hel4] at hf;subst hXe;obtain⟨T',hT'⟩:=(hKT.set (x:=γ.length) (o:=O) (by omega)).set (x:=σ.length+3) (o:=O) (by omega)
      exact bL hT' (.tupL (.cons (.eng _) (.cons (.c _) .nil))) (.tupL (.cons (.aggL hf) (.cons (.same _) .nil)))
     ·rw[if_neg (by simp [c5])] at hXe
      (repeat' (first|(refine g_s fun K hK=>?_)|(refine g_k ?_;simp only[ah,ae])|(refine g_C (fun h=>?_) (fun h=>?_)<;>(try exact g_f))|((first|refine g_t ?_|refine g_g ?_|refine (hRd _).use ?_|refine (hRo _).use ?_|refine (hEd _).use ?_);(try simp -implicitDefEqProofs only[go_sem,c1,c2,c3,c4,c5,hmγ,hcγ,hcS,hcF]))|(refine hK _ _ ?_;clear hK K)|(with_reducible refine ak (fun h=>?_) (fun h=>?_)<;>(try simp only[go_sem] at h)<;>(try exact g_f)<;>(try simp -implicitDefEqProofs only[go_sem,c1,c2,c3,c4,c5,hmγ,hcγ,hcS,hcF]))|fail))
      exact fin0 _ _ _ hXe.symm
    ·rw[if_neg (by simp [c4])] at hXe
     (repeat' (first|(refine g_s fun K hK=>?_)|(refine g_k ?_;simp only[ah,ae])|(refine g_C (fun h=>?_) (fun h=>?_)<;>(try exact g_f))|((first|refine g_t ?_|refine g_g ?_|refine (hRd _).use ?_|refine (hRo _).use ?_);(try simp -implicitDefEqProofs only[go_sem,c1,c2,c3,c4,hmγ,hcγ,hcS,hcF]))|(refine hK _ _ ?_;clear hK K)|(with_reducible refine ak (fun h=>?_) (fun h=>?_)<;>(try simp only[go_sem] at h)<;>(try exact g_f)<;>(try simp -implicitDefEqProofs only[go_sem,c1,c2,c3,c4,hmγ,hcγ,hcS,hcF]))|fail))
     exact fin0 _ _ _ hXe.symm
   ·rw[if_neg (by simp [c3])] at hXe
    (repeat' (first|(refine g_s fun K hK=>?_)|(refine g_k ?_;simp only[ah,ae])|(refine g_C (fun h=>?_) (fun h=>?_)<;>(try exact g_f))|((first|refine g_t ?_|refine g_g ?_|refine (hRd _).use ?_);(try simp -implicitDefEqProofs only[go_sem,c1,c2,c3,hmγ,hcγ,hcS,hcF]))|(refine hK _ _ ?_;clear hK K)|(with_reducible refine ak (fun h=>?_) (fun h=>?_)<;>(try simp only[go_sem] at h)<;>(try exact g_f)<;>(try simp -implicitDefEqProofs only[go_sem,c1,c2,c3,hmγ,hcγ,hcS,hcF]))|fail))
    exact fin0 _ _ _ hXe.symm
  ·rw[if_neg (by simp [c2])] at hXe
   (repeat' (first|(refine g_s fun K hK=>?_)|(refine g_k ?_;simp only[ah,ae])|(refine g_C (fun h=>?_) (fun h=>?_)<;>(try exact g_f))|((first|refine g_t ?_|refine g_g ?_|refine (hRd _).use ?_);(try simp -implicitDefEqProofs only[go_sem,c1,c2,hmγ,hcγ,hcS,hcF]))|(refine hK _ _ ?_;clear hK K)|(with_reducible refine ak (fun h=>?_) (fun h=>?_)<;>(try simp only[go_sem] at h)<;>(try exact g_f)<;>(try simp -implicitDefEqProofs only[go_sem,c1,c2,hmγ,hcγ,hcS,hcF]))|fail))
   exact fin0 _ _ _ hXe.symm
 ·rw[if_neg (by simp [c1])] at hXe
  (repeat' (first|(refine g_s fun K hK=>?_)|(refine g_k ?_;simp only[ah,ae])|(refine g_C (fun h=>?_) (fun h=>?_)<;>(try exact g_f))|((first|refine g_t ?_|refine g_g ?_|refine (hRd _).use ?_);(try simp -implicitDefEqProofs only[go_sem,c1,hmγ,hcγ,hcS,hcF]))|(refine hK _ _ ?_;clear hK K)|(with_reducible refine ak (fun h=>?_) (fun h=>?_)<;>(try simp only[go_sem] at h)<;>(try exact g_f)<;>(try simp -implicitDefEqProofs only[go_sem,c1,hmγ,hcγ,hcS,hcF]))|fail))
  exact fin0 _ _ _ hXe.symm
end Go.Proofs.YtephecognbbaoaaGreat
namespace Go.Proofs.YtephecognbbaoaaGreat
theorem uf (n:Net) (e:Eng) (hc:aI n=0) (hl:n.links.length≤5864062014634) (he:a8 n e) (hby:cu e) (ok:cj e) (K1 at' b c:Int) (rts:List Int) (hat:I64 at') (hb:I64 b) (hcc:I64 c) (hrts:rts.length≤17592186044000) (h0:0≤at') (h1:at'<e.bag.length) (hr:¬(inR b 0 ((at0 e.bag at').bytes.length-1)=true∧inR c 1 255=true)) (σ:aa) :
  af Tryz.prog 27 [.agg (aH n),.agg (ba e),.agg (cl ⟨5,at',b,c,rts⟩)] σ fun r σ'=>σ'=σ∧r = .tup [.agg (ba noE),ab 3]:=by
 have hn:=aU hc;have n1:=hn.n1;have n6:=hn.n6;have hel:=he.len;have hbag:=he.bag;have hB:=bp 5 1 7 true (by decide)
 have hB2:=bp 5 2 5 true (by decide)
 have hB3:=bp at' 0 (e.bag.length-1) true (aG.2 (by omega))
 obtain⟨m,hm⟩:∃m,at0 e.bag at'=m:=⟨_,rfl⟩;rw[hm] at hr;have hmm:m∈e.bag:=by rw[←hm];exact aA e.bag h0 h1
 have hmi:=he.mail m hmm;have hml:=hmi.len
 by_cases c1:inR b 0 (m.bytes.length-1)=true
 ·have c2:inR c 1 255=false:=by
   cases h:inR c 1 255
   ·rfl
   ·exact absurd ⟨c1,h⟩ hr
  have hB4:=bp b 0 (m.bytes.length-1) _ c1;have hB5:=bp c 1 255 _ c2;refine af.deep ?_;refine g_n Tryz.func27 rfl Tryz.results27 Tryz.ntmps27 ?_;refine g_s fun K hK=>?_;refine g_h ?_;refine hK _ _ ?_;clear hK K;refine aC 3 rfl (by first|rfl|(simp -implicitDefEqProofs only[go_sem];done)|(simp -implicitDefEqProofs only[go_sem];rfl)) ?_
  simp only[ss0,List.set_cons_zero];refine aC 4 rfl (by first|rfl|(simp -implicitDefEqProofs only[go_sem];done)|(simp -implicitDefEqProofs only[go_sem];rfl)) ?_
  simp only[ss1,List.set_cons_zero,List.set_cons_succ];refine aC 5 rfl (by first|rfl|(simp -implicitDefEqProofs only[go_sem];done)|(simp -implicitDefEqProofs only[go_sem];rfl)) ?_
  simp only[ss1,List.set_cons_zero,List.set_cons_succ]
  (repeat' (first|(refine g_s fun K hK=>?_)|(refine g_b ?_)|(refine g_k ?_;simp only[ah,ae])|(refine g_C (fun h=>?_) (fun h=>?_)<;>(try exact g_f))|((first|refine g_t ?_|refine g_g ?_|refine (hB _).use ?_|refine (hB2 _).use ?_|refine (hB3 _).use ?_|refine (hB4 _).use ?_|refine (hB5 _).use ?_);(try simp -implicitDefEqProofs only[go_sem,hm]))|(refine hK _ _ ?_;clear hK K)|(with_reducible refine And.intro ?_ ?_;· exact g_x)|fail))
  exact bL rfl (.tupL (.cons (.eng _) (.cons (.c _) .nil))) (.tupL (.cons (.aggL (.cons .nil (.cons .nil .nil))) (.cons (.same _) .nil)))
 ·have c1:inR b 0 (m.bytes.length-1)=false:=by simpa using c1
  have hB4:=bp b 0 (m.bytes.length-1) _ c1;refine af.deep ?_;refine g_n Tryz.func27 rfl Tryz.results27 Tryz.ntmps27 ?_;refine g_s fun K hK=>?_;refine g_h ?_;refine hK _ _ ?_;clear hK K;refine aC 3 rfl (by first|rfl|(simp -implicitDefEqProofs only[go_sem];done)|(simp -implicitDefEqProofs only[go_sem];rfl)) ?_
  simp only[ss0,List.set_cons_zero];refine aC 4 rfl (by first|rfl|(simp -implicitDefEqProofs only[go_sem];done)|(simp -implicitDefEqProofs only[go_sem];rfl)) ?_
  simp only[ss1,List.set_cons_zero,List.set_cons_succ];refine aC 5 rfl (by first|rfl|(simp -implicitDefEqProofs only[go_sem];done)|(simp -implicitDefEqProofs only[go_sem];rfl)) ?_
  simp only[ss1,List.set_cons_zero,List.set_cons_succ]
  (repeat' (first|(refine g_s fun K hK=>?_)|(refine g_b ?_)|(refine g_k ?_;simp only[ah,ae])|(refine g_C (fun h=>?_) (fun h=>?_)<;>(try exact g_f))|((first|refine g_t ?_|refine g_g ?_|refine (hB _).use ?_|refine (hB2 _).use ?_|refine (hB3 _).use ?_|refine (hB4 _).use ?_);(try simp -implicitDefEqProofs only[go_sem,hm]))|(refine hK _ _ ?_;clear hK K)|(with_reducible refine And.intro ?_ ?_;· exact g_x)|fail))
  exact bL rfl (.tupL (.cons (.eng _) (.cons (.c _) .nil))) (.tupL (.cons (.aggL (.cons .nil (.cons .nil .nil))) (.cons (.same _) .nil)))
end Go.Proofs.YtephecognbbaoaaGreat
