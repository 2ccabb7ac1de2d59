/- An engine that came is spoilt; what Settle and Build answer, all own. -/
import Derived.Test.YtephecognbbaoaaGreatZHh
import Derived.Test.YtephecognbbaoaaGreatZGf
import Derived.Test.YtephecognbbaoaaGreatZBp
import Derived.Test.YtephecognbbaoaaGreatZSo
open Go
set_option linter.all false
set_option maxRecDepth 100000
set_option maxHeartbeats 4000000
namespace Go.Proofs.YtephecognbbaoaaGreat
open Go
set_option linter.all false
set_option maxRecDepth 100000
set_option maxHeartbeats 4000000
theorem uh (m:Nat) (hm:m≤1000) (S:aa):af Tryz.prog 29 [.sl (List.replicate m [.c (.slice none 0 0)])] S fun r S'=>r = .tup []∧S'=S:=by
 refine g_n Tryz.func29 rfl Tryz.results29 Tryz.ntmps29 ?_
 (repeat' (first|(refine g_s fun K hK=>?_)|(refine g_b ?_)|(refine g_g ?_;(try refine g_y ?_))|(refine hK _ _ ?_;clear hK K)|exact trivial|fail))
 refine b8 (m:Int) (fun _ (_:Unit)=>True) (fun k _ _=>[(2,ab k)]) (fun _ _ _=>S) () [] (by omega) trivial rfl (ai ?_) ?_
 ·exact g_w
 ·rintro k _ τ hk0 hk1 _ L hL
  by_cases hk:k<m
  ·have hg:(List.replicate m [AV.c (.slice none 0 0)])[k.toNat]? = some [.c (.slice none 0 0)]:=by
    rw[List.getElem?_replicate,if_pos (by omega)]
   have ik:I64 (k+1):=by unfold I64;omega
   simp -implicitDefEqProofs only[go_sem]
   (repeat' (first|(refine g_s fun K hK=>?_)|(refine g_b ?_)|(refine g_k ?_;simp only[ah,ae])|(refine g_C (fun h=>?_) (fun h=>?_)<;>(try exact g_f))|(refine g_g ?_;(try simp -implicitDefEqProofs only[go_sem,hg,hk,ik,List.length_replicate]))|(refine hK _ _ ?_;clear hK K)|fail))
   refine b8 0 (fun _ (_:Unit)=>True) (fun q _ _=>[(3,ab q)]) (fun _ _ _=>S) () [] (by omega) trivial rfl (ai ?_) ?_
   ·exact g_w
   ·rintro q _ τ9 hq0 hq1 _ L2 hL2;have hq:q=0:=by omega
    subst hq;simp -implicitDefEqProofs only[go_sem]
    (repeat' (first|(refine g_s fun K hK=>?_)|(refine g_e ?_;simp only[ah,ae,↓reduceIte,Nat.reduceEqDiff])|(refine g_C (fun h=>?_) (fun h=>?_)<;>(try exact g_f))|(refine g_g ?_;(try simp -implicitDefEqProofs only[go_sem,hg,hk,ik,List.length_replicate]))|(refine hK _ _ ?_;clear hK K)|(clear hK K;first|(refine hK _ _ ?_;clear hK K)|(clear hK K;with_reducible refine hK _ _ ?_;clear hK K)|(clear hK K;clear hK K;with_reducible refine hK _ _ ?_;clear hK K))|(with_reducible refine And.intro ?_ ?_;· exact g_x)|fail))
    refine hL hk () [] _ _ trivial (ai ?_) rfl;simp -implicitDefEqProofs only[go_sem]
  ·have hk:k=m:=by omega
   subst hk;simp -implicitDefEqProofs only[go_sem]
   (repeat' (first|(refine g_s fun K hK=>?_)|(refine g_e ?_;simp only[ah,ae,↓reduceIte,Nat.reduceEqDiff])|(refine g_C (fun h=>?_) (fun h=>?_)<;>(try exact g_f))|(refine g_g ?_;(try simp -implicitDefEqProofs only[go_sem,List.length_replicate]))|(refine hK _ _ ?_;clear hK K)|fail))
   exact⟨rfl,rfl⟩
def Ag (l h:Nat) (S S':aa):Prop:=∀y,l≤y→y<h→S'[y]? = S[y]?
theorem Ag.refl {l h:Nat} {S:aa} : Ag l h S S:=fun _ _ _=>rfl
theorem Ag.trans {l h:Nat} {S S' S'':aa} (a:Ag l h S S') (b:Ag l h S' S''):Ag l h S S'':=fun y h1 h2=>(b y h1 h2).trans (a y h1 h2)
theorem Ag.more {l h l' h':Nat} {S S':aa} (a:Ag l h S S') (hl:l≤l') (hh:h'≤h):Ag l' h' S S':=fun y h1 h2=>a y (Nat.le_trans hl h1) (Nat.lt_of_lt_of_le h2 hh)
theorem Ag.app {l:Nat} {S τ:aa} : Ag l S.length S (S++τ):=fun y _ h2=>List.getElem?_append_left h2
theorem Ag.else {l h:Nat} {S S':aa} {ids:List Nat} (e:dU ids S S') (hd:∀x∈ids,x<l∨h≤x):Ag l h S S':=fun y h1 h2=>e.2 y fun hc=>by
 have:=hd y hc;omega
theorem Ag.get {l h:Nat} {S S':aa} (a:Ag l h S S') {y:Nat} {o:Ob} (h1:l≤y) (h2:y<h) (ho:S[y]? = some o):S'[y]? = some o:=by rw[a y h1 h2];exact ho
theorem Ag.own {l w:Nat} {S S':aa} {ids:List Nat} {a:AV} {M:List (List Int)} (g:Ag l S.length S S') (h:cT S l w ids a M):cT S' l w ids a M:=
 h.congr (Nat.le_refl _) fun b hb o ho=>g.get (h.lt b hb).2 (h.lt b hb).1 ho
theorem Ag.then {l h h':Nat} {S S' S'':aa} (a:Ag l h S S') (b:Ag l h' S' S'') (hle:h≤h'):Ag l h S S'':=a.trans (b.more (Nat.le_refl _) hle)
theorem Er {X:Type} {f:X→List Nat} {x:Nat} : ∀(l:List X) (i k:Nat) (hi:i<l.length) (hk:k<l.length),i≠k→(l.flatMap f).Nodup→x∈f l[i]→x∈f l[k]→False
 | [],i,k,hi,_,_,_,_,_=>absurd hi (Nat.not_lt_zero i)
 | q::l,i,k,hi,hk,hne,hn,h1,h2=>by
  rw[List.flatMap_cons,List.nodup_append] at hn;obtain⟨g1,g2,g3⟩:=hn
  rcases i with _|i<;>rcases k with _|k
  ·exact hne rfl
  ·exact g3 x h1 x (List.mem_flatMap.2 ⟨_,List.getElem_mem (Nat.lt_of_succ_lt_succ hk),h2⟩) rfl
  ·exact g3 x h2 x (List.mem_flatMap.2 ⟨_,List.getElem_mem (Nat.lt_of_succ_lt_succ hi),h1⟩) rfl
  ·exact Er l i k (Nat.lt_of_succ_lt_succ hi) (Nat.lt_of_succ_lt_succ hk) (by omega) g2 h1 h2
theorem Es {X:Type} {f:X→List Nat} : ∀(l:List X),(l.flatMap f).Nodup→∀y∈l,(f y).Nodup
 | [],_,y,hy=>by cases hy
 | q::l,hn,y,hy=>by
  rw[List.flatMap_cons,List.nodup_append] at hn
  rcases List.mem_cons.1 hy with rfl|hy
  ·exact hn.1
  ·exact Es l hn.2.1 y hy
structure SpE (S:aa) (c m:Nat) (rb:Nat) (rx:List RX) (gv:AV) (gi:List Nat) (bag:List bg) (k:Nat):Prop where
 hc:S[c]? = some (.cells 2 [[.own rb 2 0 m m,gv]])
 hrb:S[rb]? = some (.cells 2 (rx.map rxC))
 ho:∀j (h:j<rx.length),k≤j→mA S rx[j]
 bag:eJ S gv bag gi
 nd:(rb::(rx.flatMap RX.ids++gi)).Nodup
 nc:c∉rb::(rx.flatMap RX.ids++gi)
theorem SpE.next {S S':aa} {c m rb k:Nat} {rx:List RX} {gv:AV} {gi:List Nat} {bag:List bg} (h:SpE S c m rb rx gv gi bag k) (hk:k<rx.length) (hS:∀y,y∉rx[k].ids→∀o,S[y]? = some o→S'[y]? = some o):SpE S' c m rb rx gv gi bag (k+1):=by
 have hn:=h.nd;have hc:=h.nc;have hsub:∀j (hj:j<rx.length),∀y∈rx[j].ids,y∈rx.flatMap RX.ids:=fun j hj y hy=>List.mem_flatMap.2 ⟨_,List.getElem_mem hj,hy⟩;rw[List.nodup_cons,List.nodup_append] at hn;obtain⟨h1,h2,h3,h4⟩:=hn;simp only[List.mem_cons,List.mem_append,not_or] at hc h1;refine⟨hS _ (fun hy=>hc.2.1 (hsub k hk _ hy)) _ h.hc,hS _ (fun hy=>h1.1 (hsub k hk _ hy)) _ h.hrb,fun j hj hkj=>?_,?_,h.nd,h.nc⟩
 ·exact (h.ho j hj (by omega)).congr fun y hy o ho=>hS y (fun hc=>Er rx k j hk hj (by omega) h2 hc hy) o ho
 ·rcases h.bag with ⟨g1,g2,g3⟩|⟨gb,rest,g1,g2,g3,g4,g5⟩
  ·exact .inl ⟨g1,g2,g3⟩
  ·exact .inr ⟨gb,rest,g1,g2,hS gb (fun hy=>h4 _ (hsub k hk _ hy) gb (by rw[g1];simp) rfl) _ g3,g4,g5⟩
theorem BO (S:aa) (x:RX) (h:mA S x) (hnd:x.ids.Nodup) (hl:x.told.length≤1000) (hr:∀l∈x.told,l.length≤1000):af Tryz.prog 29 [x.tv] S fun r S'=>r = .tup []∧dU x.rows S S':=by
 rcases h.tv with ⟨h1,_,_,h4⟩|⟨to,tl,h1,h2,h3,h4,h5,h6⟩
 ·rw[h1];refine (uh _ hl S).mono ?_;rintro r S' ⟨e,rfl⟩;exact⟨e,dU.refl _ _⟩
 ·have hn:to∉x.rows:=fun hc=>by
   rw[RX.ids,h1,List.nodup_cons,List.singleton_append,List.nodup_cons] at hnd;exact hnd.2.1 hc
  have hm:∀p∈tl,p.1∈x.told:=fun p hp=>by rw[←h4];exact List.mem_map_of_mem hp
  have htl:(tl.map ck).length=x.told.length:=by rw[List.length_map,←h4,List.length_map]
  have g:=ni S to (tl.map ck) x.rows (by omega) h3 hn fun i hi=>by
   have hi':i<tl.length:=by simpa using hi
   have hp:=List.getElem_mem hi';rw[List.getElem_map,ck]
   cases hp2:tl[i].2 with
   | none=>exact⟨_,rfl,.inr (.inl rfl)⟩
   | some id=>exact⟨_,rfl,.inr (.inr ⟨id,tl[i].1,(h6 _ hp id hp2).1,hr _ (hm _ hp),rfl,(h6 _ hp id hp2).2⟩)⟩
  rw[htl] at g;rw[h2];exact g
theorem Dm (S:aa) (b ro:Nat) (l:List Int) (hl:l.length≤1000) (hb:S[b]? = some (.cells 1 [[.own ro 1 0 l.length l.length]])) (hr:S[ro]? = some (.cells 1 (l.map au))) (hne:b≠ro):af Tryz.prog 29 [.own b 1 0 1 1] S fun r S'=>r = .tup []∧dU [ro] S S':=
 ni S b [[.own ro 1 0 l.length l.length]] [ro] (by simp) hb (by simpa using hne) fun i hi=>by
  have:i=0:=by simpa using hi
  subst this;exact⟨_,rfl,.inr (.inr ⟨ro,l,by simp,hl,rfl,hr⟩)⟩
def Mat (S:aa) (lo:Nat) (ids:List Nat) (a:AV) (M:List (List Int)):Prop:=∃w,((a = .sl []∧M=[]∧ids=[])∨cT S lo w ids a M)∧(M≠[]→w≤1000)∧M.length≤1000
theorem Mat.none {S:aa} {lo:Nat} : Mat S lo [] (.sl []) []:=⟨0,.inl ⟨rfl,rfl,rfl⟩,fun h=>absurd rfl h,Nat.zero_le _⟩
theorem Mat.lt {S:aa} {lo:Nat} {ids:List Nat} {a:AV} {M:List (List Int)} (h:Mat S lo ids a M):∀b∈ids,b<S.length∧lo≤b:=fun b hb=>by
 obtain⟨w,⟨_,_,e⟩|h,_,_⟩:=h
 ·rw[e] at hb;cases hb
 ·exact h.lt b hb
theorem Mat.one {S:aa} {lo:Nat} {ids:List Nat} {a:AV} {M:List (List Int)} (h:Mat S lo ids a M):cw a=true:=by
 obtain⟨w,⟨rfl,_,_⟩|h,_,_⟩:=h
 ·rfl
 ·rcases h.form with rfl|⟨b,m,rfl⟩<;>rfl
theorem Mat.ag {S S':aa} {lo:Nat} {ids:List Nat} {a:AV} {M:List (List Int)} (h:Mat S lo ids a M) (g:Ag lo S.length S S'):Mat S' lo ids a M:=by
 obtain⟨w,h1,h2⟩:=h;exact⟨w,h1.imp_right fun h=>g.own h,h2⟩
theorem Mat.cg {S S':aa} {lo:Nat} {ids:List Nat} {a:AV} {M:List (List Int)} (h:Mat S lo ids a M) (g:∀b∈ids,S'[b]? = S[b]?):Mat S' lo ids a M:=by
 obtain⟨w,h1,h2⟩:=h;exact⟨w,h1.imp_right fun h=>h.congr (Nat.le_refl _) fun b hb o ho=>by rw[g b hb];exact ho,h2⟩
theorem Mat.deep {S:aa} {lo:Nat} {ids:List Nat} {a:AV} {M:List (List Int)} (h:Mat S lo ids a M):bG S (fun _=>True) a (aL M):=by
 obtain⟨w,⟨rfl,rfl,_⟩|h,_,_⟩:=h
 ·exact .same _
 ·exact h.deep fun _ _=>trivial
theorem Mat.spoil {S:aa} {lo:Nat} {ids:List Nat} {a:AV} {M:List (List Int)} (h:Mat S lo ids a M):af Tryz.prog 29 [a] S fun r S'=>r = .tup []∧dU ids S S':=by
 obtain⟨w,⟨rfl,rfl,rfl⟩|h,h1,h2⟩:=h
 ·refine (uh 0 (by omega) S).mono ?_
  rintro r S' ⟨e,rfl⟩;exact⟨e,dU.refl _ _⟩
 ·by_cases hM:M=[]
  ·subst hM
   rcases h.2 with ⟨_,rfl,rfl⟩|⟨_,_,_,_,e,_⟩
   ·refine (vO S).mono ?_;rintro r S' ⟨e,rfl⟩;exact⟨e,dU.refl _ _⟩
   ·exact absurd rfl e
  ·exact xF S lo w ids a M h (h1 hM) h2
theorem lT {n:Net} {x:List (List Int)} (h0:da n x=0):bI n∧RowsIn n x:=by
 have hc:aI n=0:=by
  apply Classical.byContradiction;intro hc;rw[da,if_pos hc] at h0;exact hc h0
 exact⟨aU hc,og (by rw[da,if_neg (by omega)] at h0;exact h0)⟩
theorem xT (n:Net) (x:List (List Int)) (okn:dM n) (ok:dN x) (σ:aa):af Tryz.prog 21 [.agg (aH n),aL x] σ fun r σ'=>∃τ,σ'=σ++τ∧∃ids a,r = .tup [a,ab (da n x)]∧Mat (σ++τ) σ.length ids a (if da n x=0 then cr n x else []):=by
 refine (xU n x okn ok σ).mono ?_;rintro r S' ⟨τ,e,ids,a,e2,h⟩;refine⟨τ,e,ids,a,e2,_,.inr h,fun hM=>?_,?_⟩
 ·by_cases h0:da n x=0
  ·have:=(lT h0).1.n6;omega
  ·rw[if_neg h0] at hM;exact absurd rfl hM
 ·split
  ·rename_i h0
   have:=(lT h0).1.n6;have:=(pY (lT h0).1 (lT h0).2).len;omega
  ·exact Nat.zero_le _
theorem xi (n:Net) (x:List (List Int)) (okn:dM n) (ok:dN x) (σ:aa):af Tryz.prog 24 [.agg (aH n),aL x] σ fun r σ'=>∃τ,σ'=σ++τ∧∃ids a M,r = .tup [a,ab (da n x)]∧Mat (σ++τ) σ.length ids a M:=by
 refine (xj n x okn ok σ).mono ?_;rintro r S' ⟨τ,e,ids,a,e2,h⟩;refine⟨τ,e,ids,a,_,e2,_,.inr h,fun hM=>?_,?_⟩
 ·by_cases h0:da n x=0
  ·have:=(lT h0).1.n6;omega
  ·rw[if_neg h0] at hM;exact absurd rfl hM
 ·split
  ·rename_i h0
   have:=(lT h0).1.n6;simp [xk,ints];omega
  ·exact Nat.zero_le _
theorem wI (n:Net) (x:List (List Int)) (okn:dM n) (ok:dN x) (σ:aa):af Tryz.prog 13 [.agg (aH n),aL x,ab 3] σ fun r σ'=>∃τ,σ'=σ++τ∧∃ids a k u M,r = .tup [a,ab k,ab u]∧Mat (σ++τ) σ.length ids a M:=by
 by_cases h0:da n x=0
 ·obtain⟨hn,hx⟩:=lT h0;have n6:=hn.n6;refine (qR n x 3 okn ok (by unfold I64;decide) (by decide) h0 σ).mono ?_
  rintro r S' ⟨τ,e,ids,a,e2,h⟩;have hl:=(BV hn (f:=(3:Int).toNat) (k:=0) hx).len;exact⟨τ,e,ids,a,_,0,_,e2,_,.inr h,fun _=>by omega,by omega⟩
 ·refine (wJ n x 3 okn ok h0 σ).mono ?_;rintro r S' ⟨rfl,rfl⟩;exact⟨[],by simp,[],_,_,_,[],rfl,.none⟩
theorem yN (p:Pl) (ok:d8 p) (σ:aa):af Tryz.prog 23 [.agg (plC p)] σ fun r σ'=>∃τ,σ'=σ++τ∧∃bi bv ids a,r = .tup [.agg [ab (db p).1.size,bv,a],ab (db p).2]∧Mat (σ++τ) σ.length bi bv (db p).1.best∧Mat (σ++τ) σ.length ids a (db p).1.edges∧∀x∈bi,x∉ids:=by
 by_cases he:gk p=0
 ·have hr:=sP he;have h2:=hr.s24;have h3:=hr.e8;have h4:=hr.bl;refine (nq p ok he σ).mono ?_;rintro r S' ⟨τ,e,_,rfl,ids,a,bi,bv,rfl,h,g,hd⟩;rw[db,if_pos he];exact⟨τ,e,bi,bv,ids,a,rfl,⟨_,.inr g,fun _=>(show (aO p).size.toNat≤1000 by omega),(show (aO p).best.length≤1000 by omega)⟩,⟨_,.inr h,fun _=>(show (aO p).size.toNat≤1000 by omega),(show (aO p).edges.length≤1000 by omega)⟩,hd⟩
 ·refine (nr p ok he σ).mono ?_;rintro r S' ⟨rfl,rfl⟩;rw[db,if_neg he];exact⟨[],by simp,[],_,[],_,rfl,.none,.none,fun x hx=>by cases hx⟩
end Go.Proofs.YtephecognbbaoaaGreat
namespace Go.Proofs.YtephecognbbaoaaGreat
def d7 (c m:Int):List Int:=(ints c).map fun k=>k / m
def d5 (c m:Int):List Int:=(ints c).map fun k=>k % m
theorem Bf (N m p q:Int) (hok:dW N m) (h529:N*m≤529) (p0:0≤p) (p1:p≤N) (q0:0≤q) (q1:q≤m) (σ:aa) :
  af Tryz.prog 133 [ab p,ab q,.cp [ab (N*m)] 0,.cp [aF (d7 (N*m) m)] 0,.cp [aF (d5 (N*m) m)] 0] σ fun r σ'=>σ'=σ∧r=ab (if p=N∨q=m then N*m else p*m+q):=by
 have hm:=hok.m;have hL1:=hok.last;have key:∀k,0≤k→k<N*m→k / m=p→k % m=q→(if p=N∨q=m then N*m else p*m+q)=k:=fun k k0 k1 a b=>by
  have h1:=hok.div k0 k1;have h2:=hok.mod (i:=k);have h3:=hok.of (i:=k);rw[if_neg (by omega),←a,←b,h3]
 have miss:(∀k,0≤k→k<N*m→¬(k / m=p∧k % m=q))→(if p=N∨q=m then N*m else p*m+q)=N*m:=fun h=>by
  by_cases c:p=N∨q=m
  ·rw[if_pos c]
  ·have h1:=hok.mul p0 (show p<N by omega) q0 (show q<m by omega)
   exact absurd (hok.back q0 (show q<m by omega)) (h _ h1.1 h1.2)
 obtain⟨R,hR⟩:∃R,(if p=N∨q=m then N*m else p*m+q)=R:=⟨_,rfl⟩
 rw[hR] at key miss ⊢;have ad:∀k,0≤k→k<N*m→at0 (d7 (N*m) m) k=k / m:=fun k k0 k1=>iF (fun k=>k / m) k0 k1;have am:∀k,0≤k→k<N*m→at0 (d5 (N*m) m) k=k % m:=fun k k0 k1=>iF (fun k=>k % m) k0 k1;have ld:(d7 (N*m) m).length=(N*m).toNat:=by simp [d7,ao]
 have lm:(d5 (N*m) m).length=(N*m).toNat:=by simp [d5,ao]
 obtain⟨D,hD⟩:∃D,d7 (N*m) m=D:=⟨_,rfl⟩;obtain⟨M,hM⟩:∃M,d5 (N*m) m=M:=⟨_,rfl⟩;rw[hD] at ad ld ⊢;rw[hM] at am lm ⊢;obtain⟨L,hL⟩:∃L,N*m=L:=⟨_,rfl⟩;rw[hL] at key miss ad am ld lm h529 hL1 ⊢;refine af.cutX ?_;refine g_n Tryz.func133 rfl Tryz.results133 Tryz.ntmps133 ?_
 (repeat' (first|(refine g_s fun K hK=>?_)|(refine g_b ?_)|(refine g_g ?_;(try refine g_y ?_))|(refine hK _ _ ?_;clear hK K)|exact trivial|fail))
 have hJ:=hK;clear hK;refine b8 L (fun k _=>∀i,0≤i→i<k→¬(i / m=p∧i % m=q)) (fun k _ _=>[(8,ab k)]) (fun _ _ _=>σ) () [] (by omega) (fun i i0 i1=>by omega) rfl (ai ?_) ?_
 ·exact g_w
 ·rintro k _ τ k0 k1 hH L2 hL2
  by_cases hk:k<L
  ·have hdk:=ad k k0 hk;have hmk:=am k k0 hk;simp -implicitDefEqProofs only[go_sem]
   by_cases c1:k / m=p
   ·by_cases c2:k % m=q
    ·have hk2:=key k k0 hk c1 c2
     (repeat' (first|(refine g_s fun K hK=>?_)|(refine g_b ?_)|(refine g_k ?_;simp only[ah,ae])|(refine g_C (fun h=>?_) (fun h=>?_)<;>(try exact g_f))|((first|refine g_t ?_|refine g_g ?_);(try simp -implicitDefEqProofs only[go_sem,hdk,hmk,c1,c2]))|(refine hK _ _ ?_;clear hK K)|(with_reducible refine ak (fun h=>?_) (fun h=>?_)<;>(try simp only[go_sem] at h)<;>(try exact g_f)<;>(try simp -implicitDefEqProofs only[go_sem,hdk,hmk,c1,c2]))|(with_reducible refine And.intro ?_ ?_;· exact g_x)|fail))
     refine ax (τ:=[]) (by simp) ?_
     rw[hk2]
    ·(repeat' (first|(refine g_s fun K hK=>?_)|(refine g_b ?_)|(refine g_k ?_;simp only[ah,ae])|(refine g_C (fun h=>?_) (fun h=>?_)<;>(try exact g_f))|(refine g_g ?_;(try simp -implicitDefEqProofs only[go_sem,hdk,hmk,c1,c2]))|(refine hK _ _ ?_;clear hK K)|(with_reducible refine ak (fun h=>?_) (fun h=>?_)<;>(try simp only[go_sem] at h)<;>(try exact g_f)<;>(try simp -implicitDefEqProofs only[go_sem,hdk,hmk,c1,c2]))|(with_reducible refine And.intro ?_ ?_;· exact g_x)|fail))
     refine hL2 hk () [] _ _ (fun i i0 i1=>?_) (ai ?_) rfl
     ·rcases Int.lt_or_eq_of_le (Int.le_of_lt_add_one i1) with h3|h3
      ·exact hH i i0 h3
      ·subst h3;exact fun h=>c2 h.2
     ·exact g_w
   ·(repeat' (first|(refine g_s fun K hK=>?_)|(refine g_b ?_)|(refine g_k ?_;simp only[ah,ae])|(refine g_C (fun h=>?_) (fun h=>?_)<;>(try exact g_f))|(refine g_g ?_;(try simp -implicitDefEqProofs only[go_sem,hdk,c1]))|(refine hK _ _ ?_;clear hK K)|(with_reducible refine ak (fun h=>?_) (fun h=>?_)<;>(try simp only[go_sem] at h)<;>(try exact g_f)<;>(try simp -implicitDefEqProofs only[go_sem,hdk,c1]))|(with_reducible refine And.intro ?_ ?_;· exact g_x)|fail))
    refine hL2 hk () [] _ _ (fun i i0 i1=>?_) (ai ?_) rfl
    ·rcases Int.lt_or_eq_of_le (Int.le_of_lt_add_one i1) with h3|h3
     ·exact hH i i0 h3
     ·subst h3;exact fun h=>c1 h.1
    ·exact g_w
  ·have hkL:k=L:=by omega
   subst hkL;simp -implicitDefEqProofs only[go_sem]
   (repeat' (first|(refine g_s fun K hK=>?_)|(refine g_e ?_;simp only[ah,ae,↓reduceIte,Nat.reduceEqDiff])|(refine g_C (fun h=>?_) (fun h=>?_)<;>(try exact g_f))|(refine g_g ?_;(try refine g_y ?_))|(refine hK _ _ ?_;clear hK K)|exact trivial|fail))
   refine hJ _ _ ?_;clear hJ
   (repeat' (first|(refine g_s fun K hK=>?_)|((first|refine g_t ?_|refine g_g ?_);(try refine g_y ?_))|(refine hK _ _ ?_;clear hK K)|exact trivial|fail))
   refine ax (τ:=[]) (by simp) ?_
   rw[miss hH]
theorem rR {c:Int} (h:0≤c):ints (c+1)=ints c++[c]:=by
 unfold ints;have e:(c+1).toNat=c.toNat+1:=by omega
 rw[e,List.range_succ,List.map_append];simp;omega
theorem Cw {i j m:Int} (i0:0≤i) (j0:0≤j) (j1:j<m):d7 (i*m+j+1) m=d7 (i*m+j) m++[i]:=by
 have h1:0≤i*m:=Int.mul_nonneg i0 (by omega)
 have e:(i*m+j) / m=i:=by rw[Int.add_comm,Int.add_mul_ediv_right _ _ (by omega),Int.ediv_eq_zero_of_lt j0 j1,Int.zero_add]
 unfold d7;rw[rR (by omega),List.map_append,List.map_singleton,e]
theorem Cd {i j m:Int} (i0:0≤i) (j0:0≤j) (j1:j<m):d5 (i*m+j+1) m=d5 (i*m+j) m++[j]:=by
 have h1:0≤i*m:=Int.mul_nonneg i0 (by omega)
 have e:(i*m+j) % m=j:=by rw[Int.add_comm,Int.add_mul_emod_self_right,Int.emod_eq_of_lt j0 j1]
 unfold d5;rw[rR (by omega),List.map_append,List.map_singleton,e]
theorem tL (c m:Int):(d7 c m).length=c.toNat:=by simp [d7,ao]
theorem yh (c m:Int):(d5 c m).length=c.toNat:=by simp [d5,ao]
theorem Dp {A Te τ3:aa} {lo:Nat} {q:List Nat} {M':List (List Int)} (h4:aQ (A++Te) lo q M') (hn:q.Nodup) (hlo:lo≤A.length) (d1:Ob) (full:List Int) :
  aQ (A++(Te++d1::(τ3++[.dead,.cells 1 (full.map au)]))) lo (q++[A.length+(Te.length+(τ3.length+2))]) (M'++[full])∧(q++[A.length+(Te.length+(τ3.length+2))]).Nodup:=by
 have h7:=h4.congr (S':=A++(Te++d1::τ3)) (Nat.le_refl _) (fun b hb o ho=>by
  rw[←List.append_assoc,List.getElem?_append_left (List.getElem?_eq_some_iff.1 ho).1];exact ho)
 have h8:=nj h7 (r:=full) (o:=.cells 1 (full.map au)) rfl (X:=[.dead,.cells 1 (full.map au)]) rfl hlo;have h9:=pS h7 hn;have ea:(Te++d1::τ3)++[.dead,.cells 1 (full.map au)]=Te++d1::(τ3++[.dead,.cells 1 (full.map au)]):=by simp
 have eb:A.length+((Te++d1::τ3).length+1)=A.length+(Te.length+(τ3.length+2)):=by simp;omega
 rw[ea,eb] at h8;rw[eb] at h9;exact⟨h8,h9⟩
theorem B0 {A Te τ3:aa} {lo:Nat} {q:List Nat} {M':List (List Int)} (h4:aQ (A++Te) lo q M') (hn:q.Nodup) (hlo:lo≤A.length) (d1:Ob) (full:List Int) :
  aQ (A++(Te++d1::(τ3++[.cells 1 (full.map au)]))) lo (q++[A.length+(Te.length+(τ3.length+1))]) (M'++[full])∧(q++[A.length+(Te.length+(τ3.length+1))]).Nodup:=by
 refine⟨aQ.snoc (h4.congr (Nat.le_refl _) fun b hb o ho=>?_) (by omega) ?_,?_⟩
 ·rw[←List.append_assoc,List.getElem?_append_left (List.getElem?_eq_some_iff.1 ho).1];exact ho
 ·rw[List.getElem?_append_right (by omega),List.getElem?_append_right (by omega)]
  have e:A.length+(Te.length+(τ3.length+1))-A.length-Te.length=τ3.length+1:=by omega
  rw[e,List.getElem?_cons_succ,List.getElem?_append_right (by omega)]
  simp
 ·rw[List.nodup_append];refine⟨hn,by simp,fun a ha b hb=>?_⟩
  have:=(h4.lt a ha).1;rw[List.length_append] at this;rw[List.mem_singleton.1 hb];omega
theorem yc {A A' Te:aa} {w lo:Nat} {q:List Nat} {M:List (List Int)} (hA:A'.length=A.length) (h4:aQ (A++Te) A.length q M) (hn:q.Nodup) (hw:∀r∈M,r.length=w) (hlo:lo≤A.length) :
  ∃ids,cT (A'++(Te++[ap (be w) 1 q])) lo w ids (aq 1 (A.length+Te.length) q) M:=by
 have hg:∀b∈q,∀o,(A++Te)[b]? = some o→(A'++(Te++[ap (be w) 1 q]))[b]? = some o:=fun b hb o ho=>by
  have h1:=h4.lt b hb;have h2:b<A.length+Te.length:=by simpa using h1.1
  have h3:=h1.2;rw[List.getElem?_append_right h3] at ho;rw[List.getElem?_append_right (by omega),hA,List.getElem?_append_left (by omega)]
  exact ho
 rcases q with _|⟨y,q⟩
 ·have hM:M=[]:=List.eq_nil_of_length_eq_zero h4.1.symm;exact⟨[],hw,.inl ⟨hM,rfl,rfl⟩⟩
 ·have hl:q.length+1=M.length:=h4.1;refine⟨(A.length+Te.length)::y::q,hw,.inr ⟨_,y::q,rfl,?_,?_,by rw[←hl];rfl,by omega,?_,h4.congr hlo hg⟩⟩
  ·rw[List.nodup_cons];refine⟨fun hm=>?_,hn⟩;have:=(h4.lt _ hm).1;rw[List.length_append] at this;omega
  ·intro e;rw[e] at hl;simp at hl
  ·rw[List.getElem?_append_right (by omega),List.getElem?_append_right (by omega)]
   have e:A.length+Te.length-A'.length-Te.length=0:=by omega
   rw[e];rfl
end Go.Proofs.YtephecognbbaoaaGreat
namespace Go.Proofs.YtephecognbbaoaaGreat
theorem x8 (x y:Alg) (fx:ce x) (fy:ce y) (he:x.edges.length=y.edges.length) (h24:(x.size-1)*(y.size-1)+1≤24) (hel:x.edges.length≤24) (σ:aa) :
  af Tryz.prog 104 [.agg (aS x),.agg (aS y)] σ fun r σ'=>∃τ,σ'=σ++τ∧yX (σ++τ) σ.length r (dd x y):=by
 have hN:=iD fx fy;have x2:=fx.s2;have x24:=fx.s24;have y2:=fy.s2;have y24:=fy.s24;have hok:=d9 fx fy;obtain⟨N,hNd⟩:∃N,x.size-1=N:=⟨_,rfl⟩;obtain⟨m,hmd⟩:∃m,y.size-1=m:=⟨_,rfl⟩;have i1:I64 (x.size-1):=by unfold I64;omega
 have i2:I64 (y.size-1):=by unfold I64;omega
 refine g_n Tryz.func104 rfl Tryz.results104 Tryz.ntmps104 ?_;refine g_s fun K hK=>?_;refine g_h ?_;refine hK _ _ ?_;clear hK K;refine g_0 2 rfl ?_;refine g_0 3 rfl ?_
 (repeat' (first|(refine g_s fun K hK=>?_)|(refine g_b ?_)|(refine g_g ?_;(try refine g_y ?_))|(refine hK _ _ ?_;clear hK K)|exact trivial|fail))
 refine bn ?_;refine bn ?_;have hJ:=hK;clear hK;have hc0:∀m:Int,d7 0 m=[]:=fun _=>rfl;have hc1:∀m:Int,d5 0 m=[]:=fun _=>rfl;refine ay (ints N) (fun _ _ _=>True) (fun i _ _=>[(7,ab i)]) (fun i _ τ=>σ++(.dead::.dead::.cells 3 [[ab 0,.c (.slice none 0 0),.c (.slice none 0 0)]]::.cells 1 [[aq 1 (σ.length+(τ.length+5)) (d7 (i*m) m)]]::.cells 1 [[aq 1 (σ.length+(τ.length+6)) (d5 (i*m) m)]]::(τ++[ap au 1 (d7 (i*m) m),ap au 1 (d5 (i*m) m)]))) () [] trivial ?_ (ai ?_) ?_ ?_
 ·simp [hc0,hc1,aq,ap,ab]
 ·exact g_w
 ·rintro i r _ τ hi0 hi1 _ L hL;rw[ao] at hi1;have him:0≤i*m:=Int.mul_nonneg hi0 (by omega)
  simp -implicitDefEqProofs only[go_sem]
  (repeat' (first|(refine g_s fun K hK=>?_)|(refine g_b ?_)|(refine g_k ?_;simp only[ah,ae])|(refine g_C (fun h=>?_) (fun h=>?_)<;>(try exact g_f))|(refine g_g ?_;(try simp -implicitDefEqProofs only[go_sem,i1,hNd]))|(refine hK _ _ ?_;clear hK K)|(with_reducible refine And.intro ?_ ?_;· exact g_x)|fail))
  have hJ2:=hK;clear hK;refine ay (ints m) (fun _ _ _=>True) (fun j _ _=>[(8,ab j)]) (fun j _ τ2=>σ++(.dead::.dead::.cells 3 [[ab 0,.c (.slice none 0 0),.c (.slice none 0 0)]]::.cells 1 [[aq 1 (σ.length+(τ2.length+5)) (d7 (i*m+j) m)]]::.cells 1 [[aq 1 (σ.length+(τ2.length+6)) (d5 (i*m+j) m)]]::(τ2++[ap au 1 (d7 (i*m+j) m),ap au 1 (d5 (i*m+j) m)]))) () τ trivial ?_ (ai ?_) ?_ ?_
  ·simp [ab]
  ·exact g_w
  ·rintro j r2 _ τ2 hj0 hj1 _ L2 hL2;rw[ao] at hj1;have hjm:j<m:=by omega
   have hds:=Cw hi0 hj0 hjm;have hms:=Cd hi0 hj0 hjm;have hdl:=tL (i*m+j) m;have hml:=yh (i*m+j) m;have hcb:i*m+j≤529:=by
    have:=hok.mul (p:=i) (q:=j) hi0 (by omega) hj0 (by omega)
    rw[hNd,hmd] at this;rw[hNd,hmd] at hN;omega
   have hsuc:i*m+(j+1)=i*m+j+1:=by omega
   obtain⟨D,hD⟩:∃D,d7 (i*m+j) m=D:=⟨_,rfl⟩;obtain⟨M,hM⟩:∃M,d5 (i*m+j) m=M:=⟨_,rfl⟩;rw[hD] at hdl hds;rw[hM] at hml hms;have hDM:D.length=M.length:=by omega
   have hD5:D.length≤529:=by omega
   simp only[hD,hM];have hnext:∀ {S:aa},S=σ++(.dead::.dead::.cells 3 [[ab 0,.c (.slice none 0 0),.c (.slice none 0 0)]]::.cells 1 [[.own (σ.length+(τ2.length+7)) 1 0 (D.length+1) (D.length+1)]]::.cells 1 [[.own (σ.length+(τ2.length+8)) 1 0 (M.length+1) (M.length+1)]]::(τ2++[.dead,.dead,.cells 1 (D.map au++[au i]),.cells 1 (M.map au++[au j])])) →
     σ++(.dead::.dead::.cells 3 [[ab 0,.c (.slice none 0 0),.c (.slice none 0 0)]]::.cells 1 [[aq 1 (σ.length+((τ2++[Ob.dead,Ob.dead]).length+5)) (d7 (i*m+(j+1)) m)]]::.cells 1 [[aq 1 (σ.length+((τ2++[Ob.dead,Ob.dead]).length+6)) (d5 (i*m+(j+1)) m)]]::((τ2++[Ob.dead,Ob.dead])++[ap au 1 (d7 (i*m+(j+1)) m),ap au 1 (d5 (i*m+(j+1)) m)]))=S:=fun {S} h=>by
    rw[h];simp [hsuc,hds,hms,CM,CN]
   rcases D with _|⟨d,D⟩<;>rcases M with _|⟨e,M⟩<;>simp only[List.length_cons,List.length_nil] at hDM hD5
   ·simp -implicitDefEqProofs only[go_sem,aq,ap]
    (repeat' (first|(refine g_s fun K hK=>?_)|(refine g_b ?_)|(refine g_k ?_;simp only[ah,ae])|(refine g_C (fun h=>?_) (fun h=>?_)<;>(try exact g_f))|((first|refine g_G ?_|refine sq false a9 (by decide +kernel) ?_);(try simp -implicitDefEqProofs only[go_sem,i2,hmd]))|(refine hK _ _ ?_;clear hK K)|(with_reducible refine And.intro ?_ ?_;· exact g_x)|fail))
    refine hL2 () (τ2++[.dead,.dead]) _ _ trivial (ai ?_) (hnext ?_)
    ·exact g_w
    ·simp [au,ab]
   ·omega
   ·omega
   ·simp -implicitDefEqProofs only[go_sem,aq,ap]
    (repeat' (first|(refine g_s fun K hK=>?_)|(refine g_b ?_)|(refine g_k ?_;simp only[ah,ae])|(refine g_C (fun h=>?_) (fun h=>?_)<;>(try exact g_f))|((first|refine g_G ?_|refine sr (σ++(.dead::.dead::.cells 3 [[.c (.int .i64 0),.c (.slice none 0 0),.c (.slice none 0 0)]]::.cells 1 [[.own (σ.length+(τ2.length+5)) 1 0 (D.length+1) (D.length+1)]]::.cells 1 [[.own (σ.length+(τ2.length+6)) 1 0 (M.length+1) (M.length+1)]]::τ2)) ⟨_,by simp;rfl⟩ a9 (by decide +kernel) ?_);(try simp -implicitDefEqProofs only[go_sem,i2,hmd]))|(refine hK _ _ ?_;clear hK K)|(with_reducible refine And.intro ?_ ?_;· exact g_x)|fail))
    refine hL2 () (τ2++[.dead,.dead]) _ _ trivial (ai ?_) (hnext ?_)
    ·exact g_w
    ·simp [au,ab]
  ·rintro j _ τ2 hj _ L2;rw[ao] at hj;have hjm:j=m:=by omega
   have hsuc:(i+1)*m=i*m+j:=by rw[hjm,Int.add_mul,Int.one_mul]
   simp -implicitDefEqProofs only[go_sem]
   (repeat' (first|(refine g_s fun K hK=>?_)|(refine g_e ?_;simp only[ah,ae,↓reduceIte,Nat.reduceEqDiff])|(refine g_C (fun h=>?_) (fun h=>?_)<;>(try exact g_f))|(refine g_g ?_;(try simp -implicitDefEqProofs only[go_sem,i2,hmd]))|(refine hK _ _ ?_;clear hK K)|(with_reducible refine And.intro ?_ ?_;· exact g_x)|fail))
   refine hJ2 _ _ ?_;clear hJ2
   (repeat' (first|(refine g_g ?_;(try refine g_y ?_))|(with_reducible refine And.intro ?_ ?_;· exact g_x)|exact trivial|fail))
   refine hL () τ2 _ _ trivial (ai ?_) ?_
   ·exact g_w
   ·rw[hsuc];simp [ab]
 ·rintro i _ τ hi _ L;rw[ao] at hi;have hiN:i=N:=by omega
  rw[hiN];have hdl:=tL (N*m) m;have hml:=yh (N*m) m;rw[hNd,hmd] at hN h24;refine fw (k:=1) (kk:=1) (b:=σ.length+(τ.length+5)) (rows:=[[aq 1 (σ.length+(τ.length+5)) (d7 (N*m) m)]]) σ [.dead,.dead,.cells 3 [[ab 0,.c (.slice none 0 0),.c (.slice none 0 0)]]] (.cells 1 [[aq 1 (σ.length+(τ.length+6)) (d5 (N*m) m)]]::τ) [ap au 1 (d5 (N*m) m)] 0 0 au (d7 (N*m) m) (by simp) rfl rfl (by simp;omega) ?_
  refine fw (k:=1) (kk:=1) (b:=σ.length+(τ.length+6)) (rows:=[[aq 1 (σ.length+(τ.length+6)) (d5 (N*m) m)]]) σ [.dead,.dead,.cells 3 [[ab 0,.c (.slice none 0 0),.c (.slice none 0 0)]],.cells 1 [[.sl ((d7 (N*m) m).map au)]]] (τ++[.dead]) [] 0 0 au (d5 (N*m) m) (by simp) rfl rfl (by simp;omega) ?_
  simp -implicitDefEqProofs only[go_sem]
  (repeat' (first|(refine g_s fun K hK=>?_)|(refine g_e ?_;simp only[ah,ae,↓reduceIte,Nat.reduceEqDiff])|(refine g_C (fun h=>?_) (fun h=>?_)<;>(try exact g_f))|(refine g_g ?_;(try simp -implicitDefEqProofs only[go_sem,i1,hNd]))|(refine hK _ _ ?_;clear hK K)|(with_reducible refine And.intro ?_ ?_;· exact g_x)|fail))
  refine hJ _ _ ?_;clear hJ;have hlI:((d7 (N*m) m).length:Int)=N*m:=by rw[tL];omega
  have hokN:dW N m:=by rw[hNd,hmd] at hok;exact hok
  have hfind:=fun p q p0 p1 q0 q1=>Bf N m p q hokN (by omega) p0 p1 q0 q1
  have ad:∀k,0≤k→k<N*m→at0 (d7 (N*m) m) k=k / m:=fun k k0 k1=>iF (fun k=>k / m) k0 k1;have am:∀k,0≤k→k<N*m→at0 (d5 (N*m) m) k=k % m:=fun k k0 k1=>iF (fun k=>k % m) k0 k1;refine g_s fun K hK=>?_
  (refine cU ?_;simp -implicitDefEqProofs only[go_sem,hlI])
  refine hK _ _ ?_;clear hK K;obtain⟨D,hD⟩:∃D,d7 (N*m) m=D:=⟨_,rfl⟩;obtain⟨M,hM⟩:∃M,d5 (N*m) m=M:=⟨_,rfl⟩;rw[hD] at hdl ad;rw[hM] at hml am;simp only[hD,hM] at hfind ⊢;refine aC 5 rfl (by first|rfl|(simp -implicitDefEqProofs only[go_sem];done)|(simp -implicitDefEqProofs only[go_sem];rfl)) ?_
  simp -implicitDefEqProofs only[go_sem];refine aC 6 rfl (by first|rfl|(simp -implicitDefEqProofs only[go_sem];done)|(simp -implicitDefEqProofs only[go_sem];rfl)) ?_
  simp -implicitDefEqProofs only[go_sem];refine aC 9 rfl (by first|rfl|(simp -implicitDefEqProofs only[go_sem];done)|(simp -implicitDefEqProofs only[go_sem];rfl)) ?_
  simp -implicitDefEqProofs only[go_sem];have hLx:(x.size-1)*(y.size-1)=N*m:=by rw[hNd,hmd]
  have hbe:∀i k,bf x y i k=bf x y i k:=fun _ _=>rfl;obtain⟨Lp,hLp⟩:∃Lp,N*m=Lp:=⟨_,rfl⟩;rw[hLp] at hfind ad am hdl hml hN h24 hlI hLx ⊢;have i4:I64 (Lp+1):=by unfold I64;omega
  obtain⟨T,hT⟩:∃T:aa,τ++[.dead,.dead,.dead]=T:=⟨_,rfl⟩;rw[hT];have hBs:(dd x y).best=(ints (Lp+1)).map fun i=>(ints (Lp+1)).map fun k=>bf x y i k:=by rw[←hLx];rfl
  have hEs:(dd x y).edges=(ints x.edges.length).map fun e=>(ints (Lp+1)).map fun k=>cx x y e k:=by rw[←hLx];rfl
  have hSz:(dd x y).size=Lp+1:=by rw[←hLx];rfl
  have hlen:σ.length+(T.length+5)=(σ++(.dead::.dead::.cells 3 [[ab 0,.c (.slice none 0 0),.c (.slice none 0 0)]]::.dead::.dead::T)).length:=by simp
  (repeat' (first|(refine g_s fun K hK=>?_)|(refine g_b ?_)|(refine g_g ?_;(try simp -implicitDefEqProofs only[go_sem,i4]))|(refine hK _ _ ?_;clear hK K)|fail))
  refine bn ?_;have hJ:=hK;clear hK;obtain⟨ρ,hρ⟩:∃ρ:aa,σ++(.dead::.dead::.cells 3 [[ab 0,.c (.slice none 0 0),.c (.slice none 0 0)]]::.dead::.dead::T)=ρ:=⟨_,rfl⟩;rw[hρ] at hlen;obtain⟨Bst,hBst⟩:∃b,(dd x y).best=b:=⟨_,rfl⟩;rw[hBst] at hBs;have hBl:Bst.length=(Lp+1).toNat:=by rw[hBs,List.length_map,ao]
  refine ay (ints (Lp+1)) (fun i r acc=>acc++r.map (fun i=>(ints (Lp+1)).map fun k=>bf x y i k)=Bst) (fun i _ _=>[(12,ab i),(11,.ptr ρ.length 3 0 0)])
   (fun _ acc τ2=>ρ++(.cells 3 [[ab (Lp+1),aq 1 (ρ.length+(τ2.length+1)) acc,.c (.slice none 0 0)]]::(τ2++[ap aE 1 acc]))) [] [] hBs.symm ?_ (ai ?_) ?_ ?_
  ·rw[←hρ];simp [aq,ap,ab]
  ·simp -implicitDefEqProofs only[go_sem,hlen]
  ·rintro i r acc τ2 hi0 hi1 h5 L3 hL3;rw[ao] at hi1;have hiL:i≤Lp:=by omega
   rw[eH hi0 (by omega),List.map_cons] at h5
   have hal:acc.length+1≤24:=by have:=congrArg List.length h5;simp at this;omega
   simp -implicitDefEqProofs only[go_sem]
   (repeat' (first|(refine g_s fun K hK=>?_)|(refine g_b ?_)|(refine g_k ?_;simp only[ah,ae])|(refine g_C (fun h=>?_) (fun h=>?_)<;>(try exact g_f))|(refine g_G ?_;(try refine g_y ?_))|(refine hK _ _ ?_;clear hK K)|exact trivial|fail))
   refine bn ?_;have hJ2:=hK;clear hK;obtain⟨ca,hca⟩:∃ca,aq 1 (ρ.length+(τ2.length+1)) acc=ca:=⟨_,rfl⟩;obtain⟨oa,hoa⟩:∃oa,ap aE 1 acc=oa:=⟨_,rfl⟩;rw[hca,hoa];refine ay (ints (Lp+1)) (fun j r row=>row++r.map (fun k=>bf x y i k)=(ints (Lp+1)).map fun k=>bf x y i k) (fun j row τ3=>[(14,ab j),(13,aq 1 (ρ.length+(τ2.length+(τ3.length+2))) row)])
    (fun _ row τ3=>ρ++(.cells 3 [[ab (Lp+1),ca,.c (.slice none 0 0)]]::(τ2++oa::(τ3++[ap au 1 row])))) [] [] rfl ?_ (ai ?_) ?_ ?_
   ·simp [ap,ab]
   ·simp -implicitDefEqProofs only[go_sem,aq,ap]
   ·rintro j r2 row τ3 hj0 hj1 h4 L2 hL2;rw[ao] at hj1;have hjL:j≤Lp:=by omega
    rw[eH hj0 (by omega),List.map_cons] at h4
    have hrl:row.length+1≤24:=by have:=congrArg List.length h4;simp [ao] at this;omega
    by_cases c1:i=Lp
    ·have hv:bf x y i j=j:=by rw[bf,hLx,if_pos c1]
     rcases row with _|⟨w,row⟩<;>simp only[List.length_cons,List.length_nil] at hrl<;>simp -implicitDefEqProofs only[go_sem,aq,ap]
     all_goals (repeat' (first|(refine g_s fun K hK=>?_)|(refine g_b ?_)|(refine g_k ?_;simp only[ah,ae])|(refine g_C (fun h=>?_) (fun h=>?_)<;>(try exact g_f))|(refine g_G ?_;(try refine g_y ?_))|(refine hK _ _ ?_;clear hK K)|(with_reducible refine And.intro ?_ ?_;· exact g_x)|exact trivial|fail))
     ·refine hL2 [bf x y i j] (τ3++[.dead]) _ _ (by simpa using h4) (ai ?_) ?_
      ·simp -implicitDefEqProofs only[go_sem,aq]
      ·simp [ap,au,ab,hv]
     ·refine hL2 (w::row++[bf x y i j]) (τ3++[.dead]) _ _ (by simpa using h4) (ai ?_) ?_
      ·simp -implicitDefEqProofs only[go_sem,aq]
      ·simp [ap,au,ab,hv]
    ·by_cases c2:j=Lp
     ·have hv:bf x y i j=i:=by rw[bf,hLx,if_neg c1,if_pos c2]
      rcases row with _|⟨w,row⟩<;>simp only[List.length_cons,List.length_nil] at hrl<;>simp -implicitDefEqProofs only[go_sem,aq,ap]
      all_goals (repeat' (first|(refine g_s fun K hK=>?_)|(refine g_b ?_)|(refine g_k ?_;simp only[ah,ae])|(refine g_C (fun h=>?_) (fun h=>?_)<;>(try exact g_f))|(refine g_G ?_;(try refine g_y ?_))|(refine hK _ _ ?_;clear hK K)|(with_reducible refine And.intro ?_ ?_;· exact g_x)|exact trivial|fail))
      ·refine hL2 [bf x y i j] (τ3++[.dead]) _ _ (by simpa using h4) (ai ?_) ?_
       ·simp -implicitDefEqProofs only[go_sem,aq]
       ·simp [ap,au,ab,hv]
      ·refine hL2 (w::row++[bf x y i j]) (τ3++[.dead]) _ _ (by simpa using h4) (ai ?_) ?_
       ·simp -implicitDefEqProofs only[go_sem,aq]
       ·simp [ap,au,ab,hv]
     ·have hi2:i<Lp:=by omega
      have hj2:j<Lp:=by omega
      have f1:=ad i hi0 hi2;have f2:=am i hi0 hi2;have f3:=ad j hj0 hj2;have f4:=am j hj0 hj2;have g1:=hokN.div hi0 (show i<N*m by omega)
      have g2:=hokN.mod (i:=i);have g3:=hokN.div hj0 (show j<N*m by omega)
      have g4:=hokN.mod (i:=j);have hv0:bf x y i j=if i / m=j / m then eV x y (i / m) (at2 y.best (i % m) (j % m)) else if at2 x.best (i / m) (j / m)=i / m then i else j:=by rw[bf,hLx,if_neg c1,if_neg c2,hmd]
      obtain⟨a,ha⟩:∃a,i / m=a:=⟨_,rfl⟩;obtain⟨b,hb⟩:∃b,i % m=b:=⟨_,rfl⟩;obtain⟨c,hc⟩:∃c,j / m=c:=⟨_,rfl⟩;obtain⟨d,hd⟩:∃d,j % m=d:=⟨_,rfl⟩;rw[ha] at f1 g1 hv0;rw[hb] at f2 g2 hv0;rw[hc] at f3 g3 hv0;rw[hd] at f4 g4 hv0;have hbx:=fx.best_len g1.1 (show a<x.size by omega)
      have hby:=fy.best_len g2.1 (show b<y.size by omega)
      have hxb:=fx.bl;have hyb:=fy.bl
      by_cases c3:a=c
      ·have hin:=fy.best_in g2.1 (show b<y.size by omega) g4.1 (show d<y.size by omega)
       have hF:=hfind a (at2 y.best b d) g1.1 (by omega) hin.1 (by omega)
       have hvN:(if a=N∨at2 y.best b d=m then Lp else a*m+at2 y.best b d)=eV x y a (at2 y.best b d):=by rw[eV,hLx,hNd,hmd]
       rw[hvN] at hF;have hv:bf x y i j=eV x y a (at2 y.best b d):=by rw[hv0,if_pos c3]
       obtain⟨V,hV⟩:∃V,eV x y a (at2 y.best b d)=V:=⟨_,rfl⟩;rw[hV] at hF hv;have e2:at2 y.best b d=at0 (at0 y.best b) d:=rfl;rw[e2] at hF
       rcases row with _|⟨w,row⟩<;>simp only[List.length_cons,List.length_nil] at hrl<;>simp -implicitDefEqProofs only[go_sem,aq,ap]
       all_goals (repeat' (first|(refine g_s fun K hK=>?_)|(refine g_b ?_)|(refine g_k ?_;simp only[ah,ae])|(refine g_C (fun h=>?_) (fun h=>?_)<;>(try exact g_f))|((first|refine g_G ?_|refine g_U ?_|refine g_q (fun τ=>hF _) ?_);(try simp -implicitDefEqProofs only[go_sem,f1,f2,f3,f4]))|(refine hK _ _ ?_;clear hK K)|(with_reducible refine And.intro ?_ ?_;· exact g_x)|fail))
       ·refine hL2 [bf x y i j] (τ3++[.dead]) _ _ (by simpa using h4) (ai ?_) ?_
        ·simp -implicitDefEqProofs only[go_sem,aq]
        ·simp [ap,au,ab,hv]
       ·refine hL2 (w::row++[bf x y i j]) (τ3++[.dead]) _ _ (by simpa using h4) (ai ?_) ?_
        ·simp -implicitDefEqProofs only[go_sem,aq]
        ·simp [ap,au,ab,hv]
      ·have e2:at2 x.best a c=at0 (at0 x.best a) c:=rfl;rw[if_neg c3,e2] at hv0
       by_cases c4:at0 (at0 x.best a) c=a
       ·have hv:bf x y i j=i:=by rw[hv0,if_pos c4]
        rcases row with _|⟨w,row⟩<;>simp only[List.length_cons,List.length_nil] at hrl<;>simp -implicitDefEqProofs only[go_sem,aq,ap]
        all_goals (repeat' (first|(refine g_s fun K hK=>?_)|(refine g_b ?_)|(refine g_k ?_;simp only[ah,ae])|(refine g_C (fun h=>?_) (fun h=>?_)<;>(try exact g_f))|((first|refine g_G ?_|refine g_U ?_);(try simp -implicitDefEqProofs only[go_sem,f1,f2,f3,f4]))|(refine hK _ _ ?_;clear hK K)|(with_reducible refine And.intro ?_ ?_;· exact g_x)|fail))
        ·refine hL2 [bf x y i j] (τ3++[.dead]) _ _ (by simpa using h4) (ai ?_) ?_
         ·simp -implicitDefEqProofs only[go_sem,aq]
         ·simp [ap,au,ab,hv]
        ·refine hL2 (w::row++[bf x y i j]) (τ3++[.dead]) _ _ (by simpa using h4) (ai ?_) ?_
         ·simp -implicitDefEqProofs only[go_sem,aq]
         ·simp [ap,au,ab,hv]
       ·have hv:bf x y i j=j:=by rw[hv0,if_neg c4]
        rcases row with _|⟨w,row⟩<;>simp only[List.length_cons,List.length_nil] at hrl<;>simp -implicitDefEqProofs only[go_sem,aq,ap]
        all_goals (repeat' (first|(refine g_s fun K hK=>?_)|(refine g_b ?_)|(refine g_k ?_;simp only[ah,ae])|(refine g_C (fun h=>?_) (fun h=>?_)<;>(try exact g_f))|((first|refine g_G ?_|refine g_U ?_);(try simp -implicitDefEqProofs only[go_sem,f1,f2,f3,f4]))|(refine hK _ _ ?_;clear hK K)|(with_reducible refine And.intro ?_ ?_;· exact g_x)|fail))
        ·refine hL2 [bf x y i j] (τ3++[.dead]) _ _ (by simpa using h4) (ai ?_) ?_
         ·simp -implicitDefEqProofs only[go_sem,aq]
         ·simp [ap,au,ab,hv]
        ·refine hL2 (w::row++[bf x y i j]) (τ3++[.dead]) _ _ (by simpa using h4) (ai ?_) ?_
         ·simp -implicitDefEqProofs only[go_sem,aq]
         ·simp [ap,au,ab,hv]
   ·rintro j row τ3 hj h4 L2;rw[ao] at hj;rw[List.map_nil,List.append_nil] at h4;simp -implicitDefEqProofs only[go_sem]
    (repeat' (first|(refine g_s fun K hK=>?_)|(refine g_e ?_;simp only[ah,ae,↓reduceIte,Nat.reduceEqDiff])|(refine g_C (fun h=>?_) (fun h=>?_)<;>(try exact g_f))|(refine g_g ?_;(try refine g_y ?_))|(refine hK _ _ ?_;clear hK K)|exact trivial|fail))
    refine hJ2 _ _ ?_;clear hJ2;have est:ρ++(Ob.cells 3 [[.c (.int .i64 (Lp+1)),ca,.c (.slice none 0 0)]]::(τ2++oa::(τ3++[ap au 1 row])))=ρ++((Ob.cells 3 [[.c (.int .i64 (Lp+1)),ca,.c (.slice none 0 0)]]::(τ2++oa::τ3))++ap au 1 row::[]):=by simp
    rw[est];refine cC 13 au 1 row ρ (Ob.cells 3 [[.c (.int .i64 (Lp+1)),ca,.c (.slice none 0 0)]]::(τ2++oa::τ3)) [] (by simp [aB,Nat.add_assoc]) ?_
    rw[h4,←hca,←hoa];obtain⟨rowI,hrI⟩:∃l,((ints (Lp+1)).map fun k=>bf x y i k)=l:=⟨_,rfl⟩;rw[hrI] at h5 ⊢
    rcases acc with _|⟨w,acc⟩<;>simp only[List.length_cons,List.length_nil] at hal<;>simp -implicitDefEqProofs only[go_sem,aq,ap]
    all_goals (repeat' (first|(refine g_G ?_;(try refine g_y ?_))|(clear hK K;first|(refine hK _ _ ?_;clear hK K)|(clear hK K;with_reducible refine hK _ _ ?_;clear hK K)|(clear hK K;clear hK K;with_reducible refine hK _ _ ?_;clear hK K))|(with_reducible refine And.intro ?_ ?_;· exact g_x)|exact trivial|fail))
    ·refine hL3 [rowI] (τ2++.dead::(τ3++[.dead])) _ _ (by simpa using h5) (ai ?_) ?_
     ·simp -implicitDefEqProofs only[go_sem,aq,hlen]
     ·simp [ap,aq,aE,aF,ab];omega
    ·refine hL3 (w::acc++[rowI]) (τ2++.dead::(τ3++[.dead])) _ _ (by simpa using h5) (ai ?_) ?_
     ·simp -implicitDefEqProofs only[go_sem,aq,hlen]
     ·simp [ap,aq,aE,aF,ab];omega
  ·rintro i acc τ2 hi h5 L3;rw[ao] at hi;rw[List.map_nil,List.append_nil] at h5;obtain⟨w,hw⟩:∃w,(Lp+1).toNat=w:=⟨_,rfl⟩;rw[h5];simp -implicitDefEqProofs only[go_sem]
   (repeat' (first|(refine g_s fun K hK=>?_)|(refine g_e ?_;simp only[ah,ae,↓reduceIte,Nat.reduceEqDiff])|(refine g_C (fun h=>?_) (fun h=>?_)<;>(try exact g_f))|(refine g_g ?_;(try refine g_y ?_))|(refine hK _ _ ?_;clear hK K)|exact trivial|fail))
   refine hJ _ _ ?_;clear hJ;refine fw (k:=3) (kk:=1) (b:=ρ.length+(τ2.length+1)) (rows:=[[ab (Lp+1),aq 1 (ρ.length+(τ2.length+1)) Bst,.c (.slice none 0 0)]]) ρ [] τ2 [] 0 1 aE Bst (by simp [ab]) rfl rfl (by simp;omega) ?_
   obtain⟨T0,hT0⟩:∃T0:aa,τ2++[.dead]=T0:=⟨_,rfl⟩;simp -implicitDefEqProofs only[go_sem,hT0]
   (repeat' (first|(refine g_s fun K hK=>?_)|(refine g_b ?_)|(refine g_G ?_;(try refine g_y ?_))|(refine hK _ _ ?_;clear hK K)|exact trivial|fail))
   refine bn ?_;have hJ:=hK;clear hK;obtain⟨Est,hEst⟩:∃b,(dd x y).edges=b:=⟨_,rfl⟩;rw[hEst] at hEs;refine ay (ints x.edges.length) (fun e r (s:List Nat×aa)=>∃M',M'++r.map (fun e=>(ints (Lp+1)).map fun k=>cx x y e k)=Est∧aQ ((ρ++[.dead])++s.2) (ρ.length+1) s.1 M'∧s.1.Nodup)
    (fun e s _=>[(16,ab e)])
    (fun _ s _=>ρ++(.cells 3 [[ab (Lp+1),.sl (Bst.map aE),aq 1 (ρ.length+(s.2.length+1)) s.1]]::(s.2++[ap (be w) 1 s.1]))) ([],T0) [] ⟨[],hEs.symm,aQ.nil _ _,List.nodup_nil⟩ ?_ (ai ?_) ?_ ?_
   ·simp [aq,ap,ab]
   ·exact g_w
   ·rintro e r ⟨q,Te⟩ τ9 he0 he1 ⟨M',h3,h4,h5n⟩ L4 hL4;rw[ao] at he1;have he2:e<x.edges.length:=by omega
    rw[eH he0 he2,List.map_cons] at h3;have h4:aQ ((ρ++[.dead])++Te) (ρ.length+1) q M':=h4;have hql:q.length+1≤24:=by have:=congrArg List.length h3;have:=congrArg List.length hEs;have:=h4.1;simp [ao] at *;omega
    simp -implicitDefEqProofs only[go_sem]
    (repeat' (first|(refine g_s fun K hK=>?_)|(refine g_b ?_)|(refine g_k ?_;simp only[ah,ae])|(refine g_C (fun h=>?_) (fun h=>?_)<;>(try exact g_f))|(refine g_G ?_;(try refine g_y ?_))|(refine hK _ _ ?_;clear hK K)|exact trivial|fail))
    refine bn ?_;have hJ2:=hK;clear hK;obtain⟨ca,hca⟩:∃ca,aq 1 (ρ.length+(Te.length+1)) q=ca:=⟨_,rfl⟩;obtain⟨oa,hoa⟩:∃oa,ap (be w) 1 q=oa:=⟨_,rfl⟩;rw[hca,hoa];refine ay (ints Lp) (fun j r row=>row++r.map (fun k=>cx x y e k)=(ints Lp).map fun k=>cx x y e k) (fun j row τ3=>[(18,ab j),(17,aq 1 (ρ.length+(Te.length+(τ3.length+2))) row)])
     (fun _ row τ3=>ρ++(.cells 3 [[ab (Lp+1),.sl (Bst.map aE),ca]]::(Te++oa::(τ3++[ap au 1 row])))) [] [] rfl ?_ (ai ?_) ?_ ?_
    ·simp [ap,ab]
    ·simp -implicitDefEqProofs only[go_sem,aq,ap]
    ·rintro j r2 row τ3 hj0 hj1 h6 L2 hL2;rw[ao] at hj1;have hjL:j<Lp:=by omega
     rw[eH hj0 hjL,List.map_cons] at h6;have hrl:row.length+1≤24:=by have:=congrArg List.length h6;simp [ao] at this;omega
     have f3:=ad j hj0 hjL;have f4:=am j hj0 hjL;have g3:=hokN.div hj0 (show j<N*m by omega)
     have g4:=hokN.mod (i:=j);have hv:cx x y e j=eV x y (at2 x.edges e (j / m)) (at2 y.edges e (j % m)):=by rw[cx,hLx,if_neg (by omega),hmd]
     obtain⟨c,hc⟩:∃c,j / m=c:=⟨_,rfl⟩;obtain⟨d,hd⟩:∃d,j % m=d:=⟨_,rfl⟩;rw[hc] at f3 g3 hv;rw[hd] at f4 g4 hv;have hin1:=fx.edge_in he0 he2 g3.1 (show c<x.size by omega)
     have hin2:=fy.edge_in he0 (show e<y.edges.length by omega) g4.1 (show d<y.size by omega)
     have hel1:=fx.edge_len he0 he2;have hel2:=fy.edge_len he0 (show e<y.edges.length by omega)
     have hF:=hfind (at2 x.edges e c) (at2 y.edges e d) hin1.1 (by omega) hin2.1 (by omega)
     have hvN:(if at2 x.edges e c=N∨at2 y.edges e d=m then Lp else at2 x.edges e c*m+at2 y.edges e d)=eV x y (at2 x.edges e c) (at2 y.edges e d):=by rw[eV,hLx,hNd,hmd]
     rw[hvN] at hF;obtain⟨V,hV⟩:∃V,eV x y (at2 x.edges e c) (at2 y.edges e d)=V:=⟨_,rfl⟩;rw[hV] at hF hv;have e1:at2 x.edges e c=at0 (at0 x.edges e) c:=rfl;have e2:at2 y.edges e d=at0 (at0 y.edges e) d:=rfl;rw[e1,e2] at hF
     rcases row with _|⟨v,row⟩<;>simp only[List.length_cons,List.length_nil] at hrl<;>simp -implicitDefEqProofs only[go_sem,aq,ap]
     all_goals (repeat' (first|(refine g_s fun K hK=>?_)|(refine g_b ?_)|(refine g_k ?_;simp only[ah,ae])|(refine g_C (fun h=>?_) (fun h=>?_)<;>(try exact g_f))|((first|refine g_G ?_|refine g_U ?_|refine g_q (fun τ=>hF _) ?_);(try simp -implicitDefEqProofs only[go_sem,f3,f4]))|(refine hK _ _ ?_;clear hK K)|(with_reducible refine And.intro ?_ ?_;· exact g_x)|fail))
     ·refine hL2 [cx x y e j] (τ3++[.dead]) _ _ (by simpa using h6) (ai ?_) ?_
      ·simp -implicitDefEqProofs only[go_sem,aq]
      ·simp [ap,au,ab,hv]
     ·refine hL2 (v::row++[cx x y e j]) (τ3++[.dead]) _ _ (by simpa using h6) (ai ?_) ?_
      ·simp -implicitDefEqProofs only[go_sem,aq]
      ·simp [ap,au,ab,hv]
    ·rintro j row τ3 hj h6 L2;rw[ao] at hj;rw[List.map_nil,List.append_nil] at h6;have hrl:row.length=Lp.toNat:=by rw[h6,List.length_map,ao]
     rcases row with _|⟨v,row⟩
     ·simp at hrl;omega
     simp only[List.length_cons] at hrl;rw[←hca,←hoa];simp -implicitDefEqProofs only[go_sem,aq,ap]
     (repeat' (first|(refine g_s fun K hK=>?_)|(refine g_e ?_;simp only[ah,ae,↓reduceIte,Nat.reduceEqDiff])|(refine g_C (fun h=>?_) (fun h=>?_)<;>(try exact g_f))|(refine g_g ?_;(try refine g_y ?_))|(refine hK _ _ ?_;clear hK K)|exact trivial|fail))
     refine hJ2 _ _ ?_;clear hJ2;have hfull:((ints (Lp+1)).map fun k=>cx x y e k)=v::row++[Lp]:=by
      have hlast:cx x y e Lp=Lp:=by rw[cx,hLx,if_pos rfl]
      rw[rR (by omega),List.map_append,←h6,List.map_singleton,hlast]
     have hgr:=Dp (τ3:=τ3) h4 h5n (by simp) .dead (v::row++[Lp])
     rw[hfull] at h3;have hwr:row.length+2=w:=by omega
     have hpl:(ρ++[Ob.dead]).length+(Te.length+(τ3.length+2))=ρ.length+(Te.length+(τ3.length+3)):=by simp;omega
     rw[hpl] at hgr
     rcases q with _|⟨y0,q⟩<;>simp only[List.length_cons,List.length_nil] at hql<;>simp -implicitDefEqProofs only[go_sem,aq,ap]
     all_goals (repeat' (first|((first|refine g_G ?_|refine sr (ρ++(.cells 3 [[.c (.int .i64 (Lp+1)),.sl (Bst.map aE),.c (.slice none 0 0)]]::Te)) ⟨_,by simp;rfl⟩ a9 (by decide +kernel) ?_|refine sr (ρ++(.cells 3 [[.c (.int .i64 (Lp+1)),.sl (Bst.map aE),.own (ρ.length+(Te.length+1)) 1 0 (q.length+1) (q.length+1)]]::Te)) ⟨_,by simp;rfl⟩ a9 (by decide +kernel) ?_);(try refine g_y ?_))|(clear hK K;first|(refine hK _ _ ?_;clear hK K)|(clear hK K;with_reducible refine hK _ _ ?_;clear hK K)|(clear hK K;clear hK K;with_reducible refine hK _ _ ?_;clear hK K))|(with_reducible refine And.intro ?_ ?_;· exact g_x)|exact trivial|fail))
     ·refine hL4 ([]++[ρ.length+(Te.length+(τ3.length+3))],Te++.dead::(τ3++[.dead,.cells 1 ((v::row++[Lp]).map au)])) τ9 _ _ ⟨M'++[v::row++[Lp]],by simpa using h3,hgr.1,hgr.2⟩ (ai ?_) ?_
      ·simp -implicitDefEqProofs only[go_sem,aq,be]
      ·simp [ap,aq,be,au,ab,hwr];omega
     ·refine hL4 ((y0::q)++[ρ.length+(Te.length+(τ3.length+3))],Te++.dead::(τ3++[.dead,.cells 1 ((v::row++[Lp]).map au)])) τ9 _ _ ⟨M'++[v::row++[Lp]],by simpa using h3,hgr.1,hgr.2⟩ (ai ?_) ?_
      ·simp -implicitDefEqProofs only[go_sem,aq,be]
      ·simp [ap,aq,be,au,ab,hwr];omega
   ·rintro e ⟨q,Te⟩ τ9 he0 ⟨M',h3,h4,h5n⟩ L4;rw[ao] at he0;have h4:aQ ((ρ++[.dead])++Te) (ρ.length+1) q M':=h4;have h3:M'=Est:=by simpa using h3
    subst h3;have hwd:∀r∈M',r.length=w:=fun r hr=>by
     rw[hEs] at hr;obtain⟨i,_,rfl⟩:=List.mem_map.1 hr;rw[List.length_map,ao,hw]
    have hLd:∀L:aa,(ρ++L)[σ.length+2]? = some (.cells 3 [[ab 0,.c (.slice none 0 0),.c (.slice none 0 0)]]):=fun L=>by
     rw[←hρ,List.append_assoc,List.getElem?_append_right (by omega)]
     have e:σ.length+2-σ.length=2:=by omega
     rw[e];rfl
    have hSt:∀(L:aa) (o:Ob),(ρ++L).set (σ.length+2) o=σ++(.dead::.dead::o::.dead::.dead::(T++L)):=fun L o=>by
     rw[←hρ,List.append_assoc,List.set_append_right _ _ (by omega)]
     have e:σ.length+2-σ.length=2:=by omega
     rw[e];simp
    have hO:=fun v1 v2=>yc (lo:=σ.length) (w:=w) (A':=σ++(.dead::.dead::v1::.dead::.dead::(T++[v2]))) (A:=ρ++[.dead]) (by simp [←hlen];omega) (by simpa using h4) h5n hwd (by simp [←hlen];omega)
    simp -implicitDefEqProofs only[go_sem]
    (repeat' (first|(refine g_s fun K hK=>?_)|(refine g_e ?_;simp only[ah,ae,↓reduceIte,Nat.reduceEqDiff])|(refine g_C (fun h=>?_) (fun h=>?_)<;>(try exact g_f))|(refine g_g ?_;(try refine g_y ?_))|(refine hK _ _ ?_;clear hK K)|exact trivial|fail))
    refine hJ _ _ ?_;clear hJ
    rcases q with _|⟨y0,q⟩<;>simp -implicitDefEqProofs only[go_sem,aq,ap]
    all_goals (repeat' (first|(refine g_s fun K hK=>?_)|((first|refine g_t ?_|refine g_g ?_);(try simp -implicitDefEqProofs only[go_sem,hLd,hSt]))|(refine hK _ _ ?_;clear hK K)|fail))
    ·obtain⟨ids,hOM⟩:=hO (.cells 3 [[.c (.int .i64 (Lp+1)),.sl (Bst.map aE),.c (.slice none 0 0)]]) (.cells 3 [[.c (.int .i64 (Lp+1)),.sl (Bst.map aE),.c (.slice none 0 0)]]);refine⟨_,rfl,ids,_,by rw[hSz,hBst];rfl,?_⟩
     rw[hSz,hw,hEst];simp only[aq,ap] at hOM
     simpa using hOM
    ·obtain⟨ids,hOM⟩:=hO (.cells 3 [[.c (.int .i64 (Lp+1)),.sl (Bst.map aE),.own (ρ.length+(Te.length+1)) 1 0 (q.length+1) (q.length+1)]]) (.cells 3 [[.c (.int .i64 (Lp+1)),.sl (Bst.map aE),.own (ρ.length+(Te.length+1)) 1 0 (q.length+1) (q.length+1)]]);refine⟨_,rfl,ids,_,by rw[hSz,hBst];rfl,?_⟩
     have ep:(ρ++[Ob.dead]).length+Te.length=ρ.length+(Te.length+1):=by simp;omega
     rw[hSz,hw,hEst];rw[ep] at hOM;simp only[aq,ap] at hOM
     simpa using hOM
end Go.Proofs.YtephecognbbaoaaGreat
