/- What changes in a machine whose rows are its own. -/
import Derived.Test.YtephecognbbaoaaGreatZGk
import Derived.Test.YtephecognbbaoaaGreatZBm
open Go
set_option linter.all false
set_option maxRecDepth 100000
set_option maxHeartbeats 4000000
namespace Go.Proofs.YtephecognbbaoaaGreat
open Go
set_option linter.all false
set_option maxRecDepth 100000
set_option maxHeartbeats 4000000
theorem ut {P M M' Q:List Nat} (h:(P++(M++Q)).Nodup) (hM:M'.Nodup) (hd:∀x∈M',x∈M∨x∉P++(M++Q)):(P++(M'++Q)).Nodup:=by
 rw[List.nodup_append] at h ⊢;obtain⟨h1,h2,h3⟩:=h;rw[List.nodup_append] at h2;obtain⟨h4,h5,h6⟩:=h2;have hd':∀x∈M',(∀p∈P,p≠x)∧∀q∈Q,x≠q:=fun x hx=>by
  rcases hd x hx with hm|hm
  ·exact⟨fun p hp=>h3 p hp x (List.mem_append_left _ hm),fun q hq=>h6 x hm q hq⟩
  ·exact⟨fun p hp e=>hm (List.mem_append_left _ (e▸hp)),fun q hq e=>hm (List.mem_append_right _ (List.mem_append_right _ (e▸hq)))⟩
 refine⟨h1,List.nodup_append.2 ⟨hM,h5,fun x hx q hq=>(hd' x hx).2 q hq⟩,fun p hp y hy=>?_⟩
 rcases List.mem_append.1 hy with hy|hy
 ·exact (hd' y hy).1 p hp
 ·exact h3 p hp y (List.mem_append_right _ hy)
section
variable {S:aa} {lo b:Nat} {n:Net} {e:Eng} {rb:Nat} {rs:List RO} {gv:AV} {gi:List Nat}
theorem a6.ne (h:a6 S lo b n e rb rs gv gi):b≠rb∧b∉rs.flatMap RO.ids∧b∉gi∧rb∉rs.flatMap RO.ids∧rb∉gi∧(rs.flatMap RO.ids).Nodup∧gi.Nodup∧∀x∈rs.flatMap RO.ids,x∉gi:=by
 have:=h.nd;rw[List.nodup_cons,List.nodup_cons,List.nodup_append] at this;simp only[List.mem_cons,List.mem_append,not_or] at this;obtain⟨⟨h1,h2,h3⟩,⟨h4,h5⟩,h6,h7,h8⟩:=this;exact⟨h1,h2,h3,h4,h5,h6,h7,fun x hx hg=>h8 x hx x hg rfl⟩
theorem a6.lt (h:a6 S lo b n e rb rs gv gi):∀x∈b::rb::rs.flatMap RO.ids,x<S.length:=fun x hx=>by
 rcases List.mem_cons.1 hx with rfl|hx
 ·exact (List.getElem?_eq_some_iff.1 h.hb).1
 ·rcases List.mem_cons.1 hx with rfl|hx
  ·exact (List.getElem?_eq_some_iff.1 h.hrb).1
  ·obtain⟨r,hr,hx⟩:=List.mem_flatMap.1 hx;obtain⟨k,hk,rfl⟩:=List.mem_iff_getElem.1 hr;exact (h.ho k hk).lt x hx
theorem eJ.lt {bag:List bg} (h:eJ S gv bag gi):∀x∈gi,x<S.length:=fun x hx=>by
 rcases h with ⟨_,h2,_⟩|⟨gb,rest,h2,_,h3,_⟩
 ·rw[h2] at hx;cases hx
 ·rw[h2] at hx;rw[List.mem_singleton.1 hx];exact (List.getElem?_eq_some_iff.1 h3).1
theorem a6.lta (h:a6 S lo b n e rb rs gv gi):∀x∈b::rb::(rs.flatMap RO.ids++gi),x<S.length:=fun x hx=>by
 simp only[List.mem_cons,List.mem_append] at hx
 rcases hx with hx|hx|hx|hx
 ·exact h.lt x (by simp [hx])
 ·exact h.lt x (by simp [hx])
 ·exact h.lt x (List.mem_cons_of_mem _ (List.mem_cons_of_mem _ hx))
 ·exact h.bag.lt x hx
theorem a6.row (h:a6 S lo b n e rb rs gv gi) {i:Int} (h0:0≤i) (h1:i<e.routers.length):∃r,rs[i.toNat]? = some r∧r∈rs∧(rs.map cJ)[i.toNat]? = some (cJ r)∧fR S r∧r.rtr=at0 e.routers i:=by
 have hi:i.toNat<e.routers.length:=by omega
 have hi2:i.toNat<rs.length:=by have:=h.len;omega
 have e1:at0 e.routers i=e.routers[i.toNat]:=by simp [at0,List.getD_eq_getElem?_getD,hi]
 refine⟨rs[i.toNat],List.getElem?_eq_getElem hi2,List.getElem_mem hi2,by simp [hi2],h.ho _ hi2,?_⟩
 rw[e1];have:e.routers[i.toNat]? = some rs[i.toNat].rtr:=by rw[←h.er];simp [hi2]
 exact (List.getElem?_eq_some_iff.1 this).2.symm
theorem a6.putG (h:a6 S lo b n e rb rs gv gi) {i:Int} {r:RO} (hi:rs[i.toNat]? = some r) (r':RO) {S':aa} (hS:∀(x:Nat) (o:Ob),x≠rb→x∉r.ids→S[x]? = some o→S'[x]? = some o)
  (hrb:S'[rb]? = some (.cells 2 ((rs.set i.toNat r').map cJ))) (hr:fR S' r') (hnd:r'.ids.Nodup) (hid:∀x∈r'.ids,x∈r.ids∨(lo≤x∧x∉b::rb::(rs.flatMap RO.ids++gi))) :
  a6 S' lo b n (aR e i r'.rtr) rb (rs.set i.toNat r') gv gi:=by
 obtain⟨n1,n2,n3,n4,n5,n6,n7,n8⟩:=h.ne;obtain⟨hi1,hi2⟩:=List.getElem?_eq_some_iff.1 hi;have hrm:r∈rs:=List.mem_of_getElem? hi;have hsub:∀x∈r.ids,x∈rs.flatMap RO.ids:=fun x hx=>List.mem_flatMap.2 ⟨r,hrm,hx⟩;have hel:=h.len;obtain⟨A,B,e1,e2⟩:∃A B,rs=A++r::B∧rs.set i.toNat r'=A++r'::B:=by
  refine⟨rs.take i.toNat,rs.drop (i.toNat+1),?_,?_⟩
  ·rw[←hi2,←List.drop_eq_getElem_cons,List.take_append_drop]
  ·rw[List.set_eq_take_append_cons_drop,if_pos hi1]
 have hnd':=h.nd;have hfl:∀q:RO,b::rb::((A++q::B).flatMap RO.ids++gi)=(b::rb::A.flatMap RO.ids)++(q.ids++(B.flatMap RO.ids++gi)):=fun q=>by simp [List.append_assoc]
 have hN:=hnd';rw[e1,hfl] at hN;have hmem:∀x,x∈(b::rb::A.flatMap RO.ids)++(r.ids++(B.flatMap RO.ids++gi))↔x∈b::rb::(rs.flatMap RO.ids++gi):=fun x=>by rw[e1,hfl]
 have hid':∀x∈r'.ids,x∈r.ids∨x∉(b::rb::A.flatMap RO.ids)++(r.ids++(B.flatMap RO.ids++gi)):=fun x hx=>by
  rcases hid x hx with hx|⟨_,hx⟩
  ·exact .inl hx
  ·exact .inr fun hc=>hx ((hmem x).1 hc)
 refine⟨?_,hrb,?_,fun k hk=>?_,?_,?_,?_⟩
 ·rw[aR,List.length_set];exact hS b _ n1 (fun hc=>n2 (hsub _ hc)) h.hb
 ·rw[aR,List.map_set,h.er]
 ·rw[List.getElem_set]
  split
  ·exact hr
  ·rename_i hne
   have hk':k<rs.length:=by simpa using hk
   refine (h.ho k hk').congr fun x hx o ho=>hS x o (fun e=>n4 (e▸List.mem_flatMap.2 ⟨_,List.getElem_mem hk',hx⟩)) (fun hc=>?_) ho;have hp:∀(l:List RO) (i k:Nat) (hi:i<l.length) (hk:k<l.length),i≠k→(l.flatMap RO.ids).Nodup→x∈l[i].ids→x∈l[k].ids→False:=by
    intro l
    induction l with
    | nil=>intro i k hi;exact absurd hi (Nat.not_lt_zero i)
    | cons q l ih=>
     intro i k hi hk hne hn h1 h2;rw[List.flatMap_cons,List.nodup_append] at hn;obtain⟨g1,g2,g3⟩:=hn
     rcases i with _|i<;>rcases k with _|k
     ·exact hne rfl
     ·exact g3 x h1 x (List.mem_flatMap.2 ⟨_,List.getElem_mem (Nat.lt_of_succ_lt_succ hk),h2⟩) rfl
     ·exact g3 x h2 x (List.mem_flatMap.2 ⟨_,List.getElem_mem (Nat.lt_of_succ_lt_succ hi),h1⟩) rfl
     ·exact ih i k (Nat.lt_of_succ_lt_succ hi) (Nat.lt_of_succ_lt_succ hk) (by omega) g2 h1 h2
   exact hp rs i.toNat k hi1 hk' hne n6 (by rw[hi2];exact hc) hx
 ·rcases h.bag with ⟨h1,h2,h3⟩|⟨gb,rest,h1,h2,h3,h4,h5⟩
  ·exact .inl ⟨h1,h2,h3⟩
  ·have hgb:gb∈gi:=by rw[h1];simp
   exact .inr ⟨gb,rest,h1,h2,hS gb _ (fun e=>n5 (e▸hgb)) (fun hc=>n8 _ (hsub _ hc) hgb) h3,h4,h5⟩
 ·rw[e2,hfl];exact ut hN hnd hid'
 ·intro x hx;rw[e2,hfl] at hx;simp only[List.mem_append] at hx
  rcases hx with hx|hx|hx
  ·exact h.lo x ((hmem x).1 (List.mem_append_left _ hx))
  ·rcases hid x hx with hx|⟨hx,_⟩
   ·exact h.lo x ((hmem x).1 (List.mem_append_right _ (List.mem_append_left _ hx)))
   ·exact hx
  ·exact h.lo x ((hmem x).1 (List.mem_append_right _ (List.mem_append_right _ (List.mem_append.2 hx))))
theorem a6.put (h:a6 S lo b n e rb rs gv gi) {i:Int} {r:RO} (hi:rs[i.toNat]? = some r) (r':RO) {S':aa} (hS:∀(x:Nat) (o:Ob),x≠rb→x∉r.ids→S[x]? = some o→S'[x]? = some o)
  (hrb:S'[rb]? = some (.cells 2 ((rs.set i.toNat r').map cJ))) (hr:fR S' r') (hnd:r'.ids.Nodup) (hid:∀x∈r'.ids,x∈r.ids∨(lo≤x∧S.length≤x)) :
  a6 S' lo b n (aR e i r'.rtr) rb (rs.set i.toNat r') gv gi:=
 h.putG hi r' hS hrb hr hnd fun x hx=>(hid x hx).imp_right fun g=>⟨g.1,fun hc=>absurd (h.lta x hc) (by omega)⟩
theorem mY (k:Nat) (p:List Int×Option Nat):∀(l:List (List Int×Option Nat)) (x:Nat),x∈(l.set k p).filterMap (·.2)→x∈l.filterMap (·.2)∨p.2=some x:=fun l x hx=>by
 obtain⟨q,hq,hi⟩:=List.mem_filterMap.1 hx
 rcases List.mem_or_eq_of_mem_set hq with hq|rfl
 ·exact .inl (List.mem_filterMap.2 ⟨q,hq,hi⟩)
 ·exact .inr hi
theorem nH (p:List Int×Option Nat):∀(l:List (List Int×Option Nat)) (k:Nat),(l.filterMap (·.2)).Nodup→(∀id,p.2=some id→id∉l.filterMap (·.2))→((l.set k p).filterMap (·.2)).Nodup
 | [],_,_,_=>by simp
 | q::l,0,h,hp=>by
  rw[List.set_cons_zero];have hl:(l.filterMap (·.2)).Nodup:=by
   rw[List.filterMap_cons] at h
   split at h
   ·exact h
   ·exact (List.nodup_cons.1 h).2
  have hs:∀x∈l.filterMap (·.2),x∈(q::l).filterMap (·.2):=fun x hx=>by
   rw[List.filterMap_cons]
   split
   ·exact hx
   ·exact List.mem_cons_of_mem _ hx
  rw[List.filterMap_cons]
  split
  ·exact hl
  ·rename_i id hid
   exact List.nodup_cons.2 ⟨fun hc=>hp id hid (hs _ hc),hl⟩
 | q::l,k+1,h,hp=>by
  rw[List.set_cons_succ];rw[List.filterMap_cons] at h ⊢;have hs:∀x∈l.filterMap (·.2),x∈(q::l).filterMap (·.2):=fun x hx=>by
   rw[List.filterMap_cons]
   split
   ·exact hx
   ·exact List.mem_cons_of_mem _ hx
  split at h
  ·exact nH p l k h fun id hi hc=>hp id hi (hs _ hc)
  ·rename_i x hx
   rw[List.nodup_cons] at h;refine List.nodup_cons.2 ⟨fun hc=>?_,nH p l k h.2 fun id hi hc=>hp id hi (hs _ hc)⟩
   rcases mY k p l _ hc with hc|hc
   ·exact h.1 hc
   ·refine hp _ hc ?_;rw[List.filterMap_cons,hx];simp
theorem a6.told (h:a6 S lo b n e rb rs gv gi) {i:Int} {r:RO} (hi:rs[i.toNat]? = some r) (hA:fR S r) (hre:r.rtr=at0 e.routers i) (k:Int) (p:List Int×Option Nat) (hp:p.2=none→p.1=[]) (hps:∀id,p.2=some id→S[id]? = some (.cells 1 (p.1.map au))∧lo≤id∧id∉b::rb::(rs.flatMap RO.ids++gi)) :
  a6 (S.set r.to (.cells 1 ((r.told.set k.toNat p).map ck))) lo b n (aR e i (cP (at0 e.routers i) k p.1)) rb (rs.set i.toNat ⟨r.routes,r.ro,r.told.set k.toNat p,r.to⟩) gv gi:=by
 have hrm:r∈rs:=List.mem_of_getElem? hi;have hsub:∀x∈r.ids,x∈rs.flatMap RO.ids:=fun x hx=>List.mem_flatMap.2 ⟨r,hrm,hx⟩;have hnr:r.ids.Nodup:=by
  obtain⟨A,B,rfl⟩:=List.append_of_mem hrm;have:=h.ne.2.2.2.2.2.1;rw[List.flatMap_append,List.flatMap_cons,List.nodup_append,List.nodup_append] at this;exact this.2.1.1
 obtain⟨n1,n2,n3,n4,n5,n6,n7,n8⟩:=h.ne;have hto:r.to∈r.ids:=by simp [RO.ids]
 have e1:cJ ⟨r.routes,r.ro,r.told.set k.toNat p,r.to⟩=cJ r:=by simp [cJ]
 have e2:aR e i (cP (at0 e.routers i) k p.1)=aR e i (RO.rtr ⟨r.routes,r.ro,r.told.set k.toNat p,r.to⟩):=by
  rw[←hre];simp only[cP,RO.rtr,List.map_set]
 have e3:(rs.set i.toNat ⟨r.routes,r.ro,r.told.set k.toNat p,r.to⟩).map cJ=rs.map cJ:=by
  obtain⟨hi1,hi2⟩:=List.getElem?_eq_some_iff.1 hi;rw[List.map_set,e1];refine List.ext_getElem? fun q=>?_;rw[List.getElem?_set]
  split
  ·rename_i hq
   subst hq;rw[if_pos (by simpa using hi1)]
   simp [hi]
  ·rfl
 have hN:=hnr;rw[RO.ids,List.nodup_cons,List.nodup_cons] at hN;obtain⟨m1,m2,m3⟩:=hN;rw[List.mem_cons,not_or] at m1;have hpi:∀id,p.2=some id→id∉r.ids:=fun id hid hc=>(hps id hid).2.2 (List.mem_cons_of_mem _ (List.mem_cons_of_mem _ (List.mem_append_left _ (hsub _ hc))));rw[e2];refine h.putG hi ⟨r.routes,r.ro,r.told.set k.toNat p,r.to⟩ (fun x o h1 h2 h3=>aT h3 fun e=>h2 (e▸hto)) ?_ ⟨aT hA.ro fun e=>m1.1 e.symm,bJ hA.to,fun q hq=>?_,fun q hq id hi'=>?_⟩ ?_ fun x hx=>?_
 ·rw[e3];exact aT h.hrb fun e=>n4 (e▸hsub _ hto)
 ·rcases List.mem_or_eq_of_mem_set hq with hq|rfl
  ·exact hA.no q hq
  ·exact hp
 ·rcases List.mem_or_eq_of_mem_set hq with hq|rfl
  ·have hm:id∈r.told.filterMap (·.2):=List.mem_filterMap.2 ⟨q,hq,hi'⟩;exact aT (hA.row q hq id hi') fun e=>m2 (e▸hm)
  ·exact aT (hps id hi').1 fun e=>hpi id hi' (e▸hto)
 ·rw[RO.ids,List.nodup_cons,List.nodup_cons];refine⟨fun hc=>?_,fun hc=>?_,nH p _ _ m3 fun id hi' hc=>hpi id hi' (List.mem_cons_of_mem _ (List.mem_cons_of_mem _ hc))⟩
  ·rcases List.mem_cons.1 hc with hc|hc
   ·exact m1.1 hc
   ·rcases mY _ _ _ _ hc with hc|hc
    ·exact m1.2 hc
    ·exact hpi _ hc (by simp [RO.ids])
  ·rcases mY _ _ _ _ hc with hc|hc
   ·exact m2 hc
   ·exact hpi _ hc hto
 ·have hx:x∈r.ro::r.to::(r.told.set k.toNat p).filterMap (·.2):=hx
  rcases List.mem_cons.1 hx with rfl|hx
  ·exact .inl (by simp [RO.ids])
  rcases List.mem_cons.1 hx with rfl|hx
  ·exact .inl hto
  rcases mY _ _ _ _ hx with hx|hx
  ·exact .inl (List.mem_cons_of_mem _ (List.mem_cons_of_mem _ hx))
  ·exact .inr (hps x hx).2
theorem a6.bagged (h:a6 S lo b n e rb rs gv gi) {gv':AV} {gi':List Nat} {bag:List bg} {S':aa} (hb:S'[b]? = some (.cells 7 [aH n++[.own rb 2 0 e.routers.length e.routers.length,gv']]))
  (hs:∀x∈rb::rs.flatMap RO.ids,S'[x]? = S[x]?) (hbag:eJ S' gv' bag gi') (hn:gi'.Nodup) (hg:∀x∈gi',x∉b::rb::rs.flatMap RO.ids∧lo≤x):a6 S' lo b n ⟨e.routers,bag⟩ rb rs gv' gi':=by
 obtain⟨n1,n2,n3,n4,n5,n6,n7,n8⟩:=h.ne;refine⟨hb,?_,h.er,fun k hk=>(h.ho k hk).congr fun x hx o ho=>?_,hbag,?_,?_⟩
 ·rw[hs rb (by simp)]
  exact h.hrb
 ·rw[hs x (List.mem_cons_of_mem _ (List.mem_flatMap.2 ⟨_,List.getElem_mem hk,hx⟩))];exact ho
 ·rw[List.nodup_cons,List.nodup_cons,List.nodup_append];simp only[List.mem_cons,List.mem_append,not_or];have hg':∀x∈gi',x≠b∧x≠rb∧x∉rs.flatMap RO.ids:=fun x hx=>by
   have:=(hg x hx).1
   simpa only[List.mem_cons,not_or] using this
  exact⟨⟨n1,n2,fun hc=>(hg' b hc).1 rfl⟩,⟨n4,fun hc=>(hg' rb hc).2.1 rfl⟩,n6,hn,fun x hx y hy e=>(hg' y hy).2.2 (e▸hx)⟩
 ·intro x hx;simp only[List.mem_cons,List.mem_append] at hx
  rcases hx with rfl|rfl|hx|hx
  ·exact h.lo _ (by simp)
  ·exact h.lo _ (by simp)
  ·exact h.lo _ (List.mem_cons_of_mem _ (List.mem_cons_of_mem _ (List.mem_append_left _ hx)))
  ·exact (hg x hx).2
end
theorem a6.push_nil {S:aa} {lo b:Nat} {n:Net} {R:List Rtr} {bag:List bg} {rb:Nat} {rs:List RO} {gv:AV} {gi:List Nat} (h:a6 S lo b n ⟨R,bag⟩ rb rs gv gi) (hlo:lo≤S.length) (hb:bag=[]) (m:bg) :
  a6 (S.set b (.cells 7 [aH n++[.own rb 2 0 R.length R.length,.own S.length 3 0 1 1]])++[.cells 3 [aJ m]]) lo b n ⟨R,[m]⟩ rb rs (.own S.length 3 0 1 1) [S.length]:=by
 obtain⟨n1,n2,n3,n4,n5,n6,n7,n8⟩:=h.ne;have hlt:=h.lt;refine h.bagged (az (bJ h.hb)) (fun x hx=>?_) (.inr ⟨S.length,[],rfl,rfl,?_,fun _ h=>absurd h List.not_mem_nil,by simp⟩) (by simp) (fun x hx=>?_)
 ·rw[List.getElem?_append_left (by rw[List.length_set];exact hlt x (List.mem_cons_of_mem _ hx)),List.getElem?_set_ne]
  rcases List.mem_cons.1 hx with rfl|hx
  ·exact n1
  ·exact fun e=>n2 (e▸hx)
 ·rw[List.getElem?_append_right (by simp)]
  simp
 ·rw[List.mem_singleton.1 hx];exact⟨fun hc=>absurd (hlt _ hc) (Nat.lt_irrefl _),hlo⟩
theorem a6.push_own {S:aa} {lo b:Nat} {n:Net} {R:List Rtr} {bag:List bg} {rb:Nat} {rs:List RO} {gb c:Nat} (h:a6 S lo b n ⟨R,bag⟩ rb rs (.own gb 3 0 bag.length c) [gb]) (hlo:lo≤S.length) (m:bg) (hl:bag.length+1≤120) :
  a6 ((S.set gb .dead).set b (.cells 7 [aH n++[.own rb 2 0 R.length R.length,.own S.length 3 0 (bag.length+1) (bag.length+1)]])++[.cells 3 (bag.map aJ++[aJ m])]) lo b n ⟨R,bag++[m]⟩ rb rs (.own S.length 3 0 (bag.length+1) (bag.length+1)) [S.length]:=by
 obtain⟨n1,n2,n3,n4,n5,n6,n7,n8⟩:=h.ne;have hlt:=h.lt;have hgb:gb≠b:=fun e=>n3 (by rw[e];simp)
 refine h.bagged (az (bJ (aT h.hb hgb))) (fun x hx=>?_) (.inr ⟨S.length,[],rfl,by simp,?_,fun _ h=>absurd h List.not_mem_nil,by simpa using hl⟩) (by simp) (fun x hx=>?_)
 ·rw[List.getElem?_append_left (by simp only[List.length_set];exact hlt x (List.mem_cons_of_mem _ hx)),List.getElem?_set_ne,List.getElem?_set_ne]
  ·rcases List.mem_cons.1 hx with rfl|hx
   ·exact fun e=>n5 (by rw[e];simp)
   ·exact fun e=>n8 x hx (by rw[e];simp)
  ·rcases List.mem_cons.1 hx with rfl|hx
   ·exact n1
   ·exact fun e=>n2 (e▸hx)
 ·rw[List.getElem?_append_right (by simp)]
  simp
 ·rw[List.mem_singleton.1 hx];exact⟨fun hc=>absurd (hlt _ hc) (Nat.lt_irrefl _),hlo⟩
theorem a6.bag_in {S:aa} {lo b:Nat} {n:Net} {R:List Rtr} {bag:List bg} {rb:Nat} {rs:List RO} {gv:AV} {gb:Nat} (h:a6 S lo b n ⟨R,bag⟩ rb rs gv [gb]) (bag':List bg) (rest:List (List AV)) (hl:bag'.length+rest.length≤120) (hr:∀e∈rest,e.length=3∧e.all cw=true) (hg:∃o,S[gb]? = some o) :
  a6 ((S.set gb (.cells 3 (bag'.map aJ++rest))).set b (.cells 7 [aH n++[.own rb 2 0 R.length R.length,.own gb 3 0 bag'.length (bag'.length+rest.length)]])) lo b n ⟨R,bag'⟩ rb rs (.own gb 3 0 bag'.length (bag'.length+rest.length)) [gb]:=by
 obtain⟨n1,n2,n3,n4,n5,n6,n7,n8⟩:=h.ne;have hgb:gb≠b:=fun e=>n3 (by rw[e];simp)
 obtain⟨o,hg⟩:=hg;refine h.bagged (bJ (aT h.hb hgb)) (fun x hx=>?_) (.inr ⟨gb,rest,rfl,rfl,aT (bJ hg) (Ne.symm hgb),hr,hl⟩) (by simp) (fun x hx=>?_)
 ·rw[List.getElem?_set_ne,List.getElem?_set_ne]
  ·rcases List.mem_cons.1 hx with rfl|hx
   ·exact fun e=>n5 (by rw[e];simp)
   ·exact fun e=>n8 x hx (by rw[e];simp)
  ·rcases List.mem_cons.1 hx with rfl|hx
   ·exact n1
   ·exact fun e=>n2 (e▸hx)
 ·rw[List.mem_singleton.1 hx];refine⟨?_,h.lo _ (by simp)⟩
  simp only[List.mem_cons,not_or];exact⟨hgb,fun e=>n5 (by rw[e];simp),fun e=>n8 _ e (by simp)⟩
theorem a6.push_in {S:aa} {lo b:Nat} {n:Net} {R:List Rtr} {bag:List bg} {rb:Nat} {rs:List RO} {gv:AV} {gb:Nat} (h:a6 S lo b n ⟨R,bag⟩ rb rs gv [gb]) (m:bg) (rest:List (List AV)) (hl:bag.length+(rest.length+1)≤120) (hr:∀e∈rest,e.length=3∧e.all cw=true) (hg:∃o,S[gb]? = some o) :
  a6 ((S.set gb (.cells 3 (bag.map aJ++aJ m::rest))).set b (.cells 7 [aH n++[.own rb 2 0 R.length R.length,.own gb 3 0 (bag.length+1) (bag.length+(rest.length+1))]])) lo b n ⟨R,bag++[m]⟩ rb rs (.own gb 3 0 (bag.length+1) (bag.length+(rest.length+1))) [gb]:=by
 have e1:(bag++[m]).length=bag.length+1:=by simp
 have:=h.bag_in (bag++[m]) rest (by rw[e1];omega) hr hg
 rw[e1,List.map_append,List.append_assoc,show bag.length+1+rest.length=bag.length+(rest.length+1) by omega] at this
 exact this
theorem a6.drop {S:aa} {lo b:Nat} {n:Net} {R:List Rtr} {bag:List bg} {rb:Nat} {rs:List RO} {gv:AV} {gb:Nat} {rest:List (List AV)} (h:a6 S lo b n ⟨R,bag⟩ rb rs gv [gb]) (m:Nat) (hm:m<bag.length) (hl:bag.length+rest.length≤120) (hr:∀e∈rest,e.length=3∧e.all cw=true) (hg:∃o,S[gb]? = some o) :
  a6 ((S.set gb (.cells 3 ((bag.eraseIdx m).map aJ++(pN::rest)))).set b (.cells 7 [aH n++[.own rb 2 0 R.length R.length,.own gb 3 0 (bag.length-1) (bag.length+rest.length)]])) lo b n ⟨R,bag.eraseIdx m⟩ rb rs (.own gb 3 0 (bag.length-1) (bag.length+rest.length)) [gb]:=by
 have e1:(bag.eraseIdx m).length=bag.length-1:=by rw[List.length_eraseIdx,if_pos hm]
 have:=h.bag_in (bag.eraseIdx m) (pN::rest) (by rw[e1,List.length_cons];omega) (fun e he=>by
  rcases List.mem_cons.1 he with rfl|he
  ·exact⟨rfl,rfl⟩
  ·exact hr e he) hg
 rw[e1,List.length_cons,show bag.length-1+(rest.length+1)=bag.length+rest.length by omega] at this
 exact this
theorem a6.spoiled {S:aa} {lo b:Nat} {n:Net} {R:List Rtr} {bag:List bg} {rb:Nat} {rs:List RO} {gb:Nat} {rest:List (List AV)} {w:bg} (h:a6 S lo b n ⟨R,bag⟩ rb rs (.own gb 3 0 bag.length (bag.length+rest.length)) [gb]) (hg:S[gb]? = some (.cells 3 (bag.map aJ++rest))) {k:Int} (h0:0≤k) (h1:k<bag.length) (hl:bag.length+rest.length≤120) (hr:∀e∈rest,e.length=3∧e.all cw=true) :
  a6 (S.set gb (.cells 3 ((bag.map aJ++rest).set k.toNat (aJ w)))) lo b n ⟨R,bag.set k.toNat w⟩ rb rs (.own gb 3 0 bag.length (bag.length+rest.length)) [gb]:=by
 obtain⟨n1,n2,n3,n4,n5,n6,n7,n8⟩:=h.ne;have hgb:gb≠b:=fun e=>n3 (by rw[e];simp)
 have e1:(bag.map aJ++rest).set k.toNat (aJ w)=(bag.set k.toNat w).map aJ++rest:=by
  rw[List.set_append_left _ _ (by rw[List.length_map];omega),List.map_set]
 rw[e1];refine h.bagged (aT h.hb hgb) (fun x hx=>?_) (.inr ⟨gb,rest,rfl,by simp,bJ hg,hr,by rw[List.length_set];exact hl⟩) (by simp) (fun x hx=>?_)
 ·rw[List.getElem?_set_ne]
  rcases List.mem_cons.1 hx with rfl|hx
  ·exact fun e=>n5 (by rw[e];simp)
  ·exact fun e=>n8 x hx (by rw[e];simp)
 ·rw[List.mem_singleton.1 hx];refine⟨?_,h.lo _ (by simp)⟩
  simp only[List.mem_cons,not_or];exact⟨hgb,fun e=>n5 (by rw[e];simp),fun e=>n8 _ e (by simp)⟩
def bD (ρ S:aa) (b:Nat) (n:Net) (e:Eng):Prop:=bX ρ S∧∃rb rs gv gi,a6 S ρ.length b n e rb rs gv gi
theorem bD.app {ρ S τ:aa} {b:Nat} {n:Net} {e:Eng} (h:bD ρ S b n e):bD ρ (S++τ) b n e:=by
 obtain⟨hK0,rb,rs,gv,gi,M⟩:=h;exact⟨hK0.app,rb,rs,gv,gi,M.app⟩
end Go.Proofs.YtephecognbbaoaaGreat
namespace Go.Proofs.YtephecognbbaoaaGreat
theorem wR (n:Net) (r:RO) (S:aa) (b rb i:Nat) (rv gv rr:AV) (R:List (List AV)) (hn:bI n) (hr:fp n r.rtr) (hb:S[b]? = some (.cells 7 [aH n++[rv,gv]])) (hrb:S[rb]? = some (.cells 2 R)) (hR:R[i]? = some [rr,.own r.to 1 0 r.told.length r.told.length]) (hA:fR S r)
  (to j:Int) (h0:0≤to) (h1:to<n.nodes) (h2:0≤j) (h3:j<n.nodes) (τ:aa) :
  af Tryz.prog 122 [ab to,ab j,.cp [.ptr rb 2 i 0] 0,.cp [.ptr b 7 0 0] 0] (S++τ) fun r' S'=>S'=S++τ∧r'=ab (dr n r.rtr to j):=by
 have s2:=hn.alg.s2;have s24:=hn.alg.s24;have n6:=hn.n6;have htl:(r.told.length:Int)=n.nodes:=by have:=hr.tl;simpa [RO.rtr] using this
 have hg:=eQ ck r.told h0 (by omega)
 have hI:=eC n.alg (by unfold I64;omega)
 have hm:=aA r.told h0 (by omega)
 have hbL:∀τ,(S++τ)[b]? = some (.cells 7 [aH n++[rv,gv]]):=fun τ=>az hb;have hrbL:∀τ,(S++τ)[rb]? = some (.cells 2 R):=fun τ=>az hrb;have htL:∀τ,(S++τ)[r.to]? = some (.cells 1 (r.told.map ck)):=fun τ=>az hA.to;have hta:at0 r.rtr.told to=(at0 r.told to).1:=sF _ _ h0 (by omega)
 obtain⟨w,hw⟩:∃w,at0 r.told to=w:=⟨_,rfl⟩;rw[hw] at hg hm hta;have hv:=hr.tr w.1 (List.mem_map.2 ⟨w,hm,rfl⟩);unfold dr at2;rw[hta];obtain⟨l,o⟩:=w;simp only at hv ⊢
 cases o with
 | none=>
  have he:l=[]:=hA.no _ hm rfl;subst he;rw[if_pos rfl];rw[ck] at hg;refine g_n Tryz.func122 rfl Tryz.results122 Tryz.ntmps122 ?_
  (repeat' (first|(refine g_s fun K hK=>?_)|(refine g_C (fun h=>?_) (fun h=>?_)<;>(try exact g_f))|((first|refine g_t ?_|refine g_g ?_|refine (hI _).use ?_);(try simp -implicitDefEqProofs only[go_sem,hbL,hrbL,htL,hR,hg]))|(refine hK _ _ ?_;clear hK K)|(with_reducible refine And.intro ?_ ?_;· exact g_x)|fail))
 | some id=>
  have hid:∀τ,(S++τ)[id]? = some (.cells 1 (l.map au)):=fun τ=>az (hA.row _ hm id rfl);rw[ck] at hg;simp only at hg
  by_cases he:l=[]
  ·subst he;rw[if_pos rfl];refine g_n Tryz.func122 rfl Tryz.results122 Tryz.ntmps122 ?_
   (repeat' (first|(refine g_s fun K hK=>?_)|(refine g_C (fun h=>?_) (fun h=>?_)<;>(try exact g_f))|((first|refine g_t ?_|refine g_g ?_|refine (hI _).use ?_);(try simp -implicitDefEqProofs only[go_sem,hbL,hrbL,htL,hR,hg,hid]))|(refine hK _ _ ?_;clear hK K)|(with_reducible refine And.intro ?_ ?_;· exact g_x)|fail))
  ·rw[if_neg he];obtain⟨h5,h6⟩:=hv.resolve_left he;have hge:=k8 l h2 (by omega)
   refine g_n Tryz.func122 rfl Tryz.results122 Tryz.ntmps122 ?_
   (repeat' (first|(refine g_s fun K hK=>?_)|(refine g_k ?_;simp only[ah,ae])|(refine g_C (fun h=>?_) (fun h=>?_)<;>(try exact g_f))|((first|refine g_t ?_|refine g_g ?_);(try simp -implicitDefEqProofs only[go_sem,hbL,hrbL,htL,hR,hg,hid,hge]))|(refine hK _ _ ?_;clear hK K)|(with_reducible refine And.intro ?_ ?_;· exact g_x)|fail))
theorem RO.rtr_eta (r:RO) (l:List Int) (x:Nat):(⟨l,x,r.told,r.to⟩:RO).rtr=⟨l,r.rtr.told⟩:=rfl
theorem a6.nodup_ids {S:aa} {lo b:Nat} {n:Net} {e:Eng} {rb:Nat} {rs:List RO} {gv:AV} {gi:List Nat} (h:a6 S lo b n e rb rs gv gi) {r:RO} (hr:r∈rs):r.ids.Nodup:=by
 obtain⟨A,B,rfl⟩:=List.append_of_mem hr;have:=h.ne.2.2.2.2.2.1;rw[List.flatMap_append,List.flatMap_cons,List.nodup_append,List.nodup_append] at this;exact this.2.1.1
theorem nK (n:Net) (e:Eng) (hc:aI n=0) (hl:n.links.length≤5864062014634) (he:a8 n e) (ρ S:aa) (b:Nat) (hS:bD ρ S b n e) (i:Int) (h0:0≤i) (h1:i<n.nodes) :
  af Tryz.prog 90 [.ptr b 7 0 0,ab i] S fun r S'=>bD ρ S' b n (bh n e i)∧r = .tup []:=by
 obtain⟨hK0,rb,rs,gv,gi,M⟩:=hS;have hn:=aU hc;have n6:=hn.n6;have hel:=he.len;have hir:i<e.routers.length:=by omega
 obtain⟨p,hp1,hp2,hR,hA,hpe⟩:=M.row h0 hir;have hr:=gu he ⟨h0,h1⟩;rw[←hpe] at hr;have hHH:∀k j,0≤k→k<n.nodes→0≤j→j<n.nodes→0≤dr n p.rtr k j∧dr n p.rtr k j<n.alg.size:=fun k j a b c d=>n9 hn hr ⟨a,b⟩ ⟨c,d⟩;have hlk:=sS n i (fun k j=>dr n p.rtr k j) 122 [.cp [.ptr rb 2 i.toNat 0] 0,.cp [.ptr b 7 0 0] 0] (S++[.dead,.dead]) hn hl h0 h1 (by kernel_rfl) hHH (fun k j a b c d S' hS'=>by
  obtain⟨τ',rfl⟩:=hS';rw[List.append_assoc];exact wR n p S _ rb i.toNat _ gv _ _ hn hr M.hb M.hrb hR hA k j a b c d ([.dead,.dead]++τ'))
 have hLk:((ints n.nodes).map fun j=>cq n i j (fun k=>dr n p.rtr k j) n.links)=fA n p.rtr i:=rfl;rw[hLk] at hlk;have hLl:(fA n p.rtr i).length=n.nodes.toNat:=by rw[fM]
 obtain⟨Lk,hLkd⟩:∃Lk,fA n p.rtr i=Lk:=⟨_,rfl⟩;rw[hLkd] at hlk hLl;have hbL:∀τ,(S++τ)[b]? = some (.cells 7 [aH n++[.own rb 2 0 e.routers.length e.routers.length,gv]]):=fun τ=>az M.hb;have hrL:∀τ,(S++τ)[rb]? = some (.cells 2 (rs.map cJ)):=fun τ=>az M.hrb;have hrS:∀τ o,(S++τ).set rb o=S.set rb o++τ:=fun τ o=>bt M.hrb;have hzl:rs.length=e.routers.length:=M.len.symm;rw[cJ] at hR;have hfin:∀x τ,S.length≤x→(S.set rb (.cells 2 ((rs.map cJ).set i.toNat [.own x 1 0 n.nodes.toNat n.nodes.toNat,.own p.to 1 0 p.told.length p.told.length]))++τ)[x]? = some (.cells 1 (Lk.map au)) →
   bD ρ (S.set rb (.cells 2 ((rs.map cJ).set i.toNat [.own x 1 0 n.nodes.toNat n.nodes.toNat,.own p.to 1 0 p.told.length p.told.length]))++τ) b n (bh n e i):=fun x τ hx ho=>by
  have e1:cJ ⟨Lk,x,p.told,p.to⟩=[.own x 1 0 n.nodes.toNat n.nodes.toNat,.own p.to 1 0 p.told.length p.told.length]:=by rw[cJ,hLl]
  have e2:bh n e i=aR e i (RO.rtr ⟨Lk,x,p.told,p.to⟩):=by rw[RO.rtr_eta,bh,pG,←hpe,hLkd]
  rw[←e1] at ho ⊢;rw[e2];have hnr:=M.ne.2.2.2.1;have hpr:∀y∈p.ids,y≠rb:=fun y hy e=>hnr (e▸List.mem_flatMap.2 ⟨p,hp2,hy⟩);have hxb:=(List.getElem?_eq_some_iff.1 M.hrb).1;have hk:=(hA.congr (S':=S.set rb (.cells 2 ((rs.map cJ).set i.toNat (cJ ⟨Lk,x,p.told,p.to⟩)))++τ) fun y hy o ho=>az (aT ho fun e=>hpr y hy e.symm));have hnd:=M.nodup_ids hp2;rw[RO.ids,List.nodup_cons] at hnd;have hlt:=hA.lt;refine⟨(hK0.set (M.lo rb (by simp))).app,rb,rs.set i.toNat ⟨Lk,x,p.told,p.to⟩,gv,gi,M.put hp1 ⟨Lk,x,p.told,p.to⟩ (fun y o h1 h2 h3=>az (aT h3 fun e=>h1 e.symm)) ?_ ⟨ho,hk.to,hk.no,hk.row⟩ ?_ ?_⟩
  ·rw[az (bJ M.hrb),List.map_set]
  ·rw[RO.ids,List.nodup_cons];exact⟨fun hc=>by have:=hlt x (List.mem_cons_of_mem _ hc);omega,hnd.2⟩
  ·intro y hy
   rcases List.mem_cons.1 hy with rfl|hy
   ·exact .inr ⟨Nat.le_trans hK0.len hx,hx⟩
   ·exact .inl (List.mem_cons_of_mem _ hy)
 refine g_n Tryz.func90 rfl Tryz.results90 Tryz.ntmps90 ?_;refine g_s fun K hK=>?_;refine g_h ?_;refine hK _ _ ?_;clear hK K;refine g_0 2 rfl ?_;refine g_s fun K hK=>?_
 (refine cU ?_;simp -implicitDefEqProofs only[go_sem,hbL,hrL,hzl])
 refine⟨h0,hir,?_⟩;refine hK _ _ ?_;clear hK K;refine g_0 4 rfl ?_
 (repeat' (first|((first|refine eK (S++[.dead,.dead]) ⟨[],by simp⟩ a9 (by decide +kernel) ?_|refine eG (hlk) ?_);(try simp -implicitDefEqProofs only[go_sem,hbL,hrL,hrS,hR,hzl]))|fail))
 refine hfin _ _ ?_ ?_
 ·omega
 ·simp
end Go.Proofs.YtephecognbbaoaaGreat
namespace Go.Proofs.YtephecognbbaoaaGreat
theorem y8 (n:Net) (e:Eng) (hc:aI n=0) (hl:n.links.length≤5864062014634) (he:a8 n e) (ρ S:aa) (b:Nat) (hS:bD ρ S b n e) (i:Int) (h0:0≤i) (h1:i<n.nodes) :
  af Tryz.prog 43 [.ptr b 7 0 0,ab i] S fun r S'=>bD ρ S' b n (gL n e i).1∧r=ab (gL n e i).2:=by
 have hn:=aU hc;have n1:=hn.n1;have n6:=hn.n6;have hel:=he.len;have hir:i<e.routers.length:=by omega
 have hbag:=he.bag;have hHl:=oq hn i;have hLK:=nK n e hc hl he ρ S b hS i h0 h1;have hS0:=hS;obtain⟨hK0,rb,tb,gv,gi,M⟩:=hS;have hH:=zK n i S b _ gv hc hl M.hb;have hb:=M.hb;have hlen:=M.bag.len;unfold gL;obtain⟨H,hHe⟩:∃H,dj n i=H:=⟨_,rfl⟩;have hHin:∀k∈H,0≤k∧k<n.nodes:=fun k hk=>(iB.1 (by rw[hHe];exact hk)).1
 rw[hHe] at hHl hH ⊢;obtain⟨Lk,hLk⟩:∃Lk,fA n (at0 e.routers i) i=Lk:=⟨_,rfl⟩;obtain⟨R,hR⟩:∃R,(bh n e i).routers=R:=⟨_,rfl⟩;rw[hLk,hR];have hgl:∃a c,(gv = .c (.slice none 0 0)∧e.bag.length=0)∨(gv = .own a 3 0 e.bag.length c∧e.bag.length=e.bag.length):=by
  rcases M.bag with ⟨h1,h2,h3⟩|⟨gb,rest,h1,h2,h3,h4,h5⟩
  ·exact⟨0,0,.inl ⟨h3,by rw[h1];rfl⟩⟩
  ·exact⟨gb,_,.inr ⟨h2,rfl⟩⟩
 clear M hlen;obtain⟨a,c,⟨rfl,hq⟩|⟨rfl,hq⟩⟩:=hgl
 all_goals by_cases hbig:120<e.bag.length+H.length
 ·omega
 rotate_left 1
 ·rw[if_pos hbig];refine g_n Tryz.func43 rfl Tryz.results43 Tryz.ntmps43 ?_
  (repeat' (first|(refine g_s fun K hK=>?_)|(refine g_C (fun h=>?_) (fun h=>?_)<;>(try exact g_f))|((first|refine g_t ?_|refine g_g ?_|refine (hH).use ?_);(try simp -implicitDefEqProofs only[go_sem,hb]))|(refine hK _ _ ?_;clear hK K)|(with_reducible refine And.intro ?_ ?_;· exact g_x)|fail))
  exact hS0
 all_goals
  rw[if_neg hbig];refine g_n Tryz.func43 rfl Tryz.results43 Tryz.ntmps43 ?_
  (repeat' (first|(refine g_s fun K hK=>?_)|(refine g_k ?_;simp only[ah,ae])|(refine g_C (fun h=>?_) (fun h=>?_)<;>(try exact g_f))|((first|refine g_g ?_|refine (hH).use ?_);(try simp -implicitDefEqProofs only[go_sem,hb]))|(refine hK _ _ ?_;clear hK K)|(with_reducible refine And.intro ?_ ?_;· exact g_x)|fail))
  refine hLK.mono ?_;clear hb hH hLK;rintro r S1 ⟨⟨hK1,rb1,rs1,gv1,gi1,M1⟩,rfl⟩;have hRl:R.length=e.routers.length:=by rw[←hR];simp [bh,aR]
  have hRi:(at0 R i).routes=Lk:=by
   rw[←hR,←hLk];simp only[bh,aR];rw[tR _ _ h0 h0 hir,if_pos rfl];rfl
  have hLl:Lk.length≤6:=by rw[←hLk,fM];omega
  have hEb:(bh n e i).bag=e.bag:=rfl;have M2:a6 S1 ρ.length b n ⟨R,e.bag⟩ rb1 rs1 gv1 gi1:=by rw[←hR];exact M1
  clear M1
  (repeat' (first|(refine g_s fun K hK=>?_)|(refine g_b ?_)|(refine g_g ?_;(try refine g_y ?_))|(refine hK _ _ ?_;clear hK K)|exact trivial|fail))
  have hJ:=hK;clear hK;refine ay H (fun k r (s:aa×AV×List Nat×List bg)=>bX ρ s.1∧a6 s.1 ρ.length b n ⟨R,s.2.2.2⟩ rb1 rs1 s.2.1 s.2.2.1∧s.2.2.2++r.map (c6 Lk i)=e.bag++H.map (c6 Lk i)) (fun k _ _=>[(28,ab k)]) (fun _ s _=>s.1) (S1,gv1,gi1,e.bag) [] ⟨hK1,M2,rfl⟩ rfl (ai ?_) ?_ ?_
  ·exact g_w
  ·rintro k r ⟨S2,gv2,gi2,bag⟩ τ hk0 hk1 ⟨hK2,M3,h5⟩ L hL;simp only at hK2 M3 h5;obtain⟨w,hw⟩:∃w,at0 H k=w:=⟨_,rfl⟩;rw[hw] at h5;have hwr0:=oB ⟨i,w,Lk⟩ (by simp only;omega)
   have hbl:bag.length+1≤120:=by
    have:=congrArg List.length h5;simp at this;omega
   have hb:=M3.hb;have hrb:=M3.hrb;have hlen:=M3.bag.len;obtain⟨p,hp1,hp2,hRr,hA,hpe⟩:=M3.row h0 (by simp only;omega)
   simp only at hRr hpe;have hpr:p.routes=Lk:=by
    have:p.rtr.routes=Lk:=by rw[hpe];exact hRi
    exact this
   rw[cJ,hpr] at hRr;have hro:=hA.ro;rw[hpr] at hro;have hwr:af Tryz.prog 91 [.agg [ab i,ab w,.own p.ro 1 0 Lk.length Lk.length]] S2 fun r σ'=>σ'=S2∧r = .tup [.c (.string (strOfNums (bz ⟨i,w,Lk⟩).1)),.c (.int .i64 (bz ⟨i,w,Lk⟩).2)]:=
    af.borrowD (.tup fun a ha=>by
     simp only[List.mem_cons,List.not_mem_nil,or_false] at ha
     rcases ha with rfl|rfl
     ·exact .c _
     ·exact .c _) (.cons (.aggL (.cons (.same _) (.cons (.same _) (.cons (.ownW trivial hro (by simp) (.same _)) .nil)))) .nil) hwr0
   have hzl:rs1.length=R.length:=M3.len.symm;have hmk:c6 Lk i w=⟨i,w,(bz ⟨i,w,Lk⟩).1⟩:=rfl;have hbL:∀τ,(S2++τ)[b]? = some (.cells 7 [aH n++[.own rb1 2 0 R.length R.length,gv2]]):=fun τ=>az hb;have hbS:∀τ o,(S2++τ).set b o=S2.set b o++τ:=fun τ o=>bt hb
   rcases M3.bag with ⟨hb1,rfl,rfl⟩|⟨gb,rest,rfl,rfl,hb3,hb4,hb5⟩
   ·have h6:[c6 Lk i w]++r.map (c6 Lk i)=e.bag++H.map (c6 Lk i):=by
     have hb1:bag=[]:=hb1;rw[hb1] at h5;exact h5
    simp -implicitDefEqProofs only[go_sem]
    (repeat' (first|(refine g_s fun K hK=>?_)|(refine g_b ?_)|(refine g_k ?_;simp only[ah,ae])|(refine g_C (fun h=>?_) (fun h=>?_)<;>(try exact g_f))|((first|refine g_G ?_|refine (hwr).use ?_);(try simp -implicitDefEqProofs only[go_sem,hb,hrb,hRr,hzl,hw,hbL,hbS]))|(refine hK _ _ ?_;clear hK K)|(with_reducible refine And.intro ?_ ?_;· exact g_x)|fail))
    refine hL (_,.own S2.length 3 0 1 1,[S2.length],[c6 Lk i w]) [] _ _ ⟨(hK2.set (M3.lo b (by simp))).app,?_,h6⟩ (ai ?_) rfl
    ·exact M3.push_nil hK2.len hb1 (c6 Lk i w)
    ·exact g_w
   ·have hne:=M3.ne;have hgb:gb≠b:=fun e=>hne.2.2.1 (by rw[e];simp)
    have hbG:∀o,(S2.set gb o)[b]? = some (.cells 7 [aH n++[.own rb1 2 0 R.length R.length,.own gb 3 0 bag.length (bag.length+rest.length)]]):=fun o=>aT hb hgb;have hbD:∀o τ,(S2.set gb o++τ)[b]? = some (.cells 7 [aH n++[.own rb1 2 0 R.length R.length,.own gb 3 0 bag.length (bag.length+rest.length)]]):=fun o τ=>az (hbG o);have hbE:∀o τ o',(S2.set gb o++τ).set b o'=(S2.set gb o).set b o'++τ:=fun o τ o'=>bt (hbG o)
    rcases rest with _|⟨x,rest⟩
    ·rw[List.append_nil] at hb3;simp -implicitDefEqProofs only[go_sem]
     (repeat' (first|(refine g_s fun K hK=>?_)|(refine g_b ?_)|(refine g_k ?_;simp only[ah,ae])|(refine g_C (fun h=>?_) (fun h=>?_)<;>(try exact g_f))|((first|refine g_G ?_|refine (hwr).use ?_);(try simp -implicitDefEqProofs only[go_sem,hb,hrb,hRr,hzl,hw,hb3,hbD,hbE]))|(refine hK _ _ ?_;clear hK K)|(with_reducible refine And.intro (fun h=>?_) (fun h=>?_)<;>(try simp only[go_sem] at h)<;>(try exact g_f))|(with_reducible refine And.intro ?_ ?_;· exact g_x)|fail))
     refine hL (_,.own S2.length 3 0 (bag.length+1) (bag.length+1),[S2.length],bag++[c6 Lk i w]) [] _ _ ⟨((hK2.set (M3.lo gb (by simp))).set (M3.lo b (by simp))).app,M3.push_own hK2.len (c6 Lk i w) hbl,by simpa using h5⟩ (ai ?_) rfl
     simp -implicitDefEqProofs only[go_sem]
    ·have htk:List.take bag.length (bag.map aJ++x::rest)=bag.map aJ:=List.take_left' (by simp)
     have hdr:List.drop (bag.length+1) (bag.map aJ++x::rest)=rest:=by
      rw[List.drop_append];simp
     have g1:(bag.length=bag.length+(rest.length+1))=False:=eq_false (by omega)
     have g2:(bag.length≤bag.length+(rest.length+1))=True:=eq_true (by omega)
     have g3:(bag.length+1≤bag.length+(rest.length+1))=True:=eq_true (by omega)
     have g4:(bag.length+(rest.length+1)<bag.length+1)=False:=eq_false (by omega)
     have hb5':bag.length+(rest.length+1)≤120:=hb5;simp -implicitDefEqProofs only[go_sem]
     (repeat' (first|(refine g_s fun K hK=>?_)|(refine g_b ?_)|(refine g_k ?_;simp only[ah,ae])|(refine g_C (fun h=>?_) (fun h=>?_)<;>(try exact g_f))|((first|refine g_G ?_|refine (hwr).use ?_);(try simp -implicitDefEqProofs only[go_sem,hb,hrb,hRr,hzl,hw,hb3,hbG,htk,hdr,g1,g2,g3,g4]))|(refine hK _ _ ?_;clear hK K)|(with_reducible refine And.intro ?_ ?_;· exact g_x)|fail))
     refine hL (_,.own gb 3 0 (bag.length+1) (bag.length+(rest.length+1)),[gb],bag++[c6 Lk i w]) [] _ _ ⟨(hK2.set (M3.lo gb (by simp))).set (M3.lo b (by simp)),M3.push_in (c6 Lk i w) rest hb5' (fun e he=>hb4 e (List.mem_cons_of_mem _ he)) ⟨_,hb3⟩,by simpa using h5⟩ (ai ?_) rfl
     simp -implicitDefEqProofs only[go_sem]
  ·rintro k ⟨S2,gv2,gi2,bag⟩ τ hk ⟨hK2,M3,h5⟩ L;simp only[List.map_nil,List.append_nil] at hK2 M3 h5;subst h5;simp -implicitDefEqProofs only[go_sem]
   (repeat' (first|(refine g_s fun K hK=>?_)|(refine g_e ?_;simp only[ah,ae,↓reduceIte,Nat.reduceEqDiff])|(refine g_C (fun h=>?_) (fun h=>?_)<;>(try exact g_f))|(refine g_g ?_;(try refine g_y ?_))|(refine hK _ _ ?_;clear hK K)|exact trivial|fail))
   refine hJ _ _ ?_;clear hJ
   (repeat' (first|(refine g_s fun K hK=>?_)|((first|refine g_t ?_|refine g_g ?_);(try refine g_y ?_))|(refine hK _ _ ?_;clear hK K)|exact trivial|fail))
   exact⟨hK2,rb1,rs1,gv2,gi2,M3⟩
end Go.Proofs.YtephecognbbaoaaGreat
namespace Go.Proofs.YtephecognbbaoaaGreat
theorem zt (l:List Int) (hl:l.length≤60) (hb:∀c∈l,0≤c∧c≤255) (h0:(bm l).2=0) (hne:(bm l).1.routes≠[]) (σ:aa):af Tryz.prog 118 [.c (.string (strOfNums l))] σ fun r σ'=>∃τ,σ'=σ++τ∧∃id,r = .tup [.agg [ab (bm l).1.fr,ab (bm l).1.dst,.own id 1 0 (bm l).1.routes.length (bm l).1.routes.length],ab 0]∧σ.length≤id∧(σ++τ)[id]? = some (.cells 1 ((bm l).1.routes.map au)):=by
 have r1:=dm hb 1;have r2:=dm hb 2;have r3:=dm hb 3;have c1:¬60<l.length:=fun h=>by
  rw[bm,if_pos (by omega)] at h0
  cases h0
 have c2:¬((l.length:Int)<6∨at0 l 3≠(l.length:Int)-6):=fun h=>by
  rw[bm,if_neg (by omega),if_pos (by omega)] at h0
  cases h0
 have c3:6≤(l.length:Int):=by omega
 have c4:at0 l 3=(l.length:Int)-6:=by omega
 generalize hm:List.drop 4 (List.take ((l.length:Int)-2).toNat l)=mid
 have hmb:∀c∈mid,0≤c∧c≤255:=fun c hc=>by
  subst hm;exact hb c (List.mem_of_mem_take (List.mem_of_mem_drop hc))
 have hml:(mid.length:Int)=l.length-6:=by
  subst hm;simp;omega
 have hp:cE l=⟨at0 l 1,at0 l 2,mid⟩:=by
  unfold cE
  congr 1
  rw[←hm]
  congr 2
  omega
 have hrd:bm l=if (bz ⟨at0 l 1,at0 l 2,mid⟩).2≠0∨(bz ⟨at0 l 1,at0 l 2,mid⟩).1≠l then (⟨0,0,[]⟩,1) else (⟨at0 l 1,at0 l 2,mid⟩,0):=by
  rw[bm,if_neg (by omega),if_neg (by omega),hp]
 by_cases h9:(bz ⟨at0 l 1,at0 l 2,mid⟩).2≠0∨(bz ⟨at0 l 1,at0 l 2,mid⟩).1≠l
 ·rw[hrd,if_pos h9] at h0
  cases h0
 rw[if_neg h9] at hrd;rw[hrd] at hne ⊢;simp only at hne ⊢;obtain⟨w2,w1⟩:(bz ⟨at0 l 1,at0 l 2,mid⟩).2=0∧(bz ⟨at0 l 1,at0 l 2,mid⟩).1=l:=by
  refine⟨Classical.byContradiction fun h=>h9 (.inl h),Classical.byContradiction fun h=>h9 (.inr h)⟩
 have hwr:=oB ⟨at0 l 1,at0 l 2,mid⟩ (by simp only;omega)
 rw[w1,w2] at hwr;refine g_n Tryz.func118 rfl Tryz.results118 Tryz.ntmps118 ?_
 (repeat' (first|(refine g_s fun K hK=>?_)|(refine g_b ?_)|(refine g_k ?_;simp only[ah,ae])|(refine g_C (fun h=>?_) (fun h=>?_)<;>(try exact g_f))|((first|refine g_g ?_|refine g_A ?_);(try simp -implicitDefEqProofs only[go_sem,lg hb]))|(refine hK _ _ ?_;clear hK K)|(with_reducible refine ak (fun h=>?_) (fun h=>?_)<;>(try simp only[go_sem] at h)<;>(try exact g_f)<;>(try simp -implicitDefEqProofs only[go_sem,lg hb]))|(with_reducible refine And.intro ?_ ?_;· exact g_x)|fail))
 rw[hm,rz hmb];refine bn ?_;have hJ:=hK;clear hK;simp -implicitDefEqProofs only[go_sem];refine ay mid (fun k r acc=>acc++r=mid) (fun k acc τ=>[(42,ab k)]) (fun _ acc τ=>σ++(.cells 3 [[.c (.int .i64 0),.c (.int .i64 0),.c (.slice none 0 0)]]::.cells 3 [[ab (at0 l 1),ab (at0 l 2),aq 1 (σ.length+(τ.length+3)) acc]]::.cells 1 (mid.map fm)::(τ++[ap au 1 acc]))) [] [] rfl ?_ ?_ ?_ ?_
 ·simp -implicitDefEqProofs only[go_sem,aq,ap]
 ·refine ai ?_;simp -implicitDefEqProofs only[go_sem]
 ·rintro k r acc τ' hk0 hk1 h3 L hL;have hr:=hmb _ (aA mid hk0 hk1);have hal:acc.length≤60:=by have:=congrArg List.length h3;simp at this;omega
  rcases acc with _|⟨x,acc⟩<;>simp only[List.length_cons,List.length_nil] at hal<;>simp -implicitDefEqProofs only[go_sem,aq,ap]
  all_goals (repeat' (first|(refine g_s fun K hK=>?_)|(refine g_b ?_)|(refine g_k ?_;simp only[ah,ae])|(refine g_C (fun h=>?_) (fun h=>?_)<;>(try exact g_f))|(refine g_g ?_;(try refine g_y ?_))|(refine hK _ _ ?_;clear hK K)|(with_reducible refine And.intro ?_ ?_;· exact g_x)|exact trivial|fail))
  ·refine hL [at0 mid k] (τ'++[.dead,.cells 1 [au (at0 mid k)]]) _ _ (by simpa using h3) (ai ?_) ?_
   ·exact g_w
   ·simp [aq,ap,au,ab]
  ·refine hL (x::acc++[at0 mid k]) (τ'++[.dead,.cells 1 [au (at0 mid k)]]) _ _ (by simpa using h3) (ai ?_) ?_
   ·exact g_w
   ·simp [aq,ap,au,ab]
 ·rintro k acc τ' hk h3 L;rw[List.append_nil] at h3;subst h3;simp -implicitDefEqProofs only[go_sem]
  (repeat' (first|(refine g_s fun K hK=>?_)|(refine g_e ?_;simp only[ah,ae,↓reduceIte,Nat.reduceEqDiff])|(refine g_C (fun h=>?_) (fun h=>?_)<;>(try exact g_f))|(refine g_g ?_;(try refine g_y ?_))|(refine hK _ _ ?_;clear hK K)|exact trivial|fail))
  refine hJ _ _ ?_;clear hJ
  rcases acc with _|⟨y,acc⟩
  ·exact absurd rfl hne
  simp -implicitDefEqProofs only[go_sem,aq,ap];have hW:∀S:aa,S[σ.length+(τ'.length+3)]? = some (.cells 1 ((y::acc).map au))→af Tryz.prog 91 [.agg [ab (at0 l 1),ab (at0 l 2),.own (σ.length+(τ'.length+3)) 1 0 (acc.length+1) (acc.length+1)]] S fun r σ'=>σ'=S∧r = .tup [.c (.string (strOfNums l)),.c (.int .i64 0)]:=fun S hS=>
   af.borrowD (.tup fun a ha=>by
    simp only[List.mem_cons,List.not_mem_nil,or_false] at ha
    rcases ha with rfl|rfl
    ·exact .c _
    ·exact .c _) (.cons (.aggL (.cons (.same _) (.cons (.same _) (.cons (.ownW trivial hS (by simp) (.same _)) .nil)))) .nil) hwr
  (repeat' (first|(refine g_s fun K hK=>?_)|(refine g_k ?_;simp only[ah,ae])|(refine g_C (fun h=>?_) (fun h=>?_)<;>(try exact g_f))|((first|refine g_t ?_|refine g_g ?_|refine (hW _ (by simp)).use ?_);(try refine g_y ?_))|(refine hK _ _ ?_;clear hK K)|(with_reducible refine ak (fun h=>?_) (fun h=>?_)<;>(try simp only[go_sem] at h)<;>(try exact g_f)<;>(try refine g_y ?_))|exact trivial|fail))
  exact⟨_,rfl,_,rfl,by omega,by simp⟩
end Go.Proofs.YtephecognbbaoaaGreat
namespace Go.Proofs.YtephecognbbaoaaGreat
theorem vR (q:List Int×Option Nat) (v:AV):(ck q).set 0 v=[v]:=by unfold ck;split<;>rfl
theorem oy.int (x:Int):oy (ab x):=.c _
theorem vz (n:Net) (e:Eng) (hc:aI n=0) (hl:n.links.length≤5864062014634) (he:a8 n e) (hby:cu e) (ρ S:aa) (b:Nat) (hS:bD ρ S b n e) (i:Int) (h0:0≤i) (h1:i<e.bag.length) :
  af Tryz.prog 82 [.ptr b 7 0 0,ab i] S fun r S'=>bD ρ S' b n (eu n e i)∧r = .tup []:=by
 have hn:=aU hc;have n1:=hn.n1;have n6:=hn.n6;have s2:=hn.alg.s2;have s24:=hn.alg.s24;have hx:I64 (n.alg.size-1):=by unfold I64;omega
 have hel:=he.len;have hbag:=he.bag;obtain⟨R,bag⟩:=e;simp only at hel hbag h1;obtain⟨m,rfl⟩:∃m:Nat,i=m:=⟨i.toNat,by omega⟩
 have h1':m<bag.length:=by omega
 obtain⟨hK0,rb,tb,gv,gi,M⟩:=hS
 rcases M.bag with ⟨h2,_,_⟩|⟨gb,rest,rfl,rfl,hb3,hb4,hb5⟩
 ·simp only at h2;rw[h2] at h1;simp at h1;omega
 simp only at M hb3 hb4 hb5;obtain⟨w,hw⟩:∃w,at0 bag (m:Int)=w:=⟨_,rfl⟩;have hwm:w∈bag:=by rw[←hw];exact aA bag h0 h1
 have hwi:=he.mail w hwm;have hwb:=hby w hwm;have hgw:(bag.map aJ++rest)[m]? = some (aJ w):=by
  rw[List.getElem?_append_left (by rw[List.length_map];exact h1')]
  have:=eQ aJ bag h0 h1;rw[hw] at this;exact this
 have hb:=M.hb;have hne:=M.ne;have hgb:gb≠b:=fun e=>hne.2.2.1 (by rw[e];simp)
 have hgL:∀τ,(S++τ)[gb]? = some (.cells 3 (bag.map aJ++rest)):=fun τ=>az hb3;have hbL:∀τ,(S++τ)[b]? = some (.cells 7 [aH n++[.own rb 2 0 R.length R.length,.own gb 3 0 bag.length (bag.length+rest.length)]]):=fun τ=>az hb;have hgS:∀τ o,(S++τ).set gb o=S.set gb o++τ:=fun τ o=>bt hb3;have hbG:∀o,(S.set gb o)[b]? = some (.cells 7 [aH n++[.own rb 2 0 R.length R.length,.own gb 3 0 bag.length (bag.length+rest.length)]]):=fun o=>aT hb hgb;have hbD:∀o τ,(S.set gb o++τ)[b]? = some (.cells 7 [aH n++[.own rb 2 0 R.length R.length,.own gb 3 0 bag.length (bag.length+rest.length)]]):=fun o τ=>az (hbG o);have hbE:∀o τ o',(S.set gb o++τ).set b o'=(S.set gb o).set b o'++τ:=fun o τ o'=>bt (hbG o);have hde:=r6 (S++[.dead]) gb bag rest m h1' (hgL _) hb4 (by omega) (by omega)
 have hrd:=AM w.bytes (by have:=hwi.len;omega) hwb
 have M2:=M.drop m h1' hb5 hb4 ⟨_,hb3⟩;obtain⟨S2,hS2⟩:∃S2,(S.set gb (.cells 3 ((bag.eraseIdx m).map aJ++(pN::rest)))).set b (.cells 7 [aH n++[.own rb 2 0 R.length R.length,.own gb 3 0 (bag.length-1) (bag.length+rest.length)]])=S2:=⟨_,rfl⟩;have hK2:bX ρ S2:=by rw[←hS2];exact (hK0.set (M.lo gb (by simp))).set (M.lo b (by simp))
 rw[hS2] at M2;have hS3:=hS2;simp -implicitDefEqProofs only[go_sem,List.append_eq,List.cons_append,List.nil_append] at hS3;have hdr:eu n ⟨R,bag⟩ (m:Int)=lh n ⟨R,bag.eraseIdx m⟩ w:=by
  simp only[eu,bZ,hw,Int.toNat_natCast]
 have hT:lw n w=(decide ((bm w.bytes).2=0)&&(decide ((bm w.bytes).1.fr=w.fr)&&(decide ((bm w.bytes).1.dst=w.dst)&&(decide (aY n (bm w.bytes).1.routes=0)&&decide (0≤aM n w.dst w.fr))))):=rfl;have hpl:(bm w.bytes).1.routes.length≤60:=by
  have hq:=hwi.len;unfold bm
  split
  ·exact Nat.zero_le _
  ·split
   ·exact Nat.zero_le _
   ·split
    ·exact Nat.zero_le _
    ·simp only[cE,List.length_drop,List.length_take];omega
 by_cases hTT:lw n w=true
 ·obtain⟨c1,c2,c3,c4,c5⟩:(bm w.bytes).2=0∧(bm w.bytes).1.fr=w.fr∧(bm w.bytes).1.dst=w.dst∧aY n (bm w.bytes).1.routes=0∧0≤aM n w.dst w.fr:=by
   rw[hT] at hTT
   simpa using hTT
  have hrz:=cM.1 c4;have hrne:(bm w.bytes).1.routes≠[]:=fun e=>by
   have:=hrz.1;rw[e] at this;simp at this;omega
  have hrd:=zt w.bytes (by have:=hwi.len;omega) hwb c1 hrne
  rw[c2,c3] at hrd;have hd0:=hwi.dst.1;have hd1:w.dst<R.length:=by have:=hwi.dst.2;omega
  have hf0:=hwi.fr.1;have hf1:=hwi.fr.2;have hdr2:eu n ⟨R,bag⟩ (m:Int)=bh n (aR ⟨R,bag.eraseIdx m⟩ w.dst (cP (at0 R w.dst) w.fr (bm w.bytes).1.routes)) w.dst:=by rw[hdr,lh,if_pos hTT]
  have hro:=oi n (bm w.bytes).1.routes hx (by omega)
  rw[c4] at hro
  generalize (bm w.bytes).1.routes=routes at hrd hdr2 hrz hrne hro hpl
  refine g_n Tryz.func82 rfl Tryz.results82 Tryz.ntmps82 ?_;refine g_s fun K hK=>?_
  (refine cU ?_;simp -implicitDefEqProofs only[go_sem,hb,hb3,hgw])
  refine⟨h0,h1,?_⟩;refine hK _ _ ?_;clear hK K;refine g_0 4 rfl ?_;refine g_s fun K hK=>?_
  (refine cU ?_;simp -implicitDefEqProofs only[go_sem,hbL])
  refine⟨by unfold I64;omega,?_⟩
  refine af.useA hde ?_;simp -implicitDefEqProofs only[go_sem,hgS,hbD,hbE,hS3];refine hK _ _ ?_;clear hK K;refine g_s fun K hK=>?_;refine g_h ?_;refine af.useX (hrd _) ?_;rintro τ r ⟨id,rfl,hid0,hid⟩;have hMZ:a6 ((S2++[Ob.dead])++τ) ρ.length b n ⟨R,bag.eraseIdx m⟩ rb tb _ [gb]:=M2.app.app;have hKZ:bX ρ ((S2++[Ob.dead])++τ):=hK2.app.app;have hidn:id∉b::rb::(tb.flatMap RO.ids++[gb]):=fun hc=>by
   have:=M2.lta id hc;simp at hid0;omega
  have hidl:ρ.length≤id:=by
   have:=hK2.len;simp at hid0;omega
  obtain⟨Z,hZ⟩:∃Z,(S2++[Ob.dead])++τ=Z:=⟨_,rfl⟩;rw[hZ] at hMZ hKZ hid ⊢;clear M2;simp -implicitDefEqProofs only[go_sem];refine hK _ _ ?_;clear hK K;rw[hdr2];obtain⟨p,hp1,hp2,hRr,hA,hpe⟩:=hMZ.row hd0 hd1;simp only at hRr hpe;have hRin:fp n (at0 R w.dst):=he.rtr _ (aA R hd0 hd1);have htl:(p.told.length:Int)=n.nodes:=by
   have:=hRin.tl;rw[←hpe] at this
   simpa [RO.rtr] using this
  rw[cJ] at hRr;have hbN:∀X,(Z++X)[b]? = some (.cells 7 [aH n++[.own rb 2 0 R.length R.length,.own gb 3 0 (bag.length-1) (bag.length+rest.length)]]):=fun X=>az hMZ.hb;have hrN:∀X,(Z++X)[rb]? = some (.cells 2 (tb.map cJ)):=fun X=>az hMZ.hrb;have htN:∀X,(Z++X)[p.to]? = some (.cells 1 (p.told.map ck)):=fun X=>az hA.to;have htS:∀X o,(Z++X).set p.to o=Z.set p.to o++X:=fun X o=>bt hA.to;have hzl:tb.length=R.length:=hMZ.len.symm;have hro':∀X,af Tryz.prog 115 [.agg (aH n),.own id 1 0 routes.length routes.length] (Z++X) fun r σ'=>σ'=Z++X∧r=ab 0:=fun X=>
   af.borrowD (.c _) (.cons (.same _) (.cons (.ownW trivial (az hid) (by simp) (.same _)) .nil)) hro
  have hro2:∀Y X,af Tryz.prog 115 [.agg (aH n),.own id 1 0 routes.length routes.length] ((Z++Y)++X) fun r σ'=>σ'=(Z++Y)++X∧r=ab 0:=fun Y X=>by
   rw[List.append_assoc];exact hro' _
  have hli:=fun Y τ=>rN n hn w.dst w.fr ((Z++Y)++τ) b _ _ (by omega) (az (az hMZ.hb))
  rw[decide_eq_true c5] at hli;have hsr:(p.told.map ck).set w.fr.toNat [.own id 1 0 routes.length routes.length]=(p.told.set w.fr.toNat (routes,some id)).map ck:=by rw[List.map_set];rfl
  have hin:a8 n ⟨R,bag.eraseIdx m⟩:=qz he m;have hin2:a8 n (aR ⟨R,bag.eraseIdx m⟩ w.dst (cP (at0 R w.dst) w.fr routes)):=iw hin (kx hRin (.inr hrz) _) _;have hMT:=hMZ.told hp1 hA hpe w.fr (routes,some id) (fun h=>by cases h) (fun id' h=>by
   cases h
   exact⟨hid,hidl,hidn⟩)
  have hgr:=eQ ck p.told hf0 (by omega)
  (repeat' (first|(refine g_s fun K hK=>?_)|(refine g_k ?_;simp only[ah,ae])|(refine g_C (fun h=>?_) (fun h=>?_)<;>(try exact g_f))|((first|refine g_g ?_|refine g_U ?_|refine g_q (hro2 _) ?_|refine g_q (hli _) ?_);(try simp -implicitDefEqProofs only[go_sem,hbN,hrN,hRr,htN,htS,hzl,hsr,hgr]))|(refine hK _ _ ?_;clear hK K)|(with_reducible refine ak (fun h=>?_) (fun h=>?_)<;>(try simp only[go_sem] at h)<;>(try exact g_f)<;>(try simp -implicitDefEqProofs only[go_sem,hbN,hrN,hRr,htN,htS,hzl,hsr,hgr]))|(with_reducible refine And.intro ?_ ?_;· exact g_x)|fail))
  rw[vR,hsr];refine (nK n _ hc hl hin2 ρ _ b ⟨(hKZ.set (hMZ.lo p.to (List.mem_cons_of_mem _ (List.mem_cons_of_mem _ (List.mem_append_left _ (List.mem_flatMap.2 ⟨p,hp2,by simp [RO.ids]⟩)))))).app,rb,_,_,_,hMT.app⟩ w.dst hd0 hwi.dst.2).mono ?_
  rintro r S' ⟨h,rfl⟩;exact h
 have hTF:lw n w=false:=by simpa using hTT
 refine g_n Tryz.func82 rfl Tryz.results82 Tryz.ntmps82 ?_;refine g_s fun K hK=>?_
 (refine cU ?_;simp -implicitDefEqProofs only[go_sem,hb,hb3,hgw])
 refine⟨h0,h1,?_⟩;refine hK _ _ ?_;clear hK K;refine g_0 4 rfl ?_;refine g_s fun K hK=>?_
 (refine cU ?_;simp -implicitDefEqProofs only[go_sem,hbL])
 refine⟨by unfold I64;omega,?_⟩
 refine af.useA hde ?_;simp -implicitDefEqProofs only[go_sem,hgS,hbD,hbE,hS3];refine hK _ _ ?_;clear hK K;refine g_s fun K hK=>?_;refine g_h ?_;refine (hrd _).use ?_;simp -implicitDefEqProofs only[go_sem];refine hK _ _ ?_;clear hK K;refine g_0 5 rfl ?_;rw[hdr];have hbN:∀τ,(S2++τ)[b]? = some (.cells 7 [aH n++[.own rb 2 0 R.length R.length,.own gb 3 0 (bag.length-1) (bag.length+rest.length)]]):=fun τ=>az M2.hb
 generalize hPR:bm w.bytes=PR
 obtain⟨p,er⟩:=PR;rw[hPR] at hT hpl;simp only at hT hpl ⊢;have hro:=oi n p.routes hx (by omega)
 have hli:=fun τ=>rN n hn w.dst w.fr ((S2++[.dead,.dead])++τ) b _ _ (by omega) (az (az M2.hb))
 have hend:lw n w=false→bD ρ (S2++[.dead,.dead]) b n (lh n ⟨R,bag.eraseIdx m⟩ w):=fun h=>by
  rw[lh,if_neg (by rw[h];exact Bool.false_ne_true)]
  exact⟨hK2.app,rb,tb,_,_,M2.app⟩
 by_cases c1:er=0
 ·by_cases c2:p.fr=w.fr
  ·by_cases c3:p.dst=w.dst
   ·by_cases c4:aY n p.routes=0
    ·by_cases c5:0≤aM n w.dst w.fr
     ·exact absurd hTF (by rw[hT,decide_eq_true c1,decide_eq_true c2,decide_eq_true c3,decide_eq_true c4,decide_eq_true c5];simp)
     ·rw[decide_eq_false c5] at hli
      (repeat' (first|(refine g_s fun K hK=>?_)|(refine g_C (fun h=>?_) (fun h=>?_)<;>(try exact g_f))|((first|refine g_t ?_|refine g_U ?_|refine g_q (fun τ=>hro _) ?_|refine g_q hli ?_);(try simp -implicitDefEqProofs only[go_sem,c1,c2,c3,c4,hbN]))|(refine hK _ _ ?_;clear hK K)|(with_reducible refine ak (fun h=>?_) (fun h=>?_)<;>(try simp only[go_sem] at h)<;>(try exact g_f)<;>(try simp -implicitDefEqProofs only[go_sem,c1,c2,c3,c4,hbN]))|fail))
      exact hend (by rw[hT,decide_eq_false c5];simp)
    ·(repeat' (first|(refine g_s fun K hK=>?_)|(refine g_C (fun h=>?_) (fun h=>?_)<;>(try exact g_f))|((first|refine g_t ?_|refine g_U ?_|refine g_q (fun τ=>hro _) ?_);(try simp -implicitDefEqProofs only[go_sem,c1,c2,c3,c4,hbN]))|(refine hK _ _ ?_;clear hK K)|(with_reducible refine ak (fun h=>?_) (fun h=>?_)<;>(try simp only[go_sem] at h)<;>(try exact g_f)<;>(try simp -implicitDefEqProofs only[go_sem,c1,c2,c3,c4,hbN]))|fail))
     exact hend (by rw[hT,decide_eq_false c4];simp)
   ·(repeat' (first|(refine g_s fun K hK=>?_)|(refine g_C (fun h=>?_) (fun h=>?_)<;>(try exact g_f))|((first|refine g_t ?_|refine g_U ?_);(try simp -implicitDefEqProofs only[go_sem,c1,c2,c3,hbN]))|(refine hK _ _ ?_;clear hK K)|(with_reducible refine ak (fun h=>?_) (fun h=>?_)<;>(try simp only[go_sem] at h)<;>(try exact g_f)<;>(try simp -implicitDefEqProofs only[go_sem,c1,c2,c3,hbN]))|fail))
    exact hend (by rw[hT,decide_eq_false c3];simp)
  ·(repeat' (first|(refine g_s fun K hK=>?_)|(refine g_C (fun h=>?_) (fun h=>?_)<;>(try exact g_f))|((first|refine g_t ?_|refine g_U ?_);(try simp -implicitDefEqProofs only[go_sem,c1,c2,hbN]))|(refine hK _ _ ?_;clear hK K)|(with_reducible refine ak (fun h=>?_) (fun h=>?_)<;>(try simp only[go_sem] at h)<;>(try exact g_f)<;>(try simp -implicitDefEqProofs only[go_sem,c1,c2,hbN]))|fail))
   exact hend (by rw[hT,decide_eq_false c2];simp)
 ·(repeat' (first|(refine g_s fun K hK=>?_)|(refine g_C (fun h=>?_) (fun h=>?_)<;>(try exact g_f))|((first|refine g_t ?_|refine g_U ?_);(try simp -implicitDefEqProofs only[go_sem,c1,hbN]))|(refine hK _ _ ?_;clear hK K)|(with_reducible refine ak (fun h=>?_) (fun h=>?_)<;>(try simp only[go_sem] at h)<;>(try exact g_f)<;>(try simp -implicitDefEqProofs only[go_sem,c1,hbN]))|fail))
  exact hend (by rw[hT,decide_eq_false c1];simp)
theorem wQ (n:Net) (e:Eng) (hc:aI n=0) (hl:n.links.length≤5864062014634) (he:a8 n e) (ρ S:aa) (b:Nat) (hS:bD ρ S b n e) (v:Evt) (h0:0≤v.at') (h1:v.at'<n.nodes) :
  af Tryz.prog 86 [.ptr b 7 0 0,.agg (cl v)] S fun r S'=>bD ρ S' b n (if !inR v.b 0 (n.nodes-1) then e else bh n (aR e v.at' (cP (at0 e.routers v.at') v.b [])) v.at')∧r=ab (if !inR v.b 0 (n.nodes-1) then 5 else 0):=by
 have hn:=aU hc;have n6:=hn.n6;have hel:=he.len;have hir:v.at'<e.routers.length:=by omega
 obtain⟨hK0,rb,tb,gv,gi,M⟩:=hS;have hb:=M.hb;have hbL:∀τ,(S++τ)[b]? = some (.cells 7 [aH n++[.own rb 2 0 e.routers.length e.routers.length,gv]]):=fun τ=>az hb;have hN:=ft n v.b
 by_cases c1:0≤v.b∧v.b<n.nodes
 ·have hT:inR v.b 0 (n.nodes-1)=true:=aG.2 (by omega)
  rw[hT] at hN ⊢;obtain⟨p,hp1,hp2,hRr,hA,hpe⟩:=M.row h0 hir;have hRin:fp n (at0 e.routers v.at'):=gu he ⟨h0,h1⟩;have htl:(p.told.length:Int)=n.nodes:=by
   have:=hRin.tl;rw[←hpe] at this
   simpa [RO.rtr] using this
  rw[cJ] at hRr;have hrN:∀τ,(S++τ)[rb]? = some (.cells 2 (tb.map cJ)):=fun τ=>az M.hrb;have htN:∀τ,(S++τ)[p.to]? = some (.cells 1 (p.told.map ck)):=fun τ=>az hA.to;have htS:∀τ o,(S++τ).set p.to o=S.set p.to o++τ:=fun τ o=>bt hA.to;have hzl:tb.length=e.routers.length:=M.len.symm;have hgr:=eQ ck p.told c1.1 (by omega)
  refine g_n Tryz.func86 rfl Tryz.results86 Tryz.ntmps86 ?_;refine g_s fun K hK=>?_;refine g_h ?_;refine hK _ _ ?_;clear hK K;refine g_0 3 rfl ?_
  (repeat' (first|(refine g_s fun K hK=>?_)|(refine g_k ?_;simp only[ah,ae])|(refine g_C (fun h=>?_) (fun h=>?_)<;>(try exact g_f))|((first|refine g_g ?_|refine g_U ?_|refine g_q (fun τ=>hN _) ?_);(try simp -implicitDefEqProofs only[go_sem,hbL,hrN,hRr,htN,htS,hzl,hgr,vR]))|(refine hK _ _ ?_;clear hK K)|(with_reducible refine And.intro ?_ ?_;· exact g_x)|fail))
  have hst:(S.set p.to (.cells 1 ((p.told.map ck).set v.b.toNat [.c (.slice none 0 0)]))++[Ob.dead])[p.to]? = some (.cells 1 ((p.told.map ck).set v.b.toNat [.c (.slice none 0 0)])):=az (bJ hA.to);refine af.useD [] _ ((fi.kill [] _).cell (b:=p.to) (k:=1) (es':=(p.told.map ck).set v.b.toNat [.sl []]) (by simp) hst (bW.setL _ _ (.cons .nil .nil))) (cG.same _) ?_
  have hkl:(killL [] (S.set p.to (.cells 1 ((p.told.map ck).set v.b.toNat [.c (.slice none 0 0)]))++[Ob.dead])).set p.to (.cells 1 ((p.told.map ck).set v.b.toNat [.sl []]))=S.set p.to (.cells 1 ((p.told.set v.b.toNat ([],none)).map ck))++[Ob.dead]:=by
   have e1:(p.told.map ck).set v.b.toNat [.sl []]=(p.told.set v.b.toNat ([],none)).map ck:=by rw[List.map_set];rfl
   rw[e1];show (S.set p.to _++[Ob.dead]).set p.to _=_;rw[bt (bJ hA.to),List.set_set]
  rw[hkl];have hin2:a8 n (aR e v.at' (cP (at0 e.routers v.at') v.b [])):=iw he (kx hRin (.inl rfl) _) _;have hMT:=M.told hp1 hA hpe v.b ([],none) (fun _=>rfl) (fun id h=>by cases h)
  refine (nK n _ hc hl hin2 ρ _ b ⟨(hK0.set (M.lo p.to (List.mem_cons_of_mem _ (List.mem_cons_of_mem _ (List.mem_append_left _ (List.mem_flatMap.2 ⟨p,hp2,by simp [RO.ids]⟩)))))).app,rb,_,_,_,hMT.app⟩ v.at' h0 h1).mono ?_
  rintro r S' ⟨h,rfl⟩
  (repeat' (first|(refine g_s fun K hK=>?_)|((first|refine g_t ?_|refine g_g ?_);(try refine g_y ?_))|(refine hK _ _ ?_;clear hK K)|exact trivial|fail))
  exact h
 ·have hT:inR v.b 0 (n.nodes-1)=false:=by
   rw[←Bool.not_eq_true,aG];omega
  rw[hT] at hN ⊢;refine g_n Tryz.func86 rfl Tryz.results86 Tryz.ntmps86 ?_;refine g_s fun K hK=>?_;refine g_h ?_;refine hK _ _ ?_;clear hK K;refine g_0 3 rfl ?_
  (repeat' (first|(refine g_s fun K hK=>?_)|(refine g_C (fun h=>?_) (fun h=>?_)<;>(try exact g_f))|((first|refine g_t ?_|refine g_g ?_|refine g_U ?_|refine g_q (fun τ=>hN _) ?_);(try simp -implicitDefEqProofs only[go_sem,hbL]))|(refine hK _ _ ?_;clear hK K)|fail))
  exact⟨hK0.app,rb,tb,_,_,M.app⟩
end Go.Proofs.YtephecognbbaoaaGreat
