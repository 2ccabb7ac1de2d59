/- Engines of routers and mail: what each event makes of one; in plain Lean. -/
import Derived.Test.YtephecognbbaoaaGreatZPs
import Derived.Test.YtephecognbbaoaaGreatZSr
import Derived.Test.YtephecognbbaoaaGreatZGr
open Go
set_option linter.all false
set_option maxRecDepth 100000
set_option maxHeartbeats 4000000
namespace Go.Proofs.YtephecognbbaoaaGreat
open Go
set_option linter.all false
structure Rtr where
 routes:List Int
 told:List (List Int)
structure bg where
 fr:Int
 dst:Int
 bytes:List Int
structure Eng where
 routers:List Rtr
 bag:List bg
structure Evt where
 kind:Int
 at':Int
 b:Int
 c:Int
 routes:List Int
instance:Inhabited Rtr:=⟨⟨[],[]⟩⟩
instance:Inhabited bg:=⟨⟨0,0,[]⟩⟩
instance:Inhabited Eng:=⟨⟨[],[]⟩⟩
instance:Inhabited Evt:=⟨⟨0,0,0,0,[]⟩⟩
def aY (n:Net) (l:List Int):Int:=if (l.length:Int)≠n.nodes then 1 else if (l.any fun r => !inR r 0 (n.alg.size-1))=true then 5 else 0
def dJ (n:Net) (r:Rtr):Bool:=decide ((r.told.length:Int)≠n.nodes)||(decide ((r.routes.length:Int)≠n.nodes)||r.told.any fun l=>decide (l≠[])&&decide ((l.length:Int)≠n.nodes))
def eA (n:Net) (r:Rtr):Bool:=decide (aY n r.routes=5)||r.told.any fun l=>decide (l≠[])&&decide (aY n l=5)
def ew (n:Net) (e:Eng):Int:=
 if aI n≠0 then aI n
 else if (e.routers.length:Int)≠n.nodes∨e.routers.any (dJ n)=true then 1
 else if e.routers.any (eA n)=true then 5
 else if 120<e.bag.length then 2
 else if (e.bag.any fun m => !inR m.fr 0 (n.nodes-1) || !inR m.dst 0 (n.nodes-1))=true then 5
 else if (e.bag.any fun m=>decide (60<m.bytes.length))=true then 2
 else 0
structure fp (n:Net) (r:Rtr):Prop where
 rl:(r.routes.length:Int)=n.nodes
 rv:∀v∈r.routes,InV n v
 tl:(r.told.length:Int)=n.nodes
 tr:∀l∈r.told,l=[]∨((l.length:Int)=n.nodes∧∀v∈l,InV n v)
structure yY (n:Net) (m:bg):Prop where
 fr:0≤m.fr∧m.fr<n.nodes
 dst:0≤m.dst∧m.dst<n.nodes
 len:m.bytes.length≤60
structure a8 (n:Net) (e:Eng):Prop where
 len:(e.routers.length:Int)=n.nodes
 rtr:∀r∈e.routers,fp n r
 bag:e.bag.length≤120
 mail:∀m∈e.bag,yY n m
section
variable {n:Net}
theorem cM {l:List Int} : aY n l=0↔(l.length:Int)=n.nodes∧∀v∈l,InV n v:=by
 unfold aY
 by_cases h:(l.length:Int)=n.nodes
 ·rw[if_neg (not_not_intro h)]
  by_cases h2:(l.any fun r => !inR r 0 (n.alg.size-1))=true
  ·rw[if_pos h2];refine⟨fun h=>(by cases h),fun ⟨_,h3⟩=>?_⟩
   obtain⟨v,hv,h4⟩:=List.any_eq_true.1 h2;have:=ci.1 h4;have:=h3 v hv;unfold InV at this;omega
  ·rw[if_neg h2];refine⟨fun _=>⟨h,fun v hv=>?_⟩,fun _=>rfl⟩;have h3:inR v 0 (n.alg.size-1)=true:=by
    apply Classical.byContradiction;intro hc;exact h2 (List.any_eq_true.2 ⟨v,hv,by simpa using hc⟩)
   have:=aG.1 h3;unfold InV;omega
 ·rw[if_pos h];exact⟨fun h=>(by cases h),fun h2=>absurd h2.1 h⟩
theorem pW {l:List Int} : (l.length:Int)≠n.nodes↔aY n l=1:=by
 unfold aY
 constructor
 ·intro h;rw[if_pos h]
 ·intro h hc;rw[if_neg (not_not_intro hc)] at h
  split at h<;>cases h
theorem rD (n:Net) (l:List Int):aY n l=0∨aY n l=1∨aY n l=5:=by
 unfold aY
 split
 ·exact .inr (.inl rfl)
 ·split
  ·exact .inr (.inr rfl)
  ·exact .inl rfl
theorem BY {r:Rtr} : dJ n r=false∧eA n r=false↔fp n r:=by
 unfold dJ eA;simp only[Bool.or_eq_false_iff,decide_eq_false_iff_not,List.any_eq_false,Bool.and_eq_true,decide_eq_true_eq,not_and,Decidable.not_not,ne_eq]
 constructor
 ·rintro ⟨⟨h1,h2,h3⟩,h4,h5⟩;have h6:aY n r.routes=0:=by
   rcases rD n r.routes with h|h|h
   ·exact h
   ·exact absurd h2 (pW.2 h)
   ·exact absurd h h4
  refine⟨h2,(cM.1 h6).2,h1,fun l hl=>?_⟩
  by_cases e:l=[]
  ·exact .inl e
  ·refine .inr ?_
   rcases rD n l with h|h|h
   ·exact cM.1 h
   ·exact absurd (h3 l hl e) (pW.2 h)
   ·exact absurd h (h5 l hl e)
 ·intro h;have h0:=cM.2 ⟨h.rl,h.rv⟩;refine⟨⟨h.tl,h.rl,fun l hl e=>((h.tr l hl).resolve_left e).1⟩,by rw[h0];decide,fun l hl e=>?_⟩
  rw[cM.2 ((h.tr l hl).resolve_left e)]
  decide
theorem yA {e:Eng} (h:ew n e=0):aI n=0∧a8 n e:=by
 unfold ew at h
 by_cases h0:aI n=0
 ·refine⟨h0,?_⟩;rw[if_neg (not_not_intro h0)] at h
  split at h
  ·cases h
  rename_i h1
  split at h
  ·cases h
  rename_i h2
  split at h
  ·cases h
  rename_i h3
  split at h
  ·cases h
  rename_i h4
  split at h
  ·cases h
  rename_i h5
  rw[not_or,Decidable.not_not,Bool.not_eq_true,List.any_eq_false] at h1;rw[Bool.not_eq_true,List.any_eq_false] at h2 h4 h5;refine⟨h1.1,fun r hr=>BY.1 ⟨by simpa using h1.2 r hr,by simpa using h2 r hr⟩,by omega,fun m hm=>?_⟩
  have h6:=h4 m hm;have h7:=h5 m hm;rw[Bool.not_eq_true,Bool.or_eq_false_iff,Bool.not_eq_false',Bool.not_eq_false'] at h6;have a:=aG.1 h6.1;have b:=aG.1 h6.2;refine⟨by omega,by omega,?_⟩
  simpa using h7
 ·rw[if_pos h0] at h;exact absurd h h0
def dr (n:Net) (r:Rtr) (to j:Int):Int:=if at0 r.told to=[] then n.alg.size-1 else at2 r.told to j
def fA (n:Net) (r:Rtr) (i:Int):List Int:=(ints n.nodes).map fun j=>cq n i j (fun to=>dr n r to j) n.links
def aR (e:Eng) (i:Int) (r:Rtr):Eng:=⟨e.routers.set i.toNat r,e.bag⟩
def pG (n:Net) (r:Rtr) (i:Int):Rtr:=⟨fA n r i,r.told⟩
def bh (n:Net) (e:Eng) (i:Int):Eng:=aR e i (pG n (at0 e.routers i) i)
def dj (n:Net) (i:Int):List Int:=(ints n.nodes).filter fun k=>decide (0≤aM n k i)
def c6 (l:List Int) (i k:Int):bg:=⟨i,k,(bz ⟨i,k,l⟩).1⟩
def gL (n:Net) (e:Eng) (i:Int):Eng×Int:=
 if 120<e.bag.length+(dj n i).length then (e,2) else (⟨(bh n e i).routers,e.bag++(dj n i).map (c6 (fA n (at0 e.routers i) i) i)⟩,0)
def bZ (e:Eng) (k:Int):Eng:=⟨e.routers,e.bag.eraseIdx k.toNat⟩
def lw (n:Net) (m:bg):Bool:=
 decide ((bm m.bytes).2=0)&&(decide ((bm m.bytes).1.fr=m.fr)&&(decide ((bm m.bytes).1.dst=m.dst)&&(decide (aY n (bm m.bytes).1.routes=0)&&decide (0≤aM n m.dst m.fr))))
def cP (r:Rtr) (k:Int) (l:List Int):Rtr:=⟨r.routes,r.told.set k.toNat l⟩
def lh (n:Net) (e:Eng) (m:bg):Eng:=if lw n m=true then bh n (aR e m.dst (cP (at0 e.routers m.dst) m.fr (bm m.bytes).1.routes)) m.dst else e
def eu (n:Net) (e:Eng) (k:Int):Eng:=lh n (bZ e k) (at0 e.bag k)
def kr (a c:Int):Int:=IntKind.u8.wrap (BitVec.ofInt 8 a ^^^ BitVec.ofInt 8 c).toNat
def gt (m:bg) (b c:Int):bg:=⟨m.fr,m.dst,m.bytes.set b.toNat (kr (at0 m.bytes b) c)⟩
def fH (e:Eng) (v:Evt):Eng×Int:=
 if !inR v.b 0 ((at0 e.bag v.at').bytes.length-1) || !inR v.c 1 255 then (e,3) else (⟨e.routers,e.bag.set v.at'.toNat (gt (at0 e.bag v.at') v.b v.c)⟩,0)
def dD (n:Net) (l:List Int):Rtr:=⟨l,List.replicate n.nodes.toNat []⟩
def aN (n:Net) (e:Eng) (v:Evt):Eng×Int:=
  if !inR v.kind 1 7 then (e,7)
  else if inR v.kind 2 5=true then
    (if !inR v.at' 0 (e.bag.length-1) then (e,5)
     else if v.kind=2 then (eu n e v.at',0)
     else if v.kind=3 then (if e.bag.length=120 then (e,2) else (⟨e.routers,e.bag++[at0 e.bag v.at']⟩,0))
     else if v.kind=4 then (bZ e v.at',0)
     else fH e v)
  else if !inR v.at' 0 (n.nodes-1) then (e,5)
  else if v.kind=1 then gL n e v.at'
  else if v.kind=6 then (if !inR v.b 0 (n.nodes-1) then (e,5) else (bh n (aR e v.at' (cP (at0 e.routers v.at') v.b [])) v.at',0))
  else if aY n v.routes≠0 then (e,aY n v.routes) else (aR e v.at' (dD n v.routes),0)
def DJ (n:Net):Eng:=⟨(fQ n).map (dD n),[]⟩
theorem tR {X:Type} [Inhabited X] (l:List X) {k q:Int} (v:X) (h0:0≤k) (hq:0≤q) (h:k<l.length):at0 (l.set k.toNat v) q=if q=k then v else at0 l q:=by
 simp only[at0,List.getD_eq_getElem?_getD,List.getElem?_set]
 by_cases e:q=k
 ·subst e;have:q.toNat<l.length:=by omega
  simp [this]
 ·have:¬k.toNat=q.toNat:=by omega
  simp [this,e]
theorem nD {X:Type} {l:List X} {k:Nat} {v x:X} (h:x∈l.set k v):x∈l∨x=v:=List.mem_or_eq_of_mem_set h
theorem n9 (hn:bI n) {r:Rtr} (hr:fp n r) {to j:Int} (ht:0≤to∧to<n.nodes) (hj:0≤j∧j<n.nodes):InV n (dr n r to j):=by
 unfold dr
 split
 ·exact Cn hn
 ·rename_i h
  have hm:=aA r.told ht.1 (by have:=hr.tl;omega)
  obtain⟨h1,h2⟩:=(hr.tr _ hm).resolve_left h;exact h2 _ (aA _ hj.1 (by omega))
theorem fM (n:Net) (r:Rtr) (i:Int):(fA n r i).length=n.nodes.toNat:=by rw[fA,List.length_map,ao]
theorem tC (hc:aI n=0) {r:Rtr} (hr:fp n r) (i:Int):∀v∈fA n r i,InV n v:=by
 intro v hv;obtain⟨j,hj,rfl⟩:=List.mem_map.1 hv;have hj:=cf.1 hj;exact B3 hc i j _ fun k h0 h1=>n9 (aU hc) hr ⟨h0,h1⟩ hj
theorem A6 (hc:aI n=0) {r:Rtr} (hr:fp n r) (i:Int):fp n (pG n r i):=by
 have h1:=(aU hc).n1;exact⟨by rw[pG,fM];omega,tC hc hr i,hr.tl,hr.tr⟩
theorem iw {e:Eng} (h:a8 n e) {r:Rtr} (hr:fp n r) (i:Int):a8 n (aR e i r):=
 ⟨by rw[aR,List.length_set];exact h.len,fun x hx=>by
  rcases nD hx with hx|rfl
  ·exact h.rtr x hx
  ·exact hr,h.bag,h.mail⟩
theorem gu {e:Eng} (h:a8 n e) {i:Int} (hi:0≤i∧i<n.nodes):fp n (at0 e.routers i):=h.rtr _ (aA _ hi.1 (by have:=h.len;omega))
theorem qm (hc:aI n=0) {e:Eng} (h:a8 n e) {i:Int} (hi:0≤i∧i<n.nodes):a8 n (bh n e i):=iw h (A6 hc (gu h hi) i) i
theorem kx {r:Rtr} (hr:fp n r) {l:List Int} (hl:l=[]∨((l.length:Int)=n.nodes∧∀v∈l,InV n v)) (k:Int):fp n (cP r k l):=
 ⟨hr.rl,hr.rv,by rw[cP,List.length_set];exact hr.tl,fun x hx=>by
  rcases nD hx with hx|rfl
  ·exact hr.tr x hx
  ·exact hl⟩
theorem Cs {l:List Int} (h1:1≤n.nodes) (hl:(l.length:Int)=n.nodes) (hv:∀v∈l,InV n v):fp n (dD n l):=
 ⟨hl,hv,by rw[dD,List.length_replicate];omega,fun x hx=>.inl (List.eq_of_mem_replicate hx)⟩
theorem qz {e:Eng} (h:a8 n e) (k:Int):a8 n (bZ e k):=
 ⟨h.len,h.rtr,Nat.le_trans (by unfold bZ;rw[List.length_eraseIdx];split<;>omega) h.bag,fun m hm=>h.mail m (List.mem_of_mem_eraseIdx hm)⟩
theorem BH {m:bg} : lw n m=true↔(bm m.bytes).2=0∧(bm m.bytes).1.fr=m.fr∧(bm m.bytes).1.dst=m.dst∧aY n (bm m.bytes).1.routes=0∧0≤aM n m.dst m.fr:=by
 unfold lw;simp only[Bool.and_eq_true,decide_eq_true_eq]
theorem Di (hc:aI n=0) {e:Eng} (h:a8 n e) {m:bg} (hm:yY n m):a8 n (lh n e m):=by
 unfold lh
 split
 ·rename_i ht
  obtain⟨_,_,_,h4,_⟩:=BH.1 ht;exact qm hc (iw h (kx (gu h hm.dst) (.inr (cM.1 h4)) _) _) hm.dst
 ·exact h
theorem oq (hn:bI n) (i:Int):(dj n i).length≤6:=by
 have h1:(dj n i).length≤(ints n.nodes).length:=List.length_filter_le _ _;rw[ao] at h1;have:=hn.n6;omega
theorem iB {i k:Int} : k∈dj n i↔(0≤k∧k<n.nodes)∧0≤aM n k i:=by
 rw[dj,List.mem_filter,cf,decide_eq_true_eq]
theorem Ah (hn:bI n) {l:List Int} (hl:(l.length:Int)=n.nodes) (hv:∀v∈l,InV n v) {i k:Int} (hi:0≤i∧i<n.nodes) (hk:0≤k∧k<n.nodes):(bz ⟨i,k,l⟩).2=0:=by
 have n6:=hn.n6;have s24:=hn.alg.s24;unfold bz;rw[if_neg,if_neg]
 ·show ¬54<l.length;omega
 ·rw[Bool.not_eq_true,List.any_eq_false];intro c hcm;have:0≤c∧c≤250:=by
   rcases List.mem_cons.1 hcm with e|hcm
   ·have e:c=i:=e;omega
   ·rcases List.mem_cons.1 hcm with e|hcm
    ·have e:c=k:=e;omega
    ·have:=hv c hcm;unfold InV at this;omega
  rw[(wc c).2 this]
  decide
theorem EP (hn:bI n) {l:List Int} (hl:(l.length:Int)=n.nodes) (hv:∀v∈l,InV n v) {i k:Int} (hi:0≤i∧i<n.nodes) (hk:0≤k∧k<n.nodes):yY n (c6 l i k):=by
 refine⟨hi,hk,?_⟩;have h1:(c6 l i k).bytes.length=l.length+6:=ws (Ah hn hl hv hi hk);have:=hn.n6;omega
theorem Dh (hc:aI n=0) {e:Eng} (h:a8 n e) {i:Int} (hi:0≤i∧i<n.nodes):a8 n (gL n e i).1:=by
 unfold gL
 split
 ·exact h
 ·rename_i hlt
  have hl:=qm hc h hi;have hn:=aU hc;have n1:=hn.n1;refine⟨hl.len,hl.rtr,by rw[List.length_append,List.length_map];omega,fun m hm=>?_⟩
  rcases List.mem_append.1 hm with hm|hm
  ·exact h.mail m hm
  ·obtain⟨k,hk,rfl⟩:=List.mem_map.1 hm;exact EP hn (by rw[fM];omega) (tC hc (gu h hi) i) hi (iB.1 hk).1
theorem Ae (hc:aI n=0) {e:Eng} (h:a8 n e) (v:Evt):a8 n (aN n e v).1:=by
 have hn:=aU hc;have n1:=hn.n1;unfold aN
 split
 ·exact h
 split
 ·split
  ·exact h
  rename_i ha
  have ha:inR v.at' 0 (e.bag.length-1)=true:=by simpa using ha
  have ha:=aG.1 ha;have hm:=aA e.bag ha.1 (by omega)
  split
  ·exact Di hc (qz h _) (h.mail _ hm)
  split
  ·split
   ·exact h
   ·refine⟨h.len,h.rtr,?_,fun m hm2=>?_⟩
    ·have:=h.bag;rw[List.length_append,List.length_singleton];omega
    ·rcases List.mem_append.1 hm2 with hm2|hm2
     ·exact h.mail m hm2
     ·rw[List.mem_singleton.1 hm2];exact h.mail _ hm
  split
  ·exact qz h _
  ·unfold fH
   split
   ·exact h
   ·refine⟨h.len,h.rtr,by rw[List.length_set];exact h.bag,fun m hm2=>?_⟩
    rcases nD hm2 with hm2|rfl
    ·exact h.mail m hm2
    ·have q:=h.mail _ hm;exact⟨q.fr,q.dst,by unfold gt;rw[List.length_set];exact q.len⟩
 split
 ·exact h
 rename_i ha
 have ha:inR v.at' 0 (n.nodes-1)=true:=by simpa using ha
 have ha:=aG.1 ha;have hat:0≤v.at'∧v.at'<n.nodes:=by omega
 split
 ·exact Dh hc h hat
 split
 ·split
  ·exact h
  ·exact qm hc (iw h (kx (gu h hat) (.inl rfl) _) _) hat
 ·split
  ·exact h
  ·rename_i h9
   rw[Decidable.not_not] at h9;exact iw h (Cs n1 (cM.1 h9).1 (cM.1 h9).2) _
end
end Go.Proofs.YtephecognbbaoaaGreat
namespace Go.Proofs.YtephecognbbaoaaGreat
theorem Ep {x:Int} (h:0≤x) (h':x≤255):IntKind.u8.wrap x=x:=by
 have e:(2:Int) ^ IntKind.u8.bits=256:=rfl;simp [IntKind.wrap,IntKind.signed,e];omega
theorem Ac {a c:Int} : kr a c=((BitVec.ofInt 8 a ^^^ BitVec.ofInt 8 c).toNat:Int):=by
 have h:(BitVec.ofInt 8 a ^^^ BitVec.ofInt 8 c).toNat<256:=BitVec.isLt _;unfold kr;exact Ep (by omega) (by omega)
theorem w9 (a c:Int):0≤kr a c∧kr a c≤255:=by
 rw[Ac];have h:(BitVec.ofInt 8 a ^^^ BitVec.ofInt 8 c).toNat<256:=BitVec.isLt _;omega
def xsN (a b:Nat):Nat→Nat
 | 0=>0
 | k+1=>xsN a b k+if a / 2 ^ k % 2=b / 2 ^ k % 2 then 0 else 2 ^ k
theorem w8 (a b:Nat):∀k,xsN a b k=(a ^^^ b) % 2 ^ k
 | 0=>by simp [xsN,Nat.mod_one]
 | k+1=>by
  rw[xsN,w8 a b k,Nat.mod_pow_succ]
  congr 1
  have h:=Nat.testBit_xor a b k;simp only[Nat.testBit_eq_decide_div_mod_eq] at h;have h1:a / 2 ^ k % 2<2:=Nat.mod_lt _ (by decide)
  have h2:b / 2 ^ k % 2<2:=Nat.mod_lt _ (by decide)
  have h3:(a ^^^ b) / 2 ^ k % 2<2:=Nat.mod_lt _ (by decide)
  generalize a / 2 ^ k % 2=x at *
  generalize b / 2 ^ k % 2=y at *
  generalize (a ^^^ b) / 2 ^ k % 2=z at *
  have hx:x=0∨x=1:=by omega
  have hy:y=0∨y=1:=by omega
  have hz:z=0∨z=1:=by omega
  rcases hx with rfl|rfl<;>rcases hy with rfl|rfl<;>rcases hz with rfl|rfl<;>simp at h ⊢
theorem BE {a c:Int} (ha:0≤a∧a≤255) (hc:0≤c∧c≤255):kr a c=(xsN a.toNat c.toNat 8:Nat):=by
 rw[Ac,w8,BitVec.toNat_xor];have h1:(BitVec.ofInt 8 a).toNat=a.toNat:=by rw[BitVec.toNat_ofInt];omega
 have h2:(BitVec.ofInt 8 c).toNat=c.toNat:=by rw[BitVec.toNat_ofInt];omega
 rw[h1,h2];have h3:a.toNat ^^^ c.toNat<2 ^ 8:=Nat.xor_lt_two_pow (by omega) (by omega)
 rw[Nat.mod_eq_of_lt h3]
section
variable {n:Net}
def yZ (n:Net) (m:Nat) (s:List (List Int)) (i:Int) (f:Int→Int):Prop:=∀j,0≤j∧j<n.nodes→f j≠at2 s i j→m≤rank n (f j)∧m≤rank n (at2 s i j)
theorem yZ.zero {s:List (List Int)} {i:Int} {f:Int→Int} : yZ n 0 s i f:=fun _ _ _=>⟨Nat.zero_le _,Nat.zero_le _⟩
theorem yZ.less {m m':Nat} (hm:m'≤m) {s:List (List Int)} {i:Int} {f:Int→Int} (h:yZ n m s i f):yZ n m' s i f:=fun j hj hne=>⟨Nat.le_trans hm (h j hj hne).1,Nat.le_trans hm (h j hj hne).2⟩
variable {s:List (List Int)}
end
end Go.Proofs.YtephecognbbaoaaGreat
namespace Go.Proofs.YtephecognbbaoaaGreat
def bF (r:Rtr):List AV:=[aF r.routes,aL r.told]
def aJ (m:bg):List AV:=[ab m.fr,ab m.dst,.c (.string (strOfNums m.bytes))]
def ba (e:Eng):List AV:=[.sl (e.routers.map bF),.sl (e.bag.map aJ)]
attribute [go_sem] bF aJ ba
theorem v5 (l:List bg):(∀e',e'∈l.map aJ→e'.length=3)=True:=vp (f:=aJ) (fun _=>rfl) l
theorem Cg (l:List bg):(∀e',e'∈l.map aJ→e'.all cw=true)=True:=vm (f:=aJ) (fun _=>rfl) l
attribute [go_sem] v5 Cg
structure w7 (r:Rtr):Prop where
 rl:r.routes.length≤17592186044000
 tl:r.told.length≤5864062014634
 tr:∀l∈r.told,l.length≤17592186044000
structure CR (m:bg):Prop where
 fr:I64 m.fr
 dst:I64 m.dst
 len:m.bytes.length≤140737488351232
 rng:∀c∈m.bytes,0≤c∧c≤255
structure cj (e:Eng):Prop where
 rl:e.routers.length≤2932031007317
 rtr:∀r∈e.routers,w7 r
 bl:e.bag.length≤4398046510980
 mail:∀m∈e.bag,CR m
theorem AJ (n:Net) (v:Int) (hx:I64 (n.alg.size-1)) (σ:aa):af Tryz.prog 142 [ab v,.cp (aH n) 0] σ fun r σ'=>σ'=σ∧r = .c (.bool (!inR v 0 (n.alg.size-1))):=by
 have hI:=tF n.alg v hx;refine g_n Tryz.func142 rfl Tryz.results142 Tryz.ntmps142 ?_
 (repeat' (first|(refine g_s fun K hK=>?_)|((first|refine g_t ?_|refine g_g ?_|refine (hI _).use ?_);(try refine g_y ?_))|(refine hK _ _ ?_;clear hK K)|exact trivial|fail))
theorem oi (n:Net) (l:List Int) (hx:I64 (n.alg.size-1)) (hl:l.length≤1000000000000000000) (σ:aa):af Tryz.prog 115 [.agg (aH n),aF l] σ fun r σ'=>σ'=σ∧r=ab (aY n l):=by
 have hC:=fun S=>ir l (fun v => !inR v 0 (n.alg.size-1)) 142 [] [.cp (aH n) 0] S hl (by kernel_rfl) (fun v _=>AJ n v hx S)
 refine af.cutX ?_;refine g_n Tryz.func115 rfl Tryz.results115 Tryz.ntmps115 ?_;refine g_s fun K hK=>?_;refine g_h ?_;refine hK _ _ ?_;clear hK K;refine g_0 2 rfl ?_
 by_cases h1:(l.length:Int)=n.nodes
 ·cases h2:l.any fun v => !inR v 0 (n.alg.size-1)
  ·rw[h2] at hC
   (repeat' (first|(refine g_s fun K hK=>?_)|(refine g_k ?_;simp only[ah,ae])|(refine g_C (fun h=>?_) (fun h=>?_)<;>(try exact g_f))|((first|refine g_t ?_|refine g_g ?_|refine (hC _).use ?_);(try refine g_y ?_))|(refine hK _ _ ?_;clear hK K)|exact trivial|fail))
   refine ax rfl ?_;rw[aY,if_neg (not_not_intro h1),h2,if_neg (by decide)]
  ·rw[h2] at hC
   (repeat' (first|(refine g_s fun K hK=>?_)|(refine g_k ?_;simp only[ah,ae])|(refine g_C (fun h=>?_) (fun h=>?_)<;>(try exact g_f))|((first|refine g_t ?_|refine g_g ?_|refine (hC _).use ?_);(try refine g_y ?_))|(refine hK _ _ ?_;clear hK K)|exact trivial|fail))
   refine ax rfl ?_;rw[aY,if_neg (not_not_intro h1),h2,if_pos rfl]
 ·(repeat' (first|(refine g_s fun K hK=>?_)|(refine g_C (fun h=>?_) (fun h=>?_)<;>(try exact g_f))|((first|refine g_t ?_|refine g_g ?_);(try refine g_y ?_))|(refine hK _ _ ?_;clear hK K)|exact trivial|fail))
  refine ax rfl ?_;rw[aY,if_pos h1]
def oh (r:Rtr):List (List Int):=r.routes::r.told.filter fun l=>decide (l≠[])
theorem B1 (r:Rtr):(oh r).length≤r.told.length+1:=by
 have:=List.length_filter_le (fun l=>decide (l≠[])) r.told;simp only[oh,List.length_cons];omega
theorem zP (r:Rtr) (ok:w7 r) (σ:aa):af Tryz.prog 113 [.agg (bF r)] σ fun r' σ'=>σ'=σ∧r'=aL (oh r):=by
 have htl:=ok.tl;refine af.cutX ?_;refine g_n Tryz.func113 rfl Tryz.results113 Tryz.ntmps113 ?_;refine g_s fun K hK=>?_;refine g_h ?_;refine hK _ _ ?_;clear hK K;refine g_0 1 rfl ?_
 (repeat' (first|(refine g_s fun K hK=>?_)|(refine g_b ?_)|(refine g_g ?_;(try refine g_y ?_))|(refine hK _ _ ?_;clear hK K)|exact trivial|fail))
 have hJ:=hK;clear hK;refine ay r.told (fun _ t acc=>acc++t.filter (fun l=>decide (l≠[]))=r.told.filter fun l=>decide (l≠[])) (fun k acc τ=>[(12,ab k),(3,aq 1 (σ.length+(τ.length+1)) (r.routes::acc))]) (fun _ acc τ=>σ++(.dead::(τ++[ap aE 1 (r.routes::acc)]))) [] [] rfl ?_ (ai ?_) ?_ ?_
 ·simp [ap,aE,aF]
 ·simp -implicitDefEqProofs only[go_sem,aq,ap]
 ·rintro k t acc τ hk0 hk1 h3 L hL;obtain⟨w,hw⟩:∃w,at0 r.told k=w:=⟨_,rfl⟩;rw[hw] at h3;have hal:acc.length≤r.told.length:=by
   have:=congrArg List.length h3;have h5:=List.length_filter_le (fun l=>decide (l≠[])) r.told;rw[List.length_append] at this;omega
  by_cases he:w=[]
  ·rw[List.filter_cons_of_neg (by simpa using he)] at h3
   subst he;simp -implicitDefEqProofs only[go_sem,aq,ap]
   (repeat' (first|(refine g_s fun K hK=>?_)|(refine g_b ?_)|(refine g_k ?_;simp only[ah,ae])|(refine g_C (fun h=>?_) (fun h=>?_)<;>(try exact g_f))|(refine g_g ?_;(try simp -implicitDefEqProofs only[go_sem,hw]))|(refine hK _ _ ?_;clear hK K)|(with_reducible refine And.intro ?_ ?_;· exact g_x)|fail))
   refine hL acc τ _ _ h3 (ai ?_) (by simp [ap])
   simp -implicitDefEqProofs only[go_sem,aq]
  ·rw[List.filter_cons_of_pos (by simpa using he)] at h3
   have hwl:0<w.length:=List.length_pos_iff.2 he;simp -implicitDefEqProofs only[go_sem,aq,ap]
   (repeat' (first|(refine g_s fun K hK=>?_)|(refine g_b ?_)|(refine g_k ?_;simp only[ah,ae])|(refine g_C (fun h=>?_) (fun h=>?_)<;>(try exact g_f))|(refine g_G ?_;(try simp -implicitDefEqProofs only[go_sem,hw]))|(refine hK _ _ ?_;clear hK K)|(with_reducible refine And.intro ?_ ?_;· exact g_x)|fail))
   refine hL (acc++[w]) (τ++[.dead]) _ _ (by simpa using h3) (ai ?_) ?_
   ·simp -implicitDefEqProofs only[go_sem,aq]
   ·simp [ap,aE,aF]
 ·rintro k acc τ hk h3 L;rw[List.filter_nil,List.append_nil] at h3;simp -implicitDefEqProofs only[go_sem]
  (repeat' (first|(refine g_s fun K hK=>?_)|(refine g_e ?_;simp only[ah,ae,↓reduceIte,Nat.reduceEqDiff])|(refine g_C (fun h=>?_) (fun h=>?_)<;>(try exact g_f))|(refine g_g ?_;(try refine g_y ?_))|(refine hK _ _ ?_;clear hK K)|exact trivial|fail))
  refine hJ _ _ ?_;clear hJ;have est:σ++(.dead::(τ++[ap aE 1 (r.routes::acc)]))=σ++((.dead::τ)++ap aE 1 (r.routes::acc)::[]):=by simp
  rw[est];refine cC 3 aE 1 (r.routes::acc) σ (.dead::τ) [] (by simp [aB,Nat.add_assoc]) ?_
  (repeat' (first|(refine g_s fun K hK=>?_)|((first|refine g_t ?_|refine g_G ?_);(try refine g_y ?_))|(refine hK _ _ ?_;clear hK K)|exact trivial|fail))
  rw[h3];exact bM rfl (Bd.rows _) (.eq rfl)
theorem z9 (n:Net) (why:Int) (l:List Int) (hx:I64 (n.alg.size-1)) (hl:l.length≤1000000000000000000) (σ:aa):af Tryz.prog 114 [aF l,.cp (aH n) 0,.cp [ab why] 0] σ fun r σ'=>σ'=σ∧r = .c (.bool (decide (aY n l=why))):=by
 have hR:=oi n l hx hl;refine g_n Tryz.func114 rfl Tryz.results114 Tryz.ntmps114 ?_
 (repeat' (first|(refine g_s fun K hK=>?_)|((first|refine g_t ?_|refine g_g ?_|refine g_U ?_|refine g_q (fun τ=>hR _) ?_);(try refine g_y ?_))|(refine hK _ _ ?_;clear hK K)|exact trivial|fail))
 rfl
def o8 (n:Net) (why:Int) (r:Rtr):Bool:=(decide (why=1)&&decide ((r.told.length:Int)≠n.nodes))||(oh r).any fun l=>decide (aY n l=why)
theorem Bt (n:Net) (why:Int) (r:Rtr) (ok:w7 r) (hx:I64 (n.alg.size-1)) (σ:aa):af Tryz.prog 111 [.agg (bF r),.cp [ab why] 0,.cp (aH n) 0] σ fun r' σ'=>σ'=σ∧r' = .c (.bool (o8 n why r)):=by
 have hR:=zP r ok;have htl:=ok.tl;have hrl:=B1 r;have hC:=fun S=>mC (oh r) (fun l=>decide (aY n l=why)) 114 [] [.cp (aH n) 0,.cp [ab why] 0] S (by omega) (by kernel_rfl) (fun l hl=>z9 n why l hx (by
  rcases List.mem_cons.1 hl with rfl|hl
  ·have:=ok.rl;omega
  ·have:=ok.tr l (List.mem_filter.1 hl).1;omega) S)
 rw[o8];obtain⟨B,hB⟩:∃B,((oh r).any fun l=>decide (aY n l=why))=B:=⟨_,rfl⟩;simp only[hB] at hC ⊢;refine af.cutX ?_
 by_cases h1:why=1∧(r.told.length:Int)≠n.nodes
 ·obtain⟨rfl,h2⟩:=h1;refine g_n Tryz.func111 rfl Tryz.results111 Tryz.ntmps111 ?_;refine g_s fun K hK=>?_;refine g_h ?_;refine hK _ _ ?_;clear hK K;refine g_0 3 rfl ?_
  (repeat' (first|(refine g_s fun K hK=>?_)|((first|refine g_t ?_|refine g_g ?_);(try refine g_y ?_))|(refine hK _ _ ?_;clear hK K)|(with_reducible refine ak (fun h=>?_) (fun h=>?_)<;>(try simp only[go_sem] at h)<;>(try exact g_f)<;>(try refine g_y ?_))|exact trivial|fail))
  refine ax rfl ?_;simp [h2]
 ·have hz:(decide (why=1)&&decide ((r.told.length:Int)≠n.nodes))=false:=by
   rw[←Bool.not_eq_true,Bool.and_eq_true,decide_eq_true_eq,decide_eq_true_eq];exact h1
  rw[hz,Bool.false_or];refine g_n Tryz.func111 rfl Tryz.results111 Tryz.ntmps111 ?_;refine g_s fun K hK=>?_;refine g_h ?_;refine hK _ _ ?_;clear hK K;refine g_0 3 rfl ?_
  (repeat' (first|(refine g_s fun K hK=>?_)|((first|refine g_t ?_|refine g_g ?_|refine (hR _).use ?_|refine (hC _).use ?_);(try refine g_y ?_))|(refine hK _ _ ?_;clear hK K)|(with_reducible refine ak (fun h=>?_) (fun h=>?_)<;>(try simp only[go_sem] at h)<;>(try exact g_f)<;>(try refine g_y ?_))|exact trivial|fail))
  all_goals exact ax rfl rfl
theorem wM (l:List Rtr) (p:Rtr→Bool) (f:FuncId) (first cap:List AV) (σ:aa) (hl:l.length≤1000000000000000000) (hok:aw Tryz.prog f=true)
  (hf:∀x∈l,∀S,af Tryz.prog f (first++.agg (bF x)::cap) S fun r σ'=>σ'=S∧r = .c (.bool (p x))) :
  af Tryz.prog 140 [.sl (l.map bF),.fn f first cap] σ fun r σ'=>σ'=σ∧r=ab (bU p 0 l):=by
 refine g_n Tryz.func140 rfl Tryz.results140 Tryz.ntmps140 ?_
 (repeat' (first|(refine g_s fun K hK=>?_)|(refine g_b ?_)|(refine g_g ?_;(try refine g_y ?_))|(refine hK _ _ ?_;clear hK K)|exact trivial|fail))
 refine ay l (fun k r _=>bU p 0 l=bU p k r) (fun k _ _=>[(8,ab k)]) (fun _ _ _=>σ) () [] rfl rfl (ai ?_) ?_ ?_
 ·exact g_w
 ·rintro k r s τ hk0 hk1 h1 L hL;obtain⟨u,hu⟩:∃u,at0 l k=u:=⟨_,rfl⟩;have hm:=aA l hk0 hk1;rw[hu] at h1 hm;have hc:=hf _ hm;simp -implicitDefEqProofs only[go_sem]
  (repeat' (first|(refine g_s fun K hK=>?_)|(refine g_b ?_)|(refine g_k ?_;simp only[ah,ae])|(refine g_C (fun h=>?_) (fun h=>?_)<;>(try exact g_f))|((first|refine g_t ?_|refine g_g ?_|refine (hc _).use ?_);(try simp -implicitDefEqProofs only[go_sem,hu]))|(refine hK _ _ ?_;clear hK K)|(with_reducible refine And.intro ?_ ?_;· exact g_x)|fail))
  ·rw[h1,bU,if_pos (by assumption)]
  ·refine hL () [] _ _ ?_ (ai ?_) rfl
   ·rw[h1,bU,if_neg (by simp [*])]
   ·exact g_w
 ·intro k s τ hk h1 L;simp -implicitDefEqProofs only[go_sem]
  (repeat' (first|(refine g_s fun K hK=>?_)|(refine g_e ?_;simp only[ah,ae,↓reduceIte,Nat.reduceEqDiff])|(refine g_C (fun h=>?_) (fun h=>?_)<;>(try exact g_f))|((first|refine g_t ?_|refine g_g ?_);(try refine g_y ?_))|(refine hK _ _ ?_;clear hK K)|(clear hK K;first|(refine hK _ _ ?_;clear hK K)|(clear hK K;with_reducible refine hK _ _ ?_;clear hK K)|(clear hK K;clear hK K;with_reducible refine hK _ _ ?_;clear hK K))|exact trivial|fail))
  rw[h1,bU]
theorem tN (l:List Rtr) (p:Rtr→Bool) (f:FuncId) (first cap:List AV) (σ:aa) (hl:l.length≤1000000000000000000) (hok:aw Tryz.prog f=true)
  (hf:∀x∈l,∀S,af Tryz.prog f (first++.agg (bF x)::cap) S fun r σ'=>σ'=S∧r = .c (.bool (p x))) :
  af Tryz.prog 110 [.sl (l.map bF),.fn f first cap] σ fun r σ'=>σ'=σ∧r = .c (.bool (l.any p)):=by
 have hc:=wM l p f first cap σ hl hok hf
 refine g_n Tryz.func110 rfl Tryz.results110 Tryz.ntmps110 ?_
 (repeat' (first|(refine g_s fun K hK=>?_)|((first|refine g_t ?_|refine g_g ?_|refine (hc).use ?_);(try refine g_y ?_))|(refine hK _ _ ?_;clear hK K)|exact trivial|fail))
 rw[←iE p l 0 (Int.le_refl _)]
theorem vu (l:List bg) (p:bg→Bool) (f:FuncId) (first cap:List AV) (σ:aa) (hl:l.length≤1000000000000000000) (hok:aw Tryz.prog f=true)
  (hf:∀x∈l,∀S,af Tryz.prog f (first++.agg (aJ x)::cap) S fun r σ'=>σ'=S∧r = .c (.bool (p x))) :
  af Tryz.prog 116 [.sl (l.map aJ),.fn f first cap] σ fun r σ'=>σ'=σ∧r=ab (bU p 0 l):=by
 refine g_n Tryz.func116 rfl Tryz.results116 Tryz.ntmps116 ?_
 (repeat' (first|(refine g_s fun K hK=>?_)|(refine g_b ?_)|(refine g_g ?_;(try refine g_y ?_))|(refine hK _ _ ?_;clear hK K)|exact trivial|fail))
 refine ay l (fun k r _=>bU p 0 l=bU p k r) (fun k _ _=>[(8,ab k)]) (fun _ _ _=>σ) () [] rfl rfl (ai ?_) ?_ ?_
 ·exact g_w
 ·rintro k r s τ hk0 hk1 h1 L hL;obtain⟨u,hu⟩:∃u,at0 l k=u:=⟨_,rfl⟩;have hm:=aA l hk0 hk1;rw[hu] at h1 hm;have hc:=hf _ hm;simp -implicitDefEqProofs only[go_sem]
  (repeat' (first|(refine g_s fun K hK=>?_)|(refine g_b ?_)|(refine g_k ?_;simp only[ah,ae])|(refine g_C (fun h=>?_) (fun h=>?_)<;>(try exact g_f))|((first|refine g_t ?_|refine g_g ?_|refine (hc _).use ?_);(try simp -implicitDefEqProofs only[go_sem,hu]))|(refine hK _ _ ?_;clear hK K)|(with_reducible refine And.intro ?_ ?_;· exact g_x)|fail))
  ·rw[h1,bU,if_pos (by assumption)]
  ·refine hL () [] _ _ ?_ (ai ?_) rfl
   ·rw[h1,bU,if_neg (by simp [*])]
   ·exact g_w
 ·intro k s τ hk h1 L;simp -implicitDefEqProofs only[go_sem]
  (repeat' (first|(refine g_s fun K hK=>?_)|(refine g_e ?_;simp only[ah,ae,↓reduceIte,Nat.reduceEqDiff])|(refine g_C (fun h=>?_) (fun h=>?_)<;>(try exact g_f))|((first|refine g_t ?_|refine g_g ?_);(try refine g_y ?_))|(refine hK _ _ ?_;clear hK K)|(clear hK K;first|(refine hK _ _ ?_;clear hK K)|(clear hK K;with_reducible refine hK _ _ ?_;clear hK K)|(clear hK K;clear hK K;with_reducible refine hK _ _ ?_;clear hK K))|exact trivial|fail))
  rw[h1,bU]
theorem mD (l:List bg) (p:bg→Bool) (f:FuncId) (first cap:List AV) (σ:aa) (hl:l.length≤1000000000000000000) (hok:aw Tryz.prog f=true)
  (hf:∀x∈l,∀S,af Tryz.prog f (first++.agg (aJ x)::cap) S fun r σ'=>σ'=S∧r = .c (.bool (p x))) :
  af Tryz.prog 70 [.sl (l.map aJ),.fn f first cap] σ fun r σ'=>σ'=σ∧r = .c (.bool (l.any p)):=by
 have hc:=vu l p f first cap σ hl hok hf
 refine g_n Tryz.func70 rfl Tryz.results70 Tryz.ntmps70 ?_
 (repeat' (first|(refine g_s fun K hK=>?_)|((first|refine g_t ?_|refine g_g ?_|refine (hc).use ?_);(try refine g_y ?_))|(refine hK _ _ ?_;clear hK K)|exact trivial|fail))
 rw[←iE p l 0 (Int.le_refl _)]
theorem wh (n:Net) (e:Eng) (why:Int) (ok:cj e) (hx:I64 (n.alg.size-1)) (σ:aa):af Tryz.prog 69 [.agg (aH n),.agg (ba e),ab why] σ fun r σ'=>σ'=σ∧r = .c (.bool (e.routers.any (o8 n why))):=by
 have hC:=fun S=>tN e.routers (o8 n why) 111 [] [.cp [ab why] 0,.cp (aH n) 0] S (by have:=ok.rl;omega) (by kernel_rfl) (fun r hr S=>Bt n why r (ok.rtr r hr) hx S)
 refine af.cutX ?_;refine g_n Tryz.func69 rfl Tryz.results69 Tryz.ntmps69 ?_;refine g_s fun K hK=>?_;refine g_h ?_;refine hK _ _ ?_;clear hK K;refine g_0 3 rfl ?_;refine g_0 4 rfl ?_;refine g_0 5 rfl ?_
 (repeat' (first|(refine g_s fun K hK=>?_)|((first|refine g_t ?_|refine g_g ?_|refine (hC _).use ?_);(try refine g_y ?_))|(refine hK _ _ ?_;clear hK K)|exact trivial|fail))
 exact ax rfl rfl
theorem ft (n:Net) (i:Int) (σ:aa):af Tryz.prog 72 [.agg (aH n),ab i] σ fun r σ'=>σ'=σ∧r = .c (.bool (inR i 0 (n.nodes-1))):=by
 refine af.cutX ?_;refine g_n Tryz.func72 rfl Tryz.results72 Tryz.ntmps72 ?_;refine g_s fun K hK=>?_;refine g_h ?_;refine hK _ _ ?_;clear hK K;refine g_0 2 rfl ?_
 (repeat' (first|(refine g_s fun K hK=>?_)|((first|refine g_t ?_|refine g_g ?_);(try refine g_y ?_))|(refine hK _ _ ?_;clear hK K)|(with_reducible refine ak (fun h=>?_) (fun h=>?_)<;>(try simp only[go_sem] at h)<;>(try exact g_f)<;>(try refine g_y ?_))|exact trivial|fail))
 all_goals (refine ax rfl ?_;congr 2;rw[Bool.eq_iff_iff];simp [inR];omega)
theorem yG (n:Net) (m:bg) (σ:aa):af Tryz.prog 71 [.agg (aJ m),.cp (aH n) 0] σ fun r σ'=>σ'=σ∧r = .c (.bool (!inR m.fr 0 (n.nodes-1) || !inR m.dst 0 (n.nodes-1))):=by
 have h1:=ft n m.fr;have h2:=ft n m.dst;refine af.cutX ?_;refine g_n Tryz.func71 rfl Tryz.results71 Tryz.ntmps71 ?_;refine g_s fun K hK=>?_;refine g_h ?_;refine hK _ _ ?_;clear hK K;refine g_0 2 rfl ?_
 cases hf:inR m.fr 0 (n.nodes-1)
 ·rw[hf] at h1
  (repeat' (first|(refine g_s fun K hK=>?_)|((first|refine g_t ?_|refine g_g ?_|refine (h1 _).use ?_);(try refine g_y ?_))|(refine hK _ _ ?_;clear hK K)|exact trivial|fail))
  exact ax rfl rfl
 ·rw[hf] at h1
  (repeat' (first|(refine g_s fun K hK=>?_)|((first|refine g_t ?_|refine g_g ?_|refine (h1 _).use ?_|refine (h2 _).use ?_);(try refine g_y ?_))|(refine hK _ _ ?_;clear hK K)|exact trivial|fail))
  exact ax rfl rfl
theorem yF (m:bg) (hl:m.bytes.length≤140737488351232) (σ:aa):af Tryz.prog 73 [.agg (aJ m)] σ fun r σ'=>σ'=σ∧r = .c (.bool (decide (60<m.bytes.length))):=by
 refine af.cutX ?_;refine g_n Tryz.func73 rfl Tryz.results73 Tryz.ntmps73 ?_;refine g_s fun K hK=>?_;refine g_h ?_;refine hK _ _ ?_;clear hK K;refine g_0 1 rfl ?_
 (repeat' (first|(refine g_s fun K hK=>?_)|((first|refine g_t ?_|refine g_g ?_);(try refine g_y ?_))|(refine hK _ _ ?_;clear hK K)|exact trivial|fail))
 refine ax rfl ?_;have e:(60<m.bytes.length)=((60:Int)<m.bytes.length):=propext (by omega)
 simp only[e]
theorem Ef (n:Net) (r:Rtr):o8 n 1 r=dJ n r:=by
 have h:∀l:List Int,decide (aY n l=1)=decide ((l.length:Int)≠n.nodes):=fun l=>decide_eq_decide.2 pW.symm;rw[o8,dJ,oh,List.any_cons,List.any_filter,h,decide_eq_true rfl,Bool.true_and];simp only[h]
theorem CL (n:Net) (r:Rtr):o8 n 5 r=eA n r:=by
 have h5:(decide ((5:Int)=1))=false:=by decide
 rw[o8,eA,oh,List.any_cons,List.any_filter,h5,Bool.false_and,Bool.false_or]
theorem sc (n:Net) (e:Eng) (okn:dM n) (ok:cj e) (σ:aa):af Tryz.prog 32 [.agg (aH n),.agg (ba e)] σ fun r σ'=>σ'=σ∧r=ab (ew n e):=by
 have hC:=eZ n okn;have hrl:=ok.rl;have hbl:=ok.bl;refine af.cutX ?_
 by_cases h0:aI n=0
 ·have hn:=aU h0;have n1:=hn.n1;have n6:=hn.n6;have s2:=hn.alg.s2;have s24:=hn.alg.s24;have hx:I64 (n.alg.size-1):=by unfold I64;omega
  have hA1:=wh n e 1 ok hx;have hA5:=wh n e 5 ok hx;have e1:o8 n 1=dJ n:=funext (Ef n);have e5:o8 n 5=eA n:=funext (CL n);have hM1:=fun S=>mD e.bag (fun m => !inR m.fr 0 (n.nodes-1) || !inR m.dst 0 (n.nodes-1)) 71 [] [.cp (aH n) 0] S (by omega) (by kernel_rfl) (fun m _ S=>yG n m S)
  have hM2:=fun S=>mD e.bag (fun m=>decide (60<m.bytes.length)) 73 [] [] S (by omega) (by kernel_rfl) (fun m hm S=>yF m (ok.mail m hm).len S)
  rw[e1] at hA1;rw[e5] at hA5;rw[h0] at hC;rw[ew,if_neg (not_not_intro h0)];refine g_n Tryz.func32 rfl Tryz.results32 Tryz.ntmps32 ?_;refine g_s fun K hK=>?_;refine g_h ?_;refine hK _ _ ?_;clear hK K;refine g_0 2 rfl ?_;refine g_0 3 rfl ?_
  by_cases hl:(e.routers.length:Int)=n.nodes
  ·cases h1:e.routers.any (dJ n)
   ·rw[h1] at hA1;rw[if_neg (by rw[not_or];exact⟨not_not_intro hl,by decide⟩)]
    cases h5:e.routers.any (eA n)
    ·rw[h5] at hA5;rw[if_neg (by decide)]
     by_cases hb:120<e.bag.length
     ·rw[if_pos hb]
      (repeat' (first|(refine g_s fun K hK=>?_)|(refine g_b ?_)|(refine g_k ?_;simp only[ah,ae])|(refine g_C (fun h=>?_) (fun h=>?_)<;>(try exact g_f))|((first|refine g_t ?_|refine g_g ?_|refine (hC _).use ?_|refine (hA1 _).use ?_|refine (hA5 _).use ?_);(try refine g_y ?_))|(refine hK _ _ ?_;clear hK K)|(with_reducible refine ak (fun h=>?_) (fun h=>?_)<;>(try simp only[go_sem] at h)<;>(try exact g_f)<;>(try refine g_y ?_))|exact trivial|fail))
      exact ax rfl rfl
     ·rw[if_neg hb]
      cases hm1:e.bag.any fun m => !inR m.fr 0 (n.nodes-1) || !inR m.dst 0 (n.nodes-1)
      ·rw[hm1] at hM1;rw[if_neg (by decide)]
       cases hm2:e.bag.any fun m=>decide (60<m.bytes.length)
       ·rw[hm2] at hM2;rw[if_neg (by decide)]
        (repeat' (first|(refine g_s fun K hK=>?_)|(refine g_b ?_)|(refine g_k ?_;simp only[ah,ae])|(refine g_C (fun h=>?_) (fun h=>?_)<;>(try exact g_f))|((first|refine g_t ?_|refine g_g ?_|refine (hC _).use ?_|refine (hA1 _).use ?_|refine (hA5 _).use ?_|refine (hM1 _).use ?_|refine (hM2 _).use ?_);(try refine g_y ?_))|(refine hK _ _ ?_;clear hK K)|(with_reducible refine ak (fun h=>?_) (fun h=>?_)<;>(try simp only[go_sem] at h)<;>(try exact g_f)<;>(try refine g_y ?_))|exact trivial|fail))
        exact ax rfl rfl
       ·rw[hm2] at hM2;rw[if_pos rfl]
        (repeat' (first|(refine g_s fun K hK=>?_)|(refine g_b ?_)|(refine g_k ?_;simp only[ah,ae])|(refine g_C (fun h=>?_) (fun h=>?_)<;>(try exact g_f))|((first|refine g_t ?_|refine g_g ?_|refine (hC _).use ?_|refine (hA1 _).use ?_|refine (hA5 _).use ?_|refine (hM1 _).use ?_|refine (hM2 _).use ?_);(try refine g_y ?_))|(refine hK _ _ ?_;clear hK K)|(with_reducible refine ak (fun h=>?_) (fun h=>?_)<;>(try simp only[go_sem] at h)<;>(try exact g_f)<;>(try refine g_y ?_))|exact trivial|fail))
        exact ax rfl rfl
      ·rw[hm1] at hM1;rw[if_pos rfl]
       (repeat' (first|(refine g_s fun K hK=>?_)|(refine g_b ?_)|(refine g_k ?_;simp only[ah,ae])|(refine g_C (fun h=>?_) (fun h=>?_)<;>(try exact g_f))|((first|refine g_t ?_|refine g_g ?_|refine (hC _).use ?_|refine (hA1 _).use ?_|refine (hA5 _).use ?_|refine (hM1 _).use ?_);(try refine g_y ?_))|(refine hK _ _ ?_;clear hK K)|(with_reducible refine ak (fun h=>?_) (fun h=>?_)<;>(try simp only[go_sem] at h)<;>(try exact g_f)<;>(try refine g_y ?_))|exact trivial|fail))
       exact ax rfl rfl
    ·rw[h5] at hA5;rw[if_pos rfl]
     (repeat' (first|(refine g_s fun K hK=>?_)|(refine g_b ?_)|(refine g_k ?_;simp only[ah,ae])|(refine g_C (fun h=>?_) (fun h=>?_)<;>(try exact g_f))|((first|refine g_t ?_|refine g_g ?_|refine (hC _).use ?_|refine (hA1 _).use ?_|refine (hA5 _).use ?_);(try refine g_y ?_))|(refine hK _ _ ?_;clear hK K)|(with_reducible refine ak (fun h=>?_) (fun h=>?_)<;>(try simp only[go_sem] at h)<;>(try exact g_f)<;>(try refine g_y ?_))|exact trivial|fail))
     exact ax rfl rfl
   ·rw[h1] at hA1;rw[if_pos (.inr rfl)]
    (repeat' (first|(refine g_s fun K hK=>?_)|(refine g_b ?_)|(refine g_k ?_;simp only[ah,ae])|(refine g_C (fun h=>?_) (fun h=>?_)<;>(try exact g_f))|((first|refine g_t ?_|refine g_g ?_|refine (hC _).use ?_|refine (hA1 _).use ?_);(try refine g_y ?_))|(refine hK _ _ ?_;clear hK K)|(with_reducible refine ak (fun h=>?_) (fun h=>?_)<;>(try simp only[go_sem] at h)<;>(try exact g_f)<;>(try refine g_y ?_))|exact trivial|fail))
    exact ax rfl rfl
  ·rw[if_pos (.inl hl)]
   (repeat' (first|(refine g_s fun K hK=>?_)|(refine g_b ?_)|(refine g_k ?_;simp only[ah,ae])|(refine g_C (fun h=>?_) (fun h=>?_)<;>(try exact g_f))|((first|refine g_t ?_|refine g_g ?_|refine (hC _).use ?_);(try refine g_y ?_))|(refine hK _ _ ?_;clear hK K)|(with_reducible refine ak (fun h=>?_) (fun h=>?_)<;>(try simp only[go_sem] at h)<;>(try exact g_f)<;>(try refine g_y ?_))|exact trivial|fail))
   exact ax rfl rfl
 ·rw[ew,if_pos h0];refine g_n Tryz.func32 rfl Tryz.results32 Tryz.ntmps32 ?_
  (repeat' (first|(refine g_s fun K hK=>?_)|(refine g_C (fun h=>?_) (fun h=>?_)<;>(try exact g_f))|((first|refine g_t ?_|refine g_g ?_|refine (hC _).use ?_);(try refine g_y ?_))|(refine hK _ _ ?_;clear hK K)|exact trivial|fail))
  exact ax (τ:=[.cells 5 [aH n],.cells 2 [ba e]]) (by simp [aH,ba,ab,aL,nF]) rfl
end Go.Proofs.YtephecognbbaoaaGreat
namespace Go.Proofs.YtephecognbbaoaaGreat
section
variable {P:Program} {K:World} {imm:Imm} {m:Own} {w:World} {σ:aa}
def uO (P:Program) (d:Option TypeDesc) (x:AV) (σ:aa) (K:AV→aa→Prop):Prop:=
 match d with
 | some (.slice e)=>(P.info? e).isSome=true∧0<P.cellsOf e∧on (bY P e) fun z=>z.length=P.cellsOf e∧z.all cw=true ∧
  match x with
  | .own b k i n _=>k=P.cellsOf e∧0<n∧on σ[b]? fun ob=>match ob with
   | .cells k' es=>k'=k∧i+n≤es.length∧K (.tup []) (σ.set b (.cells k (es.take i++List.replicate n z++es.drop (i+n))))
   | _=>False
  | _=>False
 | _=>False
theorem CB (hs:Sim K imm m w σ) {t ty:TypeId} {x:AV} {vx:Value} (hrx:Rep imm m vx x) {Kont:AV→aa→Prop} (h:uO P (P.underlying t) x σ Kont) :
  ∃v w' av σ',(Builtin.clear_ #[t] ty #[vx]).run P w = .ok v w'∧Sim K imm m w' σ'∧Rep imm m v av∧Kont av σ':=by
 unfold uO at h
 split at h
 ·rename_i e ht
  obtain⟨hi,hk0,h⟩:=h
  replace h:=aj h;obtain⟨z,hz,h⟩:=h
  obtain⟨hzl,hz1,h⟩:=h
  split at h
  ·rename_i b k i n c
   obtain⟨rfl,hn0,h⟩:=h
   replace h:=aj h;obtain⟨ob,hob,h⟩:=h
   split at h
   ·rename_i k' es
    obtain⟨rfl,hle,hK⟩:=h;obtain⟨hlt,hob'⟩:=List.getElem?_eq_some_iff.1 hob;have h0:=hs.obs b hlt;rw[hob'] at h0;obtain⟨blk,sz,h1,h2,cs,T',fr,h3,h4,h5,h6,h7⟩:=h0
    cases hrx with
    | own _ _ _ _ _ cap blk' sz' x hm hn hcc hx hc=>
     rw[h1] at hm
     cases hm
     subst hx;obtain⟨v,hr,hrep0,hzv,hzi⟩:=fF (P:=P) (imm:=imm) (m:=m) (w:=w) hz;have hvs:v.cells.size=P.cellsOf e:=by rw[←hzl,hzv];simp
     obtain⟨nl,hnl⟩:∃nl,(Builtin.zeroCells v.cells n).toList=nl:=⟨_,rfl⟩;have hnll:nl.length=n*P.cellsOf e:=by rw[←hnl];simp [Builtin.zeroCells,hvs]
     have hget:∀a,a<n→∀j,j<P.cellsOf e→∃u,nl[a*P.cellsOf e+j]? = some u∧v.cells.toList[j]? = some u:=fun a ha j hj=>by
      have hlt2:a*P.cellsOf e+j<n*P.cellsOf e:=fe hj ha;have hmod:(a*P.cellsOf e+j) % v.cells.size=j:=by
       rw[hvs,Nat.mul_comm,Nat.mul_add_mod];exact Nat.mod_eq_of_lt hj
      have hjv:j<v.cells.size:=by omega
      refine⟨v.cells[j],?_,by rw[Array.getElem?_toList,Array.getElem?_eq_getElem hjv]⟩
      rw[←hnl,Array.getElem?_toList];simp only[Builtin.zeroCells,Array.getElem?_map,hvs];rw[Array.getElem?_eq_getElem (by simpa using hlt2)]
      simp only[Array.getElem_range,Option.map_some];rw[hvs] at hmod;rw[hmod];simp [hjv]
     have hrn:∀a (ha:a<(List.replicate n z).length) j (hj:j<(List.replicate n z)[a].length),∃u,nl[a*P.cellsOf e+j]? = some u∧Rep imm m u (List.replicate n z)[a][j]:=fun a ha j hj=>by
      simp only[List.length_replicate] at ha;simp only[List.getElem_replicate] at hj ⊢;obtain⟨u,hu1,hu2⟩:=hget a ha j (by omega)
      obtain⟨_,hu3⟩:=List.getElem?_eq_some_iff.1 hu2;have:=hrep0.2 j (by omega) hj
      rw[hu3] at this;exact⟨u,hu1,this⟩
     have hmm:(i+n)*P.cellsOf e≤sz:=Nat.le_trans (Nat.mul_le_mul_right _ hle) h6;have hmm2:i*P.cellsOf e+n*P.cellsOf e≤sz:=by rw[←Nat.add_mul];exact hmm
     have hon:∀u∈nl,u.oneCell'=true:=fun u hu=>by
      obtain⟨y,hy,rfl⟩:=List.getElem_of_mem hu;have hyi:y / P.cellsOf e<n:=Nat.div_lt_of_lt_mul (by rw[Nat.mul_comm,←hnll];exact hy)
      have hyj:y % P.cellsOf e<P.cellsOf e:=Nat.mod_lt _ hk0;obtain⟨u,e1,r⟩:=hrn (y / P.cellsOf e) (by simpa using hyi) (y % P.cellsOf e) (by simp only[List.getElem_replicate];omega)
      rw[Nat.div_add_mod'] at e1;obtain⟨_,rfl⟩:=List.getElem?_eq_some_iff.1 e1;simp only[List.getElem_replicate] at r;exact p8 r (List.all_eq_true.1 hz1 _ (List.getElem_mem _))
     have hst:=run_storeCells_cells (P:=P) blk (i*P.cellsOf e) nl 0 w (fun j hj=>by
       have:i*P.cellsOf e+0+j<cs.size:=by omega
       simp [World.cell?,h3,show i*P.cellsOf e+j<cs.size by omega]) (fun j hj=>by
       have:=h5 (i*P.cellsOf e+0+j) (by omega)
       simp only[World.frozen?,h3];simp only[Nat.add_zero] at this ⊢
       simpa using this) hon
     have hl2:(List.replicate n z).length=n:=by simp
     obtain⟨cs',g1,g2,g5,g6,g7⟩:=sC (p:=i) (news:=List.replicate n z) (nl:=nl) h3 h7 (by omega) (fun e' he'=>by rw[List.eq_of_mem_replicate he',hzl]) (by rw[hl2];exact hnll) hrn (by rw[hl2,h4];exact hmm)
     rw[hl2] at g7;refine⟨.tuple #[],w.setCells blk (i*P.cellsOf e) nl,_,_,?_,hs.set g6 hlt h1 hob' g5 cs' T' fr g1 (by omega) h5 _ ?_ g7,?_,hK⟩
     ·simp only[Nat.add_zero] at hst;have hn9:n≠0:=by omega
      obtain⟨n',rfl⟩:∃n',n=n'+1:=⟨n-1,by omega⟩
      simp only[Builtin.clear_,List.getElem?_toArray,List.getElem?_cons_zero,Sem.run_bind,Sem.run_pure,Result.andThen_ok,aD ht,hr,hnl];rw[hst];rfl
     ·have:(es.take i++List.replicate n z++es.drop (i+n)).length=es.length:=by simp;omega
      rw[this];exact h6
     ·exact .tup [] [] rfl (fun i h=>by simp at h)
   ·exact h.elim
  ·exact h.elim
 ·exact h.elim
end
def vM (P:Program) (op:Op) (ev:Operand→Option AV) (σ:aa) (K:AV→aa→Prop):Prop:=
 match op with
 | .call { callee:=.builtin .clear,args:=args,argTypes:=ts } => on (evL ev args.toList) fun as'=>match as',ts.toList with
  | [x],[t]=>uO P (P.underlying t) x σ K
  | _,_=>False
 | .slice T x (some lo) (some hi) (some mx)=>on (ev x) fun a=>on ((ev lo).bind jI) fun l=>on ((ev hi).bind jI) fun h=>on ((ev mx).bind jI) fun z=>match P.underlying T,a with
  | some (.slice e),.own b k s _ c=>(P.info? e).isSome=true∧P.cellsOf e=k∧0≤l∧l≤h∧h≤z∧l<z∧z≤c∧K (.own b k (s+l.toNat) (h.toNat-l.toNat) (z.toNat-l.toNat)) σ
  | _,_=>False
 | .slice T x (some lo) (some hi) none=>on (ev x) fun a=>on ((ev lo).bind jI) fun l=>on ((ev hi).bind jI) fun h=>match P.underlying T,a with
  | some (.slice e),.own b k s _ c=>(P.info? e).isSome=true∧P.cellsOf e=k∧0≤l∧l≤h∧h≤c∧l<c∧K (.own b k (s+l.toNat) (h.toNat-l.toNat) (c-l.toNat)) σ
  | _,_=>False
 | op=>qL P op ev σ K
theorem BB {P:Program} {K0:World} {imm:Imm} {m:Own} {w:World} {σ:aa} {ev:Operand→Option AV} {ρ:Operand→Value} (op:Op) (hs:Sim K0 imm m w σ) (hev:∀x av,ev x=some av→Rep imm m (ρ x) av) {Kont:AV→aa→Prop} (h:vM P op ev σ Kont)
  {dst:Option Tmp} {type:TypeId} {pos:String} {after:Array Edge} {guard:Option (Nat×Bool)} :
  Up P K0 imm m Kont ((execOp ρ { dst,op,type,pos,after,guard }).run P w):=by
 by_cases hb:∃args ts,op = .call { callee:=.builtin .clear,args:=args,argTypes:=ts }
 ·obtain⟨args,ts,rfl⟩:=hb
  replace h:=aj h;obtain⟨as',has,h⟩:=h
  have hra:=fq hev _ _ has
  split at h
  ·rename_i x t hts
   obtain⟨o1,ho⟩:∃o1,args.toList=[o1]:=by
    have:=hra.1;simp only[List.length_map] at this;exact List.length_eq_one_iff.1 this
   have ha:args = #[o1]:=by cases args;simp_all
   subst ha;have ht':ts = #[t]:=by cases ts;simp_all
   subst ht';have hr1:Rep imm m (ρ o1) x:=by simpa using hra.2 0 (by simp) (by simp)
   obtain⟨v,w',av,σ',hrun,hs',hr,hk⟩:=CB (ty:=type) hs hr1 h;refine cn ?_ (.refl _) (.refl _) hs' hr hk;simp only[execOp,resolve,Sem.run_bind,Sem.run_pure,Result.andThen_ok,invoke,builtin,List.map_toArray,List.map_cons,List.map_nil,hrun]
  ·exact h.elim
 ·by_cases hb2:∃T x lo hi mx,op = .slice T x (some lo) (some hi) (some mx)
  ·obtain⟨T,x,lo,hi,mx,rfl⟩:=hb2
   replace h:=aj h;obtain⟨a,ha,h⟩:=h
   replace h:=aj h;obtain⟨l,hl,h⟩:=h
   replace h:=aj h;obtain⟨hh,hhi,h⟩:=h
   replace h:=aj h;obtain⟨z,hz,h⟩:=h
   have hr:=hev _ _ ha
   split at h
   ·rename_i e b k s n c hT
    obtain⟨hi',hce,h0,h1,h2,h3,h4,hK⟩:=h
    generalize hv:ρ x=v at hr
    cases hr with
    | own _ _ _ _ _ cap blk sz x0 hm hn hcc hx hc=>
     have sb:∀(o:Operand) (q:Int) (y:Nat) code,c7 ev (some o) 0=some q→0≤q→q≤y→(Instr.sliceBound (ρ o) y code).run P w = .ok q.toNat w:=by
      intro o q y code hb h0 h1;obtain⟨k,hk⟩:=eT hev hb;simp only[Instr.sliceBound,hk,asIntOf,Sem.run_bind,Sem.run_pure,Result.andThen_ok];rw[if_pos ⟨by omega,by omega⟩]
      rfl
     have b1:=sb mx z cap .slice3Acap hz (by omega) (by omega)
     have b2:=sb hi hh z.toNat .slice3B hhi (by omega) (by omega)
     have b3:=sb lo l hh.toNat .slice3C hl (by omega) (by omega)
     have sl1:(Instr.sliceAt T (.slice (some ⟨blk,x0,none⟩) n cap) (some (ρ lo)) (some (ρ hi)) (some (ρ mx))).run P w=(Instr.slice T (.slice (some ⟨blk,x0,none⟩) n cap) (some (ρ lo)) (some (ρ hi)) (some (ρ mx))).run P w:=by
      simp only[Instr.sliceAt,Sem.run_bind,aD hT,Result.andThen_ok]
     have hrun:(Instr.slice T (.slice (some ⟨blk,x0,none⟩) n cap) (some (ρ lo)) (some (ρ hi)) (some (ρ mx))).run P w = .ok (.slice (if z.toNat=l.toNat then some ⟨blk,x0,none⟩ else (some (⟨blk,x0,none⟩:Addr)).map (·.add (l.toNat*P.cellsOf e))) (hh.toNat-l.toNat) (z.toNat-l.toNat)) w:=by
      simp [Instr.slice,Sem.run_bind,aD hT,Result.andThen_ok,cQ hi',Sem.run_pure,Instr.sliceBounds,b1,b2,b3]
     have e1:(if z.toNat=l.toNat then some (⟨blk,x0,none⟩:Addr) else (some (⟨blk,x0,none⟩:Addr)).map (·.add (l.toNat*P.cellsOf e)))=some ⟨blk,x0+l.toNat*k,none⟩:=by
      rw[hce,if_neg (by omega)]
      simp only[Option.map_some,Addr.add]
      split<;>simp_all
     rw[e1] at hrun;refine cn (v:=.slice (some ⟨blk,x0+l.toNat*k,none⟩) (hh.toNat-l.toNat) (z.toNat-l.toNat)) ?_ (.refl _) (.refl _) hs ?_ hK
     ·simp only[execOp,hv,Sem.run_bind,Option.map_some,sl1,hrun,Result.andThen_ok,Sem.run_pure]
     ·refine .own b k _ _ _ _ blk sz _ hm (by omega) (Nat.le_refl _) (by rw[hx,Nat.add_mul]) ?_
      have:(s+l.toNat+(z.toNat-l.toNat))*k≤(s+cap)*k:=Nat.mul_le_mul_right _ (by omega)
      omega
   ·exact h.elim
  ·by_cases hb3:∃T x lo hi,op = .slice T x (some lo) (some hi) none
   ·obtain⟨T,x,lo,hi,rfl⟩:=hb3
    replace h:=aj h;obtain⟨a,ha,h⟩:=h
    replace h:=aj h;obtain⟨l,hl,h⟩:=h
    replace h:=aj h;obtain⟨hh,hhi,h⟩:=h
    have hr:=hev _ _ ha
    split at h
    ·rename_i e b k s n c hT
     obtain⟨hi',hce,h0,h1,h2,h3,hK⟩:=h
     generalize hv:ρ x=v at hr
     cases hr with
     | own _ _ _ _ _ cap blk sz x0 hm hn hcc hx hc=>
      have sb:∀(o:Operand) (q:Int) (y:Nat) code,c7 ev (some o) 0=some q→0≤q→q≤y→(Instr.sliceBound (ρ o) y code).run P w = .ok q.toNat w:=by
       intro o q y code hb h0 h1;obtain⟨k,hk⟩:=eT hev hb;simp only[Instr.sliceBound,hk,asIntOf,Sem.run_bind,Sem.run_pure,Result.andThen_ok];rw[if_pos ⟨by omega,by omega⟩]
       rfl
      have b2:=sb hi hh cap .sliceAcap hhi (by omega) (by omega)
      have b3:=sb lo l hh.toNat .sliceB hl (by omega) (by omega)
      have sl1:(Instr.sliceAt T (.slice (some ⟨blk,x0,none⟩) n cap) (some (ρ lo)) (some (ρ hi)) none).run P w=(Instr.slice T (.slice (some ⟨blk,x0,none⟩) n cap) (some (ρ lo)) (some (ρ hi)) none).run P w:=by
       simp only[Instr.sliceAt,Sem.run_bind,aD hT,Result.andThen_ok]
      have hrun:(Instr.slice T (.slice (some ⟨blk,x0,none⟩) n cap) (some (ρ lo)) (some (ρ hi)) none).run P w = .ok (.slice (if cap=l.toNat then some ⟨blk,x0,none⟩ else (some (⟨blk,x0,none⟩:Addr)).map (·.add (l.toNat*P.cellsOf e))) (hh.toNat-l.toNat) (cap-l.toNat)) w:=by
       simp [Instr.slice,Sem.run_bind,aD hT,Result.andThen_ok,cQ hi',Sem.run_pure,Instr.sliceBounds,b2,b3]
      have e1:(if cap=l.toNat then some (⟨blk,x0,none⟩:Addr) else (some (⟨blk,x0,none⟩:Addr)).map (·.add (l.toNat*P.cellsOf e)))=some ⟨blk,x0+l.toNat*k,none⟩:=by
       rw[hce,if_neg (by omega)]
       simp only[Option.map_some,Addr.add]
       split<;>simp_all
      rw[e1] at hrun;refine cn (v:=.slice (some ⟨blk,x0+l.toNat*k,none⟩) (hh.toNat-l.toNat) (cap-l.toNat)) ?_ (.refl _) (.refl _) hs ?_ hK
      ·simp only[execOp,hv,Sem.run_bind,Option.map_some,Option.map_none,sl1,hrun,Result.andThen_ok,Sem.run_pure]
      ·refine .own b k _ _ _ _ blk sz _ hm (by omega) (by omega) (by rw[hx,Nat.add_mul]) ?_
       have:s+l.toNat+(cap-l.toNat)=s+cap:=by omega
       rw[this];exact hc
    ·exact h.elim
   ·have h':qL P op ev σ Kont:=by
     unfold vM at h
     split at h
     ·exact absurd ⟨_,_,rfl⟩ hb
     ·exact absurd ⟨_,_,_,_,_,rfl⟩ hb2
     ·exact absurd ⟨_,_,_,_,rfl⟩ hb3
     ·exact h
    exact uY op hs hev h'
theorem y6 {P:Program} {op:Op} {σ:aa} {ev:Operand→Option AV} {K:AV→aa→Prop} (h:vM P op ev σ K):∀c,op ≠ .defer c:=by
 rintro c rfl;exact sv (show qL P (.defer c) ev σ K from h) c rfl
def qB (P:Program) (N:Nat) (ops:List Oper) (K:AF→aa→Prop):List Oper→AF→aa→Prop
 | [],α,σ=>K α σ
 | o::r,α,σ=>dC ops o.guard α fun α=>dk ops o.guard α
   (fun α=>vM P o.op (evF α) σ fun av σ'=>br N o.dst av α fun α'=>qB P N ops K r α' σ')
   (fun α=>br N o.dst (.c undef) α fun α'=>qB P N ops K r α' σ)
theorem Bi {rd:Option Nat} {P:Program} {N:Nat} {K0:World} {ops:List Oper} {Q:bV} : ∀(l:List Oper) (α:AF) (σ:aa) (imm:Imm) (m:Own) (w:World) (a:Act),Sim K0 imm m w σ→FOk K0 imm m N a α →
  qB P N ops (fun α σ=>Q .normal α σ) l α σ→wpListIn (Rnd rd) 0 P ops.toArray (dS K0 N imm m Q) l a w:=by
 intro l
 induction l with
 | nil=>intro α σ imm m w a hs hf h;exact⟨imm,m,α,σ,.refl _,.refl _,hs,hf,h⟩
 | cons o r ih=>
  intro α σ imm m w a hs hf h;have mono:∀(imm':Imm) (m':Own),ILe imm imm'→OLe m m'→∀a' w',wpListIn (Rnd rd) 0 P ops.toArray (dS K0 N imm' m' Q) r a' w'→wpListIn (Rnd rd) 0 P ops.toArray (dS K0 N imm m Q) r a' w':=by
   intro imm' m' hi ho;have hq:∀e a w,dS K0 N imm' m' Q e a w→dS K0 N imm m Q e a w:=fun e a w h=>cK hi ho h;exact lZ hq r
  simp only[qB] at h;unfold wpListIn
  rcases jK hf h with ⟨hw,β,hfb,h⟩|⟨hw,β,hfb,h⟩
  ·rw[if_pos hw];have hup:=BB (dst:=o.dst) (type:=o.type) (pos:=o.pos) (after:=o.after) (guard:=o.guard) o.op hs (ff hfb) h;refine dc (y6 h) hup fun imm' m' v av σ' w' hi ho hs' hr hk=>?_;obtain⟨α',hf',hk'⟩:=eE (hfb.mono hi ho) hr hk;exact mono imm' m' hi ho _ _ (ih α' σ' imm' m' w' _ hs' hf' hk')
  ·rw[if_neg (by rw[hw];simp)]
   obtain⟨α',hf',hk'⟩:=eE hfb (.c undef) h;exact⟨fun f _=>jQ _ _,ih α' σ imm m w _ hs hf' hk'⟩
theorem tg {rd:Option Nat} {P:Program} {N:Nat} {α:AF} {σ:aa} {id:Nat} {ops:List Oper} {Q:bV} (h:qB P N ops (fun α σ=>Q .normal α σ) ops α σ):aK rd P N (.region id ops.toArray false) Q α σ:=
 fun _ imm m w a hs hf=>wpIn_region_lit (Bi ops α σ imm m w a hs hf h)
section
variable {P:Program} {N:Nat} {ops:List Oper} {σ:aa} {K:AF→aa→Prop} {α:AF} {r:List Oper} {dst:Option Tmp} {op:Op} {ty:TypeId} {pos:String} {after:Array Edge} {g:Option (Nat×Bool)}
theorem DZ:qB P N ops K [] α σ=K α σ:=rfl
theorem Cx:qB P N ops K ({ dst:=dst,op:=op,type:=ty,pos:=pos,after:=after,guard:=g } :: r) α σ=fB ops g α
   (fun α=>vM P op (evF α) σ fun av σ'=>br N dst av α fun α'=>qB P N ops K r α' σ') (fun α=>br N dst (.c undef) α fun α'=>qB P N ops K r α' σ):=rfl
end
end Go.Proofs.YtephecognbbaoaaGreat
