/- Routes of a node, in plain Lean: whatever the order of links. -/
import Derived.Test.YtephecognbbaoaaGreatZLo
import Derived.Test.YtephecognbbaoaaGreatZSy
open Go
set_option linter.all false
set_option maxRecDepth 100000
set_option maxHeartbeats 4000000
namespace Go.Proofs.YtephecognbbaoaaGreat
open Go
set_option linter.all false
structure Alg where
 size:Int
 best:List (List Int)
 edges:List (List Int)
deriving DecidableEq
structure Brk where
 law:Int
 a:Int
 b:Int
 c:Int
 edge:Int
deriving DecidableEq
def at2 (l:List (List Int)) (i j:Int):Int:=at0 (at0 l i) j
def inR (n lo hi:Int):Bool:=decide (lo≤n)&&decide (n≤hi)
theorem aG {n lo hi:Int} : inR n lo hi=true↔lo≤n∧n≤hi:=by simp [inR]
theorem ci {n lo hi:Int} : (!inR n lo hi)=true↔n<lo∨hi<n:=by simp only[Bool.not_eq_true',←Bool.not_eq_true,aG];omega
def dE (x:Alg):Int:=
 if !inR x.size 2 24 then 3
 else if 8<x.edges.length then 2
 else if (x.best.length:Int)≠x.size then 1
 else if (x.best++x.edges).any (fun r=>decide ((r.length:Int)≠x.size)) then 1
 else if (x.best++x.edges).any (fun r=>r.any fun n => !inR n 0 (x.size-1)) then 5
 else 0
structure cS (x:Alg):Prop where
 s2:2≤x.size
 s24:x.size≤24
 e8:x.edges.length≤8
 bl:(x.best.length:Int)=x.size
 row:∀r∈x.best++x.edges,(r.length:Int)=x.size
 val:∀r∈x.best++x.edges,∀n∈r,0≤n∧n≤x.size-1
theorem lL {x:Alg} : dE x=0↔cS x:=by
 unfold dE
 constructor
 ·intro h
  split at h
  ·cases h
  split at h
  ·cases h
  split at h
  ·cases h
  split at h
  ·cases h
  split at h
  ·cases h
  rename_i h1 h2 h3 h4 h5
  have h1':2≤x.size∧x.size≤24:=aG.1 (by simpa using h1)
  refine⟨h1'.1,h1'.2,by omega,by omega,fun r hr=>?_,fun r hr n hn=>?_⟩
  ·have h4':∀r∈x.best++x.edges,¬((r.length:Int)≠x.size):=by
    intro r hr hne;exact h4 (List.any_eq_true.2 ⟨r,hr,by simpa using hne⟩)
   have:=h4' r hr;omega
  ·apply Classical.byContradiction;intro hc;refine h5 (List.any_eq_true.2 ⟨r,hr,List.any_eq_true.2 ⟨n,hn,ci.2 (by omega)⟩⟩)
 ·intro h;have k1:¬(!inR x.size 2 24)=true:=by rw[ci];have:=h.s2;have:=h.s24;omega
  have k4:¬((x.best++x.edges).any (fun r=>decide ((r.length:Int)≠x.size)))=true:=by
   intro hc;obtain⟨r,hr,hn⟩:=List.any_eq_true.1 hc;exact (of_decide_eq_true hn) (h.row r hr)
  have k5:¬((x.best++x.edges).any (fun r=>r.any fun n => !inR n 0 (x.size-1)))=true:=by
   intro hc;obtain⟨r,hr,hn⟩:=List.any_eq_true.1 hc;obtain⟨n,hn,hb⟩:=List.any_eq_true.1 hn;have:=h.val r hr n hn;rw[ci] at hb;omega
  rw[if_neg k1,if_neg (by have:=h.e8;omega),if_neg (by have:=h.bl;omega),if_neg k4,if_neg k5]
section
variable {x:Alg}
theorem cS.best_row (h:cS x) {i:Int} (h0:0≤i) (h1:i<x.size):at0 x.best i∈x.best:=aA _ h0 (by have:=h.bl;omega)
theorem cS.best_len (h:cS x) {i:Int} (h0:0≤i) (h1:i<x.size):((at0 x.best i).length:Int)=x.size:=h.row _ (List.mem_append_left _ (h.best_row h0 h1))
theorem cS.best_in (h:cS x) {i j:Int} (h0:0≤i) (h1:i<x.size) (h2:0≤j) (h3:j<x.size):0≤at2 x.best i j∧at2 x.best i j<x.size:=by
 have:=h.val _ (List.mem_append_left _ (h.best_row h0 h1)) (at2 x.best i j) (aA _ h2 (by have:=h.best_len h0 h1;omega))
 omega
theorem cS.edge_row (h:cS x) {i:Int} (h0:0≤i) (h1:i<x.edges.length):at0 x.edges i∈x.edges:=aA _ h0 h1
theorem cS.edge_len (h:cS x) {i:Int} (h0:0≤i) (h1:i<x.edges.length):((at0 x.edges i).length:Int)=x.size:=h.row _ (List.mem_append_right _ (h.edge_row h0 h1))
theorem cS.edge_in (h:cS x) {i j:Int} (h0:0≤i) (h1:i<x.edges.length) (h2:0≤j) (h3:j<x.size):0≤at2 x.edges i j∧at2 x.edges i j<x.size:=by
 have:=h.val _ (List.mem_append_right _ (h.edge_row h0 h1)) (at2 x.edges i j) (aA _ h2 (by have:=h.edge_len h0 h1;omega))
 omega
end
def aV (law:Int):Int:=if law=1∨law=3 then 2 else if law=2 then 3 else if law=4∨law=5 then 1 else if law=6 then 0 else if law=7∨law=8 then 1 else 2
def dn (law:Int):Bool := !(decide (law=1)||decide (law=2)||decide (law=3)||decide (law=4)||decide (law=5))
theorem vo (law:Int):0≤aV law∧aV law≤3:=by
 unfold aV
 repeat' split
 all_goals omega
def ct (x:Alg) (b:Brk):Bool:=
 if b.law=1 then decide (at2 x.best b.a b.b=at2 x.best b.b b.a)
 else if b.law=2 then decide (at2 x.best b.a (at2 x.best b.b b.c)=at2 x.best (at2 x.best b.a b.b) b.c)
 else if b.law=3 then decide (at2 x.best b.a b.b=b.a)||decide (at2 x.best b.a b.b=b.b)
 else if b.law=4 then decide (at2 x.best 0 b.a=0)
 else if b.law=5 then decide (at2 x.best (x.size-1) b.a=b.a)
 else if b.law=6 then decide (at2 x.edges b.edge (x.size-1)=x.size-1)
 else if b.law=7 then decide (at2 x.best b.a (at2 x.edges b.edge b.a)=b.a)
 else if b.law=8 then decide (b.a=x.size-1)||(decide (at2 x.best b.a (at2 x.edges b.edge b.a)=b.a) && !decide (at2 x.edges b.edge b.a=b.a))
 else decide (at2 x.edges b.edge (at2 x.best b.a b.b)=at2 x.best (at2 x.edges b.edge b.a) (at2 x.edges b.edge b.b))
def upN (named:Bool) (n:Int):Int:=if named then n else 1
def nz (named:Bool) (v n:Int):Bool:=if named then inR v 0 (n-1) else decide (v=0)
theorem qj {named:Bool} {v n:Int} : nz named v n=true↔0≤v∧v<upN named n:=by
 cases named
 ·simp [nz,upN];omega
 ·simp only[nz,upN,if_true,aG];omega
def yE (x:Alg) (b:Brk):Int:=
 if !inR b.law 1 9 then 7
 else if !(nz (decide (0<aV b.law)) b.a x.size&&nz (decide (1<aV b.law)) b.b x.size&&nz (decide (2<aV b.law)) b.c x.size) then 3
 else if !nz (dn b.law) b.edge x.edges.length then 3
 else 0
def ints (n:Int):List Int:=(List.range n.toNat).map fun (i:Nat)=>(i:Int)
theorem cf {n v:Int} : v∈ints n↔0≤v∧v<n:=by
 simp only[ints,List.mem_map,List.mem_range]
 constructor
 ·rintro ⟨i,hi,rfl⟩;omega
 ·rintro ⟨h0,h1⟩;exact⟨v.toNat,by omega,by omega⟩
theorem ao (n:Int):(ints n).length=n.toNat:=by simp [ints]
def bQ (x:Alg) (law:Int):List Brk:=
 (ints (upN (decide (0<aV law)) x.size)).flatMap fun a=>(ints (upN (decide (1<aV law)) x.size)).flatMap fun b=>(ints (upN (decide (2<aV law)) x.size)).flatMap fun c=>
  (ints (upN (dn law) x.edges.length)).map fun e=>⟨law,a,b,c,e⟩
theorem fk {x:Alg} {law:Int} {b:Brk} : b∈bQ x law↔b.law=law∧(0≤b.a∧b.a<upN (decide (0<aV law)) x.size)∧(0≤b.b∧b.b<upN (decide (1<aV law)) x.size) ∧
  (0≤b.c∧b.c<upN (decide (2<aV law)) x.size)∧(0≤b.edge∧b.edge<upN (dn law) x.edges.length):=by
 simp only[bQ,List.mem_flatMap,List.mem_map,cf]
 constructor
 ·rintro ⟨p,hp,q,hq,r,hr,e,he,rfl⟩;exact⟨rfl,hp,hq,hr,he⟩
 ·rintro ⟨rfl,hp,hq,hr,he⟩;exact⟨_,hp,_,hq,_,hr,_,he,rfl⟩
theorem qC {x:Alg} {b:Brk} : yE x b=0↔(1≤b.law∧b.law≤9)∧b∈bQ x b.law:=by
 rw[fk];unfold yE
 by_cases h1:inR b.law 1 9=true
 ·rw[if_neg (by simp [h1])]
  have h1':=aG.1 h1
  by_cases h2:(nz (decide (0<aV b.law)) b.a x.size&&nz (decide (1<aV b.law)) b.b x.size&&nz (decide (2<aV b.law)) b.c x.size)=true
  ·rw[if_neg (by simp [h2])]
   simp only[Bool.and_eq_true,qj] at h2
   by_cases h3:nz (dn b.law) b.edge x.edges.length=true
   ·rw[if_neg (by simp [h3])]
    rw[qj] at h3;exact⟨fun _=>⟨h1',rfl,h2.1.1,h2.1.2,h2.2,h3⟩,fun _=>rfl⟩
   ·rw[if_pos (by simp [h3])]
    rw[qj] at h3;exact⟨fun h=>(by cases h),fun h=>absurd h.2.2.2.2.2 h3⟩
  ·rw[if_pos (by rw[Bool.not_eq_true',←Bool.not_eq_true];exact h2)]
   simp only[Bool.and_eq_true,qj] at h2;exact⟨fun h=>(by cases h),fun h=>absurd ⟨⟨h.2.2.1,h.2.2.2.1⟩,h.2.2.2.2.1⟩ h2⟩
 ·rw[if_pos (by simp [h1])]
  exact⟨fun h=>(by cases h),fun h=>absurd (aG.2 h.1) h1⟩
def dp:Brk:=⟨0,0,0,0,0⟩
def yy (x:Alg) (l:List Brk):Brk:=(l.find? fun b => !ct x b).getD dp
def cR (x:Alg) (laws:List Int):Brk:=yy x (laws.flatMap (bQ x))
theorem sf {x:Alg} {laws:List Int} (h0:∀l∈laws,l≠0) (h:(cR x laws).law=0):∀law∈laws,∀b∈bQ x law,ct x b=true:=by
 unfold cR yy at *
 cases hf:(laws.flatMap (bQ x)).find? fun b => !ct x b with
 | none=>
  intro law hl b hb;have:=List.find?_eq_none.1 hf b (List.mem_flatMap.2 ⟨law,hl,hb⟩)
  simpa using this
 | some b=>
  rw[hf] at h;have h2:=List.mem_of_find?_eq_some hf;obtain⟨law,hl,hb⟩:=List.mem_flatMap.1 h2;exact absurd ((fk.1 hb).1.symm.trans h) (h0 law hl)
end Go.Proofs.YtephecognbbaoaaGreat
namespace Go.Proofs.YtephecognbbaoaaGreat
open Go
set_option linter.all false
theorem uq {β:Type} (q:Nat) (hq:0<q) (f:Nat→Nat→List β):∀p:Nat,(List.range p).flatMap (fun a=>(List.range q).flatMap (f a))=(List.range (p*q)).flatMap fun n=>f (n / q) (n % q)
 | 0=>by simp
 | p+1=>by
  rw[List.range_succ,List.flatMap_append,uq q hq f p,Nat.add_mul,Nat.one_mul,List.range_add,List.flatMap_append,List.flatMap_cons,List.flatMap_nil,List.append_nil]
  congr 1
  rw[List.flatMap_map];apply congrArg List.flatten;apply List.map_congr_left;intro i hi;have hi:=List.mem_range.1 hi;have e1:(p*q+i) / q=p:=by
   rw[Nat.mul_comm,Nat.mul_add_div hq,Nat.div_eq_of_lt hi,Nat.add_zero]
  have e2:(p*q+i) % q=i:=by
   rw[Nat.mul_comm,Nat.mul_add_mod,Nat.mod_eq_of_lt hi]
  simp only[e1,e2]
theorem rS {β:Type} {p q:Int} (hp:0≤p) (hq:0<q) (f:Int→Int→List β):(ints p).flatMap (fun a=>(ints q).flatMap (f a))=(ints (p*q)).flatMap fun n=>f (n / q) (n % q):=by
 obtain⟨p',rfl⟩:=Int.eq_ofNat_of_zero_le hp;obtain⟨q',rfl⟩:=Int.eq_ofNat_of_zero_le (Int.le_of_lt hq);have hq':0<q':=by omega
 simp only[ints,List.flatMap_map,Int.toNat_natCast];rw[show ((p':Int)*(q':Int)).toNat=p'*q' by rw[←Int.natCast_mul,Int.toNat_natCast]]
 have h:=uq q' hq' (fun a b=>f (a:Int) (b:Int)) p';simp only[Int.natCast_ediv,Int.natCast_emod] at h ⊢;exact h
def pw (s m:Int):Int:=if m=0 then 1 else if m=1 then s else if m=2 then s*s else s*s*s
def dg0 (s m n:Int):Int:=if m=0 then 0 else if m=1 then n % s else if m=2 then n / s % s else n / s / s % s
def dg1 (s m n:Int):Int:=if m=2 then n % s else if m=3 then n / s % s else 0
def dg2 (s m n:Int):Int:=if m=3 then n % s else 0
def uL (x:Alg) (law n:Int):List Brk:=(ints (upN (dn law) x.edges.length)).map fun e=>⟨law,dg0 x.size (aV law) n,dg1 x.size (aV law) n,dg2 x.size (aV law) n,e⟩
theorem mZ {α β:Type} {l:List α} {f g:α→List β} (h:∀a∈l,f a=g a):l.flatMap f=l.flatMap g:=by
 rw[List.flatMap_def,List.flatMap_def,List.map_congr_left h]
theorem tG:ints 1=[0]:=rfl
theorem yB {n p q:Int} (hq:0<q) (h:n<p*q):n / q<p:=Int.ediv_lt_of_lt_mul hq h
theorem uR {x:Alg} (h:2≤x.size) (law:Int):bQ x law=(ints (pw x.size (aV law))).flatMap (uL x law):=by
 have hm:=vo law;unfold bQ uL pw;have:aV law=0∨aV law=1∨aV law=2∨aV law=3:=by omega
 rcases this with e|e|e|e<;>simp only[e,upN,dg0,dg1,dg2]
 ·simp [tG]
 ·simp only[show decide ((0:Int)<1)=true by decide,show decide ((1:Int)<1)=false by decide,show decide ((2:Int)<1)=false by decide,if_true,if_false,Bool.false_eq_true,tG,List.flatMap_cons,List.flatMap_nil,List.append_nil,Int.reduceEq]
  refine mZ fun n hn=>?_;have:=cf.1 hn;rw[Int.emod_eq_of_lt this.1 this.2]
 ·simp only[show decide ((0:Int)<2)=true by decide,show decide ((1:Int)<2)=true by decide,show decide ((2:Int)<2)=false by decide,if_true,if_false,Bool.false_eq_true,tG,List.flatMap_cons,List.flatMap_nil,List.append_nil,Int.reduceEq]
  rw[rS (by omega) (by omega) (fun a b=>(ints (if dn law=true then (x.edges.length:Int) else 1)).map fun e=>(⟨law,a,b,0,e⟩:Brk))]
  refine mZ fun n hn=>?_;have:=cf.1 hn;rw[Int.emod_eq_of_lt (a:=n / x.size) (Int.ediv_nonneg this.1 (by omega)) (yB (by omega) this.2)]
 ·simp only[show decide ((0:Int)<3)=true by decide,show decide ((1:Int)<3)=true by decide,show decide ((2:Int)<3)=true by decide,if_true,if_false,Bool.false_eq_true,Int.reduceEq]
  rw[rS (by omega) (by omega) (fun a b=>(ints x.size).flatMap fun c=>(ints (if dn law=true then (x.edges.length:Int) else 1)).map fun e=>(⟨law,a,b,c,e⟩:Brk))]
  rw[rS (p:=x.size*x.size) (Int.mul_nonneg (by omega) (by omega)) (by omega) (fun n c=>(ints (if dn law=true then (x.edges.length:Int) else 1)).map fun e=>(⟨law,n / x.size,n % x.size,c,e⟩:Brk))]
  refine mZ fun n hn=>?_;have:=cf.1 hn;rw[Int.emod_eq_of_lt (a:=n / x.size / x.size) (Int.ediv_nonneg (Int.ediv_nonneg this.1 (by omega)) (by omega)) (yB (by omega) (yB (by omega) this.2))]
theorem Fa {s m:Int} (h:2≤s):1≤pw s m:=by
 have h2:s*1≤s*s:=Int.mul_le_mul_of_nonneg_left (by omega) (by omega)
 have h3:s*s*1≤s*s*s:=Int.mul_le_mul_of_nonneg_left (by omega) (Int.mul_nonneg (by omega) (by omega))
 unfold pw
 repeat' split
 all_goals omega
theorem Fp {s m:Int} (h:2≤s∧s≤24):pw s m≤13824:=by
 have h2:s*s≤24*s:=Int.mul_le_mul_of_nonneg_right (by omega) (by omega)
 have h3:s*s*s≤576*s:=Int.mul_le_mul_of_nonneg_right (by omega) (by omega)
 unfold pw
 repeat' split
 all_goals omega
end Go.Proofs.YtephecognbbaoaaGreat
namespace Go.Proofs.YtephecognbbaoaaGreat
open Go
set_option linter.all false
structure Lnk where
 fr:Int
 dst:Int
 edge:Int
deriving DecidableEq,Inhabited
structure Net where
 alg:Alg
 nodes:Int
 links:List Lnk
deriving DecidableEq
def dX:List Int:=[1,2,3,4,5,6,7]
def Lnk.like (l l':Lnk):Bool:=decide (l'.fr=l.fr)&&decide (l'.dst=l.dst)
def cF (n:Net) (pre:List Lnk) (l:Lnk):Int:=
 if !(inR l.fr 0 (n.nodes-1)&&inR l.dst 0 (n.nodes-1)&&inR l.edge 0 (n.alg.edges.length-1)) then 5
 else if l.fr=l.dst then 1
 else if pre.any l.like then 6
 else 0
def cz (n:Net):List Lnk→List Lnk→Int
 | _,[]=>0
 | pre,l::r=>if cF n pre l≠0 then cF n pre l else cz n (pre++[l]) r
def aI (n:Net):Int:=
 if dE n.alg≠0 then dE n.alg
 else if (cR n.alg dX).law≠0 then 4
 else if !inR n.nodes 1 6 then 3
 else cz n [] n.links
theorem fc {n:Net} {pre r:List Lnk} {l:Lnk} (h:cF n pre l≠0):cz n pre (l::r)=cF n pre l:=by rw[cz,if_pos h]
theorem qU {n:Net} {pre r:List Lnk} {l:Lnk} (h:cF n pre l=0):cz n pre (l::r)=cz n (pre++[l]) r:=by rw[cz,if_neg (by omega)]
structure Bw (n:Net) (l:Lnk):Prop where
 f0:0≤l.fr
 f1:l.fr<n.nodes
 d0:0≤l.dst
 d1:l.dst<n.nodes
 e0:0≤l.edge
 e1:l.edge<n.alg.edges.length
 ne:l.fr≠l.dst
theorem qn {n:Net} {pre:List Lnk} {l:Lnk} (h:cF n pre l=0):Bw n l∧pre.any l.like=false:=by
 unfold cF at h
 split at h
 ·cases h
 ·rename_i h1
  split at h
  ·cases h
  ·rename_i h2
   split at h
   ·cases h
   ·rename_i h3
    simp only[Bool.not_eq_true',Bool.not_eq_false,Bool.and_eq_true,aG] at h1;exact⟨⟨h1.1.1.1,by omega,h1.1.2.1,by omega,h1.2.1,by omega,h2⟩,by simpa using h3⟩
theorem sU {n:Net} : ∀(r pre:List Lnk),cz n pre r=0→∀l∈r,Bw n l
 | [],_,_,l,hl=>by cases hl
 | x::r,pre,h,l,hl=>by
  rw[cz] at h
  split at h
  ·rename_i h1;exact absurd h h1
  ·rename_i h1
   rcases List.mem_cons.1 hl with rfl|hl
   ·exact (qn (Decidable.not_not.1 h1)).1
   ·exact sU r _ h l hl
structure bI (n:Net):Prop where
 alg:cS n.alg
 law:(cR n.alg dX).law=0
 n1:1≤n.nodes
 n6:n.nodes≤6
 lnk:∀l∈n.links,Bw n l
theorem aU {n:Net} (h:aI n=0):bI n:=by
 unfold aI at h
 split at h
 ·rename_i h1;exact absurd h h1
 ·rename_i h1
  split at h
  ·cases h
  ·rename_i h2
   split at h
   ·cases h
   ·rename_i h3
    have h3':=aG.1 (show inR n.nodes 1 6=true by simpa using h3)
    exact⟨lL.1 (Decidable.not_not.1 h1),Decidable.not_not.1 h2,h3'.1,h3'.2,sU _ _ h⟩
theorem z6 {x:Alg} (h:(cR x dX).law=0):cR x dX=dp:=by
 have:=sf (laws:=dX) (by decide) h
 unfold cR yy;rw[List.find?_eq_none.2]
 ·rfl
 ·intro b hb;obtain⟨law,hl,hb⟩:=List.mem_flatMap.1 hb;simp [this law hl b hb]
def eh (n:Net) (x:List (List Int)):Int:=
 if (x.length:Int)≠n.nodes∨x.any (fun r=>decide ((r.length:Int)≠n.nodes))=true then 1
 else if x.any (fun r=>r.any fun v => !inR v 0 (n.alg.size-1)) then 5
 else 0
def da (n:Net) (x:List (List Int)):Int:=if aI n≠0 then aI n else eh n x
structure RowsIn (n:Net) (x:List (List Int)):Prop where
 len:(x.length:Int)=n.nodes
 row:∀r∈x,(r.length:Int)=n.nodes
 val:∀r∈x,∀v∈r,0≤v∧v<n.alg.size
theorem og {n:Net} {x:List (List Int)} (h:eh n x=0):RowsIn n x:=by
 unfold eh at h
 split at h
 ·cases h
 ·rename_i h1
  split at h
  ·cases h
  ·rename_i h2
   rw[not_or] at h1;refine⟨Decidable.not_not.1 h1.1,fun r hr=>?_,fun r hr v hv=>?_⟩
   ·apply Classical.byContradiction;intro hc;exact h1.2 (List.any_eq_true.2 ⟨r,hr,decide_eq_true hc⟩)
   ·apply Classical.byContradiction;intro hc;exact h2 (List.any_eq_true.2 ⟨r,hr,List.any_eq_true.2 ⟨v,hv,ci.2 (by omega)⟩⟩)
end Go.Proofs.YtephecognbbaoaaGreat
namespace Go.Proofs.YtephecognbbaoaaGreat
open Go
set_option linter.all false
def aM (n:Net) (i k:Int):Int:=((n.links.find? fun l=>decide (l.fr=i)&&decide (l.dst=k)).map (·.edge)).getD (-1)
def bq (n:Net) (a b:Int):Int:=at2 n.alg.best a b
def bc (n:Net) (e v:Int):Int:=at2 n.alg.edges e v
def cV (n:Net) (i j:Int) (has:Int→Int):Int:=
 (ints n.nodes).foldl (fun out k=>if 0≤aM n i k then bq n out (bc n (aM n i k) (has k)) else out) (if i=j then 0 else n.alg.size-1)
def cq (n:Net) (i j:Int) (has:Int→Int) (ls:List Lnk):Int:=
 ls.foldl (fun out l=>if l.fr=i then bq n out (bc n l.edge (has l.dst)) else out) (if i=j then 0 else n.alg.size-1)
section
variable {n:Net}
theorem oY (h:bI n) {b:Brk} (hb:b∈bQ n.alg b.law) (hl:b.law∈dX):ct n.alg b=true:=
 sf (laws:=dX) (by decide) h.law b.law hl b hb
theorem best_in (h:bI n) {a b:Int} (ha:0≤a∧a<n.alg.size) (hb:0≤b∧b<n.alg.size):0≤bq n a b∧bq n a b<n.alg.size:=h.alg.best_in ha.1 ha.2 hb.1 hb.2
theorem iy (h:bI n) {e v:Int} (he:0≤e∧e<n.alg.edges.length) (hv:0≤v∧v<n.alg.size):0≤bc n e v∧bc n e v<n.alg.size:=h.alg.edge_in he.1 he.2 hv.1 hv.2
theorem lX (h:bI n) {a b:Int} (ha:0≤a∧a<n.alg.size) (hb:0≤b∧b<n.alg.size):bq n a b=bq n b a:=by
 have hm:(⟨1,a,b,0,0⟩:Brk)∈bQ n.alg 1:=fk.2 ⟨rfl,ha,hb,⟨Int.le_refl _,show (0:Int)<1 by decide⟩,⟨Int.le_refl _,show (0:Int)<1 by decide⟩⟩
 have:=oY h hm (show (1:Int)∈dX by decide)
 exact of_decide_eq_true this
theorem qD (h:bI n) {a b c:Int} (ha:0≤a∧a<n.alg.size) (hb:0≤b∧b<n.alg.size) (hc:0≤c∧c<n.alg.size):bq n a (bq n b c)=bq n (bq n a b) c:=by
 have hm:(⟨2,a,b,c,0⟩:Brk)∈bQ n.alg 2:=fk.2 ⟨rfl,ha,hb,hc,⟨Int.le_refl _,show (0:Int)<1 by decide⟩⟩
 have:=oY h hm (show (2:Int)∈dX by decide)
 exact of_decide_eq_true this
theorem rI (f:Lnk→Int):∀(ks:List Int) (l:Lnk) (L:List Lnk),ks.Nodup→f l∈ks→(ks.flatMap fun k=>(l::L).filter fun x=>decide (f x=k)).Perm (l::ks.flatMap fun k=>L.filter fun x=>decide (f x=k))
 | [],l,L,_,h=>by cases h
 | k::ks,l,L,hd,h=>by
  obtain⟨hk,hd⟩:=List.nodup_cons.1 hd;simp only[List.flatMap_cons]
  by_cases e:f l=k
  ·have hrest:(ks.flatMap fun k'=>(l::L).filter fun x=>decide (f x=k'))=ks.flatMap fun k'=>L.filter fun x=>decide (f x=k'):=by
    refine mZ fun k' hk'=>?_;rw[List.filter_cons_of_neg];simp only[decide_eq_true_eq];intro e2;exact hk (by rw[←e,e2];exact hk')
   rw[hrest,List.filter_cons_of_pos (by simpa using e)]
   exact List.Perm.refl _
  ·rw[List.filter_cons_of_neg (by simpa using e)]
   have hmem:f l∈ks:=by
    rcases List.mem_cons.1 h with h|h
    ·exact absurd h e
    ·exact h
   exact ((rI f ks l L hd hmem).append_left _).trans List.perm_middle
theorem x6 (f:Lnk→Int) (ks:List Int) (hd:ks.Nodup):∀L:List Lnk,(∀l∈L,f l∈ks)→(ks.flatMap fun k=>L.filter fun x=>decide (f x=k)).Perm L
 | [],_=>by
  have:(ks.flatMap fun k=>([]:List Lnk).filter fun x=>decide (f x=k))=[]:=by simp
  rw[this]
 | l::L,h=>(rI f ks l L hd (h l (by simp))).trans ((x6 f ks hd L fun x hx=>h x (by simp [hx])).cons l)
theorem Ba (m:Int):(ints m).Nodup:=by
 unfold ints;rw[List.nodup_iff_pairwise_ne,List.pairwise_map];exact List.nodup_range.imp fun h e=>h (by omega)
def lv:List Lnk→Prop
 | []=>True
 | l::r=>(∀x∈r,x.like l=false)∧lv r
theorem uU {l:Lnk} : ∀ {pre:List Lnk},lv pre→pre.any l.like=false→lv (pre++[l])
 | [],_,_=>⟨(fun _ h=>by cases h),trivial⟩
 | x::r,h,hn=>by
  rw[List.any_cons,Bool.or_eq_false_iff] at hn;refine⟨fun y hy=>?_,uU h.2 hn.2⟩
  rcases List.mem_append.1 hy with hy|hy
  ·exact h.1 y hy
  ·rw[List.mem_singleton.1 hy];exact hn.1
theorem pH:∀(r pre:List Lnk),cz n pre r=0→lv pre→lv (pre++r)
 | [],pre,_,h=>by simpa using h
 | x::r,pre,h,hp=>by
  rw[cz] at h
  split at h
  ·rename_i h1;exact absurd h h1
  ·rename_i h1
   have h2:=qn (Decidable.not_not.1 h1);have:=pH r (pre++[x]) h (uU hp h2.2)
   simpa using this
theorem yS (h:aI n=0):lv n.links:=by
 unfold aI at h
 split at h
 ·rename_i h1;exact absurd h h1
 ·split at h
  ·cases h
  ·split at h
   ·cases h
   ·exact pH n.links [] h trivial
theorem yd:∀ {L:List Lnk} (i k:Int),lv L→(L.filter fun l=>decide (l.fr=i)&&decide (l.dst=k))=((L.find? fun l=>decide (l.fr=i)&&decide (l.dst=k)).toList)
 | [],_,_,_=>rfl
 | l::r,i,k,h=>by
  by_cases e:(decide (l.fr=i)&&decide (l.dst=k))=true
  ·rw[List.filter_cons_of_pos (by simpa using e),List.find?_cons_of_pos (by simpa using e),List.filter_eq_nil_iff.2]
   ·rfl
   ·intro x hx hc;have h1:=h.1 x hx;simp only[Bool.and_eq_true,decide_eq_true_eq] at e hc;have:x.like l=true:=by simp [Lnk.like];omega
    rw[this] at h1
    cases h1
  ·rw[List.filter_cons_of_neg (by simpa using e),List.find?_cons_of_neg (by simpa using e)]
   exact yd i k h.2
def ug (n:Net) (has:Int→Int) (out:Int) (l:Lnk):Int:=if 0≤out∧out<n.alg.size then bq n out (bc n l.edge (has l.dst)) else out
theorem pX (hn:aI n=0) (i j:Int) (has:Int→Int) (hh:∀k,0≤k→k<n.nodes→0≤has k∧has k<n.alg.size):cq n i j has n.links=cV n i j has:=by
 have h:=aU hn;have hap:=yS hn;have s2:=h.alg.s2;have hval:∀l∈n.links,0≤bc n l.edge (has l.dst)∧bc n l.edge (has l.dst)<n.alg.size:=fun l hl=>
  let g:=h.lnk l hl
  iy h ⟨g.e0,g.e1⟩ (hh _ g.d0 g.d1)
 have h0:0≤(if i=j then 0 else n.alg.size-1:Int)∧(if i=j then 0 else n.alg.size-1:Int)<n.alg.size:=by split<;>omega
 have e1:∀(L:List Lnk) (out:Int),(∀l∈L,l∈n.links)→0≤out∧out<n.alg.size →
   L.foldl (fun out l=>if l.fr=i then bq n out (bc n l.edge (has l.dst)) else out) out=(L.filter fun l=>decide (l.fr=i)).foldl (ug n has) out:=by
  intro L
  induction L with
  | nil=>intro out _ _;rfl
  | cons l r ih=>
   intro out hL ho
   by_cases e:l.fr=i
   ·rw[List.foldl_cons,if_pos e,List.filter_cons_of_pos (by simpa using e),List.foldl_cons]
    rw[ih _ (fun x hx=>hL x (by simp [hx])) (best_in h ho (hval l (hL l (by simp))))]
    congr 1
    exact (if_pos ho).symm
   ·rw[List.foldl_cons,if_neg e,List.filter_cons_of_neg (by simpa using e)]
    exact ih out (fun x hx=>hL x (by simp [hx])) ho
 have e2:∀(K:List Int) (out:Int),0≤out∧out<n.alg.size →
   K.foldl (fun out k=>if 0≤aM n i k then bq n out (bc n (aM n i k) (has k)) else out) out=(K.flatMap fun k=>(n.links.filter fun l=>decide (l.fr=i)).filter fun l=>decide (l.dst=k)).foldl (ug n has) out:=by
  intro K
  induction K with
  | nil=>intro out _;rfl
  | cons k r ih=>
   intro out ho;rw[List.foldl_cons,List.flatMap_cons,List.foldl_append];have hf:((n.links.filter fun l=>decide (l.fr=i)).filter fun l=>decide (l.dst=k))=(n.links.find? fun l=>decide (l.fr=i)&&decide (l.dst=k)).toList:=by
    rw[List.filter_filter,←yd i k hap]
    congr 1
    funext x
    rw[Bool.and_comm]
   rw[hf];unfold aM
   cases hfd:n.links.find? fun l=>decide (l.fr=i)&&decide (l.dst=k) with
   | none=>
    simp only[Option.map_none,Option.getD_none,Option.toList_none,List.foldl_nil];rw[if_neg (by omega)]
    have:=ih out ho;unfold aM at this;exact this
   | some l=>
    have hl:=List.mem_of_find?_eq_some hfd;have hp:=List.find?_some hfd;simp only[Bool.and_eq_true,decide_eq_true_eq] at hp;have g:=h.lnk l hl;simp only[Option.map_some,Option.getD_some,Option.toList_some,List.foldl_cons,List.foldl_nil];rw[if_pos g.e0];have hst:ug n has out l=bq n out (bc n l.edge (has k)):=by rw[ug,if_pos ho,hp.2]
    rw[hst];have hv:=hval l hl;rw[hp.2] at hv;have:=ih _ (best_in h ho hv);unfold aM at this;exact this
 unfold cq cV;rw[e1 n.links _ (fun l hl=>hl) h0,e2 _ _ h0];have hp:((ints n.nodes).flatMap fun k=>(n.links.filter fun l=>decide (l.fr=i)).filter fun l=>decide (l.dst=k)).Perm (n.links.filter fun l=>decide (l.fr=i)):=
  x6 (·.dst) (ints n.nodes) (Ba _) _ fun l hl=>by
   have g:=h.lnk l (List.mem_filter.1 hl).1;exact cf.2 ⟨g.d0,g.d1⟩
 refine (List.Perm.foldl_eq' hp (fun x hx y hy z=>?_) _).symm;have hx':x∈n.links:=(List.mem_filter.1 (hp.mem_iff.1 hx)).1;have hy':y∈n.links:=(List.mem_filter.1 (hp.mem_iff.1 hy)).1;unfold ug
 by_cases hz:0≤z∧z<n.alg.size
 ·have vx:=hval x hx';have vy:=hval y hy';rw[if_pos hz,if_pos hz,if_pos (best_in h hz vx),if_pos (best_in h hz vy),←qD h hz vx vy,←qD h hz vy vx,lX h vx vy]
 ·rw[if_neg hz,if_neg hz,if_neg hz]
theorem vS (h:bI n) (i j:Int) (has:Int→Int) (hh:∀k,0≤k→k<n.nodes→0≤has k∧has k<n.alg.size):0≤cV n i j has∧cV n i j has<n.alg.size:=by
 have s2:=h.alg.s2;have key:∀(K:List Int) (out:Int),(∀k∈K,0≤k∧k<n.nodes)→0≤out∧out<n.alg.size →
   0≤K.foldl (fun out k=>if 0≤aM n i k then bq n out (bc n (aM n i k) (has k)) else out) out∧K.foldl (fun out k=>if 0≤aM n i k then bq n out (bc n (aM n i k) (has k)) else out) out<n.alg.size:=by
  intro K
  induction K with
  | nil=>intro out _ ho;exact ho
  | cons k r ih=>
   intro out hK ho;rw[List.foldl_cons];refine ih _ (fun x hx=>hK x (by simp [hx])) ?_
   split
   ·rename_i he
    refine best_in h ho (iy h ⟨he,?_⟩ (hh k (hK k (by simp)).1 (hK k (by simp)).2))
    unfold aM at he ⊢
    cases hfd:n.links.find? fun l=>decide (l.fr=i)&&decide (l.dst=k) with
    | none=>rw[hfd] at he;simp at he
    | some l=>exact (h.lnk l (List.mem_of_find?_eq_some hfd)).e1
   ·exact ho
 exact key _ _ (fun k hk=>cf.1 hk) (by split<;>omega)
def cr (n:Net) (x:List (List Int)):List (List Int):=(ints n.nodes).map fun i=>(ints n.nodes).map fun j=>cV n i j fun k=>at2 x k j
def fQ (n:Net):List (List Int):=(ints n.nodes).map fun i=>(ints n.nodes).map fun j=>if i=j then 0 else n.alg.size-1
theorem sj {x:List (List Int)} (h:RowsIn n x) {i j:Int} (hi:0≤i∧i<n.nodes) (hj:0≤j∧j<n.nodes):0≤at2 x i j∧at2 x i j<n.alg.size:=by
 have hr:=aA x hi.1 (by rw[h.len];exact hi.2)
 exact h.val _ hr _ (aA _ hj.1 (by rw[h.row _ hr];exact hj.2))
theorem pY (hn:bI n) {x:List (List Int)} (h:RowsIn n x):RowsIn n (cr n x):=by
 have n1:=hn.n1;refine⟨?_,fun r hr=>?_,fun r hr v hv=>?_⟩
 ·rw[cr,List.length_map,ao];omega
 ·obtain⟨i,_,rfl⟩:=List.mem_map.1 hr;rw[List.length_map,ao];omega
 ·obtain⟨i,hi,rfl⟩:=List.mem_map.1 hr;obtain⟨j,hj,rfl⟩:=List.mem_map.1 hv;exact vS hn i j _ fun k h0 h1=>sj h ⟨h0,h1⟩ (cf.1 hj)
def eg (n:Net):Nat→Int→List (List Int)→List (List Int)×Int
 | 0,k,x=>(x,k)
 | f+1,k,x=>if x=cr n x then (x,k) else eg n f (k+1) (cr n x)
end
end Go.Proofs.YtephecognbbaoaaGreat
namespace Go.Proofs.YtephecognbbaoaaGreat
def aE (r:List Int):List AV:=[aF r]
def aL (l:List (List Int)):AV:=.sl (l.map aE)
def aS (x:Alg):List AV:=[ab x.size,aL x.best,aL x.edges]
def cX (b:Brk):List AV:=[ab b.law,ab b.a,ab b.b,ab b.c,ab b.edge]
attribute [go_sem] aE aL aS cX
theorem Dr (l:List (List Int)):(∀e',e'∈l.map aE→e'.length=1)=True:=vp (f:=aE) (fun _=>rfl) l
theorem Dq (l:List (List Int)):(∀e',e'∈l.map aE→e'.all cw=true)=True:=vm (f:=aE) (fun _=>rfl) l
attribute [go_sem] Dr Dq
theorem Bd.rows {n:Nat} (l:List (List Int)):Bd n (.sl (l.map aE)):=.slL (fun r=>.cons (Bd.ints r) .nil) l
theorem rg (n a b:Int) (σ:aa):af Tryz.prog 78 [ab n,ab a,ab b] σ fun r σ'=>σ'=σ∧r = .c (.bool (inR n a b)):=by
 refine g_n Tryz.func78 rfl Tryz.results78 Tryz.ntmps78 ?_
 (repeat' (first|(refine g_s fun K hK=>?_)|((first|refine g_t ?_|refine g_g ?_);(try refine g_y ?_))|(refine hK _ _ ?_;clear hK K)|(with_reducible refine ak (fun h=>?_) (fun h=>?_)<;>(try simp only[go_sem] at h)<;>(try exact g_f)<;>(try refine g_y ?_))|exact trivial|fail))
 all_goals (simp [inR];omega)
theorem tF (x:Alg) (n:Int) (hx:I64 (x.size-1)) (σ:aa):af Tryz.prog 77 [.agg (aS x),ab n] σ fun r σ'=>σ'=σ∧r = .c (.bool (inR n 0 (x.size-1))):=by
 refine af.cutX ?_;refine g_n Tryz.func77 rfl Tryz.results77 Tryz.ntmps77 ?_
 (repeat' (first|(refine g_s fun K hK=>?_)|((first|refine g_t ?_|refine g_g ?_|refine (rg _ _ _ _).use ?_);(try refine g_y ?_))|(refine hK _ _ ?_;clear hK K)|(with_reducible refine And.intro ?_ ?_;· exact g_x)|exact trivial|fail))
 exact ax rfl rfl
theorem eC (x:Alg) (hx:I64 (x.size-1)) (σ:aa):af Tryz.prog 93 [.agg (aS x)] σ fun r σ'=>σ'=σ∧r=ab (x.size-1):=by
 refine af.cutX ?_;refine g_n Tryz.func93 rfl Tryz.results93 Tryz.ntmps93 ?_
 (repeat' (first|(refine g_s fun K hK=>?_)|((first|refine g_t ?_|refine g_g ?_);(try refine g_y ?_))|(refine hK _ _ ?_;clear hK K)|(with_reducible refine And.intro ?_ ?_;· exact g_x)|exact trivial|fail))
 exact ax rfl rfl
theorem mE (b:Bool) (n:Int) (σ:aa):af Tryz.prog 146 [.c (.bool b),ab n] σ fun r σ'=>σ'=σ∧r=ab (upN b n):=by
 refine g_n Tryz.func146 rfl Tryz.results146 Tryz.ntmps146 ?_
 (repeat' (first|(refine g_s fun K hK=>?_)|(refine g_k ?_;simp only[ah,ae])|(refine g_C (fun h=>?_) (fun h=>?_)<;>(try exact g_f))|((first|refine g_t ?_|refine g_g ?_);(try refine g_y ?_))|(refine hK _ _ ?_;clear hK K)|exact trivial|fail))
 all_goals (simp [upN, *])
theorem zD (law:Int) (σ:aa):af Tryz.prog 156 [ab law] σ fun r σ'=>σ'=σ∧r = .tup [ab (aV law),.c (.bool (dn law))]:=by
 refine g_n Tryz.func156 rfl Tryz.results156 Tryz.ntmps156 ?_
 (repeat' (first|(refine g_s fun K hK=>?_)|(refine g_b ?_)|(refine g_k ?_;simp only[ah,ae])|(refine g_C (fun h=>?_) (fun h=>?_)<;>(try exact g_f))|((first|refine g_t ?_|refine g_g ?_);(try refine g_y ?_))|(refine hK _ _ ?_;clear hK K)|exact trivial|fail))
 all_goals (simp_all [aV,dn])
structure InR (x:Alg) (b:Brk):Prop where
 pl:1≤b.law∧b.law≤9
 pa:0≤b.a∧b.a<x.size
 pb:0≤b.b∧b.b<x.size
 pc:0≤b.c∧b.c<x.size
 pe:(b.law=1∨b.law=2∨b.law=3∨b.law=4∨b.law=5)∨(0≤b.edge∧b.edge<x.edges.length)
theorem Co {x:Alg} {b:Brk} (hr:cS x) (h:yE x b=0):InR x b:=by
 rw[qC,fk] at h;have:=hr.s2;have up:∀n,upN n x.size≤x.size:=fun n=>by unfold upN;split<;>omega
 have u1:=up (decide (0<aV b.law));have u2:=up (decide (1<aV b.law));have u3:=up (decide (2<aV b.law));refine⟨h.1,by omega,by omega,by omega,?_⟩
 by_cases he:dn b.law=true
 ·have:=h.2.2.2.2.2;rw[upN,if_pos he] at this;exact .inr this
 ·left
  simp [dn] at he;omega
theorem rW (x:Alg) (p q:Int) (hr:cS x) (h1:0≤p) (h2:p<x.size) (h3:0≤q) (h4:q<x.size) (σ:aa) :
  af Tryz.prog 117 [ab p,ab q,.cp (aS x) 0] σ fun r σ'=>σ'=σ∧r=ab (at2 x.best p q):=by
 have e1:=hr.bl;have e2:=hr.best_len h1 h2;refine g_n Tryz.func117 rfl Tryz.results117 Tryz.ntmps117 ?_
 (repeat' (first|(refine g_s fun K hK=>?_)|((first|refine g_t ?_|refine g_g ?_);(try refine g_y ?_))|(refine hK _ _ ?_;clear hK K)|(with_reducible refine And.intro ?_ ?_;· exact g_x)|exact trivial|fail))
 rfl
attribute [go_sem] at2
theorem zJ (x:Alg) (b:Brk) (hr:cS x) (hb:InR x b) (σ:aa):af Tryz.prog 79 [.agg (aS x),.agg (cX b)] σ fun r σ'=>σ'=σ∧r = .c (.bool (ct x b)):=by
 have ha:=hb.pa;have hbb:=hb.pb;have hc:=hb.pc;have hl:=hb.pl;have s2:=hr.s2;have s24:=hr.s24;have b1:=hr.best_in ha.1 ha.2 hbb.1 hbb.2;have b2:=hr.best_in hbb.1 hbb.2 hc.1 hc.2;have hE:(b.law=1∨b.law=2∨b.law=3∨b.law=4∨b.law=5)∨(0≤b.edge∧b.edge<x.edges.length∧((at0 x.edges b.edge).length:Int)=x.size∧0≤at2 x.edges b.edge b.a∧at2 x.edges b.edge b.a<x.size∧0≤at2 x.edges b.edge b.b∧at2 x.edges b.edge b.b<x.size):=by
  rcases hb.pe with h|h
  ·exact .inl h
  ·have f1:=hr.edge_in h.1 h.2 ha.1 ha.2;have f2:=hr.edge_in h.1 h.2 hbb.1 hbb.2;exact .inr ⟨h.1,h.2,hr.edge_len h.1 h.2,f1.1,f1.2,f2.1,f2.2⟩
 simp only[at2] at b1 b2 hE;refine af.cutX ?_;refine g_n Tryz.func79 rfl Tryz.results79 Tryz.ntmps79 ?_;refine g_s fun K hK=>?_;refine g_h ?_;refine hK _ _ ?_;clear hK K;refine g_0 2 rfl ?_;refine g_0 3 rfl ?_
 (repeat' (first|(refine g_s fun K hK=>?_)|(refine g_b ?_)|(refine g_k ?_;simp only[ah,ae])|(refine g_C (fun h=>?_) (fun h=>?_)<;>(try exact g_f))|((first|refine g_t ?_|refine g_g ?_|refine g_U ?_|refine g_q (fun τ=>eC x (by unfold I64;omega) _) ?_|refine (rW x _ _ hr (by omega) (by omega) (by omega) (by omega) _).use ?_|refine g_q (fun τ=>rW x _ _ hr (by omega) (by omega) (by omega) (by omega) _) ?_);(try refine g_y ?_))|(refine hK _ _ ?_;clear hK K)|(with_reducible refine ak (fun h=>?_) (fun h=>?_)<;>(try simp only[go_sem] at h)<;>(try exact g_f)<;>(try refine g_y ?_))|(with_reducible refine And.intro ?_ ?_;· exact g_x)|exact trivial|fail))
 all_goals clear hE hr hb b1 b2 hl ha hbb hc
 all_goals (refine ax rfl ?_;try simp [ct,at2,Bool.beq_eq_decide_eq,bne, *])
 all_goals exact decide_eq_decide.2 Iff.rfl
end Go.Proofs.YtephecognbbaoaaGreat
namespace Go.Proofs.YtephecognbbaoaaGreat
theorem wP (x:Alg) (b:Brk) (hr:cS x) (hb:InR x b) (σ:aa):af Tryz.prog 157 [.agg (aS x),.agg (cX b)] σ fun r σ'=>σ'=σ∧r = .c (.bool (ct x b)):=by
 have ha:=hb.pa;have hbb:=hb.pb;have hc:=hb.pc;have hl:=hb.pl;have s2:=hr.s2;have s24:=hr.s24;have bl:=hr.bl;have b1:=hr.best_in ha.1 ha.2 hbb.1 hbb.2;have b2:=hr.best_in hbb.1 hbb.2 hc.1 hc.2;have l1:=hr.best_len ha.1 ha.2;have l2:=hr.best_len hbb.1 hbb.2;have l3:=hr.best_len (i:=0) (by omega) (by omega)
 have l4:=hr.best_len (i:=x.size-1) (by omega) (by omega)
 have l5:=hr.best_len b1.1 b1.2;have hE:(b.law=1∨b.law=2∨b.law=3∨b.law=4∨b.law=5)∨(0≤b.edge∧b.edge<x.edges.length∧((at0 x.edges b.edge).length:Int)=x.size∧0≤at2 x.edges b.edge b.a∧at2 x.edges b.edge b.a<x.size∧0≤at2 x.edges b.edge b.b∧at2 x.edges b.edge b.b<x.size∧((at0 x.best (at2 x.edges b.edge b.a)).length:Int)=x.size):=by
  rcases hb.pe with h|h
  ·exact .inl h
  ·have f1:=hr.edge_in h.1 h.2 ha.1 ha.2;have f2:=hr.edge_in h.1 h.2 hbb.1 hbb.2;exact .inr ⟨h.1,h.2,hr.edge_len h.1 h.2,f1.1,f1.2,f2.1,f2.2,hr.best_len f1.1 f1.2⟩
 simp only[at2] at b1 b2 hE l5;refine af.cutX ?_;refine g_n Tryz.func157 rfl Tryz.results157 Tryz.ntmps157 ?_;refine g_s fun K hK=>?_;refine g_h ?_;refine hK _ _ ?_;clear hK K;refine g_0 2 rfl ?_;refine g_0 3 rfl ?_
 (repeat' (first|(refine g_s fun K hK=>?_)|(refine g_b ?_)|(refine g_k ?_;simp only[ah,ae])|(refine g_C (fun h=>?_) (fun h=>?_)<;>(try exact g_f))|((first|refine g_t ?_|refine g_g ?_|refine g_U ?_);(try refine g_y ?_))|(refine hK _ _ ?_;clear hK K)|(with_reducible refine ak (fun h=>?_) (fun h=>?_)<;>(try simp only[go_sem] at h)<;>(try exact g_f)<;>(try refine g_y ?_))|(with_reducible refine And.intro ?_ ?_;· exact g_x)|exact trivial|fail))
 all_goals clear hE hr hb b1 b2 hl ha hbb hc l1 l2 l3 l4 l5
 all_goals (try (refine ax rfl ?_;try simp [ct,at2,Bool.beq_eq_decide_eq,bne, *]))
 all_goals (try exact decide_eq_decide.2 Iff.rfl)
end Go.Proofs.YtephecognbbaoaaGreat
