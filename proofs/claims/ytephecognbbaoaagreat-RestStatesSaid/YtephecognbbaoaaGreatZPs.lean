/- Arguments that came in, as abstract values. -/
import Derived.Test.YtephecognbbaoaaGreatZFz
import Derived.SizedLaws
import Derived.Test.YtephecognbbaoaaGreatZLo
import Derived.Test.YtephecognbbaoaaGreatZSy
import Derived.Laws.Strings2
import Derived.Test.YtephecognbbaoaaGreatZAb
open Go
set_option linter.all false
set_option maxRecDepth 100000
set_option maxHeartbeats 4000000
namespace Go.Proofs.YtephecognbbaoaaGreat
open Go
set_option linter.all false
def aP (P:Program) (W:World) (t:TypeId) {X:Type} (f:X→List AV) (Q:X→Prop):Prop:=
 ∀(H:Type) (enc:TypeId×Value→H) (fuel:Nat) (cs:List Value) (d:DataW H) (ps:List MemPlace),DataW.trod enc P W 0 (fun _=>true) true fuel t cs=some (d,ps) →
  (∀n∈d.weights P t,n≤reachBytes)→∃x,bK (fun b=>W.heap[b]?) (fun _=>none) cs (f x)∧Q x
def cL (P:Program) (W:World) (B:Nat) (t:TypeId) {X:Type} (f:X→List AV) (Q:X→Prop):Prop:=
 ∀(H:Type) (enc:TypeId×Value→H) (fuel:Nat) (cs:List Value) (d:DataW H) (ps:List MemPlace),fuel<B→DataW.trod enc P W 0 (fun _=>true) true fuel t cs=some (d,ps) →
  (∀n∈d.weights P t,n≤reachBytes)→∃x,bK (fun b=>W.heap[b]?) (fun _=>none) cs (f x)∧Q x
section
variable {P:Program} {W:World} {t e:TypeId}
theorem aP.toB {X:Type} {f:X→List AV} {Q:X→Prop} (h:aP P W t f Q) (B:Nat):cL P W B t f Q:=fun H enc fuel cs d ps _=>h H enc fuel cs d ps
theorem aP.ofB {X:Type} {f:X→List AV} {Q:X→Prop} (h:∀B,cL P W B t f Q):aP P W t f Q:=fun H enc fuel cs d ps=>h (fuel+1) H enc fuel cs d ps (Nat.lt_succ_self _)
theorem cL.less {X:Type} {f:X→List AV} {Q:X→Prop} {B B':Nat} (hB:B'≤B) (h:cL P W B t f Q):cL P W B' t f Q:=fun H enc fuel cs d ps hf=>h H enc fuel cs d ps (by omega)
theorem cL.zero {X:Type} {f:X→List AV} {Q:X→Prop} : cL P W 0 t f Q:=fun H enc fuel cs d ps hf=>absurd hf (by omega)
theorem bK.one {imm:Imm} {m:Own} {v:Value} {a:AV} (h:Rep imm m v a):bK imm m [v] [a]:=⟨rfl,fun i h1 h2=>by
 obtain rfl:i=0:=by simp at h1;omega
 exact h⟩
theorem aP.int (hu:P.underlying t=some (.int .i64)):aP P W t (fun n:Int=>[.c (.int .i64 n)]) I64:=by
 intro H enc fuel cs d ps h _
 cases fuel with
 | zero=>cases h
 | succ fuel=>
  unfold DataW.trod at h;rw[hu] at h
  split at h<;>(try cases h;done)<;>rename_i heq<;>(try cases heq;done)
  all_goals first|(exfalso;simp at heq;done)|skip
  ·cases heq
   split at h
   ·rename_i hc
    obtain⟨rfl,hw⟩:=hc;refine⟨_,.one (.c _),?_⟩;have:=hw;simp [Lit.wf,IntKind.min,IntKind.max,IntKind.bits,IntKind.signed] at this;unfold I64;omega
   ·cases h
theorem aP.bool (hu:P.underlying t=some .bool):aP P W t (fun b:Bool=>[.c (.bool b)]) (fun _=>True):=by
 intro H enc fuel cs d ps h _
 cases fuel with
 | zero=>cases h
 | succ fuel=>
  unfold DataW.trod at h;rw[hu] at h
  split at h<;>(try cases h;done)<;>rename_i heq<;>(try cases heq;done)
  all_goals first|(exfalso;simp at heq;done)|skip
  ·cases heq
   exact⟨_,.one (.c _),trivial⟩
theorem aP.string (hu:P.underlying t=some .string):aP P W t (fun s:ByteArray=>[.c (.string s)]) (fun s=>s.size≤reachBytes):=by
 intro H enc fuel cs d ps h hw
 cases fuel with
 | zero=>cases h
 | succ fuel=>
  unfold DataW.trod at h;rw[hu] at h
  split at h<;>(try cases h;done)<;>rename_i heq<;>(try cases heq;done)
  all_goals first|(exfalso;simp at heq;done)|skip
  ·cases heq
   split at h
   ·cases h
    rename_i s _
    refine⟨s,.one (.c _),?_⟩;have:=hw s.data.toList.length (by simp [DataW.weights])
    simpa using this
   ·cases h
theorem rL {α β:Type} {g:α→Option β} : ∀ {l:List α} {r:List β},l.mapM g=some r→r.length=l.length∧∀i (h:i<l.length) (h':i<r.length),g l[i]=some r[i]
 | [],r,h=>by simp at h;subst h;exact⟨rfl,fun i h=>by simp at h⟩
 | a::l,r,h=>by
  simp only[List.mapM_cons,Option.bind_eq_bind,Option.bind_eq_some_iff,Option.pure_def,Option.some.injEq] at h;obtain⟨b,hb,r',hr',rfl⟩:=h;obtain⟨h1,h2⟩:=rL hr';refine⟨by simp [h1],fun i hi hi'=>?_⟩
  cases i with
  | zero=>exact hb
  | succ i=>
   simp only[List.getElem_cons_succ];exact h2 i (by simpa using hi) (by simpa using hi')
theorem pf {H:Type} {e:TypeId} : ∀(l:List (DataW H)) (i:Nat) (h:i<l.length) (n:Nat),n∈l[i].weights P e→n∈DataW.weightsAll P e l
 | d::r,0,h,n,hn=>by simp only[DataW.weightsAll,List.mem_append];exact .inl hn
 | d::r,i+1,h,n,hn=>by
  simp only[DataW.weightsAll,List.mem_append];exact .inr (pf r i (by simpa using h) n hn)
theorem cells?_spec {base n:Nat} {a:Addr} {cs:List Value} (h:W.cells? base a n=some cs):cs.length=n∧∀j (hj:j<cs.length),W.cell? (a.add j)=some cs[j]:=by
 unfold World.cells? at h
 split at h
 ·obtain⟨h1,h2⟩:=rL h;refine⟨by simpa using h1,fun j hj=>?_⟩
  have:=h2 j (by simp at h1 ⊢;omega) hj
  simpa using this
 ·cases h
theorem cL.slice {B:Nat} {X:Type} {f:X→List AV} {Q:X→Prop} {k:Nat} (hu:P.underlying t=some (.slice e)) (hk:P.cellsOf e=k) (hk0:0<k) (hf:∀x,(f x).length=k) (he:cL P W B e f Q) :
  cL P W (B+1) t (fun l:List X=>[.sl (l.map f)]) (fun l=>(∀x∈l,Q x)∧l.length*P.bytesOf e≤reachBytes):=by
 intro H enc fuel cs d ps hB h hw
 cases fuel with
 | zero=>cases h
 | succ fuel=>
  unfold DataW.trod at h;rw[hu] at h
  split at h<;>(try cases h;done)<;>rename_i heq<;>(try cases heq;done)
  all_goals first|(exfalso;simp at heq;done)|skip
  ·exact⟨[],.one (.sl none 0 0 [] 0 (fun _ _=>undef) rfl (Nat.le_refl _) (fun i hi=>by simp at hi) (fun h=>by simp at h) (fun i hi=>by simp at hi)),fun x hx=>by simp at hx,by simp⟩
  ·cases heq
   rename_i a len cap
   split at h
   ·rename_i hc
    obtain⟨_,hlc,hcm⟩:=hc;simp only[Option.bind_eq_some_iff,Option.map_eq_some_iff] at h;obtain⟨elems,hel,rest,hrest,hd⟩:=h
    cases hd
    obtain⟨hlen,hget⟩:=rL hel;simp only[List.length_range] at hlen;have hweights:∀i (h':i<elems.length),∀n∈(elems[i].1).weights P e,n≤reachBytes:=fun i h' n hn=>by
     refine hw n ?_;simp only[DataW.weights,hu,List.mem_cons,List.mem_append];refine .inr (.inl ?_);exact pf (elems.map (·.1)) i (by simpa using h') n (by simpa using hn)
    have hread:∀i (h':i<elems.length),∃(cs:List Value) (x:X),cs.length=k∧(∀j (hj:j<cs.length),W.cell? ((a.add (i*k)).add j)=some cs[j])∧bK (fun b=>W.heap[b]?) (fun _=>none) cs (f x)∧Q x:=fun i h'=>by
     have:=hget i (by simp;omega) h'
     simp only[List.getElem_range,Option.bind_eq_some_iff] at this;obtain⟨cs,hcs,htr⟩:=this;obtain⟨h1,h2⟩:=cells?_spec hcs;obtain⟨x,hx,hq⟩:=he H enc fuel cs _ _ (by omega) htr (hweights i h')
     refine⟨cs,x,by rw[h1,hk],fun j hj=>?_,hx,hq⟩
     rw[←hk];exact h2 j hj
    let csOf:Nat→List Value:=fun i=>if h:i<elems.length then (hread i h).choose else []
    have hcs:∀i (h:i<elems.length),∃x,(csOf i).length=k∧(∀j (hj:j<(csOf i).length),W.cell? ((a.add (i*k)).add j)=some (csOf i)[j])∧bK (fun b=>W.heap[b]?) (fun _=>none) (csOf i) (f x)∧Q x:=fun i h=>by
     have:=(hread i h).choose_spec;simp only[csOf,h,dif_pos];exact this
    let xs:List X:=(List.finRange elems.length).map fun i=>(hcs i.1 i.2).choose
    have hxs:∀i (h:i<elems.length),xs[i]'(by simp [xs];exact h)=(hcs i h).choose:=fun i h=>by simp [xs]
    have hxl:xs.length=elems.length:=by simp [xs]
    have hspot:0<elems.length→a.spot=none:=fun h0=>by
     obtain⟨x,h1,h2,_⟩:=hcs 0 h0;have:=h2 0 (by omega)
     simp only[Nat.zero_mul,Addr.add,if_true] at this;unfold World.cell? at this
     split at this
     ·split at this
      ·cases this
      ·rename_i hsp;simpa using hsp
     ·cases this
    refine⟨xs,.one (.sl (some a) cap len _ k (fun i j=>(csOf i).getD j undef) (by simp;omega) hlc (fun i hi=>by simp [hf]) (fun h0=>?_) (fun i hi j hj=>?_)),fun x hx=>?_,?_⟩
    ·simp only[List.length_map] at h0;have hsp:=hspot (by omega)
     obtain⟨b,o,spt⟩:=a;simp only at hsp;subst hsp;refine⟨b,o,rfl,fun i hi j hj=>?_⟩;simp only[List.length_map] at hi;obtain⟨x,h1,h2,_⟩:=hcs i (by omega)
     have:=h2 j (by omega)
     rw[nN,nN] at this;unfold World.cell? at this;unfold d6
     split at this
     ·rename_i c T fr hb
      simp only at hb;simp only[hb];have e1:o+i*k+j=o+(i*k+j):=by omega
      rw[e1] at this;rw[List.getD_eq_getElem?_getD,List.getElem?_eq_getElem (by omega)]
      simpa using this
     ·cases this
    ·simp only[List.length_map] at hi;have hi':i<elems.length:=by omega
     have hsp:=(hcs i hi').choose_spec;have hx:=hxs i hi';simp only[List.getElem_map] at hj ⊢;have hj':j<k:=by rw[hf] at hj;exact hj
     rw[List.getD_eq_getElem?_getD,List.getElem?_eq_getElem (by omega)]
     simp only[hx] at hj ⊢;exact hsp.2.2.1.2 j (by omega) hj
    ·obtain⟨i,hi,rfl⟩:=List.getElem_of_mem hx;rw[hxs i (by omega)]
     exact (hcs i (by omega)).choose_spec.2.2.2
    ·have:=hw ((elems.map (·.1)).length*P.bytesOf e+(rest.map (·.1)).length*P.bytesOf e) (by
      simp only[DataW.weights,hu,List.mem_cons];exact .inl (by rw[Nat.add_mul]))
     simp only[List.length_map] at this;rw[hxl];omega
   ·cases h
theorem aP.slice {X:Type} {f:X→List AV} {Q:X→Prop} {k:Nat} (hu:P.underlying t=some (.slice e)) (hk:P.cellsOf e=k) (hk0:0<k) (hf:∀x,(f x).length=k) (he:aP P W e f Q) :
  aP P W t (fun l:List X=>[.sl (l.map f)]) (fun l=>(∀x∈l,Q x)∧l.length*P.bytesOf e≤reachBytes):=
 .ofB fun B=>(cL.slice hu hk hk0 hf (he.toB B)).less (by omega)
theorem cL.map {B:Nat} {X Y:Type} {f:X→List AV} {Q:X→Prop} {g:Y→List AV} {R:Y→Prop} (to:X→Y) (hg:∀x,g (to x)=f x) (hR:∀x,Q x→R (to x)) (h:cL P W B t f Q):cL P W B t g R:=
 fun H enc fuel cs d ps hB h1 h2=>let ⟨x,r,q⟩:=h H enc fuel cs d ps hB h1 h2;⟨to x,by rw[hg];exact r,hR x q⟩
theorem aP.map {X Y:Type} {f:X→List AV} {Q:X→Prop} {g:Y→List AV} {R:Y→Prop} (to:X→Y) (hg:∀x,g (to x)=f x) (hR:∀x,Q x→R (to x)) (h:aP P W t f Q):aP P W t g R:=
 fun H enc fuel cs d ps h1 h2=>let ⟨x,r,q⟩:=h H enc fuel cs d ps h1 h2;⟨to x,by rw[hg];exact r,hR x q⟩
def eo (P:Program) (W:World) (B:Nat) (fs:List Field) (o:Nat) {X:Type} (f:X→List AV) (Q:X→Prop) (n:Nat):Prop:=
 ∀(H:Type) (enc:TypeId×Value→H) (fuel:Nat) (cs:List Value) (xs:List (DataW H×List MemPlace)),fuel<B→(fs.mapM fun f=>DataW.trod enc P W 0 (fun _=>true) true fuel f.type ((cs.drop f.offset).take (P.cellsOf f.type)))=some xs →
  (∀n∈DataW.weightsEach P (fs.map (·.type)) (xs.map (·.1)),n≤reachBytes)→cs.length=o+n→∃x,bK (fun b=>W.heap[b]?) (fun _=>none) (cs.drop o) (f x)∧Q x
def bR (P:Program) (W:World) (fs:List Field) (o:Nat) {X:Type} (f:X→List AV) (Q:X→Prop) (n:Nat):Prop:=∀B,eo P W B fs o f Q n
theorem eo.nil {B o:Nat} : eo P W B [] o (fun _:Unit=>[]) (fun _=>True) 0:=by
 intro H enc fuel cs xs _ _ _ hl;exact⟨(),⟨by simp;omega,fun i h1 h2=>by simp at h2⟩,trivial⟩
theorem bR.nil {o:Nat} : bR P W [] o (fun _:Unit=>[]) (fun _=>True) 0:=fun _=>eo.nil
theorem eo.cons {B:Nat} {fd:Field} {fs:List Field} {o k n:Nat} {X Y:Type} {f:X→List AV} {Q:X→Prop} {g:Y→List AV} {R:Y→Prop} (ho:fd.offset=o) (hk:P.cellsOf fd.type=k)
  (h1:cL P W B fd.type f Q) (h2:eo P W B fs (o+k) g R n):eo P W B (fd::fs) o (fun p:X×Y=>f p.1++g p.2) (fun p=>Q p.1∧R p.2) (k+n):=by
 intro H enc fuel cs xs hB hm hw hl;simp only[List.mapM_cons,Option.bind_eq_bind,Option.bind_eq_some_iff,Option.pure_def,Option.some.injEq] at hm;obtain⟨⟨d,ps⟩,hd,xs',hxs,rfl⟩:=hm;have hw1:∀n∈d.weights P fd.type,n≤reachBytes:=fun n hn=>hw n (by simp only[List.map_cons,DataW.weightsEach,List.mem_append];exact .inl hn)
 have hw2:∀n∈DataW.weightsEach P (fs.map (·.type)) (xs'.map (·.1)),n≤reachBytes:=fun n hn=>hw n (by simp only[List.map_cons,DataW.weightsEach,List.mem_append];exact .inr hn)
 obtain⟨x,hx,qx⟩:=h1 H enc fuel _ d ps hB hd hw1;obtain⟨y,hy,qy⟩:=h2 H enc fuel cs xs' hB hxs hw2 (by omega)
 refine⟨(x,y),?_,qx,qy⟩;have e:cs.drop o=(cs.drop fd.offset).take (P.cellsOf fd.type)++cs.drop (o+k):=by
  rw[ho,hk,←List.drop_drop,List.take_append_drop]
 rw[e];exact hx.append hy
theorem bR.cons {fd:Field} {fs:List Field} {o k n:Nat} {X Y:Type} {f:X→List AV} {Q:X→Prop} {g:Y→List AV} {R:Y→Prop} (ho:fd.offset=o) (hk:P.cellsOf fd.type=k)
  (h1:aP P W fd.type f Q) (h2:bR P W fs (o+k) g R n):bR P W (fd::fs) o (fun p:X×Y=>f p.1++g p.2) (fun p=>Q p.1∧R p.2) (k+n):=fun B=>.cons ho hk (h1.toB B) (h2 B)
theorem cL.struct {B:Nat} {fs:Array Field} {X:Type} {f:X→List AV} {Q:X→Prop} {n:Nat} (hu:P.underlying t=some (.struct fs)) (hn:P.cellsOf t=n) (h:eo P W B fs.toList 0 f Q n):cL P W (B+1) t f Q:=by
 intro H enc fuel cs d ps hB ht hw
 cases fuel with
 | zero=>cases ht
 | succ fuel=>
  simp only[DataW.trod,hu] at ht
  split at ht
  ·rename_i hl
   obtain⟨xs,hxs,hd⟩:=Option.map_eq_some_iff.1 ht
   cases hd
   obtain⟨x,hx,q⟩:=h H enc fuel _ xs (by omega) hxs (fun n hn=>hw n (by simp only[DataW.weights,hu];exact hn)) (by omega)
   exact⟨x,by simpa using hx,q⟩
  ·cases ht
theorem aP.struct {fs:Array Field} {X:Type} {f:X→List AV} {Q:X→Prop} {n:Nat} (hu:P.underlying t=some (.struct fs)) (hn:P.cellsOf t=n) (h:bR P W fs.toList 0 f Q n):aP P W t f Q:=
 .ofB fun B=>(cL.struct hu hn (h B)).less (by omega)
theorem Ck {f:FuncId} {avs:List AV} {vs:List Value} (h:af P f avs [] fun r _=>r = .c (.bool true)) (hv:bK (fun b=>W.heap[b]?) (fun _=>none) vs avs) :
  Calls P f vs.toArray W fun e W'=>e = .returned (.bool true)∧RowKit.Below W.heap.size W W':=by
 have hs:Sim W (fun b=>W.heap[b]?) (fun _=>none) W []:=⟨rfl,rfl,rfl,Nat.le_refl _,fun _ _ h=>h,fun _ _=>rfl,fun id h=>by simp at h,fun i j hi=>by simp at hi⟩
 refine (h W _ _ W vs hs hv).mono ?_;rintro e W' ⟨imm',m',v,r,σ',rfl,hi,_,hs',hr,rfl⟩;rw[hr.c_inv];refine⟨rfl,hs'.os,hs'.tape,hs'.output,hs'.size,fun k hk=>?_⟩;have:=hs'.imm_ok k _ (hi k _ (Array.getElem?_eq_getElem hk));rw[this,Array.getElem?_eq_getElem hk]
theorem aP.arg {X:Type} {f:X→AV} {Q:X→Prop} {H:Type} {enc:TypeId×Value→H} {v:Value} {d:DataW H} {ps:List MemPlace} (h:aP P W t (fun x=>[f x]) Q) (hr:DataW.Trod enc P W 0 (fun _=>true) true t v d ps)
  (hv:v.cells.toList=[v]) (hw:∀n∈d.weights P t,n≤reachBytes):∃x,Rep (fun b=>W.heap[b]?) (fun _=>none) v (f x)∧Q x:=by
 obtain⟨fuel,hf⟩:=hr;rw[hv] at hf;obtain⟨x,hx,q⟩:=h H enc fuel _ d ps hf hw;exact⟨x,by simpa using hx.2 0 (by simp) (by simp),q⟩
theorem aP.argS {X:Type} {f:X→List AV} {Q:X→Prop} {H:Type} {enc:TypeId×Value→H} {cs:Array Value} {d:DataW H} {ps:List MemPlace} (h:aP P W t f Q) (hr:DataW.Trod enc P W 0 (fun _=>true) true t (.agg cs) d ps)
  (hw:∀n∈d.weights P t,n≤reachBytes):∃x,Rep (fun b=>W.heap[b]?) (fun _=>none) (.agg cs) (.agg (f x))∧Q x:=by
 obtain⟨fuel,hf⟩:=hr;obtain⟨x,hx,q⟩:=h H enc fuel _ d ps hf hw;refine⟨x,?_,q⟩;have:cs=cs.toList.toArray:=by simp
 rw[this];exact .agg _ _ hx.1 hx.2
end
end Go.Proofs.YtephecognbbaoaaGreat
namespace Go.Proofs.YtephecognbbaoaaGreat
def c8 (n:Int):List Int→Int
 | []=>n
 | c::l=>c8 ((n*31+c) % 65521) l
theorem pq:∀(l:List Int) (n:Int),0≤n→n<65521→0≤c8 n l∧c8 n l<65521
 | [],n,h,h'=>⟨h,h'⟩
 | c::l,n,h,h'=>pq l _ (by omega) (by omega)
def de (n:Int):Bool:=decide (0≤n)&&decide (n≤250)
theorem wc (n:Int):de n=true↔0≤n∧n≤250:=by simp [de]
structure fS where
 fr:Int
 dst:Int
 routes:List Int
deriving DecidableEq
def bz (p:fS):List Int×Int:=
 if (p.fr::p.dst::p.routes).any fun n => !de n then ([],3)
 else if 54<p.routes.length then ([],2)
 else
  let b:=[83,p.fr,p.dst,(p.routes.length:Int)]++p.routes
  (b++[c8 1 b / 256,c8 1 b % 256],0)
def cE (s:List Int):fS:=⟨at0 s 1,at0 s 2,(s.take (s.length-2)).drop 4⟩
def bm (s:List Int):fS×Int:=
 if 60<s.length then (⟨0,0,[]⟩,2)
 else if s.length<6∨at0 s 3≠s.length-6 then (⟨0,0,[]⟩,1)
 else if (bz (cE s)).2≠0∨(bz (cE s)).1≠s then (⟨0,0,[]⟩,1)
 else (cE s,0)
def dP (s:List Int):fS×Int:=
 if 60<s.length then (⟨0,0,[]⟩,2)
 else if s.length<6∨at0 s 0≠83∨at0 s 3≠s.length-6∨250<at0 s 1∨250<at0 s 2 then (⟨0,0,[]⟩,1)
 else if ((s.take (s.length-2)).drop 4).any (fun c=>decide (250<c)) then (⟨0,0,[]⟩,1)
 else if c8 1 (s.take (s.length-2))≠256*at0 s (s.length-2)+at0 s (s.length-1) then (⟨0,0,[]⟩,1)
 else (cE s,0)
theorem xG (s:List Int) (h:6≤s.length):s=at0 s 0::at0 s 1::at0 s 2::at0 s 3::((s.take (s.length-2)).drop 4++[at0 s (s.length-2),at0 s (s.length-1)]):=by
 have e1:s=s.take (s.length-2)++s.drop (s.length-2):=(List.take_append_drop _ _).symm;have e2:s.drop (s.length-2)=[at0 s (s.length-2),at0 s (s.length-1)]:=by
  have d1:((s.length:Int)-2).toNat=s.length-2:=by omega
  have:=vw s (k:=(s.length:Int)-2) (by omega) (by omega)
  rw[d1] at this;rw[this]
  congr 1
  have e:((s.length:Int)-2+1)=s.length-1:=by omega
  rw[e,vw s (k:=(s.length:Int)-1) (by omega) (by omega)]
  congr 1
  exact List.drop_of_length_le (by omega)
 obtain⟨a,b,c,d,r,rfl⟩:∃a b c d r,s=a::b::c::d::r:=by
  match s,h with
  | a::b::c::d::r,_=>exact⟨a,b,c,d,r,rfl⟩
 have e3:(a::b::c::d::r).take ((a::b::c::d::r).length-2)=a::b::c::d::r.take (r.length-2):=by
  simp only[List.length_cons] at h ⊢;have:r.length+1+1+1+1-2=r.length-2+1+1+1+1:=by omega
  rw[this];simp
 rw[e2,e3] at e1;rw[e3];exact e1
theorem ED (s:List Int) (hb:∀c∈s,0≤c∧c≤255):bm s=dP s:=by
 unfold bm dP
 by_cases h1:60<s.length
 ·simp [h1]
 rw[if_neg h1,if_neg h1]
 by_cases h2:s.length<6
 ·rw[if_pos (.inl h2),if_pos (.inl h2)]
 by_cases h3:at0 s 3≠s.length-6
 ·rw[if_pos (.inr h3),if_pos (.inr (.inr (.inl h3)))]
 rw[if_neg (by intro h;rcases h with h|h;exact h2 h;exact h3 h)]
 have h3':at0 s 3=s.length-6:=by omega
 have hs:=xG s (by omega)
 have hw:∀k:Int,0≤k→k<s.length→0≤at0 s k∧at0 s k≤255:=fun k h h'=>hb _ (aA s h h');have r1:=hw 1 (by omega) (by omega)
 have r2:=hw 2 (by omega) (by omega)
 have re:=hw (s.length-1) (by omega) (by omega)
 have rd:=hw (s.length-2) (by omega) (by omega)
 have hm:∀c∈(s.take (s.length-2)).drop 4,0≤c∧c≤255:=fun c hc=>hb c (List.mem_of_mem_take (List.mem_of_mem_drop hc));have hml:((s.take (s.length-2)).drop 4).length=s.length-6:=by simp;omega
 have hany:((cE s).fr::(cE s).dst::(cE s).routes).any (fun n => !de n)=(decide (250<at0 s 1)||(decide (250<at0 s 2)||((s.take (s.length-2)).drop 4).any fun c=>decide (250<c))):=by
  have e:∀c:Int,0≤c→(!de c)=decide (250<c):=fun c hc=>by
   by_cases h:250<c
   ·simp [de,h,show ¬c≤250 by omega]
   ·simp [de,hc,h,show c≤250 by omega]
  simp only[cE,List.any_cons,e _ r1.1,e _ r2.1]
  congr 2
  apply List.any_eq.trans;rw[List.any_eq];refine decide_eq_decide.2 ?_
  constructor
  ·rintro ⟨x,hx,h⟩;exact⟨x,hx,by rw[←e x (hm x hx).1];exact h⟩
  ·rintro ⟨x,hx,h⟩;exact⟨x,hx,by rw[e x (hm x hx).1];exact h⟩
 by_cases h4:250<at0 s 1∨250<at0 s 2
 ·rw[if_pos,if_pos]
  ·rcases h4 with h|h
   ·exact .inr (.inr (.inr (.inl h)))
   ·exact .inr (.inr (.inr (.inr h)))
  ·refine .inl ?_;rw[bz,hany]
   rcases h4 with h|h<;>simp [h]
 rw[not_or] at h4
 by_cases h5:(((s.take (s.length-2)).drop 4).any fun c=>decide (250<c))=true
 ·rw[if_pos]
  ·by_cases h6:s.length<6∨at0 s 0≠83∨at0 s 3≠s.length-6∨250<at0 s 1∨250<at0 s 2
   ·rw[if_pos h6]
   ·rw[if_neg h6,if_pos h5]
  ·refine .inl ?_;rw[bz,hany];simp [h5]
 have hwr:bz (cE s)=([83,at0 s 1,at0 s 2,at0 s 3]++(s.take (s.length-2)).drop 4++[c8 1 ([83,at0 s 1,at0 s 2,at0 s 3]++(s.take (s.length-2)).drop 4) / 256,c8 1 ([83,at0 s 1,at0 s 2,at0 s 3]++(s.take (s.length-2)).drop 4) % 256],0):=by
  have hl:((cE s).routes.length:Int)=at0 s 3:=by
   show ((((s.take (s.length-2)).drop 4).length:Nat):Int)=_;rw[hml];omega
  rw[bz,hany,if_neg (by simp [h4,h5]),if_neg (by show ¬54<((s.take (s.length-2)).drop 4).length;omega)]
  simp only[hl];rfl
 rw[hwr];have htake:s.take (s.length-2)=at0 s 0::at0 s 1::at0 s 2::at0 s 3::(s.take (s.length-2)).drop 4:=by
  have e3:∀(l:List Int) (a b c d x y:Int),(a::b::c::d::(l++[x,y])).take ((a::b::c::d::(l++[x,y])).length-2)=a::b::c::d::l:=by
   intro l a b c d x y;have:(a::b::c::d::(l++[x,y])).length-2=l.length+1+1+1+1:=by simp
   rw[this];simp
  have:=e3 ((s.take (s.length-2)).drop 4) (at0 s 0) (at0 s 1) (at0 s 2) (at0 s 3) (at0 s (s.length-2)) (at0 s (s.length-1));rw[←hs] at this;exact this
 by_cases h0:at0 s 0=83
 ·rw[if_neg (show ¬(s.length<6∨at0 s 0≠83∨at0 s 3≠s.length-6∨250<at0 s 1∨250<at0 s 2) by omega),if_neg h5]
  have hb1:=pq (s.take (s.length-2)) 1 (by omega) (by omega)
  have e4:[83,at0 s 1,at0 s 2,at0 s 3]++(s.take (s.length-2)).drop 4=s.take (s.length-2):=by
   rw[←h0];exact htake.symm
  rw[e4];have e5:s=s.take (s.length-2)++[at0 s (s.length-2),at0 s (s.length-1)]:=by
   conv=>rhs;rw[htake]
   exact hs
  by_cases h6:c8 1 (s.take (s.length-2))=256*at0 s (s.length-2)+at0 s (s.length-1)
  ·rw[if_neg,if_neg (by simpa using h6)]
   simp only[ne_eq,not_true_eq_false,false_or,Decidable.not_not]
   conv=>rhs;rw[e5]
   congr 2
   ·omega
   ·congr 1
    omega
  ·rw[if_pos,if_pos h6];refine .inr fun h=>h6 ?_;have h':s.take (s.length-2)++[c8 1 (s.take (s.length-2)) / 256,c8 1 (s.take (s.length-2)) % 256]=s.take (s.length-2)++[at0 s (s.length-2),at0 s (s.length-1)]:=by rw[←e5];exact h
   have:=List.append_cancel_left h';simp only[List.cons.injEq,and_true] at this;omega
 ·rw[if_pos,if_pos (.inr (.inl h0))];refine .inr fun h=>h0 ?_;rw[←h];rfl
theorem vN {p:fS} (h:(bz p).2=0):(∀c∈p.fr::p.dst::p.routes,0≤c∧c≤250)∧p.routes.length≤54 ∧
  (bz p).1=83::p.fr::p.dst::(p.routes.length:Int)::(p.routes++[c8 1 (83::p.fr::p.dst::(p.routes.length:Int)::p.routes) / 256,c8 1 (83::p.fr::p.dst::(p.routes.length:Int)::p.routes) % 256]):=by
 unfold bz at h ⊢
 split at h
 ·cases h
 rename_i h1
 split at h
 ·cases h
 rename_i h2
 rw[if_neg h1,if_neg h2];refine⟨fun c hc=>?_,by omega,rfl⟩
 rw[←wc];simp only[Bool.not_eq_true,List.any_eq_false,Bool.not_eq_true,Bool.not_eq_false',Bool.not_eq_eq_eq_not,Bool.not_true,Bool.not_false] at h1
 simpa using h1 c hc
theorem rf {p:fS} (h:(bz p).2=0):∀c∈(bz p).1,0≤c∧c≤255:=by
 obtain⟨h1,h2,h3⟩:=vN h;rw[h3];have:=pq (83::p.fr::p.dst::(p.routes.length:Int)::p.routes) 1 (by omega) (by omega)
 intro c hc;simp only[List.mem_cons,List.mem_append,List.not_mem_nil,or_false] at hc
 rcases hc with rfl|rfl|rfl|rfl|hc|rfl|rfl
 ·omega
 ·have:=h1 p.fr (by simp);omega
 ·have:=h1 p.dst (by simp);omega
 ·omega
 ·have:=h1 c (by simp [hc]);omega
 ·omega
 ·omega
theorem ws {p:fS} (h:(bz p).2=0):(bz p).1.length=p.routes.length+6:=by
 rw[(vN h).2.2];simp
end Go.Proofs.YtephecognbbaoaaGreat
namespace Go.Proofs.YtephecognbbaoaaGreat
theorem BL (l:List Int) (hl:l.length≤1000) (hb:∀c∈l,0≤c∧c≤255) (σ:aa):af Tryz.prog 126 [yJ l] σ fun r σ'=>σ'=σ∧r=ab (c8 1 l):=by
 refine g_n Tryz.func126 rfl Tryz.results126 Tryz.ntmps126 ?_
 (repeat' (first|(refine g_s fun K hK=>?_)|(refine g_b ?_)|(refine g_g ?_;(try refine g_y ?_))|(refine hK _ _ ?_;clear hK K)|exact trivial|fail))
 refine ay l (fun _ r s=>c8 1 l=c8 s r∧0≤s∧s<65521) (fun k s _=>[(3,ab s),(8,ab k)]) (fun _ _ _=>σ) 1 [] ?_ ?_ (ai ?_) ?_ ?_
 ·simp
 ·rfl
 ·exact g_w
 ·rintro k r s τ hk0 hk1 ⟨h1,h2,h3⟩ L hL;have hc:=hb _ (aA l hk0 hk1);simp -implicitDefEqProofs only[go_sem]
  (repeat' (first|(refine g_s fun K hK=>?_)|(refine g_b ?_)|(refine g_k ?_;simp only[ah,ae])|(refine g_C (fun h=>?_) (fun h=>?_)<;>(try exact g_f))|(refine g_g ?_;(try refine g_y ?_))|(refine hK _ _ ?_;clear hK K)|(with_reducible refine And.intro ?_ ?_;· exact g_x)|exact trivial|fail))
  refine hL ((s*31+at0 l k) % 65521) [] _ _ ⟨by rw[h1,c8],by omega,by omega⟩ (ai ?_) rfl
  simp -implicitDefEqProofs only[go_sem];rw[Int.tmod_eq_emod_of_nonneg (by omega)]
 ·rintro k s τ hk ⟨h1,h2,h3⟩ L;simp -implicitDefEqProofs only[go_sem]
  (repeat' (first|(refine g_s fun K hK=>?_)|(refine g_e ?_;simp only[ah,ae,↓reduceIte,Nat.reduceEqDiff])|(refine g_C (fun h=>?_) (fun h=>?_)<;>(try exact g_f))|((first|refine g_t ?_|refine g_g ?_);(try refine g_y ?_))|(refine hK _ _ ?_;clear hK K)|(clear hK K;first|(refine hK _ _ ?_;clear hK K)|(clear hK K;with_reducible refine hK _ _ ?_;clear hK K)|(clear hK K;clear hK K;with_reducible refine hK _ _ ?_;clear hK K))|exact trivial|fail))
  rw[h1,c8]
theorem mV (n:Int) (r:List (List AV)):dZ ([.c (.int .u8 n)]::r)=(dZ r).map fun l=>n::l:=rfl
theorem vW:dZ []=some []:=rfl
theorem vY {e:List AV} (h:∀n,e≠[.c (.int .u8 n)]) (r:List (List AV)):dZ (e::r)=none:=by
 unfold dZ
 split
 ·rename_i h';cases h'
 ·rename_i n r' h'
  cases h'
  exact (h _ rfl).elim
 ·rfl
theorem rK:∀(a b:List (List AV)),dZ (a++b)=(dZ a).bind fun x=>(dZ b).map fun y=>x++y
 | [],b=>by simp [dZ]
 | e::r,b=>by
  rw[List.cons_append];have ih:=rK r b
  by_cases h:∃n,e=[.c (.int .u8 n)]
  ·obtain⟨n,rfl⟩:=h;rw[mV,mV,ih]
   cases dZ r<;>cases dZ b<;>rfl
  ·have h':∀n,e≠[.c (.int .u8 n)]:=fun n e=>h ⟨n,e⟩;rw[vY h',vY h'];rfl
theorem vX:∀(l:List Int),dZ (l.map fun c=>[.c (.int .u8 c)])=some l
 | []=>rfl
 | c::l=>by simp [dZ,vX l]
theorem iX {x:Int} (h:0≤x) (h':x≤255):IntKind.u8.wrap x=x:=by
 have e:(2:Int) ^ IntKind.u8.bits=256:=rfl;have e2:IntKind.u8.signed=false:=rfl;simp only[IntKind.wrap,e,e2,Bool.false_and,if_false,Bool.false_eq_true];omega
theorem BG (x:Int):IntKind.u8.wrap x=x % 256:=by
 have e:(2:Int) ^ IntKind.u8.bits=256:=rfl;have e2:IntKind.u8.signed=false:=rfl;simp only[IntKind.wrap,e,e2,Bool.false_and,if_false,Bool.false_eq_true]
theorem Ew {x:Int} (h:0≤x) (h':x<65536):IntKind.u8.wrap (x.fdiv (2 ^ min 8 64))=x / 256:=by
 have e:(2:Int) ^ min 8 64=256:=rfl;rw[e,Int.fdiv_eq_ediv_of_nonneg _ (by omega),iX (by omega) (by omega)]
theorem sQ (l:List Int):dZ (l.map fm)=some l:=vX l
theorem EA (l:List Int) (hl:l.length≤1000) (hb:∀c∈l,0≤c∧c≤255) (σ:aa) {b n c:Nat} (he:bO σ (.own b 1 0 n c)=some (l.map fm)) :
  af Tryz.prog 126 [.own b 1 0 n c] σ fun r σ'=>σ'=σ∧r=ab (c8 1 l):=by
 refine (af.borrow (args:=[.own b 1 0 n c]) (args':=[yJ l]) (R:=fun v=>v = .int .i64 (c8 1 l)) (And.intro (.inr ⟨_,he,rfl⟩) trivial) fun τ=>?_).mono ?_
 ·exact (BL l hl hb τ).mono fun _ _ ⟨h1,h2⟩=>⟨h1,_,h2,rfl⟩
 ·rintro r σ' ⟨h1,v,rfl,rfl⟩;exact⟨h1,rfl⟩
theorem Be (n:Int) (σ:aa):af Tryz.prog 125 [ab n] σ fun r σ'=>σ'=σ∧r = .c (.bool (de n)):=by
 refine g_n Tryz.func125 rfl Tryz.results125 Tryz.ntmps125 ?_
 (repeat' (first|(refine g_s fun K hK=>?_)|((first|refine g_t ?_|refine g_g ?_);(try refine g_y ?_))|(refine hK _ _ ?_;clear hK K)|(with_reducible refine ak (fun h=>?_) (fun h=>?_)<;>(try simp only[go_sem] at h)<;>(try exact g_f)<;>(try refine g_y ?_))|exact trivial|fail))
 all_goals (simp [de];omega)
theorem xc (n:Int) (σ:aa):af Tryz.prog 124 [ab n] σ fun r σ'=>σ'=σ∧r = .c (.bool (!de n)):=by
 refine g_n Tryz.func124 rfl Tryz.results124 Tryz.ntmps124 ?_
 (repeat' (first|(refine g_s fun K hK=>?_)|((first|refine g_t ?_|refine g_g ?_|refine (Be _ _).use ?_);(try refine g_y ?_))|(refine hK _ _ ?_;clear hK K)|exact trivial|fail))
def m8 (p:fS):List AV:=[.c (.int .i64 p.fr),.c (.int .i64 p.dst),aF p.routes]
attribute [go_sem] m8
theorem oB (p:fS) (hl:p.routes.length≤17592186044000) (σ:aa):af Tryz.prog 91 [.agg (m8 p)] σ fun r σ'=>σ'=σ∧r = .tup [.c (.string (strOfNums (bz p).1)),.c (.int .i64 (bz p).2)]:=by
 refine af.cut ?_;refine g_n Tryz.func91 rfl Tryz.results91 Tryz.ntmps91 ?_;refine g_s fun K hK=>?_;refine g_h ?_;refine hK _ _ ?_;clear hK K;refine g_0 1 rfl ?_;refine CT (ι:=aa) (fun _=>[(1,.cp (m8 p) 0),(2,.c (.string (strOfNums []))),(3,ab 0),(4,aF (p.fr::p.dst::p.routes))]) (fun τ=>σ++τ) (fun τ=>?_) (fun J hJ hV=>?_)
 ·(repeat' (first|(refine g_s fun K hK=>?_)|(refine g_b ?_)|(refine g_k ?_;simp only[ah,ae])|(refine g_C (fun h=>?_) (fun h=>?_)<;>(try exact g_f))|((first|refine g_t ?_|refine g_g ?_|refine (ir (p.fr::p.dst::p.routes) (fun n => !de n) 124 [] [] (σ++τ) (by simp;omega) (by simp only[go_sem]) (fun x _=>xc x _)).use ?_);(try refine g_y ?_))|(refine hK _ _ ?_;clear hK K)|(with_reducible refine And.intro ?_ ?_;· exact g_x)|exact trivial|fail))
  ·exact⟨bd2 _ _,by simp only[bz,h,if_true];rfl⟩
  ·rename_i h1
   have h:54<p.routes.length:=by omega
   exact⟨bd2 _ _,by simp only[bz,h1,h,if_true,if_false,Bool.false_eq_true];rfl⟩
  ·rename_i h1
   have hfr:0≤p.fr∧p.fr≤250:=by simp [de] at h1;omega
   have hdst:0≤p.dst∧p.dst≤250:=by simp [de] at h1;omega
   have hrt:∀x∈p.routes,0≤x∧x≤250:=by simp [de] at h1;exact h1.2.2
   simp only[iX hfr.1 (by omega:p.fr≤255),iX hdst.1 (by omega:p.dst≤255),iX (by omega:0≤(p.routes.length:Int)) (by omega)]
   have hJ':=hK;clear hK;refine ay p.routes (fun k r bs=>bs++r=[83,p.fr,p.dst,(p.routes.length:Int)]++p.routes∧bs.length=k+4) (fun k bs τ=>[(5,.own (σ.length+τ.length) 1 0 bs.length bs.length),(39,ab k)])
    (fun _ bs τ=>σ++(τ++[.cells 1 (bs.map fm)])) [83,p.fr,p.dst,(p.routes.length:Int)] τ ⟨rfl,rfl⟩ rfl (ai ?_) ?_ ?_
   ·exact g_w
   ·rintro k r bs τ' hk0 hk1 ⟨h2,h3⟩ L hL;have hr:=hrt _ (aA p.routes hk0 hk1);have hw:=iX hr.1 (Int.le_trans hr.2 (by omega))
    simp -implicitDefEqProofs only[go_sem]
    (repeat' (first|(refine g_s fun K hK=>?_)|(refine g_b ?_)|(refine g_k ?_;simp only[ah,ae])|(refine g_C (fun h=>?_) (fun h=>?_)<;>(try exact g_f))|(refine g_g ?_;(try simp -implicitDefEqProofs only[go_sem,hw]))|(refine hK _ _ ?_;clear hK K)|(with_reducible refine And.intro ?_ ?_;· exact g_x)|fail))
    refine hL (bs++[at0 p.routes k]) (τ'++[Ob.dead,Ob.cells 1 [[AV.c (Value.int IntKind.u8 (at0 p.routes k))]]]) _ _ ⟨by rw[←h2];simp,by simp;omega⟩ (ai ?_) (by simp [fm])
    simp -implicitDefEqProofs only[go_sem]
   ·rintro k bs τ' rfl ⟨h2,h3⟩ L;have hbs:∀c∈[83,p.fr,p.dst,(p.routes.length:Int)]++p.routes,0≤c∧c≤255:=fun c hc=>by
     simp only[List.cons_append,List.nil_append,List.mem_cons] at hc
     rcases hc with rfl|rfl|rfl|rfl|hc
     ·omega
     ·omega
     ·omega
     ·omega
     ·have:=hrt c hc;omega
    rw[List.append_nil] at h2;subst h2;simp -implicitDefEqProofs only[go_sem]
    (repeat' (first|(refine g_s fun K hK=>?_)|(refine g_e ?_;simp only[ah,ae,↓reduceIte,Nat.reduceEqDiff])|(refine g_C (fun h=>?_) (fun h=>?_)<;>(try exact g_f))|(refine g_g ?_;(try refine g_y ?_))|(refine hK _ _ ?_;clear hK K)|exact trivial|fail))
    refine hJ' _ _ ?_;clear hJ';have hS:=pq (83::p.fr::p.dst::(p.routes.length:Int)::p.routes) 1 (by omega) (by omega)
    have v1:=Ew hS.1 (by omega)
    have v2:=BG (c8 1 (83::p.fr::p.dst::(p.routes.length:Int)::p.routes))
    (repeat' (first|(refine g_s fun K hK=>?_)|((first|refine g_t ?_|refine g_g ?_|refine (EA _ (by simp;omega) hbs _ (Cu _ _ _ _ (by simp))).use ?_);(try simp -implicitDefEqProofs only[go_sem,rK,sQ,mV,vW,v1,v2]))|(refine hK _ _ ?_;clear hK K)|(with_reducible refine And.intro ?_ ?_;· exact g_x)|fail))
    refine⟨bd2 _ _,?_⟩;rw[bz,h1,if_neg (by simp),if_neg (by omega)]
    simp
 ·refine g_h ?_
  (repeat' (first|(with_reducible refine And.intro ?_ ?_;· exact g_x)|fail))
  refine hJ _ _ (wW 4 rfl (by simp -implicitDefEqProofs only[go_sem];rfl) (by simp<;>omega) ?_)
  simp -implicitDefEqProofs only[go_sem];refine aK.weak (ai ?_) (hV _);simp -implicitDefEqProofs only[go_sem];exact⟨rfl,rfl⟩
end Go.Proofs.YtephecognbbaoaaGreat
namespace Go.Proofs.YtephecognbbaoaaGreat
def dY (s:ByteArray):List Int:=s.data.toList.map fun b=>(b.toNat:Int)
theorem AU (s:ByteArray):s.size=(dY s).length:=by rw[dY,List.length_map];rfl
theorem zB (s:ByteArray):∀c∈dY s,0≤c∧c≤255:=fun c hc=>by
 simp only[dY,List.mem_map] at hc;obtain⟨b,_,rfl⟩:=hc;have:=b.toNat_lt;omega
theorem ry (s:ByteArray):strOfNums (dY s)=s:=by
 have:(dY s).map (fun n=>UInt8.ofNat n.toNat)=s.data.toList:=by
  simp [dY,List.map_map,Function.comp_def]
 unfold strOfNums;rw[this]
theorem vV (l:List Int) (h:∀c∈l,0≤c∧c≤255):dY (strOfNums l)=l:=by
 simp only[dY,strOfNums_data,List.map_map]
 conv=>rhs;rw[←List.map_id l]
 refine List.map_congr_left fun c hc=>?_;have:=h c hc;simp only[Function.comp,id,UInt8.toNat_ofNat'];omega
theorem Az (a b:List Int):strOfNums a++strOfNums b=strOfNums (a++b):=by
 apply ByteArray.ext;simp [strOfNums]
theorem B9 {s t:ByteArray} (h:dY s=dY t):s=t:=by rw[←ry s,h,ry]
theorem dm {l:List Int} (h:∀c∈l,0≤c∧c≤255) (k:Int):0≤at0 l k∧at0 l k≤255:=by
 unfold at0;rw[List.getD_eq_getElem?_getD]
 rcases Nat.lt_or_ge k.toNat l.length with h1|h1
 ·rw[List.getElem?_eq_getElem h1];exact h _ (List.getElem_mem h1)
 ·rw[List.getElem?_eq_none h1];simp [default]
theorem lg {l:List Int} (h:∀c∈l,0≤c∧c≤255) (k:Int):((UInt8.ofNat (at0 l k).toNat).toNat:Int)=at0 l k:=by
 have:=dm h k;simp only[UInt8.toNat_ofNat'];omega
theorem rJ (l:List Int) (k:Int) (K:UInt8→Prop):on (strOfNums l)[k.toNat]? K=(k.toNat<l.length∧K (UInt8.ofNat (at0 l k).toNat)):=by
 rcases Nat.lt_or_ge k.toNat l.length with h|h
 ·have hk':k.toNat<(strOfNums l).size:=by rw[strOfNums_size];exact h
  rw[getElem?_pos (strOfNums l) k.toNat hk'];have e:(strOfNums l)[k.toNat]=UInt8.ofNat (at0 l k).toNat:=by
   have:(strOfNums l)[k.toNat]=(strOfNums l).data.toList[k.toNat]'(by rw[strOfNums_data];simpa using h):=rfl
   rw[this];simp [strOfNums_data,at0,List.getD_eq_getElem?_getD,h]
  rw[e];simp [on,h]
 ·have hn:(strOfNums l)[k.toNat]? = none:=by
   rw[getElem?_neg];rw[strOfNums_size];omega
  rw[hn];exact propext ⟨fun h'=>h'.elim,fun h'=>absurd h'.1 (Nat.not_lt.2 h)⟩
theorem EH (l:List Int) (K:UInt8→Prop):on (strOfNums l)[0]? K=(0<l.length∧K (UInt8.ofNat (at0 l 0).toNat)):=rJ l 0 K
theorem EG (l:List Int) (K:UInt8→Prop):on (strOfNums l)[1]? K=(1<l.length∧K (UInt8.ofNat (at0 l 1).toNat)):=rJ l 1 K
theorem EF (l:List Int) (K:UInt8→Prop):on (strOfNums l)[2]? K=(2<l.length∧K (UInt8.ofNat (at0 l 2).toNat)):=rJ l 2 K
theorem EE (l:List Int) (K:UInt8→Prop):on (strOfNums l)[3]? K=(3<l.length∧K (UInt8.ofNat (at0 l 3).toNat)):=rJ l 3 K
theorem zc (l:List Int) (a b:Nat):(strOfNums l).extract a b=strOfNums ((l.take b).drop a):=by
 apply ByteArray.ext;apply Array.ext';show ((strOfNums l).extract a b).data.toList=(strOfNums ((l.take b).drop a)).data.toList;rw[ByteArray.data_extract,Array.toList_extract,strOfNums_data,strOfNums_data];simp [List.extract_eq_take_drop,List.map_take,List.map_drop,List.drop_take]
theorem rz {l:List Int} (h:∀c∈l,0≤c∧c≤255):((strOfNums l).data.toList.map fun b=>[AV.c (.int .u8 b.toNat)])=l.map fm:=by
 rw[strOfNums_data,List.map_map];refine List.map_congr_left fun c hc=>?_;have:=h c hc;simp only[Function.comp,fm,UInt8.toNat_ofNat']
 congr 3
 omega
theorem E8 (s t:ByteArray):(s.toList==t.toList)=decide (dY s=dY t):=by
 rw[ByteArray.toList_eq,ByteArray.toList_eq]
 by_cases h:dY s=dY t
 ·have:=B9 h;subst this;simp
 ·have h':s.data.toList≠t.data.toList:=fun e=>h (by rw[dY,dY,e])
  simp only[h,decide_false,beq_eq_false_iff_ne,ne_eq];exact h'
theorem Dk {a b:List Int} (ha:∀c∈a,0≤c∧c≤255) (hb:∀c∈b,0≤c∧c≤255):((strOfNums a).toList==(strOfNums b).toList)=decide (a=b):=by
 rw[E8,vV a ha,vV b hb]
theorem BM:ByteArray.empty=strOfNums []:=rfl
theorem Ay:ByteArray.mk #[]=strOfNums []:=rfl
attribute [go_sem] mV vW sQ rK strOfNums_size Az rJ EH EG EF EE zc BM Ay
end Go.Proofs.YtephecognbbaoaaGreat
namespace Go.Proofs.YtephecognbbaoaaGreat
theorem EB {a b:List Int} (ha:∀c∈a,0≤c∧c≤255) (hb:∀c∈b,0≤c∧c≤255):(strOfNums a).toList=(strOfNums b).toList↔a=b:=by
 have:=Dk ha hb
 by_cases h:a=b
 ·simp [h]
 ·simp only[h,decide_false,beq_eq_false_iff_ne,ne_eq,iff_false] at this ⊢;exact this
theorem AM (l:List Int) (hl:l.length≤140737488351232) (hb:∀c∈l,0≤c∧c≤255) (σ:aa):af Tryz.prog 118 [.c (.string (strOfNums l))] σ fun r σ'=>σ'=σ∧r = .tup [.agg (m8 (bm l).1),.c (.int .i64 (bm l).2)]:=by
 refine af.cutX ?_;have r1:=dm hb 1;have r2:=dm hb 2;have r3:=dm hb 3;refine g_n Tryz.func118 rfl Tryz.results118 Tryz.ntmps118 ?_
 (repeat' (first|(refine g_s fun K hK=>?_)|(refine g_b ?_)|(refine g_k ?_;simp only[ah,ae])|(refine g_C (fun h=>?_) (fun h=>?_)<;>(try exact g_f))|((first|refine g_t ?_|refine g_g ?_|refine g_A ?_);(try simp -implicitDefEqProofs only[go_sem,lg hb]))|(refine hK _ _ ?_;clear hK K)|(with_reducible refine ak (fun h=>?_) (fun h=>?_)<;>(try simp only[go_sem] at h)<;>(try exact g_f)<;>(try simp -implicitDefEqProofs only[go_sem,lg hb]))|(with_reducible refine And.intro ?_ ?_;· exact g_x)|fail))
 ·have e:bm l=(⟨0,0,[]⟩,2):=by rw[bm,if_pos (by omega)]
  rw[e];refine bM rfl ?_ ?_
  ·(repeat' (first|exact Bd.c _|exact Bd.emp|exact BdL.nil|exact Bd.ints _|refine Bd.aggL ?_|refine Bd.tupL ?_|refine BdL.cons ?_ ?_))
  ·(repeat' (first|exact Wk.nil|exact Wk.emp|exact WkL.nil|(with_reducible exact Wk.refl _)|refine Wk.agg ?_|refine Wk.tup ?_|refine WkL.cons ?_ ?_|(refine Wk.eq ?_;rfl)))
 ·rename_i h1 h2
  have e:bm l=(⟨0,0,[]⟩,1):=by rw[bm,if_neg (by omega),if_pos (.inl (by omega))]
  rw[e];refine bM rfl ?_ ?_
  ·(repeat' (first|exact Bd.c _|exact Bd.emp|exact BdL.nil|exact Bd.ints _|refine Bd.aggL ?_|refine Bd.tupL ?_|refine BdL.cons ?_ ?_))
  ·(repeat' (first|exact Wk.nil|exact Wk.emp|exact WkL.nil|(with_reducible exact Wk.refl _)|refine Wk.agg ?_|refine Wk.tup ?_|refine WkL.cons ?_ ?_|(refine Wk.eq ?_;rfl)))
 ·rename_i h1 h2
  have e:bm l=(⟨0,0,[]⟩,1):=by rw[bm,if_neg (by omega),if_pos (.inr (by omega))]
  rw[e];refine bM rfl ?_ ?_
  ·(repeat' (first|exact Bd.c _|exact Bd.emp|exact BdL.nil|exact Bd.ints _|refine Bd.aggL ?_|refine Bd.tupL ?_|refine BdL.cons ?_ ?_))
  ·(repeat' (first|exact Wk.nil|exact Wk.emp|exact WkL.nil|(with_reducible exact Wk.refl _)|refine Wk.agg ?_|refine Wk.tup ?_|refine WkL.cons ?_ ?_|(refine Wk.eq ?_;rfl)))
 rename_i h1 h2
 generalize hm:List.drop 4 (List.take ((l.length:Int)-2).toNat l)=mid
 have hmb:∀c∈mid,0≤c∧c≤255:=fun c hc=>by
  subst hm;exact hb c (List.mem_of_mem_take (List.mem_of_mem_drop hc))
 have hml:(mid.length:Int)=l.length-6:=by
  subst hm;simp;omega
 rw[rz hmb];refine bn ?_;have hJ:=hK;clear hK;simp -implicitDefEqProofs only[go_sem];refine ay mid (fun k r acc=>acc++r=mid) (fun k acc τ=>[(42,ab k)]) (fun _ acc τ=>σ++(.cells 3 [[.c (.int .i64 0),.c (.int .i64 0),.c (.slice none 0 0)]]::.cells 3 [[ab (at0 l 1),ab (at0 l 2),aq 1 (σ.length+(τ.length+3)) acc]]::.cells 1 (mid.map fm)::(τ++[ap au 1 acc]))) [] [] rfl ?_ ?_ ?_ ?_
 ·simp -implicitDefEqProofs only[go_sem,aq,ap]
 ·refine ai ?_;simp -implicitDefEqProofs only[go_sem]
 ·rintro k r acc τ' hk0 hk1 h3 L hL;have hr:=hmb _ (aA mid hk0 hk1);have hal:acc.length≤60:=by have:=congrArg List.length h3;simp at this;omega
  rcases acc with _|⟨x,acc⟩<;>simp only[List.length_cons,List.length_nil] at hal<;>simp -implicitDefEqProofs only[go_sem,aq,ap]
  all_goals (repeat' (first|(refine g_s fun K hK=>?_)|(refine g_b ?_)|(refine g_k ?_;simp only[ah,ae])|(refine g_C (fun h=>?_) (fun h=>?_)<;>(try exact g_f))|(refine g_g ?_;(try refine g_y ?_))|(refine hK _ _ ?_;clear hK K)|(with_reducible refine And.intro ?_ ?_;· exact g_x)|exact trivial|fail))
  ·refine hL [at0 mid k] (τ'++[.dead,.cells 1 [au (at0 mid k)]]) _ _ (by simpa using h3) (ai ?_) ?_
   ·exact g_w
   ·simp [aq,ap,au,ab]
  ·refine hL (x::acc++[at0 mid k]) (τ'++[.dead,.cells 1 [au (at0 mid k)]]) _ _ (by simpa using h3) (ai ?_) ?_
   ·exact g_w
   ·simp [aq,ap,au,ab]
 ·rintro k acc τ' hk h3 L;rw[List.append_nil] at h3;subst h3;simp -implicitDefEqProofs only[go_sem]
  (repeat' (first|(refine g_s fun K hK=>?_)|(refine g_e ?_;simp only[ah,ae,↓reduceIte,Nat.reduceEqDiff])|(refine g_C (fun h=>?_) (fun h=>?_)<;>(try exact g_f))|(refine g_g ?_;(try refine g_y ?_))|(refine hK _ _ ?_;clear hK K)|exact trivial|fail))
  refine hJ _ _ ?_;clear hJ;refine fw σ [.cells 3 [[.c (.int .i64 0),.c (.int .i64 0),.c (.slice none 0 0)]]] (.cells 1 (acc.map fm)::τ') [] 0 2 au acc rfl rfl rfl (by simp;omega) ?_
  simp -implicitDefEqProofs only[go_sem];have hp:cE l=⟨at0 l 1,at0 l 2,acc⟩:=by
   unfold cE
   congr 1
   rw[←hm]
   congr 2
   omega
  have hrd:bm l=if (bz ⟨at0 l 1,at0 l 2,acc⟩).2≠0∨(bz ⟨at0 l 1,at0 l 2,acc⟩).1≠l then (⟨0,0,[]⟩,1) else (⟨at0 l 1,at0 l 2,acc⟩,0):=by
   rw[bm,if_neg (by omega),if_neg (by omega),hp]
  (repeat' (first|(refine g_s fun K hK=>?_)|(refine g_k ?_;simp only[ah,ae])|(refine g_C (fun h=>?_) (fun h=>?_)<;>(try exact g_f))|((first|refine g_t ?_|refine g_g ?_|refine (oB ⟨at0 l 1,at0 l 2,acc⟩ (by show acc.length≤_;omega) _).use ?_);(try refine g_y ?_))|(refine hK _ _ ?_;clear hK K)|(with_reducible refine ak (fun h=>?_) (fun h=>?_)<;>(try simp only[go_sem] at h)<;>(try exact g_f)<;>(try refine g_y ?_))|exact trivial|fail))
  ·rename_i h9
   rw[hrd,if_pos (.inl h9)];refine bM rfl ?_ ?_
   ·(repeat' (first|exact Bd.c _|exact Bd.emp|exact BdL.nil|exact Bd.ints _|refine Bd.aggL ?_|refine Bd.tupL ?_|refine BdL.cons ?_ ?_))
   ·(repeat' (first|exact Wk.nil|exact Wk.emp|exact WkL.nil|(with_reducible exact Wk.refl _)|refine Wk.agg ?_|refine Wk.tup ?_|refine WkL.cons ?_ ?_|(refine Wk.eq ?_;rfl)))
  ·rename_i h9
   rw[hrd,if_pos (.inr fun e=>h (by rw[e]))]
   refine bM rfl ?_ ?_
   ·(repeat' (first|exact Bd.c _|exact Bd.emp|exact BdL.nil|exact Bd.ints _|refine Bd.aggL ?_|refine Bd.tupL ?_|refine BdL.cons ?_ ?_))
   ·(repeat' (first|exact Wk.nil|exact Wk.emp|exact WkL.nil|(with_reducible exact Wk.refl _)|refine Wk.agg ?_|refine Wk.tup ?_|refine WkL.cons ?_ ?_|(refine Wk.eq ?_;rfl)))
  ·rename_i h9
   rw[EB (rf h9) hb] at h;rw[hrd,if_neg (by rintro (h'|h');exact h' h9;exact h' h)]
   refine bM rfl ?_ ?_
   ·(repeat' (first|exact Bd.c _|exact Bd.emp|exact BdL.nil|exact Bd.ints _|refine Bd.aggL ?_|refine Bd.tupL ?_|refine BdL.cons ?_ ?_))
   ·(repeat' (first|exact Wk.nil|exact Wk.emp|exact WkL.nil|(with_reducible exact Wk.refl _)|refine Wk.agg ?_|refine Wk.tup ?_|refine WkL.cons ?_ ?_|(refine Wk.eq ?_;rfl)))
theorem CI (l:List Int) (n:Nat) (j m:Nat) (hm:n+j<m):at0 ((l.take m).drop n) (j:Int)=at0 l ((n:Int)+j):=by
 simp only[at0,List.getD_eq_getElem?_getD,List.getElem?_drop,Int.toNat_natCast];rw[List.getElem?_take_of_lt hm]
 congr 3
end Go.Proofs.YtephecognbbaoaaGreat
namespace Go.Proofs.YtephecognbbaoaaGreat
theorem EZ {X:Type} [Inhabited X] {a b:List X} (hl:a.length=b.length) (h:∀k:Int,0≤k→k<a.length→at0 a k=at0 b k):a=b:=by
 apply List.ext_getElem hl;intro i h1 h2;have:=h i (by omega) (by omega)
 simpa [at0,List.getD_eq_getElem?_getD,h1,h2] using this
theorem B3 {n:Net} (hc:aI n=0) (i j:Int) (has:Int→Int) (hh:∀k,0≤k→k<n.nodes→0≤has k∧has k<n.alg.size):0≤cq n i j has n.links∧cq n i j has n.links<n.alg.size:=by
 rw[pX hc i j has hh];exact vS (aU hc) i j has hh
end Go.Proofs.YtephecognbbaoaaGreat
namespace Go.Proofs.YtephecognbbaoaaGreat
section
variable {n:Net}
def InV (n:Net) (a:Int):Prop:=0≤a∧a<n.alg.size
def Le (n:Net) (a b:Int):Prop:=bq n a b=a
theorem lr (h:bI n) {a b:Int} (ha:InV n a) (hb:InV n b):bq n a b=a∨bq n a b=b:=by
 have hm:(⟨3,a,b,0,0⟩:Brk)∈bQ n.alg 3:=fk.2 ⟨rfl,ha,hb,⟨Int.le_refl _,show (0:Int)<1 by decide⟩,⟨Int.le_refl _,show (0:Int)<1 by decide⟩⟩
 have:=oY h hm (show (3:Int)∈dX by decide)
 have e:ct n.alg ⟨3,a,b,0,0⟩=(decide (at2 n.alg.best a b=a)||decide (at2 n.alg.best a b=b)):=rfl;rw[e] at this;simp only[Bool.or_eq_true,decide_eq_true_eq] at this;exact this
theorem Cn (h:bI n):InV n (n.alg.size-1):=⟨by have:=h.alg.s2;omega,by omega⟩
theorem le_refl (h:bI n) {a:Int} (ha:InV n a):Le n a a:=by
 rcases lr h ha ha with e|e<;>exact e
theorem le_antisymm (h:bI n) {a b:Int} (ha:InV n a) (hb:InV n b) (h1:Le n a b) (h2:Le n b a):a=b:=by
 unfold Le at h1 h2;rw[←h1,lX h ha hb,h2]
theorem le_trans (h:bI n) {a b c:Int} (ha:InV n a) (hb:InV n b) (hc:InV n c) (h1:Le n a b) (h2:Le n b c):Le n a c:=by
 unfold Le at *;have:=qD h ha hb hc;rw[h2,h1] at this;exact this.symm
theorem le_total (h:bI n) {a b:Int} (ha:InV n a) (hb:InV n b):Le n a b∨Le n b a:=by
 rcases lr h ha hb with e|e
 ·exact .inl e
 ·right
  unfold Le;rw[lX h hb ha];exact e
theorem tQ (h:bI n) {a b:Int} (ha:InV n a) (hb:InV n b):Le n (bq n a b) a:=by
 rcases le_total h ha hb with e|e
 ·rw[show bq n a b=a from e];exact le_refl h ha
 ·have:bq n a b=b:=by rw[lX h ha hb];exact e
  rw[this];exact e
theorem D6 (h:bI n) {a b:Int} (ha:InV n a) (hb:InV n b):Le n (bq n a b) b:=by
 rw[lX h ha hb];exact tQ h hb ha
def rank (n:Net) (v:Int):Nat:=((ints n.alg.size).filter fun w=>decide (bq n w v=w) && !decide (w=v)).length
theorem oD (h:bI n) (i:Int) (val:Lnk→Int):∀(L:List Lnk) (out:Int),(∀l∈L,InV n (val l))→InV n out →
  InV n (L.foldl (fun out l=>if l.fr=i then bq n out (val l) else out) out)∧Le n (L.foldl (fun out l=>if l.fr=i then bq n out (val l) else out) out) out ∧
  (∀l∈L,l.fr=i→Le n (L.foldl (fun out l=>if l.fr=i then bq n out (val l) else out) out) (val l)) ∧
  (L.foldl (fun out l=>if l.fr=i then bq n out (val l) else out) out=out∨∃l∈L,l.fr=i∧L.foldl (fun out l=>if l.fr=i then bq n out (val l) else out) out=val l)
 | [],out,_,ho=>⟨ho,le_refl h ho,(fun l hl=>by cases hl),.inl rfl⟩
 | x::r,out,hv,ho=>by
  have hvx:=hv x (by simp)
  have hvr:∀l∈r,InV n (val l):=fun l hl=>hv l (by simp [hl])
  rw[List.foldl_cons]
  by_cases e:x.fr=i
  ·rw[if_pos e];have hb:InV n (bq n out (val x)):=best_in h ho hvx;obtain⟨h1,h2,h3,h4⟩:=oD h i val r (bq n out (val x)) hvr hb;refine⟨h1,le_trans h h1 hb ho h2 (tQ h ho hvx),fun l hl hf=>?_,?_⟩
   ·rcases List.mem_cons.1 hl with rfl|hl
    ·exact le_trans h h1 hb hvx h2 (D6 h ho hvx)
    ·exact h3 l hl hf
   ·rcases h4 with h4|⟨l,hl,hf,h4⟩
    ·rcases lr h ho hvx with e2|e2
     ·exact .inl (h4.trans e2)
     ·exact .inr ⟨x,by simp,e,h4.trans e2⟩
    ·exact .inr ⟨l,by simp [hl],hf,h4⟩
  ·rw[if_neg e];obtain⟨h1,h2,h3,h4⟩:=oD h i val r out hvr ho;refine⟨h1,h2,fun l hl hf=>?_,?_⟩
   ·rcases List.mem_cons.1 hl with rfl|hl
    ·exact absurd hf e
    ·exact h3 l hl hf
   ·rcases h4 with h4|⟨l,hl,hf,h4⟩
    ·exact .inl h4
    ·exact .inr ⟨l,by simp [hl],hf,h4⟩
theorem BV (hn:bI n) {f:Nat} {k:Int} {x:List (List Int)} (hx:RowsIn n x):RowsIn n (eg n f k x).1:=by
 induction f generalizing k x with
 | zero=>exact hx
 | succ f ih=>
  rw[eg]
  split
  ·exact hx
  ·exact ih (pY hn hx)
end
end Go.Proofs.YtephecognbbaoaaGreat
namespace Go.Proofs.YtephecognbbaoaaGreat
section
variable {n:Net}
def toL (n:Net) (i j:Int) (has:Int→Int):Int:=
 if i=j then -1
 else if cq n i j has n.links=n.alg.size-1 then -1
 else match (ints n.nodes).find? fun k=>decide (0≤aM n i k)&&decide (bc n (aM n i k) (has k)=cq n i j has n.links) with
 | some k=>k
 | none => -1
def dt (n:Net) (i:Int) (has:Int→Int) (b:Int×Int) (k:Int):Int×Int:=
 if 0≤aM n i k then (if bq n b.1 (bc n (aM n i k) (has k))≠b.1 then (bc n (aM n i k) (has k),k) else b) else b
def toR (n:Net) (i j:Int) (has:Int→Int):Int:=if i=j then -1 else ((ints n.nodes).foldl (dt n i has) (n.alg.size-1,-1)).2
theorem edge_in (h:bI n) {i k:Int} (he:0≤aM n i k):aM n i k<n.alg.edges.length:=by
 unfold aM at he ⊢
 cases hfd:n.links.find? fun l=>decide (l.fr=i)&&decide (l.dst=k) with
 | none=>rw[hfd] at he;simp at he
 | some l=>exact (h.lnk l (List.mem_of_find?_eq_some hfd)).e1
theorem sx (h:bI n) (i:Int) (has:Int→Int) (hh:∀k,0≤k→k<n.nodes→InV n (has k)):∀(K:List Int) (b:Int×Int),(∀k∈K,0≤k∧k<n.nodes)→InV n b.1 →
  (K.foldl (dt n i has) b).1=K.foldl (fun out k=>if 0≤aM n i k then bq n out (bc n (aM n i k) (has k)) else out) b.1 ∧
  InV n (K.foldl (dt n i has) b).1∧Le n (K.foldl (dt n i has) b).1 b.1 ∧
  ((K.foldl (dt n i has) b).1=b.1→(K.foldl (dt n i has) b).2=b.2) ∧
  ((K.foldl (dt n i has) b).1≠b.1→K.find? (fun k=>decide (0≤aM n i k)&&decide (bc n (aM n i k) (has k)=(K.foldl (dt n i has) b).1))=some (K.foldl (dt n i has) b).2)
 | [],b,_,hb=>⟨rfl,hb,le_refl h hb,fun _=>rfl,fun h=>absurd rfl h⟩
 | k::r,b,hK,hb=>by
  rw[List.foldl_cons,List.foldl_cons];have hr:∀q∈r,0≤q∧q<n.nodes:=fun q hq=>hK q (by simp [hq])
  by_cases he:0≤aM n i k
  ·have hw:InV n (bc n (aM n i k) (has k)):=iy h ⟨he,edge_in h he⟩ (hh k (hK k (by simp)).1 (hK k (by simp)).2)
   by_cases hu:bq n b.1 (bc n (aM n i k) (has k))=b.1
   ·have e:dt n i has b k=b:=by rw[dt,if_pos he,if_neg (not_not_intro hu)]
    obtain⟨a1,a2,a3,a4,a5⟩:=sx h i has hh r b hr hb;rw[e,if_pos he,hu];refine⟨a1,a2,a3,a4,fun hne=>?_⟩;rw[List.find?_cons_of_neg,a5 hne];rw[Bool.and_eq_true,decide_eq_true_eq,decide_eq_true_eq];rintro ⟨_,h9⟩;rw[h9] at hu;exact hne (le_antisymm h a2 hb a3 hu)
   ·have hb1:bq n b.1 (bc n (aM n i k) (has k))=bc n (aM n i k) (has k):=by
     rcases lr h hb hw with e|e
     ·exact absurd e hu
     ·exact e
    have e:dt n i has b k=(bc n (aM n i k) (has k),k):=by rw[dt,if_pos he,if_pos hu]
    have hlt:Le n (bc n (aM n i k) (has k)) b.1:=by
     have:=tQ h hb hw;rw[hb1] at this;exact this
    have hwb:bc n (aM n i k) (has k)≠b.1:=fun e=>hu (hb1.trans e);obtain⟨a1,a2,a3,a4,a5⟩:=sx h i has hh r (bc n (aM n i k) (has k),k) hr hw;rw[e,if_pos he,hb1];have hnb:(r.foldl (dt n i has) (bc n (aM n i k) (has k),k)).1≠b.1:=fun e9=>by
     rw[e9] at a3;exact hwb (le_antisymm h hw hb hlt a3)
    refine⟨a1,a2,le_trans h a2 hw hb a3 hlt,fun h9=>absurd h9 hnb,fun _=>?_⟩
    by_cases hq:(r.foldl (dt n i has) (bc n (aM n i k) (has k),k)).1=bc n (aM n i k) (has k)
    ·rw[List.find?_cons_of_pos,a4 hq];rw[hq,Bool.and_eq_true,decide_eq_true_eq,decide_eq_true_eq];exact⟨he,rfl⟩
    ·rw[List.find?_cons_of_neg,a5 hq];rw[Bool.and_eq_true,decide_eq_true_eq,decide_eq_true_eq];rintro ⟨_,h9⟩;exact hq h9.symm
  ·have e:dt n i has b k=b:=by rw[dt,if_neg he]
   obtain⟨a1,a2,a3,a4,a5⟩:=sx h i has hh r b hr hb;rw[e,if_neg he];refine⟨a1,a2,a3,a4,fun hne=>?_⟩;rw[List.find?_cons_of_neg,a5 hne];rw[Bool.and_eq_true,decide_eq_true_eq];rintro ⟨h9,_⟩;exact he h9
theorem Fl (hc:aI n=0) {i j:Int} {has:Int→Int} (hh:∀k,0≤k→k<n.nodes→InV n (has k)):toL n i j has=toR n i j has:=by
 have h:=aU hc;unfold toL toR
 by_cases e:i=j
 ·rw[if_pos e,if_pos e]
 ·rw[if_neg e,if_neg e];obtain⟨a1,a2,a3,a4,a5⟩:=sx h i has hh (ints n.nodes) (n.alg.size-1,-1) (fun k hk=>cf.1 hk) (Cn h);have hr:cq n i j has n.links=((ints n.nodes).foldl (dt n i has) (n.alg.size-1,-1)).1:=by
   rw[pX hc i j has hh,a1];unfold cV;rw[if_neg e]
  rw[hr]
  by_cases hq:((ints n.nodes).foldl (dt n i has) (n.alg.size-1,-1)).1=n.alg.size-1
  ·rw[if_pos hq,a4 hq]
  ·rw[if_neg hq,a5 hq]
def xk (n:Net) (x:List (List Int)):List (List Int):=(ints n.nodes).map fun i=>(ints n.nodes).map fun j=>toR n i j fun k=>at2 x k j
end
end Go.Proofs.YtephecognbbaoaaGreat
namespace Go.Proofs.YtephecognbbaoaaGreat
end Go.Proofs.YtephecognbbaoaaGreat
namespace Go.Proofs.YtephecognbbaoaaGreat
structure Met (n:Net) (K:List Int):Prop where
 nd:K.Nodup
 mem:∀i∈K,0≤i∧i<n.nodes
theorem Met.nil (n:Net):Met n []:=⟨List.nodup_nil,fun _ h=>by cases h⟩
theorem Met.add {n:Net} {K:List Int} (h:Met n K) {i:Int} (h0:0≤i∧i<n.nodes) (hi:i∉K):Met n (K++[i]):=
 ⟨List.nodup_append.2 ⟨h.nd,by simp,fun a ha b hb e=>by rw[List.mem_singleton.1 hb] at e;exact hi (e▸ha)⟩,fun j hj=>by
  rcases List.mem_append.1 hj with hj|hj
  ·exact h.mem j hj
  ·rw[List.mem_singleton.1 hj];exact h0⟩
end Go.Proofs.YtephecognbbaoaaGreat
namespace Go.Proofs.YtephecognbbaoaaGreat
section
variable {n:Net}
theorem at0_app {X:Type} [Inhabited X] (a b:List X) {k:Int} (h0:0≤k) (h:k<a.length):at0 (a++b) k=at0 a k:=by
 have:k.toNat<a.length:=by omega
 simp [at0,List.getD_eq_getElem?_getD,List.getElem?_append_left this]
theorem sk {X:Type} [Inhabited X] {m:Int} (f:Int→X) {q:Int} (hq:0≤q∧q<m):at0 ((ints m).map f) q=f q:=by
 have h1:q.toNat<(ints m).length:=by rw[ao];omega
 simp only[at0,List.getD_eq_getElem?_getD,List.getElem?_map,List.getElem?_eq_getElem h1,Option.map_some,Option.getD_some]
 congr 1
 simp [ints];omega
end
end Go.Proofs.YtephecognbbaoaaGreat
