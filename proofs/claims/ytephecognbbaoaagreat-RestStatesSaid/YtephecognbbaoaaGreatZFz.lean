/- Freezing an own slice; contracts cut off behind the caller's store; weakening. -/
import Derived.Test.YtephecognbbaoaaGreatZMk
import Derived.Maps.Keyed
import Derived.RangeFuncRecord
import Derived.TacticsIn
namespace Go.Proofs.YtephecognbbaoaaGreat
open Go
set_option linter.all false
section
variable {P:Program} {K:World} {imm:Imm} {m:Own} {w w':World} {σ:aa} {ev:Operand→Option AV} {ρ:Operand→Value}
theorem gV (hs:Sim K imm m w σ) {v:Value} {x:AV} {es:List (List AV)} (hr:Rep imm m v x) (he:bO σ x=some es) :
  ∃p cap,v = .slice p es.length cap∧es.length≤cap∧(0<es.length→∃b o k,p=some ⟨b,o,none⟩∧(∀i (hi:i<es.length),es[i].length=k) ∧
   ∀i (hi:i<es.length) j (hj:j<es[i].length),∃u,w.cell? ⟨b,o+(i*k+j),none⟩=some u∧Rep imm m u es[i][j]):=by
 rw[ee] at he;unfold dl at he
 split at he
 ·cases he
  cases hr with
  | sl p cap n es k vals hn hcap hk hp hr=>
   subst hn;refine⟨p,cap,rfl,hcap,fun h0=>?_⟩;obtain⟨b,o,rfl,hc⟩:=hp h0;refine⟨b,o,k,rfl,hk,fun i hi j hj=>⟨vals i j,?_,hr i hi j hj⟩⟩;have:=hc i hi j (by rw[←hk i hi];exact hj)
   unfold d6 at this
   split at this
   ·rename_i c T fr hb
    simp [World.cell?,hs.imm_ok _ _ hb,this]
   ·cases this
 ·cases he
  cases hr
  exact⟨_,_,rfl,Nat.le_refl _,fun h=>by simp at h⟩
 ·cases he
  rw[hr.c_inv];exact⟨_,_,rfl,Nat.le_refl _,fun h=>by simp at h⟩
 ·rename_i b k s n c
  split at he
  ·rename_i k' es' hb
   split at he
   ·rename_i hcond
    obtain⟨rfl,hle⟩:=hcond
    cases he
    obtain⟨hlt,hob⟩:=List.getElem?_eq_some_iff.1 hb;have h0:=hs.obs b hlt;rw[hob] at h0;obtain⟨blk,sz,h1,h2,cs,T',fr,h3,h4,h5,h6,h7⟩:=h0
    cases hr with
    | own b k s n c cap blk' sz' x hm hn hcc hx hc=>
     rw[h1] at hm
     cases hm
     subst hx;have hlen:((es'.drop s).take n).length=n:=by simp;omega
     refine⟨_,cap,by rw[hlen],by rw[hlen];omega,fun hpos=>⟨blk,s*k',k',rfl,fun i hi=>?_,fun i hi j hj=>?_⟩⟩
     ·simp only[List.getElem_take,List.getElem_drop];exact (h7 _ _).1
     ·simp only[List.getElem_take,List.getElem_drop] at hj ⊢;obtain⟨u,e,r⟩:=(h7 (s+i) (by omega)).2 j hj
      refine⟨u,?_,r⟩;rw[Nat.add_mul] at e;simp [World.cell?,h3,←e,Nat.add_assoc]
   ·cases he
  ·cases he
 ·cases he
theorem uk (hs:Sim K imm m w σ) {v:Value} {x:AV} {es:List (List AV)} (hr:Rep imm m v x) (he:bO σ x=some es) (h0:0<es.length) {k:Nat} (hk:∀e,e∈es→e.length=k) :
  ∃(b o cap:Nat) (news:List Value),v = .slice (some ⟨b,o,none⟩) es.length cap∧es.length≤cap∧news.length=es.length*k∧(∀j u,news[j]? = some u→w.cell? ((⟨b,o,none⟩:Addr).add j)=some u) ∧
   ∀i (hi:i<es.length) j (hj:j<es[i].length),∃u,news[i*k+j]? = some u∧Rep imm m u es[i][j]:=by
 obtain⟨p,cap,rfl,hcap,h⟩:=gV hs hr he;obtain⟨b,o,k',rfl,hk',hc⟩:=h h0;obtain rfl:k'=k:=by rw[←hk' 0 h0];exact hk _ (List.getElem_mem _)
 let news:=(List.range (es.length*k')).map fun y=>(w.cell? ⟨b,o+y,none⟩).getD undef
 refine⟨b,o,cap,news,rfl,hcap,by simp [news],fun j u hj=>?_,fun i hi j hj=>?_⟩
 ·rw[nN];simp only[news,List.getElem?_map] at hj;obtain⟨y,hy,rfl⟩:=Option.map_eq_some_iff.1 hj;obtain⟨hlt,rfl⟩:=List.getElem?_eq_some_iff.1 hy;simp only[List.getElem_range];simp at hlt;have hkpos:0<k':=by
   rcases Nat.eq_zero_or_pos k' with h|h
   ·subst h;simp at hlt
   ·exact h
  have hi:j / k'<es.length:=Nat.div_lt_of_lt_mul (by rw[Nat.mul_comm];exact hlt)
  obtain⟨u,hu,_⟩:=hc (j / k') hi (j % k') (by rw[hk'];exact Nat.mod_lt _ hkpos)
  rw[Nat.div_add_mod'] at hu;rw[hu];rfl
 ·obtain⟨u,hu,r⟩:=hc i hi j hj;have hlt:i*k'+j<es.length*k':=fe (by rw[←hk' i hi];exact hj) hi
  exact⟨u,by simp [news,hlt,hu],r⟩
theorem vk (t ty e:TypeId) (i:TypeInfo) (z:Value) (ht:P.underlying t=some (.slice e)) (hi:P.info? e=some i) (hz:i.zero=some z)
  (p:Option Addr) (a:Addr) (n c:Nat) (news:List Value) (hl:news.length=n*i.size) (hnews:∀j v,news[j]? = some v→w.cell? (a.add j)=some v)
  (h0:0<n) (h63:(n:Int)≤9223372036854775807) (h48:n*i.bytes≤281474976710656) :
  (Builtin.append_ #[t,t] ty #[.slice p 0 0,.slice (some a) n c]).run P w =
   .ok (.slice (some ⟨w.heap.size,0,none⟩) n (grownCap w n 0 e)) (w.drew.alloc (.cells (news.toArray++Builtin.zeroCells z.cells (grownCap w n 0 e-n)) e)):=by
 cases p with
 | none=>exact run_append_nil w t ty e i z ht hi hz a n c news hl hnews h0 h63 h48
 | some b=>
  have:=run_append_grow (P:=P) w t ty e i z ht hi hz b 0 0 [] (by simp) (fun j v h=>by simp at h) a n c news hl hnews (by omega) (by simpa using h63) (by rw[Nat.zero_add,nextslicecap_zero h0];exact h48)
  simpa using this
theorem gW (t ty e:TypeId) (ht:P.underlying t=some (.slice e)) (hi:(P.info? e).isSome=true) (p:Option Addr) (n cap:Nat) (hn:n≤cap) (x:Option Addr) (c:Nat) :
  (Builtin.append_ #[t,t] ty #[.slice p n cap,.slice x 0 c]).run P w = .ok (.slice p n cap) w:=by
 obtain⟨i,hi⟩:=Option.isSome_iff_exists.1 hi
 cases x<;>cases p<;>simp [Builtin.append_,aD ht,sizeOf,jp hi,Builtin.lenOf,hn,Builtin.firstCells,loadCells,loadCellsFrom,storeCells]
theorem o7 (o:Obj):eI w (w.drew.alloc o):=⟨rfl,rfl,rfl,by show w.heap.size≤(w.heap.push o).size;simp⟩
theorem oe (z:Array Value) (n:Nat):(Builtin.zeroCells z n).size=n*z.size:=by simp [Builtin.zeroCells]
def iG (P:Program) (e:TypeId) (s x:AV) (σ:aa) (K:AV→aa→Prop):Prop:=
 (P.info? e).isSome=true∧0<P.cellsOf e∧(bY P e).map (·.length)=some (P.cellsOf e) ∧
  on (bO σ s) fun olds=>on (bO σ x) fun news=>(∀e',e'∈news→e'.length=P.cellsOf e) ∧
   match s with
   | .own b k i n c=>k=P.cellsOf e ∧
    (n+news.length≤c∧n≠c→(∀e',e'∈news→e'.all cw=true)∧on σ[b]? fun ob=>match ob with
     | .cells _ es=>K (.own b k i (n+news.length) c) (σ.set b (.cells k (es.take (i+n)++news++es.drop (i+n+news.length))))
     | _=>False) ∧
    (n=c∨c<n+news.length→i=0∧(∀e',e'∈news→e'.all cw=true)∧(n+news.length)*P.bytesOf e≤140737488355328∧n+news.length≤maxLen ∧
     K (.own σ.length k 0 (olds++news).length (olds++news).length) (σ.set b .dead++[.cells k (olds++news)]))
   | .emp=>(news.length=0→K s σ)∧(0<news.length→news.length*P.bytesOf e≤140737488355328∧news.length≤maxLen ∧
     K (.own σ.length (P.cellsOf e) 0 news.length news.length) (σ++[.cells (P.cellsOf e) news]))
   | .c _=>(news.length=0→K s σ)∧(0<news.length→news.length*P.bytesOf e≤140737488355328∧news.length≤maxLen ∧
     K (.own σ.length (P.cellsOf e) 0 news.length news.length) (σ++[.cells (P.cellsOf e) news]))
   | _=>False
def na (P:Program) (d:Option TypeDesc) (s x:AV) (σ:aa) (K:AV→aa→Prop):Prop:=
 match d with
 | some (.slice e)=>iG P e s x σ K
 | _=>False
def nf (P:Program) (t:TypeId) (s x:AV) (σ:aa) (K:AV→aa→Prop):Prop:=na P (P.underlying t) s x σ K
theorem Sim.newRow (hs:Sim K imm m w σ) (hb:eI w w') (cells:List Value) (rest:Array Value) (T:TypeId) (hw:w'.heap=w.heap.push (.cells (cells.toArray++rest) T))
  {k:Nat} (es:List (List AV)) (hk:∀e,e∈es→e.length=k) (hl:cells.length=es.length*k)
  (hrep:∀i (hi:i<es.length) j (hj:j<es[i].length),∃v,cells[i*k+j]? = some v∧Rep imm m v es[i][j]) :
  Sim K imm (upd m σ.length (w.heap.size,cells.length+rest.size)) w' (σ++[.cells k es]):=by
 have:=hs.push hb (cells.toArray++rest) T (0,0) hw k es (by simp) (by simp;omega) (fun i hi=>⟨hk _ (List.getElem_mem _),fun j hj=>by
  obtain⟨v,e,r⟩:=hrep i hi j hj;obtain⟨hlt,e'⟩:=List.getElem?_eq_some_iff.1 e;refine⟨v,?_,r⟩;rw[Array.getElem?_append_left (by simpa using hlt)]
  simpa using e⟩)
 simpa using this
theorem sC {blk k p:Nat} {T:TypeId} {fr:Nat×Nat} {cs:Array Value} {es news:List (List AV)} {nl:List Value} (h3:w.heap[blk]? = some (.cells cs T fr))
  (h7:∀i (hi:i<es.length),es[i].length=k∧∀j (hj:j<es[i].length),∃v,cs[i*k+j]? = some v∧Rep imm m v es[i][j]) (hp:p≤es.length)
  (hkn:∀e,e∈news→e.length=k) (hnl:nl.length=news.length*k) (hrep:∀i (hi:i<news.length) j (hj:j<news[i].length),∃u,nl[i*k+j]? = some u∧Rep imm m u news[i][j])
  (hfit:(p+news.length)*k≤cs.size) :
  ∃cs',(w.setCells blk (p*k) nl).heap[blk]? = some (.cells cs' T fr)∧cs'.size=cs.size∧(∀c,c≠blk→(w.setCells blk (p*k) nl).heap[c]? = w.heap[c]?)∧eI w (w.setCells blk (p*k) nl) ∧
   (∀i (hi:i<(es.take p++news++es.drop (p+news.length)).length),(es.take p++news++es.drop (p+news.length))[i].length=k ∧
    ∀j (hj:j<(es.take p++news++es.drop (p+news.length))[i].length),∃v,cs'[i*k+j]? = some v∧Rep imm m v (es.take p++news++es.drop (p+news.length))[i][j]):=by
 obtain⟨cs',g1,g2,g3,g4,g5,g6⟩:=mj blk T fr nl (p*k) cs w h3;refine⟨cs',g1,g2,g5,g6,fun i hi=>?_⟩;have hl1:(es.take p).length=p:=by simp;omega
 have e1:(p+news.length)*k=p*k+news.length*k:=Nat.add_mul _ _ _
 rcases Nat.lt_or_ge i p with h1|h1
 ·have he:(es.take p++news++es.drop (p+news.length))[i]=es[i]'(by omega):=by
   rw[List.getElem_append_left (by simp;omega),List.getElem_append_left (by omega),List.getElem_take]
  rw[he];refine⟨(h7 i _).1,fun j hj=>?_⟩;obtain⟨v,e,r⟩:=(h7 i (by omega)).2 j hj
  have hj':j<k:=by rw[←(h7 i (by omega)).1];exact hj
  refine⟨v,?_,r⟩;rw[g3 _ (.inl (fe hj' h1)),e]
 ·rcases Nat.lt_or_ge i (p+news.length) with h2|h2
  ·have he:(es.take p++news++es.drop (p+news.length))[i]=news[i-p]'(by omega):=by
    rw[List.getElem_append_left (by simp;omega),List.getElem_append_right (by omega)]
    simp only[hl1]
   rw[he];refine⟨hkn _ (List.getElem_mem _),fun j hj=>?_⟩;have hj1:j<news[i-p].length:=hj;have hj':j<k:=by rw[←hkn _ (List.getElem_mem (show i-p<news.length by omega))];exact hj1
   obtain⟨v,e,r⟩:=hrep (i-p) (by omega) j hj1
   obtain⟨hlt,e'⟩:=List.getElem?_eq_some_iff.1 e;have hf:=fe hj' h2;refine⟨v,?_,r⟩;have hi2:i*k=p*k+(i-p)*k:=by rw[←Nat.add_mul];congr 1;omega
   rw[show i*k+j=p*k+((i-p)*k+j) by omega,g4 _ hlt (by omega),e']
  ·have hi3:i<es.length:=by
    simp only[List.length_append,List.length_take,List.length_drop] at hi;omega
   have he:(es.take p++news++es.drop (p+news.length))[i]=es[i]'hi3:=by
    rw[List.getElem_append_right (by simp;omega),List.getElem_drop]
    simp only[List.length_append,hl1]
    congr 1
    omega
   rw[he];refine⟨(h7 i _).1,fun j hj=>?_⟩;obtain⟨v,e,r⟩:=(h7 i (by omega)).2 j hj
   refine⟨v,?_,r⟩;have:=Nat.mul_le_mul_right k h2;rw[g3 _ (.inr (by omega)),e]
theorem Br (hs:Sim K imm m w σ) {t ty:TypeId} {s x:AV} {vs vx:Value} (hrs:Rep imm m vs s) (hrx:Rep imm m vx x) {Kont:AV→aa→Prop} (h:nf P t s x σ Kont) :
  ∃v w' imm' m' av σ',(Builtin.append_ #[t,t] ty #[vs,vx]).run P w = .ok v w'∧ILe imm imm'∧OLe m m'∧Sim K imm' m' w' σ'∧Rep imm' m' v av∧Kont av σ':=by
 unfold nf na at h
 split at h
 ·rename_i e ht
  unfold iG at h;obtain⟨hi,hk0,hz,h⟩:=h
  replace h:=aj h;obtain⟨olds,holds,h⟩:=h
  replace h:=aj h;obtain⟨news,hnews,h⟩:=h
  obtain⟨hkn,h⟩:=h;obtain⟨inf,hinf⟩:=Option.isSome_iff_exists.1 hi;have hcells:P.cellsOf e=inf.size:=by simp [Program.cellsOf,hinf]
  have hbytes:P.bytesOf e=inf.bytes:=by simp [Program.bytesOf,hinf]
  obtain⟨zl,hzl,hzlen⟩:=Option.map_eq_some_iff.1 hz;obtain⟨zv,_,_,hzeq,hzinf⟩:=fF (P:=P) (imm:=imm) (m:=m) (w:=w) hzl;have hzero:inf.zero=some zv:=by simpa [hinf] using hzinf
  have hzsz:zv.cells.size=inf.size:=by rw[←hcells,←hzlen,hzeq];simp
  have hnewrow:0<news.length→∃(b o cap:Nat) (nl:List Value),vx = .slice (some ⟨b,o,none⟩) news.length cap∧nl.length=news.length*P.cellsOf e ∧
    (∀j u,nl[j]? = some u→w.cell? ((⟨b,o,none⟩:Addr).add j)=some u) ∧
    (∀i (hi:i<news.length) j (hj:j<news[i].length),∃u,nl[i*P.cellsOf e+j]? = some u∧Rep imm m u news[i][j]):=fun h0=>by
   obtain⟨b,o,cap,nl,h1,_,h2,h3,h4⟩:=uk hs hrx hnews h0 hkn;exact⟨b,o,cap,nl,h1,h2,h3,h4⟩
  have hempty:∀(vs:Value) (p:Option Addr),vs = .slice p 0 0→(news.length=0→Kont s σ)→(0<news.length→news.length*P.bytesOf e≤140737488355328∧news.length≤maxLen ∧
     Kont (.own σ.length (P.cellsOf e) 0 news.length news.length) (σ++[.cells (P.cellsOf e) news]))→Rep imm m vs s →
    ∃v w' imm' m' av σ',(Builtin.append_ #[t,t] ty #[vs,vx]).run P w = .ok v w'∧ILe imm imm'∧OLe m m'∧Sim K imm' m' w' σ'∧Rep imm' m' v av∧Kont av σ':=by
   rintro vs p rfl h1 h2 hrs
   rcases Nat.eq_zero_or_pos news.length with h0|h0
   ·obtain⟨q,cap,rfl,_,_⟩:=gV hs hrx hnews;rw[h0];refine⟨_,w,imm,m,s,σ,gW t ty e ht hi p 0 0 (Nat.le_refl _) q cap,.refl _,.refl _,hs,hrs,h1 h0⟩
   ·obtain⟨hb,hml,hK⟩:=h2 h0;obtain⟨b,o,cap,nl,rfl,hnl,hcell,hrep⟩:=hnewrow h0;have hr:=vk (P:=P) (w:=w) t ty e inf zv ht hinf hzero p ⟨b,o,none⟩ news.length cap nl (by rw[hnl,hcells]) hcell h0 (by simp [maxLen] at hml;omega) (by rw[←hbytes];omega)
    have hg:=grownCap_ge w news.length 0 e;refine⟨_,_,imm,_,_,_,hr,.refl _,.upd (hs.dom _ (Nat.le_refl _)) _,hs.newRow (o7 _) nl _ e rfl news hkn hnl hrep,?_,hK⟩;refine .own _ _ _ _ _ _ w.heap.size _ _ (by simp [upd];rfl) (Nat.le_refl _) hg (by simp) ?_
    rw[hnl,oe,hzsz,←hcells,←Nat.add_mul,Nat.zero_add];exact Nat.mul_le_mul_right _ (by omega)
  split at h
  ·rename_i b k i n c
   obtain⟨rfl,hA,hB⟩:=h;rw[ee] at holds;simp only[dl] at holds
   split at holds
   ·rename_i k' es hb
    split at holds
    ·rename_i hcond
     obtain⟨rfl,hle⟩:=hcond
     cases holds
     obtain⟨hlt,hob⟩:=List.getElem?_eq_some_iff.1 hb;have h0:=hs.obs b hlt;rw[hob] at h0;obtain⟨blk,sz,h1,h2,cs,T',fr,h3,h4,h5,h6,h7⟩:=h0;have hrs':=hrs
     cases hrs with
     | own b k i n c cap blk' sz' x hm hn hcc hx hc=>
      rw[h1] at hm
      cases hm
      subst hx;have hmul:∀y,y≤i+cap→y*P.cellsOf e≤sz:=fun y hy=>Nat.le_trans (Nat.mul_le_mul_right _ hy) hc;have hroom:0<news.length→(∀e',e'∈news→e'.all cw=true)→n+news.length≤cap→∃nl,(Builtin.append_ #[t,t] ty #[.slice (some ⟨blk,i*P.cellsOf e,none⟩) n cap,vx]).run P w = .ok (.slice (some ⟨blk,i*P.cellsOf e,none⟩) (n+news.length) cap) (w.setCells blk ((i+n)*P.cellsOf e) nl) ∧
        nl.length=news.length*P.cellsOf e∧(∀i (hi:i<news.length) j (hj:j<news[i].length),∃u,nl[i*P.cellsOf e+j]? = some u∧Rep imm m u news[i][j]):=fun hpos hone hfit=>by
       obtain⟨b',o',cap',nl,rfl,hnl,hcell,hrep⟩:=hnewrow hpos;have hmm:=hmul (i+n+news.length) (by omega)
       have hmm':(i+n+news.length)*P.cellsOf e=i*P.cellsOf e+n*P.cellsOf e+news.length*P.cellsOf e:=by rw[Nat.add_mul,Nat.add_mul]
       have hon:∀u∈nl,u.oneCell'=true:=fun u hu=>by
        obtain⟨y,hy,rfl⟩:=List.getElem_of_mem hu;have hi:y / P.cellsOf e<news.length:=Nat.div_lt_of_lt_mul (by rw[Nat.mul_comm,←hnl];exact hy)
        have hj:y % P.cellsOf e<news[y / P.cellsOf e].length:=by rw[hkn _ (List.getElem_mem _)];exact Nat.mod_lt _ hk0
        obtain⟨u,e1,r⟩:=hrep _ hi _ hj;rw[Nat.div_add_mod'] at e1;obtain⟨_,rfl⟩:=List.getElem?_eq_some_iff.1 e1;exact p8 r (List.all_eq_true.1 (hone _ (List.getElem_mem _)) _ (List.getElem_mem _))
       have hr:=run_append_room_cells (P:=P) w t ty e inf ht hinf blk (i*P.cellsOf e) n cap ⟨b',o',none⟩ news.length cap' nl (by rw[hnl,hcells]) hcell hon hfit
        (fun j hj=>by
         rw[←hcells];have:i*P.cellsOf e+n*P.cellsOf e+j<cs.size:=by omega
         simp [World.cell?,h3,this])
        (fun j hj=>by
         rw[←hcells];have:=h5 (i*P.cellsOf e+n*P.cellsOf e+j) (by omega)
         simp only[World.frozen?,h3]
         simpa using this)
       refine⟨nl,?_,hnl,hrep⟩;rw[hr,←hcells,Nat.add_mul]
      by_cases hnc:n+news.length≤c∧n≠c
      ·obtain⟨hone,hA⟩:=hA hnc
       replace hA:=aj hA;obtain⟨ob,hob2,hA⟩:=hA
       rw[hb] at hob2
       cases hob2
       simp only at hA
       rcases Nat.eq_zero_or_pos news.length with hz0|hpos
       ·obtain⟨q,cap2,rfl,_,_⟩:=gV hs hrx hnews;rw[hz0];have hnil:news=[]:=List.eq_nil_of_length_eq_zero hz0;subst hnil;refine⟨_,w,imm,m,_,_,gW t ty e ht hi _ n cap (by omega) q cap2,.refl _,.refl _,hs,hrs',?_⟩
        simp only[List.length_nil,Nat.add_zero,List.append_nil,List.take_append_drop] at hA;have hset:σ.set b (.cells (P.cellsOf e) es)=σ:=by
         rw[←hob];exact List.set_getElem_self hlt
        rw[hset] at hA;exact hA
       ·obtain⟨nl,hrun,hnl,hrep⟩:=hroom hpos hone (by omega)
        obtain⟨cs',g1,g2,g5,g6,g7⟩:=sC (p:=i+n) h3 h7 hle hkn hnl hrep (by rw[h4];exact hmul _ (by omega))
        have hle':(es.take (i+n)++news++es.drop (i+n+news.length)).length*P.cellsOf e≤sz:=by
         have:(es.take (i+n)++news++es.drop (i+n+news.length)).length=max es.length (i+n+news.length):=by simp;omega
         rw[this]
         rcases Nat.le_total es.length (i+n+news.length) with hm1|hm1
         ·rw[Nat.max_eq_right hm1];exact hmul _ (by omega)
         ·rw[Nat.max_eq_left hm1];exact h6
        exact⟨_,_,imm,m,_,_,hrun,.refl _,.refl _,hs.set g6 hlt h1 hob g5 cs' T' fr g1 (by omega) h5 _ hle' g7,.own b _ i _ c cap blk sz _ h1 hnc.1 hcc rfl hc,hA⟩
      ·obtain⟨rfl,hone,hbyt,hml,hB⟩:=hB (by omega)
       simp only[Nat.zero_add,Nat.zero_mul,List.drop_zero] at hle hc hmul hroom hB hrs' ⊢;have hlen9:(es.take n++news).length=n+news.length:=by rw[List.length_append,List.length_take];omega
       rw[hlen9] at hB
       rcases Nat.eq_zero_or_pos news.length with hz0|hpos
       ·obtain⟨q,cap2,rfl,_,_⟩:=gV hs hrx hnews;rw[hz0];have hnil:news=[]:=List.eq_nil_of_length_eq_zero hz0;subst hnil;simp only[List.length_nil,Nat.add_zero,List.append_nil] at hB;have hol:(es.take n).length=n:=by simp;omega
        refine⟨_,w,imm,_,_,_,gW t ty e ht hi _ n cap (by omega) q cap2,.refl _,.upd (hs.dom _ (Nat.le_refl _)) _,hs.move ⟨rfl,rfl,rfl,Nat.le_refl _⟩ hlt h1 hob (fun _ _=>rfl) cs T' fr h3 h4 h5 (P.cellsOf e) (es.take n) (by rw[hol];exact hmul _ (by omega)) (fun y hy=>?_),?_,hB⟩
        ·have h9:=h7 y (by omega)
         simp only[List.getElem_take];exact h9
        ·exact .own _ _ _ _ _ cap blk sz _ (by simp [upd]) (Nat.le_refl _) (by omega) (by simp) (by simpa using hc)
       by_cases hfit:n+news.length≤cap
       ·obtain⟨nl,hrun,hnl,hrep⟩:=hroom hpos hone hfit;obtain⟨cs',g1,g2,g5,g6,g7⟩:=sC (p:=n) h3 h7 hle hkn hnl hrep (by rw[h4];exact hmul _ (by omega))
        have hol:(es.take n++news).length=n+news.length:=by simp;omega
        have g8:∀y (hy:y<(es.take n++news).length),(es.take n++news)[y].length=P.cellsOf e∧∀j (hj:j<(es.take n++news)[y].length),∃v,cs'[y*P.cellsOf e+j]? = some v∧Rep imm m v (es.take n++news)[y][j]:=fun y hy=>by
         have h9:=g7 y (by rw[List.length_append];omega)
         have he9:(es.take n++news++es.drop (n+news.length))[y]'(by rw[List.length_append];omega)=(es.take n++news)[y]:=List.getElem_append_left hy
         simp only[he9] at h9;exact h9
        refine⟨_,_,imm,_,_,_,hrun,.refl _,.upd (hs.dom _ (Nat.le_refl _)) _,hs.move g6 hlt h1 hob g5 cs' T' fr g1 (by omega) h5 (P.cellsOf e) (es.take n++news) (by rw[hol];exact hmul _ (by omega)) g8,?_,hB⟩
        exact .own _ _ _ _ _ cap blk sz _ (by simp [upd]) (Nat.le_refl _) hfit (by simp) (by simpa using hc)
       ·obtain⟨b',o',cap',nl,rfl,hnl,hcell,hrep⟩:=hnewrow hpos;have hg:=grownCap_ge w (n+news.length) cap e
        let ol:=(List.range (n*P.cellsOf e)).map fun y=>(w.cell? ⟨blk,y,none⟩).getD undef
        have hcellold:∀i (hi:i<n) j (hj:j<P.cellsOf e),∃u,w.cell? ⟨blk,i*P.cellsOf e+j,none⟩=some u∧∀(h:j<es[i].length),Rep imm m u es[i][j]:=fun i hi j hj=>by
         have hj':j<es[i].length:=by rw[(h7 i (by omega)).1];exact hj
         obtain⟨u,e1,r⟩:=(h7 i (by omega)).2 j hj'
         exact⟨u,by simp [World.cell?,h3,e1],fun _=>r⟩
        have holen:ol.length=n*P.cellsOf e:=by simp [ol]
        have hol1:∀j u,ol[j]? = some u→w.cell? ((⟨blk,0,none⟩:Addr).add j)=some u:=fun j u hj=>by
         rw[nN,Nat.zero_add];simp only[ol,List.getElem?_map] at hj;obtain⟨y,hy,rfl⟩:=Option.map_eq_some_iff.1 hj;obtain⟨hlt',rfl⟩:=List.getElem?_eq_some_iff.1 hy;simp only[List.getElem_range];simp at hlt';obtain⟨u,hu,_⟩:=hcellold (j / P.cellsOf e) (Nat.div_lt_of_lt_mul (by rw[Nat.mul_comm];exact hlt')) (j % P.cellsOf e) (Nat.mod_lt _ hk0)
         rw[Nat.div_add_mod'] at hu;rw[hu];rfl
        have hr:=run_append_grow (P:=P) w t ty e inf zv ht hinf hzero ⟨blk,0,none⟩ n cap ol (by rw[holen,hcells]) hol1 ⟨b',o',none⟩ news.length cap' nl (by rw[hnl,hcells]) hcell (by omega) (by simp [maxLen] at hml;omega)
         (growslice_fits (by omega) (by rw[←hbytes];exact hbyt))
        have hkill:=hs.kill b;have hrep2:∀y (hy:y<(es.take n++news).length) j (hj:j<(es.take n++news)[y].length),∃v,(ol++nl)[y*P.cellsOf e+j]? = some v∧Rep imm m v (es.take n++news)[y][j]:=fun y hy j hj=>by
         have hl1:(es.take n).length=n:=by simp;omega
         rcases Nat.lt_or_ge y n with hyn|hyn
         ·have he9:(es.take n++news)[y]=es[y]'(by omega):=by rw[List.getElem_append_left (by omega),List.getElem_take]
          have hj':j<P.cellsOf e:=by rw[←(h7 y (by omega)).1];rw[he9] at hj;exact hj
          obtain⟨u,hu,r⟩:=hcellold y hyn j hj';refine⟨u,?_,by simp only[he9];exact r (by rw[he9] at hj;exact hj)⟩
          have hf:=fe hj' hyn;rw[List.getElem?_append_left (by omega)]
          simp [ol,hf,hu]
         ·have hy2:y-n<news.length:=by rw[List.length_append,hl1] at hy;omega
          have he9:(es.take n++news)[y]=news[y-n]'hy2:=by rw[List.getElem_append_right (by omega)];simp only[hl1]
          obtain⟨u,hu,r⟩:=hrep (y-n) hy2 j (by rw[he9] at hj;exact hj)
          refine⟨u,?_,by simp only[he9];exact r⟩
          have hyk:y*P.cellsOf e=n*P.cellsOf e+(y-n)*P.cellsOf e:=by rw[←Nat.add_mul];congr 1;omega
          rw[List.getElem?_append_right (by omega),holen,show y*P.cellsOf e+j-n*P.cellsOf e=(y-n)*P.cellsOf e+j by omega]
          exact hu
        have hkn2:∀e',e'∈es.take n++news→e'.length=P.cellsOf e:=fun e' he'=>by
         rcases List.mem_append.1 he' with h|h
         ·obtain⟨y,hy,rfl⟩:=List.getElem_of_mem h;rw[List.getElem_take];exact (h7 y _).1
         ·exact hkn e' h
        have hol:(es.take n++news).length=n+news.length:=by simp;omega
        have hnr:=hkill.newRow (w':=w.drew.alloc (.cells (ol.toArray++nl.toArray++Builtin.zeroCells zv.cells (grownCap w (n+news.length) cap e-(n+news.length))) e)) (o7 _) (ol++nl)
         (Builtin.zeroCells zv.cells (grownCap w (n+news.length) cap e-(n+news.length))) e (by show w.heap.push _=w.heap.push _;simp) (es.take n++news) hkn2 (by rw[List.length_append,holen,hnl,hol,Nat.add_mul]) hrep2
        rw[List.length_set] at hnr;refine⟨_,_,imm,_,_,_,hr,.refl _,.upd (hs.dom _ (Nat.le_refl _)) _,hnr,?_,hB⟩;refine .own _ _ _ _ _ _ w.heap.size _ _ (by simp [upd];rfl) (Nat.le_refl _) hg (by simp) ?_
        rw[holen,hnl,oe,hzsz,←hcells,←Nat.add_mul,←Nat.add_mul,Nat.zero_add];exact Nat.mul_le_mul_right _ (by omega)
    ·cases holds
   ·cases holds
  ·obtain⟨h1,h2⟩:=h
   cases hrs with
   | emp p=>exact hempty _ p rfl h1 h2 (.emp p)
  ·rename_i u
   obtain⟨h1,h2⟩:=h;obtain rfl:=hrs.c_inv;have:vs = .slice none 0 0:=by
    rw[ee] at holds;unfold dl at holds
    split at holds<;>first|(rename_i heq;cases heq;done)|skip
    ·rename_i heq;cases heq;rfl
    ·cases holds
   exact hempty _ none this h1 h2 hrs
  ·exact h.elim
 ·exact h.elim
def sD (P:Program) (d:Option TypeDesc) (x s:AV) (σ:aa) (K:AV→aa→Prop):Prop:=
 match d with
 | some (.slice e)=>(P.info? e).isSome=true∧0<P.cellsOf e∧on (bO σ s) fun news=>(∀e',e'∈news→e'.length=P.cellsOf e)∧(∀e',e'∈news→e'.all cw=true) ∧
  match x with
  | .own b k i n _=>k=P.cellsOf e∧on σ[b]? fun ob=>match ob with
   | .cells k' es=>k'=k∧i+n≤es.length∧K (.c (.int .i64 (min news.length n:Nat))) (σ.set b (.cells k (es.take i++news.take (min news.length n)++es.drop (i+min news.length n))))
   | _=>False
  | _=>False
 | _=>False
theorem D0 (hs:Sim K imm m w σ) {t t' ty:TypeId} {x s:AV} {vx vs:Value} (hrx:Rep imm m vx x) (hrs:Rep imm m vs s) {Kont:AV→aa→Prop} (h:sD P (P.underlying t) x s σ Kont) :
  ∃v w' av σ',(Builtin.copy_ #[t,t'] ty #[vx,vs]).run P w = .ok v w'∧Sim K imm m w' σ'∧Rep imm m v av∧Kont av σ':=by
 unfold sD at h
 split at h
 ·rename_i e ht
  obtain⟨hi,hk0,h⟩:=h
  replace h:=aj h;obtain⟨news,hnews,h⟩:=h
  obtain⟨hkn,hone,h⟩:=h
  split at h
  ·rename_i b k i n c
   obtain⟨rfl,h⟩:=h
   replace h:=aj h;obtain⟨ob,hob,h⟩:=h
   split at h
   ·rename_i k' es
    obtain⟨rfl,hle,hK⟩:=h;obtain⟨hlt,hob'⟩:=List.getElem?_eq_some_iff.1 hob;have h0:=hs.obs b hlt;rw[hob'] at h0;obtain⟨blk,sz,h1,h2,cs,T',fr,h3,h4,h5,h6,h7⟩:=h0
    cases hrx with
    | own _ _ _ _ _ cap blk' sz' x hm hn hcc hx hc=>
     rw[h1] at hm
     cases hm
     subst hx
     rcases Nat.eq_zero_or_pos (min news.length n) with hz|hpos
     ·obtain⟨q,cap2,rfl,_,_⟩:=gV hs hrs hnews;rw[hz] at hK;have hset:σ.set b (.cells (P.cellsOf e) (es.take i++news.take 0++es.drop (i+0)))=σ:=by
       have e1:es.take i++news.take 0++es.drop (i+0)=es:=by simp
       rw[e1,←hob'];exact List.set_getElem_self hlt
      rw[hset] at hK;refine⟨.int .i64 (0:Nat),w,_,σ,?_,hs,.c _,hK⟩;have hz':Nat.min news.length n=0:=hz;simp only[Builtin.copy_,List.getElem?_toArray,List.getElem?_cons_zero,List.getElem?_cons_succ,Builtin.lenOf,Sem.run_bind,Sem.run_pure,Result.andThen_ok,aD ht,cQ hi,hz']
      cases q<;>simp [Builtin.firstCells,loadCells,loadCellsFrom,storeCells,goInt]
     ·have hpn:0<news.length:=by omega
      obtain⟨b',o',cap',nl,rfl,hcap',hnl,hcell,hrep⟩:=uk hs hrs hnews hpn hkn;have hmm:i*P.cellsOf e+min news.length n*P.cellsOf e≤sz:=by
       rw[←Nat.add_mul];exact Nat.le_trans (Nat.mul_le_mul_right _ (by omega)) h6
      have hnle:min news.length n*P.cellsOf e≤nl.length:=by rw[hnl];exact Nat.mul_le_mul_right _ (Nat.min_le_left _ _)
      have htl:(nl.take (min news.length n*P.cellsOf e)).length=(news.take (min news.length n)).length*P.cellsOf e:=by
       rw[List.length_take,List.length_take,Nat.min_eq_left hnle,Nat.min_eq_left (Nat.min_le_left _ _)]
      have hload:=gj (P:=P) (w:=w) ⟨b',o',none⟩ (min news.length n*P.cellsOf e) 0 #[] (fun j=>nl.getD j undef) (fun j hj=>by
       rw[Nat.zero_add];refine hcell j _ ?_;rw[List.getD_eq_getElem?_getD,List.getElem?_eq_getElem (by omega)]
       rfl)
      have hon:∀u∈nl.take (min news.length n*P.cellsOf e),u.oneCell'=true:=fun u hu=>by
       have hu:=List.mem_of_mem_take hu;obtain⟨y,hy,rfl⟩:=List.getElem_of_mem hu;have hi:y / P.cellsOf e<news.length:=Nat.div_lt_of_lt_mul (by rw[Nat.mul_comm,←hnl];exact hy)
       have hj:y % P.cellsOf e<news[y / P.cellsOf e].length:=by rw[hkn _ (List.getElem_mem _)];exact Nat.mod_lt _ hk0
       obtain⟨u,e1,r⟩:=hrep _ hi _ hj;rw[Nat.div_add_mod'] at e1;obtain⟨_,rfl⟩:=List.getElem?_eq_some_iff.1 e1;exact p8 r (List.all_eq_true.1 (hone _ (List.getElem_mem _)) _ (List.getElem_mem _))
      have hst:=run_storeCells_cells (P:=P) blk (i*P.cellsOf e) (nl.take (min news.length n*P.cellsOf e)) 0 w (fun j hj=>by
        simp only[List.length_take] at hj;have:i*P.cellsOf e+0+j<cs.size:=by omega
        simp [World.cell?,h3,show i*P.cellsOf e+j<cs.size by omega]) (fun j hj=>by
        simp only[List.length_take] at hj;have:=h5 (i*P.cellsOf e+0+j) (by omega)
        simp only[World.frozen?,h3];simp only[Nat.add_zero] at this ⊢
        simpa using this) hon
      have hn1:(news.take (min news.length n)).length=min news.length n:=by simp
      obtain⟨cs',g1,g2,g5,g6,g7⟩:=sC (p:=i) (news:=news.take (min news.length n)) (nl:=nl.take (min news.length n*P.cellsOf e)) h3 h7 (by omega) (fun e' he'=>hkn e' (List.mem_of_mem_take he')) htl (fun a ha j hj=>by
        have ha':a<news.length:=by rw[List.length_take] at ha;omega
        simp only[List.getElem_take] at hj ⊢;obtain⟨u,e1,r⟩:=hrep a ha' j hj;refine⟨u,?_,r⟩;have hj':j<P.cellsOf e:=by rw[←hkn _ (List.getElem_mem ha')];exact hj
        rw[List.getElem?_take_of_lt (fe hj' (by omega)),e1]) (by rw[hn1,h4,Nat.add_mul];exact hmm)
      rw[hn1] at g7;refine⟨.int .i64 (min news.length n:Nat),w.setCells blk (i*P.cellsOf e) (nl.take (min news.length n*P.cellsOf e)),_,_,?_,hs.set g6 hlt h1 hob' g5 cs' T' fr g1 (by omega) h5 _ ?_ g7,.c _,hK⟩
      ·have hmin:Nat.min news.length n=min news.length n:=rfl;have harr:(#[]++((List.range (min news.length n*P.cellsOf e)).map fun j=>nl.getD j undef).toArray:Array Value).toList=nl.take (min news.length n*P.cellsOf e):=by
        simp only[Array.toList_append,List.nil_append];apply List.ext_getElem?;intro j;rw[List.getElem?_map]
        rcases Nat.lt_or_ge j (min news.length n*P.cellsOf e) with hj|hj
        ·rw[List.getElem?_take_of_lt hj,List.getElem?_range hj,Option.map_some,List.getD_eq_getElem?_getD,List.getElem?_eq_getElem (by omega)]
         rfl
        ·rw[List.getElem?_eq_none (by simpa using hj),List.getElem?_eq_none (by rw[List.length_take];omega)]
         rfl
       simp only[Nat.add_zero] at hst;simp only[Builtin.copy_,List.getElem?_toArray,List.getElem?_cons_zero,List.getElem?_cons_succ,Builtin.lenOf,Sem.run_bind,Sem.run_pure,Result.andThen_ok,aD ht,cQ hi,hmin,Builtin.firstCells,loadCells];rw[hload];simp only[Result.andThen_ok];rw[harr,hst];rfl
      ·have:(es.take i++news.take (min news.length n)++es.drop (i+min news.length n)).length=es.length:=by simp;omega
       rw[this];exact h6
   ·exact h.elim
  ·exact h.elim
 ·exact h.elim
end
end Go.Proofs.YtephecognbbaoaaGreat
namespace Go.Proofs.YtephecognbbaoaaGreat
open Go
set_option linter.all false
open Go.Maps (Keyed int_keyed)
def nG:List AV→Option (List Value)
 | []=>some []
 | .c (.int k n)::r=>(nG r).map fun l=>.int k n::l
 | _=>none
def ym:AV→Option Value
 | .c (.int k n)=>some (.int k n)
 | .agg l=>(nG l).map fun l=>.agg l.toArray
 | _=>none
def rQ (P:Program) (kt:TypeId) (v:Value):Prop:=∃l,keyOf P kt v=some l
def tT (P:Program) (T:TypeId):Option Value:=(P.info? T).bind (·.zero)
def oV (P:Program) (T:TypeId):Option (TypeId×TypeId):=
 match P.underlying T with
 | some (.map k e)=>some (k,e)
 | _=>none
def mW:Option Ob→Option (List (Value×AV))
 | some (.map es)=>some es
 | _=>none
open Classical in
noncomputable def fC:List (Value×AV)→Value→Option AV
 | [],_=>none
 | e::r,kv=>if e.1=kv then some e.2 else fC r kv
open Classical in
noncomputable def p6:List (Value×AV)→Value→AV→List (Value×AV)
 | [],kv,x=>[(kv,x)]
 | e::r,kv,x=>if e.1=kv then (kv,x)::r else e::p6 r kv x
def NK (k:Value):List (Value×AV)→Prop
 | []=>True
 | f::r=>f.1≠k∧NK k r
theorem so {k:Value} : ∀ {r:List (Value×AV)},NK k r↔∀f∈r,f.1≠k
 | []=>by simp [NK]
 | e::r=>by simp [NK,so (r:=r)]
def DK:List (Value×AV)→Prop
 | []=>True
 | e::r=>NK e.1 r∧DK r
def KK (P:Program) (kt:TypeId):List (Value×AV)→Prop
 | []=>True
 | e::r=>rQ P kt e.1∧KK P kt r
theorem sp {P:Program} {kt:TypeId} : ∀ {r:List (Value×AV)},KK P kt r↔∀e∈r,rQ P kt e.1
 | []=>by simp [KK]
 | e::r=>by simp [KK,sp (r:=r)]
theorem uF:∀ {es:List (Value×AV)} {kv:Value},(∀e∈es,e.1≠kv)→fC es kv=none
 | [],_,_=>rfl
 | e::r,kv,h=>by
  simp only[fC];rw[if_neg (h e (by simp))]
  exact uF fun e he=>h e (by simp [he])
theorem uE:∀ {es:List (Value×AV)} {kv:Value},DK es→∀ {j:Nat} {e:Value×AV},es[j]? = some e→e.1=kv→fC es kv=some e.2
 | [],_,_,j,e,h,_=>by simp at h
 | x::r,kv,hd,j,e,h,he=>by
  simp only[fC]
  cases j with
  | zero=>
   simp only[List.getElem?_cons_zero,Option.some.injEq] at h;subst h;rw[if_pos he]
  | succ j=>
   simp only[List.getElem?_cons_succ] at h;rw[if_neg (fun e2=>so.1 hd.1 e (List.mem_of_getElem? h) (he.trans e2.symm))];exact uE hd.2 h he
theorem oj:∀ {es:List (Value×AV)} {kv:Value} {x:AV},(∀e∈es,e.1≠kv)→p6 es kv x=es++[(kv,x)]
 | [],_,_,_=>rfl
 | e::r,kv,x,h=>by
  simp only[p6];rw[if_neg (h e (by simp)),oj fun e he=>h e (by simp [he])]
  rfl
theorem vU:∀ {es:List (Value×AV)} {kv:Value} {x:AV},DK es→∀ {j:Nat} {e:Value×AV},es[j]? = some e→e.1=kv→p6 es kv x=es.set j (kv,x)
 | [],_,_,_,j,e,h,_=>by simp at h
 | y::r,kv,x,hd,j,e,h,he=>by
  simp only[p6]
  cases j with
  | zero=>
   simp only[List.getElem?_cons_zero,Option.some.injEq] at h;subst h;rw[if_pos he];rfl
  | succ j=>
   simp only[List.getElem?_cons_succ] at h;rw[if_neg (fun e2=>so.1 hd.1 e (List.mem_of_getElem? h) (he.trans e2.symm)),vU hd.2 h he];rfl
def iA (P:Program) (T:TypeId) (m k x:AV) (σ:aa) (K:aa→Prop):Prop:=
 on (oV P T) fun t=>on (ym k) fun kv=>match m with
  | .mp b=>on (mW σ[b]?) fun (es:List (Value×AV))=>Keyed P t.1∧rQ P t.1 kv∧KK P t.1 es∧DK es∧K (σ.set b (.map (p6 es kv x)))
  | _=>False
def Ee (ok:Bool) (z:Value) (o:Option AV):AV:=
 match ok with
 | true=>match o with
  | some v=>.tup [v,.c (.bool true)]
  | none=>.tup [.c z,.c (.bool false)]
 | false=>o.getD (.c z)
def vn (σ:aa) (m:AV):Option (List (Value×AV)):=
 match m with
 | .mp b=>mW σ[b]?
 | .cm es=>some es
 | _=>none
def fa (P:Program) (T:TypeId) (m k:AV) (ok:Bool) (σ:aa) (K:AV→Prop):Prop:=
 on (oV P T) fun t=>on (ym k) fun kv=>on (tT P t.2) fun z=>on (vn σ m) fun es=>Keyed P t.1∧rQ P t.1 kv∧KK P t.1 es∧DK es∧K (Ee ok z (fC es kv))
section
variable {P:Program} {K0:World} {imm:Imm} {m:Own} {w w':World} {σ:aa}
theorem rU:∀(l:List AV) (cs vs:List Value),bK imm m cs l→nG l=some vs→cs=vs
 | [],cs,vs,h,e=>by
  cases e
  exact List.eq_nil_of_length_eq_zero h.1
 | a::r,cs,vs,h,e=>by
  cases cs with
  | nil=>exact absurd h.1 (by simp)
  | cons c cs=>
   have h0:=h.2 0 (by simp) (by simp)
   have hr:bK imm m cs r:=⟨by simpa using h.1,fun i h1 h2=>by
    have:=h.2 (i+1) (by simpa using h1) (by simpa using h2)
    simpa using this⟩
   unfold nG at e
   split at e
   ·rename_i heq;cases heq
   ·rename_i k n r' heq
    cases heq
    obtain⟨l,hl,rfl⟩:=Option.map_eq_some_iff.1 e;rw[rU r cs l hr hl];simp only[List.getElem_cons_zero] at h0;rw[h0.c_inv]
   ·cases e
theorem yl {a:AV} {v u:Value} (h:Rep imm m v a) (e:ym a=some u):v=u:=by
 unfold ym at e
 split at e
 ·cases e;exact h.c_inv
 ·rename_i l
  obtain⟨vs,hvs,rfl⟩:=Option.map_eq_some_iff.1 e
  cases h with
  | agg cs _ hl hh=>rw[rU l cs vs ⟨hl,hh⟩ hvs]
 ·cases e
theorem v9 {b:Nat} {es:List (Value×AV)} (h:mW σ[b]? = some es):∃hb:b<σ.length,σ[b] = .map es:=by
 unfold mW at h
 split at h
 ·rename_i es' heq
  cases h
  exact List.getElem?_eq_some_iff.1 heq
 ·cases h
theorem Sim.pushO (hs:Sim K0 imm m w σ) (hb:eI w w') (o:Obj) (hw:w'.heap=w.heap.push o) (ob:Ob) (sz:Nat) (hok:qG imm (upd m σ.length (w.heap.size,sz)) w' σ.length ob) :
  Sim K0 imm (upd m σ.length (w.heap.size,sz)) w' (σ++[ob]):=by
 have hd:m σ.length=none:=hs.dom _ (Nat.le_refl _);have hold:∀b,b<w.heap.size→w'.heap[b]? = w.heap[b]? := fun b h=>by rw[hw,Array.getElem?_push,if_neg (by omega)]
 have hk:=hs.keep hb hold;refine⟨hk.os,hk.tape,hk.output,hk.size,hk.imm_ok,fun id h=>?_,fun id h=>?_,fun i j hi hj li lj e=>?_⟩
 ·simp only[List.length_append,List.length_cons,List.length_nil] at h;unfold upd;rw[if_neg (by omega)]
  exact hs.dom id (by omega)
 ·simp only[List.length_append,List.length_cons,List.length_nil] at h
  rcases Nat.lt_or_ge id σ.length with hlt|hge
  ·rw[List.getElem_append_left hlt];refine (hk.obs id hlt).keep (.refl _) (.upd hd _) (fun hn=>?_) (fun _ h _=>h) (fun _ _ _ _=>rfl);unfold upd;rw[if_neg (by omega)]
   exact hn
  ·obtain rfl:id=σ.length:=by omega
   rw[List.getElem_append_right (Nat.le_refl _)];simp only[Nat.sub_self,List.getElem_cons_zero];exact hok
 ·simp only[List.length_append,List.length_cons,List.length_nil] at hi hj;have key:∀(i:Nat) (hi:i<(σ++[ob]).length),(σ++[ob])[i].live=true→i<σ.length→∃b,upd m σ.length (w.heap.size,sz) i=some b∧b.1<w.heap.size:=by
   intro i hi hl hlt;rw[List.getElem_append_left hlt] at hl;obtain⟨blk,sz,e,hb,_⟩:=(hs.obs i hlt).lt hl;exact⟨(blk,sz),by unfold upd;rw[if_neg (by omega)];exact e,hb⟩
  rcases Nat.lt_or_ge i σ.length with hi'|hi'<;>rcases Nat.lt_or_ge j σ.length with hj'|hj'
  ·rw[List.getElem_append_left hi'] at li;rw[List.getElem_append_left hj'] at lj;refine hs.inj i j hi' hj' li lj ?_
   simpa [upd,Nat.ne_of_lt hi',Nat.ne_of_lt hj'] using e
  ·obtain⟨b,eb,hb⟩:=key i (by simp;omega) li hi'
   obtain rfl:j=σ.length:=by omega
   rw[eb] at e;simp [upd] at e;omega
  ·obtain⟨b,eb,hb⟩:=key j (by simp;omega) lj hj'
   obtain rfl:i=σ.length:=by omega
   rw[eb] at e;simp [upd] at e;omega
  ·omega
theorem Sim.setO (hs:Sim K0 imm m w σ) (hb:eI w w') {b blk sz:Nat} (hlt:b<σ.length) (hm:m b=some (blk,sz)) (hl0:σ[b].live=true)
  (hother:∀c,c≠blk→w'.heap[c]? = w.heap[c]?) (ob:Ob) (hok:qG imm m w' b ob):Sim K0 imm m w' (σ.set b ob):=by
 obtain⟨blk',sz',e',hblt,himm⟩:=(hs.obs b hlt).lt hl0;rw[hm] at e'
 cases e'
 have hlive:∀i (h:i<(σ.set b ob).length) (h':i<σ.length),(σ.set b ob)[i].live=true→σ[i].live=true:=by
  intro i h h' hl;rw[List.getElem_set] at hl
  split at hl
  ·rename_i e;subst e;exact hl0
  ·exact hl
 refine⟨hb.os.trans hs.os,hb.tape.trans hs.tape,hb.output.trans hs.output,Nat.le_trans hs.size hb.size,fun c o h=>?_,fun id h=>?_,fun id h=>?_,fun i j hi hj li lj e=>?_⟩
 ·rw[hother c (fun e=>by subst e;rw[himm] at h;cases h)]
  exact hs.imm_ok c o h
 ·simp only[List.length_set] at h;exact hs.dom id h
 ·have h':id<σ.length:=by simpa using h
  rw[List.getElem_set]
  split
  ·rename_i e
   subst e;exact hok
  ·rename_i hne
   refine (hs.obs id h').keep (.refl _) (.refl _) (fun h=>h) (fun _ h _=>h) fun hl c s e=>hother c fun ec=>?_;exact hs.other hlt h' hl0 hl hne hm e ec.symm
 ·have hi':i<σ.length:=by simpa using hi
  have hj':j<σ.length:=by simpa using hj
  exact hs.inj i j hi' hj' (hlive i hi hi' li) (hlive j hj hj' lj) e
theorem zF (hs:Sim K0 imm m w σ) (T:TypeId) :
  ∃m',OLe m m'∧(Instr.makeMap T none).run P w = .ok (.map (some w.heap.size)) (w.alloc (.map #[] 0))∧Sim K0 imm m' (w.alloc (.map #[] 0)) (σ++[.map []])∧Rep imm m' (.map (some w.heap.size)) (.mp σ.length):=by
 refine⟨upd m σ.length (w.heap.size,0),.upd (hs.dom _ (Nat.le_refl _)) _,by simp [Instr.makeMap],?_,.mp _ w.heap.size 0 (by simp [upd])⟩
 refine hs.pushO (fh _) _ rfl _ _ ⟨w.heap.size,0,by simp [upd],?_,#[],0,by show (w.heap.push _)[w.heap.size]? = _;simp,rfl,rfl,fun i hi=>by simp at hi⟩
 cases himm:imm w.heap.size with
 | none=>rfl
 | some o=>exact absurd (dI (hs.imm_ok _ _ himm)) (Nat.lt_irrefl _)
theorem oo (hs:Sim K0 imm m w σ) {b:Nat} {es:List (Value×AV)} {v:Value} (hr:Rep imm m v (.mp b)) (he:mW σ[b]? = some es) :
  ∃blk sz ents clock,v = .map (some blk)∧m b=some (blk,sz)∧imm blk=none∧w.heap[blk]? = some (.map ents clock)∧ents.size=es.length∧ents.toList.map (·.key)=es.map (·.1) ∧
   (∀i (hi:i<es.length) (hj:i<ents.size),Rep imm m ents[i].val es[i].2)∧∃hb:b<σ.length,σ[b] = .map es:=by
 obtain⟨hb,hob⟩:=v9 he;have h0:=hs.obs b hb;rw[hob] at h0;obtain⟨blk,sz,h1,h2,ents,clock,h3,h4,h5,h6⟩:=h0
 cases hr with
 | mp _ blk' sz' hm=>
  rw[h1] at hm
  cases hm
  exact⟨blk,sz,ents,clock,rfl,h1,h2,h3,h4,h5,h6,hb,hob⟩
theorem sB {ents:Array MapEntry} {es:List (Value×AV)} (h5:ents.toList.map (·.key)=es.map (·.1)) {j:Nat} {e:MapEntry} (h:ents.toList[j]? = some e):∃p,es[j]? = some p∧p.1=e.key:=by
 have h9:(ents.toList.map (·.key))[j]? = some e.key:=by simp only[List.getElem?_map,h,Option.map_some]
 rw[h5,List.getElem?_map] at h9;exact Option.map_eq_some_iff.1 h9
theorem Ai {ents:Array MapEntry} {es:List (Value×AV)} (h5:ents.toList.map (·.key)=es.map (·.1)) {p:Value×AV} (h:p∈es):∃e∈ents.toList,e.key=p.1:=by
 have h9:p.1∈ents.toList.map (·.key):=by rw[h5];exact List.mem_map_of_mem h
 obtain⟨e,he,h10⟩:=List.mem_map.1 h9;exact⟨e,he,h10⟩
theorem A0 (hs:Sim K0 imm m w σ) {T:TypeId} {mv kv:Value} {ma ka:AV} {ok:Bool} (hm:Rep imm m mv ma) (hk:Rep imm m kv ka) {K:AV→Prop} (h:fa P T ma ka ok σ K) :
  ∃v av,(Instr.lookup T mv kv ok).run P w = .ok v w∧Rep imm m v av∧K av:=by
 unfold fa at h
 replace h:=aj h;obtain⟨⟨kt,et⟩,ht,h⟩:=h
 replace h:=aj h;obtain⟨ku,hku,h⟩:=h
 replace h:=aj h;obtain⟨z,hz,h⟩:=h
 obtain rfl:=yl hk hku;have core:∀(blk:Nat) (ents:Array MapEntry) (clock:Nat) (es:List (Value×AV)),mv = .map (some blk)→w.heap[blk]? = some (.map ents clock)→ents.size=es.length→ents.toList.map (·.key)=es.map (·.1)→(∀i (hi:i<es.length) (hj:i<ents.size),Rep imm m ents[i].val es[i].2) →
   (Keyed P kt∧rQ P kt kv∧KK P kt es∧DK es∧K (Ee ok z (fC es kv))) →
   ∃v av,(Instr.lookup T mv kv ok).run P w = .ok v w∧Rep imm m v av∧K av:=by
  rintro blk ents clock es rfl h3 h4 h5 h6 ⟨hK,⟨kl,hkl⟩,hkeys,hdk,hres⟩;have hT:P.underlying T=some (.map kt et):=by
   unfold oV at ht
   split at ht
   ·rename_i k e heq;cases ht;exact heq
   ·cases ht
  have hzr:(zeroValue et).run P w = .ok z w:=by
   unfold tT at hz;obtain⟨i,hi,hz⟩:=Option.bind_eq_some_iff.1 hz;simp [zeroValue,jp hi,hz]
  have hall:∀e∈ents.toList,∃l,keyOf P kt e.key=some l:=fun e he=>by
   obtain⟨j,hj,rfl⟩:=List.getElem_of_mem he;obtain⟨p,hp,e2⟩:=sB h5 (List.getElem?_eq_getElem hj);rw[←e2];exact sp.1 hkeys p (List.mem_of_getElem? hp)
  rcases hK.find w hkl ents.toList hall with ⟨hf,hn⟩|⟨j,e,hf,hj,hek⟩
  ·rw[uF fun p hp=>by
    obtain⟨e,he,h9⟩:=Ai h5 hp;rw[←h9];exact hn e he] at hres
   refine⟨if ok=true then .tuple #[z,.bool false] else z,_,?_,?_,hres⟩
   ·simp [Instr.lookup,aD hT,Result.andThen,getObj,Sem.run,h3,hK.check w _ hkl,hf,hzr]
   ·cases ok
    ·exact .c _
    ·exact .tup [_,_] [_,_] rfl fun i h1 h2=>by
      match i,h1 with
      | 0,_=>exact .c _
      | 1,_=>exact .c _
  ·obtain⟨p,hp,e2⟩:=sB h5 hj;rw[uE hdk hp (by rw[e2,hek])] at hres
   obtain⟨hj1,e3⟩:=List.getElem?_eq_some_iff.1 hj;obtain⟨hp1,e4⟩:=List.getElem?_eq_some_iff.1 hp;have hrep:=h6 j hp1 (by simpa using hj1)
   rw[e4] at hrep;simp only[Array.getElem_toList] at e3;rw[e3] at hrep;refine⟨if ok=true then .tuple #[e.val,.bool true] else e.val,_,?_,?_,hres⟩
   ·simp [Instr.lookup,aD hT,Result.andThen,getObj,Sem.run,h3,hK.check w _ hkl,hf]
   ·cases ok
    ·exact hrep
    ·exact .tup [_,_] [_,_] rfl fun i h1 h2=>by
      match i,h1 with
      | 0,_=>exact hrep
      | 1,_=>exact .c _
 replace h:=aj h;obtain⟨es,hes,h⟩:=h
 unfold vn at hes
 split at hes
 ·rename_i b
  obtain⟨blk,sz,ents,clock,e0,_,_,h3,h4,h5,h6,_⟩:=oo hs hm hes;exact core blk ents clock es e0 h3 h4 h5 h6 h
 ·cases hes
  cases hm with
  | cm blk _ ents clock h3 h4 h5 h6=>exact core blk ents clock _ rfl (hs.imm_ok _ _ h3) h4 h5 h6 h
 ·cases hes
theorem vQ (hs:Sim K0 imm m w σ) {b blk sz:Nat} (hlt:b<σ.length) (hm:m b=some (blk,sz)) {es0:List (Value×AV)} (hob:σ[b] = .map es0) (himm:imm blk=none) {o:Obj} (hbk:w.heap[blk]? = some o)
  (ents:Array MapEntry) (clock:Nat) (es:List (Value×AV)) (h4:ents.size=es.length) (h5:ents.toList.map (·.key)=es.map (·.1)) (h6:∀i (hi:i<es.length) (hj:i<ents.size),Rep imm m ents[i].val es[i].2) :
  Sim K0 imm m { w with heap:=w.heap.setIfInBounds blk (.map ents clock) } (σ.set b (.map es)):=by
 have hb:=dI hbk;refine hs.setO (w' := { w with heap:=w.heap.setIfInBounds blk (.map ents clock) }) ⟨rfl,rfl,rfl,by simp⟩ hlt hm (by rw[hob];rfl) (fun c hc=>?_) (.map es) ⟨blk,sz,hm,himm,ents,clock,?_,h4,h5,h6⟩
 ·simp [Array.getElem?_setIfInBounds,Ne.symm hc]
 ·simp [Array.getElem?_setIfInBounds,hb]
theorem uB (hs:Sim K0 imm m w σ) {T:TypeId} {mv kv xv:Value} {ma ka xa:AV} (hm:Rep imm m mv ma) (hk:Rep imm m kv ka) (hx:Rep imm m xv xa) {K:aa→Prop} (h:iA P T ma ka xa σ K) :
  ∃w' σ',(Instr.mapUpdate T mv kv xv).run P w = .ok () w'∧Sim K0 imm m w' σ'∧K σ':=by
 unfold iA at h
 replace h:=aj h;obtain⟨⟨kt,et⟩,ht,h⟩:=h
 replace h:=aj h;obtain⟨ku,hku,h⟩:=h
 obtain rfl:=yl hk hku
 split at h
 ·rename_i b
  replace h:=aj h;obtain⟨es,hes,h⟩:=h
  obtain⟨hK,⟨kl,hkl⟩,hkeys,hdk,hres⟩:=h;obtain⟨blk,sz,ents,clock,rfl,hmb,himm,h3,h4,h5,h6,hb,hob⟩:=oo hs hm hes;have hT:P.underlying T=some (.map kt et):=by
   unfold oV at ht
   split at ht
   ·rename_i k e heq;cases ht;exact heq
   ·cases ht
  have hall:∀e∈ents.toList,∃l,keyOf P kt e.key=some l:=fun e he=>by
   obtain⟨j,hj,rfl⟩:=List.getElem_of_mem he;obtain⟨p,hp,e2⟩:=sB h5 (List.getElem?_eq_getElem hj);rw[←e2];exact sp.1 hkeys p (List.mem_of_getElem? hp)
  rcases hK.find w hkl ents.toList hall with ⟨hf,hn⟩|⟨j,e,hf,hj,hek⟩
  ·rw[oj fun p hp=>by
    obtain⟨e,he,h9⟩:=Ai h5 hp;rw[←h9];exact hn e he] at hres
   refine⟨_,_,?_,vQ hs hb hmb hob himm h3 (ents.push { key:=kv,val:=xv,born:=clock }) (clock+1) _ (by simp [h4]) (by simp [h5]) (fun i hi hj=>?_),hres⟩
   ·simp [Instr.mapUpdate,aD hT,Result.andThen,MapKept.run_getObj_map h3,hK.check w _ hkl,hf,MapKept.run_setObj_map _ h3]
   ·simp only[Array.size_push] at hj
    rcases Nat.lt_or_ge i ents.size with hl|hl
    ·rw[Array.getElem_push_lt hl,List.getElem_append_left (by omega)]
     exact h6 i (by omega) hl
    ·obtain rfl:i=ents.size:=by omega
     simp only[Array.getElem_push_eq];rw[List.getElem_append_right (by omega)]
     simp only[h4,Nat.sub_self,List.getElem_cons_zero];exact hx
  ·obtain⟨p,hp,e2⟩:=sB h5 hj;rw[vU hdk hp (by rw[e2,hek])] at hres
   obtain⟨hj1,e3⟩:=List.getElem?_eq_some_iff.1 hj;obtain⟨hp1,e4⟩:=List.getElem?_eq_some_iff.1 hp;have hj2:j<ents.size:=by simpa using hj1
   have hkey:((ents[j]?).map (·.key)).getD kv=kv:=by
    rw[Array.getElem?_eq_getElem hj2];simp only[Array.getElem_toList] at e3;simp [e3,hek]
   refine⟨_,_,?_,vQ hs hb hmb hob himm h3 (ents.modify j fun e => { e with key:=kv,val:=xv }) clock _ (by simp [h4]) ?_ (fun i hi hj=>?_),hres⟩
   ·simp [Instr.mapUpdate,aD hT,Result.andThen,MapKept.run_getObj_map h3,hK.check w _ hkl,hf,hkey,hK.stays w hkl,MapKept.run_setObj_map _ h3]
   ·apply List.ext_getElem?;intro i;have h9:(ents.toList.map (·.key))[i]? = (es.map (·.1))[i]? := by rw[h5]
    simp only[List.getElem?_map,Array.getElem?_toList,Array.getElem?_modify,List.getElem?_set] at h9 ⊢
    by_cases hij:j=i
    ·subst hij;simp [hj2,hp1]
    ·simp only[hij,if_false] at h9 ⊢;exact h9
   ·simp only[Array.size_modify] at hj;simp only[Array.getElem_modify,List.getElem_set]
    split
    ·exact hx
    ·exact h6 i (by simpa using hi) hj
 ·exact h.elim
theorem A8 (hs:Sim K0 imm m w σ) {T ty:TypeId} {v:Value} {b:Nat} {es:List (Value×AV)} (hr:Rep imm m v (.mp b)) (he:mW σ[b]? = some es) {t:TypeId×TypeId} (ht:oV P T=some t) :
  (Builtin.len_ #[T] ty #[v]).run P w = .ok (.int .i64 es.length) w:=by
 obtain⟨blk,sz,ents,clock,rfl,hmb,himm,h3,h4,_⟩:=oo hs hr he;have hT:P.underlying T=some (.map t.1 t.2):=by
  unfold oV at ht
  split at ht
  ·rename_i k e heq;cases ht;exact heq
  ·cases ht
 simp [Builtin.len_,aD hT,MapKept.run_getObj_map h3,goInt,h4]
end
end Go.Proofs.YtephecognbbaoaaGreat
namespace Go.Proofs.YtephecognbbaoaaGreat
open Go
set_option linter.all false
def aw (P:Program) (f:FuncId):Bool:=
 match P.funcs[f]? with
 | some fn=>fn.body.isSome && !(fn.name == "runtime.NumGoroutine")
 | none=>false
def dZ:List (List AV)→Option (List Int)
 | []=>some []
 | [.c (.int .u8 n)]::r=>(dZ r).map fun l=>n::l
 | _=>none
def fD (P:Program) (d d':Option TypeDesc) (x:AV) (σ:aa) (K:AV→aa→Prop):Prop:=
 match d,d',x with
 | some (.int _),some (.int .i64),.c (.int _ n)=>I64 n∧K (.c (.int .i64 n)) σ
 | some (.int _),some (.int k),.c (.int _ n)=>K (.c (.int k (k.wrap n))) σ
 | some .string,some (.slice e),.c (.string s)=>P.underlying e=some (.int .u8)∧K (.own σ.length 1 0 s.size s.size) (σ++[.cells 1 (s.data.toList.map fun b=>[.c (.int .u8 b.toNat)])])
 | some (.slice e),some .string,x=>P.underlying e=some (.int .u8)∧on (bO σ x) fun es=>on (dZ es) fun ns=>K (.c (.string (strOfNums ns))) σ
 | _,_,_=>False
def qk (P:Program) (d:Option TypeDesc) (l c:Int) (σ:aa) (K:AV→aa→Prop):Prop:=
 match d with
 | some (.slice e)=>on (bY P e) fun z=>z.length=P.cellsOf e∧0≤l∧l≤c∧(P.bytesOf e:Int)*c≤140737488355328∧c≤9223372036854775807 ∧
   K (.own σ.length (P.cellsOf e) 0 l.toNat c.toNat) (σ++[.cells (P.cellsOf e) (List.replicate c.toNat z)])
 | _=>False
def jP (P:Program) (l:Nat) (args:List AV) (σ:aa) (R:AV→aa→Prop):Prop:=
 ∀K imm m w vs,Sim K imm m w σ→bK imm m vs args→∃r:Loop,w.heap[l]? = some (.loop r)∧vs.length=r.params.size ∧
  RoundIn Fence.wide 0 P l r.fn ((r.params.zip vs.toArray).foldl (fun tmps (t,a)=>tmps.setIfInBounds t a) r.tmps) r.assign r.body w fun e w'=>
   ∃imm' m' v r σ',e = .returned v∧ILe imm imm'∧OLe m m'∧Sim K imm' m' w' σ'∧Rep imm' m' v r∧R r σ'
def AOp (P:Program) (op:Op) (ev:Operand→Option AV) (σ:aa) (K:AV→aa→Prop):Prop:=
 match op with
 | .alloc T=>on (bY P T) fun z=>K (.ptr σ.length z.length 0 0) (σ++[.cells z.length [z]])
 | .box _ x=>on (ev x) fun v=>K (.ptr σ.length (cd v).length 0 0) (σ++[.cells (cd v).length [cd v]])
 | .build T parts=>on (bY P T) fun z=>on (dy P T) fun pl=>on (eY ev parts.toList) fun ps=>on (jL (fun i=>pl[i]?) z ps) fun l=>K (.agg l) σ
 | .buildSlice T n parts=>on (b6 P T) fun k=>on (eY ev parts.toList) fun ps=>on (ll k 0 ps) fun es=>
  es.length=n∧n*k≤16777216∧(match P.underlying T with|some (.slice e)=>(bY P e).map (·.length)=some k|_=>False)∧K (.own σ.length k 0 n n) (σ++[.cells k es])
 | .load T a=>on (ev a) fun p=>on (ln P σ T p) fun v=>K v σ
 | .store T a x=>on (ev a) fun p=>on (ev x) fun v=>on (ud P σ T p v) fun σ'=>K (.c undef) σ'
 | .makeSlice T l c=>on ((ev l).bind jI) fun l=>on ((ev c).bind jI) fun c=>qk P (P.underlying T) l c σ K
 | .convert s d x=>on (ev x) fun x=>fD P (P.underlying s) (P.underlying d) x σ K
 | .call { callee:=.value f,args:=args,argTypes:=_ } => on (ev f) fun f=>on (evL ev args.toList) fun as'=>match f with
  | .fn g first cap=>aw P g=true∧af P g (first++as'++cap) σ K
  | .c (.func (.yield l) fs cs)=>fs = #[]∧cs = #[]∧jP P l as' σ K
  | _=>False
 | .call { callee:=.builtin .append,args:=args,argTypes:=ts } => on (evL ev args.toList) fun as'=>match as',ts.toList with
  | [s,x],[t,t']=>t'=t∧nf P t s x σ K
  | _,_=>False
 | .call { callee:=.builtin .copy,args:=args,argTypes:=ts } => on (evL ev args.toList) fun as'=>match as',ts.toList with
  | [x,s],[t,_]=>sD P (P.underlying t) x s σ K
  | _,_=>False
 | .makeMap _ none=>K (.mp σ.length) (σ++[.map []])
 | .insert T m k x=>on (ev m) fun m=>on (ev k) fun k=>on (ev x) fun x=>iA P T m k x σ fun σ'=>K (.c undef) σ'
 | .mapUpdate T m k x=>on (ev m) fun m=>on (ev k) fun k=>on (ev x) fun x=>iA P T m k x σ fun σ'=>K (.c undef) σ'
 | .lookup T m k ok=>on (ev m) fun m=>on (ev k) fun k=>fa P T m k ok σ fun v=>K v σ
 | .call { callee:=.builtin .len,args:=args,argTypes:=ts } => on (evL ev args.toList) fun l=>match l with
  | [.mp b]=>match ts.toList with
   | [T]=>on (oV P T) fun _=>on (mW σ[b]?) fun es=>K (.c (.int .i64 es.length)) σ
   | _=>False
  | _=>cH P (.call { callee:=.builtin .len,args:=args,argTypes:=ts }) ev fun v=>K v σ
 | op=>cH P op ev fun v=>K v σ
section
variable {P:Program} {K0:World} {imm:Imm} {m:Own} {w w':World} {σ:aa} {ev:Operand→Option AV} {ρ:Operand→Value}
theorem cn {Kont:AV→aa→Prop} {r:Result Next} {v:Value} {w':World} {imm':Imm} {m':Own} {av:AV} {σ':aa} (hr:r = .ok (.value v) w')
  (hi:ILe imm imm') (ho:OLe m m') (hs:Sim K0 imm' m' w' σ') (hv:Rep imm' m' v av) (hk:Kont av σ'):Up P K0 imm m Kont r:=by
 subst hr;exact⟨imm',m',av,σ',hi,ho,hs,hv,hk⟩
theorem ul (k:Nat):∀(ps:List (Nat×AV)) (i0:Nat) (es:List (List AV)) (e:List AV),ll k i0 ps=some es→(i0+es.length)*k≤e.length →
  (∀x,x∈es→x.length=k)∧∃e',jL (fun i=>some (i*k,k)) e ps=some e'∧e'.length=e.length ∧
   (∀i (hi:i<es.length) j (hj:j<es[i].length),e'[(i0+i)*k+j]? = some es[i][j])∧(∀x,x<i0*k→e'[x]? = e[x]?)
 | [],i0,es,e,h,hle=>by
  cases h
  exact⟨fun x hx=>by simp at hx,e,rfl,rfl,fun i hi=>by simp at hi,fun _ _=>rfl⟩
 | (j,v)::r,i0,es,e,h,hle=>by
  simp only[ll] at h
  split at h
  ·rename_i hc
   obtain⟨rfl,hlen⟩:=hc;obtain⟨l,hl,rfl⟩:=Option.map_eq_some_iff.1 h;have e1:(i0+(cd v::l).length)*k=i0*k+k+l.length*k:=by simp only[List.length_cons];rw[Nat.add_mul,Nat.add_mul,Nat.one_mul];omega
   have hle2:(i0+1+l.length)*k≤(setL e (i0*k) (cd v)).length:=by
    rw[eN];rw[Nat.add_mul,Nat.add_mul,Nat.one_mul];omega
   obtain⟨h1,e',h2,h3,h4,h5⟩:=ul k r (i0+1) l (setL e (i0*k) (cd v)) hl hle2;refine⟨fun x hx=>?_,e',?_,by rw[h3,eN],fun i hi j hj=>?_,fun x hx=>?_⟩
   ·rcases List.mem_cons.1 hx with rfl|hx
    ·exact hlen
    ·exact h1 x hx
   ·simp only[jL];rw[if_pos ⟨hlen,by omega⟩]
    exact h2
   ·cases i with
    | zero=>
     simp only[List.getElem_cons_zero] at hj ⊢;have hx:i0*k+j<(i0+1)*k:=fe (by omega) (by omega)
     have hlt:i0*k+j<(setL e (i0*k) (cd v)).length:=by rw[eN];omega
     rw[Nat.add_zero,h5 _ hx,List.getElem?_eq_getElem hlt,(pU (cd v) e (i0*k) _ hlt (by omega)).1 j hj rfl]
    | succ i=>
     simp only[List.getElem_cons_succ] at hj ⊢;have:=h4 i (by simpa using hi) j hj
     rw[show i0+(i+1)=i0+1+i by omega]
     exact this
   ·have hx':x<(i0+1)*k:=by rw[Nat.add_mul,Nat.one_mul];omega
    rw[h5 x hx'];have hlt:x<(setL e (i0*k) (cd v)).length:=by rw[eN];omega
    rw[List.getElem?_eq_getElem hlt,(pU (cd v) e (i0*k) _ hlt (by omega)).2 (.inl hx),←List.getElem?_eq_getElem]
  ·cases h
theorem AW:∀(es:List (List AV)) (ns:List Int),dZ es=some ns→es=ns.map fun n=>[.c (.int .u8 n)]:=by
 intro es
 induction es with
 | nil=>intro ns h;cases h;rfl
 | cons x r ih=>
  intro ns h;unfold dZ at h
  split at h
  ·rename_i heq;cases heq
  ·rename_i n r' heq
   cases heq
   obtain⟨l,hl,rfl⟩:=Option.map_eq_some_iff.1 h;rw[ih l hl];rfl
  ·cases h
theorem bK.append {v1 v2:List Value} {a1 a2:List AV} (h1:bK imm m v1 a1) (h2:bK imm m v2 a2):bK imm m (v1++v2) (a1++a2):=by
 have e:=h1.1;refine⟨by simp [e,h2.1],fun i hi1 hi2=>?_⟩
 rcases Nat.lt_or_ge i v1.length with h|h
 ·rw[List.getElem_append_left h,List.getElem_append_left (by omega)]
  exact h1.2 i h _
 ·rw[List.getElem_append_right h,List.getElem_append_right (by omega)]
  have h9:=h2.2 (i-v1.length) (by simp only[List.length_append] at hi1;omega) (by simp only[List.length_append] at hi2;omega)
  simp only[e] at h9 ⊢;exact h9
theorem upA (op:Op) (hs:Sim K0 imm m w σ) (hev:∀x av,ev x=some av→Rep imm m (ρ x) av) {Kont:AV→aa→Prop} (h:cH P op ev fun v=>Kont v σ)
  {dst:Option Tmp} {type:TypeId} {pos:String} {after:Array Edge} {guard:Option (Nat×Bool)} :
  Up P K0 imm m Kont ((execOp ρ { dst,op,type,pos,after,guard }).run P w):=by
 obtain⟨v,av,hr,hrep,hk⟩:=BC (P:=P) (w:=w) op hev h;exact cn (hr dst type pos after guard) (.refl _) (.refl _) hs hrep hk
theorem eL (op:Op) (hs:Sim K0 imm m w σ) (hev:∀x av,ev x=some av→Rep imm m (ρ x) av) {Kont:AV→aa→Prop} (h:AOp P op ev σ Kont)
  {dst:Option Tmp} {type:TypeId} {pos:String} {after:Array Edge} {guard:Option (Nat×Bool)} :
  Up P K0 imm m Kont ((execOp ρ { dst,op,type,pos,after,guard }).run P w):=by
 cases op with
 | alloc T=>
  replace h:=aj h;obtain⟨z,hz,hK⟩:=h
  obtain⟨v,hr,hrep,rfl,_⟩:=fF (P:=P) (imm:=imm) (m:=m) (w:=w) hz;obtain⟨m',ho,hs',hp⟩:=hs.alloc1 v.cells T _ hrep;refine cn (v:=.pointer (some ⟨w.heap.size,0,none⟩)) ?_ (.refl _) ho hs' hp hK;simp [execOp,Instr.alloc,hr,newVar,newRow]
 | box T x=>
  replace h:=aj h;obtain⟨a,ha,hK⟩:=h
  obtain⟨m',ho,hs',hp⟩:=hs.alloc1 (ρ x).cells T _ (se (hev _ _ ha));refine cn (v:=.pointer (some ⟨w.heap.size,0,none⟩)) ?_ (.refl _) ho hs' hp hK;simp [execOp,Instr.box,newVar,newRow]
 | build T parts=>
  replace h:=aj h;obtain⟨z,hz,h⟩:=h
  replace h:=aj h;obtain⟨pl,hpl,h⟩:=h
  replace h:=aj h;obtain⟨ps,hps,h⟩:=h
  replace h:=aj h;obtain⟨l,hl,hK⟩:=h
  obtain⟨v,hr,hrep,rfl,hzi⟩:=fF (P:=P) (imm:=imm) (m:=m) (w:=w) hz;have hparts:=p7 hev _ _ hps;unfold dy at hpl
  split at hpl
  ·rename_i fs hT
   split at hpl
   ·rename_i hall
    cases hpl
    have hlist:∀(l:List Field),(∀f∈l,(P.info? f.type).isSome=true)→l.mapM (fun f=>(P.info? f.type).map fun i=>(f.offset,i.size))=some (l.map fun f=>(f.offset,P.cellsOf f.type)):=by
     intro l
     induction l with
     | nil=>intro _;rfl
     | cons f r ih=>
      intro hf;obtain⟨i,hi⟩:=Option.isSome_iff_exists.1 (hf f (by simp))
      have:=ih (fun g hg=>hf g (by simp [hg]))
      simp [List.mapM_cons,hi,this,Program.cellsOf]
    have hm:=hlist fs.toList (fun f hf=>by
      have:=Array.all_eq_true.1 hall;obtain⟨i,hi,rfl⟩:=List.getElem_of_mem hf
      simpa using this i (by simpa using hi))
    obtain⟨cs',e1,r1⟩:=ow (imm:=imm) (m:=m) (fun i=>(fs.toList.map fun f=>(f.offset,P.cellsOf f.type))[i]?) (parts.toList.map fun (i,x)=>(i,ρ x)) ps v.cells _ l hrep
     ⟨by simpa using hparts.1,fun i h1 h2=>by simp only[List.getElem_map];exact hparts.2 i (by simpa using h1) h2⟩ hl
    obtain⟨it,hit⟩:∃it,P.info? T=some it∧it.zero=some v:=by
     cases hi:P.info? T with
     | none=>simp [hi] at hzi
     | some it=>exact⟨it,rfl,by simpa [hi] using hzi⟩
    have hb:P.built T (parts.map fun (x:Nat×Operand)=>(x.1,ρ x.2)).toList=some cs':=by
     have e2:(parts.map fun (x:Nat×Operand)=>(x.1,ρ x.2)).toList=parts.toList.map fun (i,x)=>(i,ρ x):=by simp
     rw[e2];simp only[Program.built,hit.1,hT,hit.2,hm];rw[←e1]
     congr 1
     funext i
     simp
    refine cn (v:=.agg cs') (w':=w) ?_ (.refl _) (.refl _) hs ?_ hK
    ·simp only[execOp,Sem.run_bind,run_build w T _ cs' hb,Result.andThen_ok,Sem.run_pure]
    ·have:cs'=cs'.toList.toArray:=by simp
     rw[this];exact .agg _ _ r1.1 r1.2
   ·cases hpl
  ·rename_i n e hT
   split at hpl
   ·rename_i hei
    cases hpl
    obtain⟨ie,hie⟩:=Option.isSome_iff_exists.1 hei;have hce:P.cellsOf e=ie.size:=by simp [Program.cellsOf,hie]
    have hl2:=uG (g:=fun i=>some (i*P.cellsOf e,P.cellsOf e)) (fun i p hp=>by
     rw[List.getElem?_map] at hp;obtain⟨y,hy,rfl⟩:=Option.map_eq_some_iff.1 hp;obtain⟨hlt,rfl⟩:=List.getElem?_eq_some_iff.1 hy;simp) _ _ _ hl
    obtain⟨cs',e1,r1⟩:=ow (imm:=imm) (m:=m) (fun i=>some (i*P.cellsOf e,P.cellsOf e)) (parts.toList.map fun (i,x)=>(i,ρ x)) ps v.cells _ l hrep
     ⟨by simpa using hparts.1,fun i h1 h2=>by simp only[List.getElem_map];exact hparts.2 i (by simpa using h1) h2⟩ hl2
    obtain⟨it,hit⟩:∃it,P.info? T=some it∧it.zero=some v:=by
     cases hi:P.info? T with
     | none=>simp [hi] at hzi
     | some it=>exact⟨it,rfl,by simpa [hi] using hzi⟩
    have hb:P.built T (parts.map fun (x:Nat×Operand)=>(x.1,ρ x.2)).toList=some cs':=by
     have e2:(parts.map fun (x:Nat×Operand)=>(x.1,ρ x.2)).toList=parts.toList.map fun (i,x)=>(i,ρ x):=by simp
     rw[e2];simp only[Program.built,hit.1,hT,hit.2,hie];rw[←e1,hce]
    refine cn (v:=.agg cs') (w':=w) ?_ (.refl _) (.refl _) hs ?_ hK
    ·simp only[execOp,Sem.run_bind,run_build w T _ cs' hb,Result.andThen_ok,Sem.run_pure]
    ·have:cs'=cs'.toList.toArray:=by simp
     rw[this];exact .agg _ _ r1.1 r1.2
   ·cases hpl
  ·cases hpl
 | load T a=>
  replace h:=aj h;obtain⟨p,hp,h⟩:=h
  replace h:=aj h;obtain⟨v,hv,hK⟩:=h
  obtain⟨u,h1,h2⟩:=yk hs (hev _ _ hp) hv;exact cn (v:=u) (w':=w) (by simp [execOp,h1]) (.refl _) (.refl _) hs h2 hK
 | store T a x=>
  replace h:=aj h;obtain⟨p,hp,h⟩:=h
  replace h:=aj h;obtain⟨v,hv,h⟩:=h
  replace h:=aj h;obtain⟨σ',hσ,hK⟩:=h
  obtain⟨w',h1,h2⟩:=BN hs (hev _ _ hp) (hev _ _ hv) hσ;have hr:(execOp ρ { dst,op:=.store T a x,type,pos,after,guard }).run P w = .ok .skip w':=by simp [execOp,h1]
  rw[hr];exact⟨imm,m,_,σ',.refl _,.refl _,h2,.c _,hK⟩
 | buildSlice T n parts=>
  replace h:=aj h;obtain⟨k,hk,h⟩:=h
  replace h:=aj h;obtain⟨ps,hps,h⟩:=h
  replace h:=aj h;obtain⟨es,hes,h⟩:=h
  obtain⟨rfl,hsmall,hz,hK⟩:=h;have hparts:=p7 hev _ _ hps;unfold b6 at hk
  split at hk
  ·rename_i e hT
   split at hk
   ·rename_i hi
    cases hk
    simp only[hT] at hz;obtain⟨z,hz,hzl⟩:=Option.map_eq_some_iff.1 hz;obtain⟨v,hr,hrep,rfl,_⟩:=fF (P:=P) (imm:=imm) (m:=m) (w:=w) hz
    let Z:Array Value:=if es.length*P.cellsOf e=0 then #[] else v.cells
    let C:Array Value:=(Array.range (es.length*P.cellsOf e)).map (Z[· % Z.size]!)
    have hC:C.size=es.length*P.cellsOf e:=by simp [C]
    have hCr:bK imm m C.toList (C.toList.map .c):=⟨by simp,fun i h1 h2=>by simp only[List.getElem_map];exact .c _⟩
    obtain⟨hall,e',hf,hl,hg,_⟩:=ul (P.cellsOf e) ps 0 es (C.toList.map .c) hes (by simp [hC])
    obtain⟨cs',e1,r1⟩:=ow (imm:=imm) (m:=m) (fun i=>some (i*P.cellsOf e,P.cellsOf e)) (parts.toList.map fun (i,x)=>(i,ρ x)) ps C _ e' hCr
     ⟨by simpa using hparts.1,fun i h1 h2=>by simp only[List.getElem_map];exact hparts.2 i (by simpa using h1) h2⟩ hf
    have hsz:cs'.size=es.length*P.cellsOf e:=by have:=r1.1;simp [hl,hC] at this;omega
    have hnew:=hs.push (w':=w.alloc (.cells cs' e)) (fh _) cs' e (0,0) rfl (P.cellsOf e) es (by simp) (by omega) (fun i hi=>⟨hall _ (List.getElem_mem _),fun j hj=>by
     have hlt:i*P.cellsOf e+j<es.length*P.cellsOf e:=fe (by rw[←hall _ (List.getElem_mem hi)];exact hj) hi
     have h9:=hg i hi j hj;rw[Nat.zero_add] at h9;obtain⟨hlt2,e9⟩:=List.getElem?_eq_some_iff.1 h9;refine⟨cs'[i*P.cellsOf e+j],by simp [hsz,hlt],?_⟩
     rw[←e9];exact r1.2 _ (by simpa [hsz] using hlt) hlt2⟩)
    refine cn (v:=.slice (some ⟨w.heap.size,0,none⟩) es.length es.length) (w':=w.alloc (.cells cs' e)) ?_ (.refl _) (.upd (hs.dom _ (Nat.le_refl _)) _) hnew
     (.own _ _ _ _ _ _ w.heap.size cs'.size _ (by simp [upd]) (Nat.le_refl _) (Nat.le_refl _) (by simp) (by rw[Nat.zero_add];omega)) hK
    have e2:(parts.map fun (x:Nat×Operand)=>(x.1,ρ x.2)).toList=parts.toList.map fun (i,x)=>(i,ρ x):=by simp
    have hns:¬es.length*P.cellsOf e>2 ^ 24:=by omega
    simp only[execOp,Instr.buildSlice,Sem.run_bind,aD hT,Result.andThen_ok,cQ hi,if_neg hns,e2]
    by_cases h0:es.length*P.cellsOf e=0
    ·have hZ:Z = #[]:=if_pos h0;simp only[C,hZ] at e1;simp only[if_pos h0,Sem.run_bind,Sem.run_pure,Result.andThen_ok,e1];simp [newRow]
    ·have hZ:Z=v.cells:=if_neg h0;simp only[C,hZ] at e1;simp only[if_neg h0,Sem.run_bind,hr,Sem.run_pure,Result.andThen_ok,e1];simp [newRow]
   ·cases hk
  ·cases hk
 | makeSlice T l c=>
  replace h:=aj h;obtain⟨nl,hl,h⟩:=h
  replace h:=aj h;obtain⟨nc,hc,h⟩:=h
  obtain⟨kl,hl⟩:=eT (d:=0) hev (show c7 ev (some l) 0=some nl from hl);obtain⟨kc,hc⟩:=eT (d:=0) hev (show c7 ev (some c) 0=some nc from hc);unfold qk at h
  split at h
  ·rename_i e hT
   replace h:=aj h;obtain⟨z,hz,h⟩:=h
   obtain⟨hzl,h0,h1,h2,h3,hK⟩:=h;obtain⟨v,hr,hrep,rfl,hzi⟩:=fF (P:=P) (imm:=imm) (m:=m) (w:=w) hz;obtain⟨it,hit⟩:∃it,P.info? e=some it∧it.zero=some v:=by
    cases hi:P.info? e with
    | none=>simp [hi] at hzi
    | some it=>exact⟨it,rfl,by simpa [hi] using hzi⟩
   have hcells:P.cellsOf e=it.size:=by simp [Program.cellsOf,hit.1]
   have hbytes:P.bytesOf e=it.bytes:=by simp [Program.bytesOf,hit.1]
   have hvs:v.cells.size=P.cellsOf e:=by rw[←hzl];simp
   have hrun:=run_make w T e it v hT hit.1 hit.2 kl kc nl nc h0 h1 (by rw[←hbytes];omega) h3
   have hsz:(madeCells v.cells (nc.toNat*it.size)).size=nc.toNat*P.cellsOf e:=by simp [madeCells,hcells]
   have hnew:=hs.push (w':=w.alloc (.cells (madeCells v.cells (nc.toNat*it.size)) e)) (fh _) _ e (0,0) rfl (P.cellsOf e) (List.replicate nc.toNat (v.cells.toList.map .c)) (by simp) (by simp [hsz])
    (fun i hi=>⟨by simp [hvs],fun j hj=>by
     simp only[List.getElem_replicate,List.length_map,Array.length_toList] at hj;simp only[List.length_replicate] at hi;have hlt:i*P.cellsOf e+j<nc.toNat*P.cellsOf e:=fe (by omega) hi
     refine⟨v.cells[j],?_,?_⟩
     ·have hmod:(i*P.cellsOf e+j) % v.cells.size=j:=by
       rw[hvs,Nat.mul_comm,Nat.mul_add_mod];exact Nat.mod_eq_of_lt (by omega)
      rw[Array.getElem?_eq_getElem (by rw[hsz];exact hlt)]
      simp [madeCells,hmod,hj]
     ·simp only[List.getElem_replicate,List.getElem_map,Array.getElem_toList];exact .c _⟩)
   refine cn (v:=.slice (some ⟨w.heap.size,0,none⟩) nl.toNat nc.toNat) ?_ (.refl _) (.upd (hs.dom _ (Nat.le_refl _)) _) hnew
    (.own _ _ _ _ _ _ w.heap.size (madeCells v.cells (nc.toNat*it.size)).size _ (by simp [upd]) (by omega) (Nat.le_refl _) (by simp) (by rw[hsz];simp)) hK
   simp only[execOp,hl,hc,Sem.run_bind,hrun,Result.andThen_ok,Sem.run_pure]
  ·exact h.elim
 | convert s d x=>
  replace h:=aj h;obtain⟨a,ha,h⟩:=h
  have hrx:=hev _ _ ha;unfold fD at h
  split at h
  ·rename_i h1 h2
   have e1:=hrx.c_inv;obtain⟨h0,h⟩:=h;refine cn (w':=w) ?_ (.refl _) (.refl _) hs (.c _) h;simp only[execOp,e1,convert,Sem.run_bind,aD h1,aD h2,Result.andThen_ok,Conv.intToInt,Sem.run_pure,gm h0]
  ·rename_i h1 h2
   have e1:=hrx.c_inv;refine cn (w':=w) ?_ (.refl _) (.refl _) hs (.c _) h;simp only[execOp,e1,convert,Sem.run_bind,aD h1,aD h2,Result.andThen_ok,Conv.intToInt,Sem.run_pure]
  ·rename_i e str h1 h2
   obtain⟨he,hK⟩:=h;have e1:=hrx.c_inv;have hr:=run_bytes_of_string (P:=P) w s d e str h1 h2 he;have hg:=grownCap_ge w str.size 0 e;have hszr:(bytesRow str (grownCap w str.size 0 e)).size=grownCap w str.size 0 e:=by
    simp only[bytesRow,Array.size_append,Array.size_map,Array.size_replicate];have:str.data.size=str.size:=rfl;omega
   have hnew:=hs.push (w':=w.drew.alloc (.cells (bytesRow str (grownCap w str.size 0 e)) e ((bytesRow str (grownCap w str.size 0 e)).size,(bytesRow str (grownCap w str.size 0 e)).size+1))) (o7 _) _ e _ rfl 1
    (str.data.toList.map fun b=>[.c (.int .u8 b.toNat)]) (fun o ho=>by omega) (by rw[hszr];simp;exact hg)
    (fun i hi=>⟨by simp,fun j hj=>by
     simp only[List.getElem_map,List.length_cons,List.length_nil] at hj;obtain rfl:j=0:=by omega
     simp only[List.length_map,Array.length_toList] at hi;refine⟨.int .u8 (str.data[i].toNat:Int),?_,?_⟩
     ·rw[show i*1+0=i by omega]
      exact bytesRow_at str _ i hi
     ·simp only[List.getElem_map,List.getElem_cons_zero,Array.getElem_toList];exact .c _⟩)
   refine cn ?_ (.refl _) (.upd (hs.dom _ (Nat.le_refl _)) _) hnew (.own _ _ _ _ _ (grownCap w str.size 0 e) w.heap.size (bytesRow str (grownCap w str.size 0 e)).size 0 (by simp [upd]) (Nat.le_refl _) hg (by simp) (by rw[hszr];omega)) hK
   simp only[execOp,e1,Sem.run_bind,hr,Result.andThen_ok,Sem.run_pure]
  ·rename_i e h1 h2
   obtain⟨he,h⟩:=h
   replace h:=aj h;obtain⟨es,hes,h⟩:=h
   replace h:=aj h;obtain⟨ns,hns,hK⟩:=h
   have hsp:=AW es ns hns;refine cn (v:=.string (strOfNums ns)) (w':=w) ?_ (.refl _) (.refl _) hs (.c _) hK;obtain⟨p,cap,hv,hcap,hat⟩:=gV hs hrx hes;have hlen:es.length=ns.length:=by rw[hsp];simp
   rcases Nat.eq_zero_or_pos es.length with h0|h0
   ·have hns0:ns=[]:=List.eq_nil_of_length_eq_zero (by omega)
    subst hns0;simp only[execOp,hv,h0,convert,Sem.run_bind,aD h1,aD h2,aD he,Result.andThen_ok]
    cases p<;>simp [Conv.bytesToString,loadCells,loadCellsFrom,strOfNums]<;>rfl
   ·obtain⟨b,o,k,rfl,hk,hc⟩:=hat h0;have hk1:k=1:=by
     have:=hk 0 h0;rw[←this];simp [hsp]
    subst hk1;have hr:=run_convert_bytes_arg (P:=P) (w:=w) s e h1 he b o es.length cap ns hlen.symm (fun i hi=>by
     have hi':i<ns.length:=by omega
     have hone:es[i]=[.c (.int .u8 ns[i])]:=by simp [hsp]
     obtain⟨u,hu,r⟩:=hc i hi 0 (by rw[hone];simp)
     simp only[hone,List.getElem_cons_zero] at r;rw[Nat.mul_one,Nat.add_zero] at hu;rw[hu,r.c_inv];simp [List.getD_eq_getElem?_getD,hi']) d h2
    simp only[execOp,hv,Sem.run_bind,hr,Result.andThen_ok,Sem.run_pure]
  ·exact h.elim
 | call c=>
  obtain⟨callee,args,ts⟩:=c;have hargs:args.map ρ=(args.toList.map ρ).toArray:=by cases args;simp
  cases callee with
  | value f=>
   replace h:=aj h;obtain⟨fv,hf,h⟩:=h
   replace h:=aj h;obtain⟨as',has,h⟩:=h
   have hr:=hev _ _ hf;have hra:=fq hev _ _ has
   split at h
   ·rename_i g first cap
    obtain⟨hok,hc⟩:=h
    generalize hv:ρ f=v at hr
    cases hr with
    | fn f' fs cs _ _ hfl hcl h1 h2=>
     have hrl:bK imm m (fs++args.toList.map ρ++cs) (first++as'++cap):=(bK.append ⟨hfl,h1⟩ hra).append ⟨hcl,h2⟩
     have hcall:=hc K0 imm m w _ hs hrl;have hrun:(execOp ρ { dst,op:=.call { callee:=.value f,args:=args,argTypes:=ts },type,pos,after,guard }).run P w = .ok (.enter g (fs++args.toList.map ρ++cs).toArray) w:=by
      unfold aw at hok
      split at hok
      ·rename_i fn hfn
       simp only[Bool.and_eq_true,Bool.not_eq_true'] at hok;have hbody:fn.body≠none:=by
        have:=hok.1;intro hb;simp [hb] at this
       have hname:fn.name ≠ "runtime.NumGoroutine" := by simpa using hok.2
       simp only[execOp,resolve,hv,Deferred.ofValue,Sem.run_bind,Sem.run_pure,Result.andThen_ok,invoke,callFunc,program,hargs];simp [hfn,hname,hbody,Sem.run]
      ·cases hok
     rw[hrun];exact hcall.mono fun e w' ⟨imm',m',v,r,σ',he,hi,ho,hs',hr,hk⟩=>⟨imm',m',v,r,σ',he,hi,ho,hs',hr,hk⟩
   ·rename_i l fs cs
    obtain⟨rfl,rfl,hc⟩:=h;have hv:=hr.c_inv;obtain⟨rec,hl,hsz,hround⟩:=hc K0 imm m w _ hs hra;have hrun:(execOp ρ { dst,op:=.call { callee:=.value f,args:=args,argTypes:=ts },type,pos,after,guard }).run P w =
      .ok (.round l rec.fn ((rec.params.zip (args.toList.map ρ).toArray).foldl (fun tmps (t,a)=>tmps.setIfInBounds t a) rec.tmps) rec.assign rec.body) w:=by
     simp only[execOp,resolve,hv,Deferred.ofValue,Sem.run_bind,Sem.run_pure,Result.andThen_ok,invoke,hargs];have:=run_yield (P:=P) (args:=(args.toList.map ρ).toArray) hl (by simpa using hsz)
     simpa using this
    rw[hrun];exact hround
   ·exact h.elim
  | builtin b=>
   cases b with
   | append=>
    replace h:=aj h;obtain⟨as',has,h⟩:=h
    have hra:=fq hev _ _ has
    split at h
    ·rename_i s x t t' hts
     obtain⟨rfl,h⟩:=h;obtain⟨o1,o2,ho⟩:∃o1 o2,args.toList=[o1,o2]:=by
      have:=hra.1;simp only[List.length_map] at this
      match h9:args.toList,this with
      | [a,b],_=>exact⟨a,b,rfl⟩
     have ha:args = #[o1,o2]:=by cases args;simp_all
     subst ha;have ht:ts = #[t',t']:=by cases ts;simp_all
     subst ht;have hr1:Rep imm m (ρ o1) s:=by simpa using hra.2 0 (by simp) (by simp)
     have hr2:Rep imm m (ρ o2) x:=by simpa using hra.2 1 (by simp) (by simp)
     obtain⟨v,w',imm',m',av,σ',hrun,hi,ho,hs',hr,hk⟩:=Br (ty:=type) hs hr1 hr2 h;refine cn ?_ hi ho hs' hr hk;simp only[execOp,resolve,Sem.run_bind,Sem.run_pure,Result.andThen_ok,invoke,builtin,List.map_toArray,List.map_cons,List.map_nil,hrun]
    ·exact h.elim
   | copy=>
    replace h:=aj h;obtain⟨as',has,h⟩:=h
    have hra:=fq hev _ _ has
    split at h
    ·rename_i x s t t' hts
     obtain⟨o1,o2,ho⟩:∃o1 o2,args.toList=[o1,o2]:=by
      have:=hra.1;simp only[List.length_map] at this
      match h9:args.toList,this with
      | [a,b],_=>exact⟨a,b,rfl⟩
     have ha:args = #[o1,o2]:=by cases args;simp_all
     subst ha;have ht:ts = #[t,t']:=by cases ts;simp_all
     subst ht;have hr1:Rep imm m (ρ o1) x:=by simpa using hra.2 0 (by simp) (by simp)
     have hr2:Rep imm m (ρ o2) s:=by simpa using hra.2 1 (by simp) (by simp)
     obtain⟨v,w',av,σ',hrun,hs',hr,hk⟩:=D0 (t':=t') (ty:=type) hs hr1 hr2 h;refine cn ?_ (.refl _) (.refl _) hs' hr hk;simp only[execOp,resolve,Sem.run_bind,Sem.run_pure,Result.andThen_ok,invoke,builtin,List.map_toArray,List.map_cons,List.map_nil,hrun]
    ·exact h.elim
   | len=>
    have h':=h
    replace h:=aj h;obtain⟨as',has,h⟩:=h
    have hra:=fq hev _ _ has
    split at h
    ·rename_i b
     split at h
     ·rename_i T hts
      replace h:=aj h;obtain⟨t,ht,h⟩:=h
      replace h:=aj h;obtain⟨es,hes,hK⟩:=h
      obtain⟨o1,ho⟩:∃o1,args.toList=[o1]:=by
       have:=hra.1;simp only[List.length_map] at this;exact List.length_eq_one_iff.1 this
      have ha:args = #[o1]:=by cases args;simp_all
      subst ha;have ht':ts = #[T]:=by cases ts;simp_all
      subst ht';have hr1:Rep imm m (ρ o1) (.mp b):=by simpa using hra.2 0 (by simp) (by simp)
      have hrun:=A8 (ty:=type) hs hr1 hes ht;refine cn (w':=w) ?_ (.refl _) (.refl _) hs (.c _) hK;simp only[execOp,resolve,Sem.run_bind,Sem.run_pure,Result.andThen_ok,invoke,builtin,List.map_toArray,List.map_cons,List.map_nil,hrun]
     ·exact h.elim
    ·exact upA _ hs hev h
   | _=>
    simp only[AOp] at h;exact upA _ hs hev h
  | _=>
   simp only[AOp] at h;exact upA _ hs hev h
 | makeMap T r=>
  cases r with
  | none=>
   simp only[AOp] at h;obtain⟨m',ho,hrun,hs',hr⟩:=zF (P:=P) hs T;exact cn (by simp [execOp,hrun]) (.refl _) ho hs' hr h
  | some r=>
   simp only[AOp] at h;exact upA _ hs hev h
 | insert T mo k x=>
  replace h:=aj h;obtain⟨a,ha,h⟩:=h
  replace h:=aj h;obtain⟨b,hb,h⟩:=h
  replace h:=aj h;obtain⟨c,hc,h⟩:=h
  obtain⟨w',σ',hrun,hs',hK⟩:=uB hs (hev _ _ ha) (hev _ _ hb) (hev _ _ hc) h;have hr:(execOp ρ { dst,op:=.insert T mo k x,type,pos,after,guard }).run P w = .ok .skip w':=by simp [execOp,hrun]
  rw[hr];exact⟨imm,m,_,σ',.refl _,.refl _,hs',.c _,hK⟩
 | mapUpdate T mo k x=>
  replace h:=aj h;obtain⟨a,ha,h⟩:=h
  replace h:=aj h;obtain⟨b,hb,h⟩:=h
  replace h:=aj h;obtain⟨c,hc,h⟩:=h
  obtain⟨w',σ',hrun,hs',hK⟩:=uB hs (hev _ _ ha) (hev _ _ hb) (hev _ _ hc) h;have hr:(execOp ρ { dst,op:=.mapUpdate T mo k x,type,pos,after,guard }).run P w = .ok .skip w':=by simp [execOp,hrun]
  rw[hr];exact⟨imm,m,_,σ',.refl _,.refl _,hs',.c _,hK⟩
 | lookup T mo k ok=>
  replace h:=aj h;obtain⟨a,ha,h⟩:=h
  replace h:=aj h;obtain⟨b,hb,h⟩:=h
  obtain⟨v,av,hrun,hr,hK⟩:=A0 hs (hev _ _ ha) (hev _ _ hb) h;exact cn (w':=w) (by simp [execOp,hrun]) (.refl _) (.refl _) hs hr hK
 | _=>
  simp only[AOp] at h;exact upA _ hs hev h
end
end Go.Proofs.YtephecognbbaoaaGreat
namespace Go.Proofs.YtephecognbbaoaaGreat
open Go
set_option linter.all false
def evF (α:AF):Operand→Option AV
 | .tmp t=>aB α t
 | .const v=>some (.c v)
 | .global _=>none
 | .func f=>some (.fn f [] [])
def br (N:Nat) (d:Option Tmp) (av:AV) (α:AF) (K:AF→Prop):Prop:=
 match d with
 | some d=>d<N∧K ((d,av)::α)
 | none=>K α
def dk (ops:List Oper) (g:Option (Nat×Bool)) (α:AF) (step skip:AF→Prop):Prop:=
 match g with
 | none=>step α
 | some (j,want)=>on ((ops[j]?).bind (·.dst)) fun d=>on (aB α d) fun v=>match v with
  | .c (.bool true)=>match want with|true=>step α|false=>skip α
  | .c (.bool false)=>match want with|true=>skip α|false=>step α
  | .c (.tuple _)=>skip α
  | _=>False
def dC (ops:List Oper) (g:Option (Nat×Bool)) (α:AF) (K:AF→Prop):Prop:=
 match g with
 | none=>K α
 | some (j,_)=>on ((ops[j]?).bind (·.dst)) fun d=>on (aB α d) fun v=>match v with
  | .c (.bool b)=>match b with
   | b=>eW b (K ((d,.c (.bool true))::α)) (K ((d,.c (.bool false))::α))
  | _=>K α
def dw (P:Program) (N:Nat) (ops:List Oper) (K:AF→aa→Prop):List Oper→AF→aa→Prop
 | [],α,σ=>K α σ
 | o::r,α,σ=>dC ops o.guard α fun α=>dk ops o.guard α
   (fun α=>AOp P o.op (evF α) σ fun av σ'=>br N o.dst av α fun α'=>dw P N ops K r α' σ')
   (fun α=>br N o.dst (.c undef) α fun α'=>dw P N ops K r α' σ)
section
variable {rd:Option Nat} {P:Program} {N:Nat} {K0:World} {imm:Imm} {m:Own} {w:World} {α:AF} {σ:aa} {a:Act}
theorem ff (hf:FOk K0 imm m N a α):∀x av,evF α x=some av→Rep imm m (a.eval x) av:=by
 intro x av h
 cases x with
 | tmp t=>obtain⟨v,e,r⟩:=hf.eval h;rw[e];exact r
 | const v=>cases h;exact .c v
 | global g=>cases h
 | func f=>cases h;exact .fn f [] [] [] [] rfl rfl (fun i h=>by simp at h) (fun i h=>by simp at h)
theorem eE {d:Option Tmp} {av:AV} {K:AF→Prop} {v:Value} (hf:FOk K0 imm m N a α) (hr:Rep imm m v av) (h:br N d av α K) :
  ∃α',FOk K0 imm m N (a.put d v) α'∧K α':=by
 cases d with
 | none=>exact⟨α,hf,h⟩
 | some d=>exact⟨_,hf.put h.1 hr,h.2⟩
theorem v6 {α:AF} {d:Nat} {v:AV} (h:aB α d=some v) (t:Nat):aB ((d,v)::α) t=aB α t:=by
 simp only[aB]
 split
 ·rename_i e;subst e;exact h.symm
 ·rfl
theorem jo {ops:List Oper} {g:Option (Nat×Bool)} {K:AF→Prop} (h:dC ops g α K):∃α',(∀t,aB α' t=aB α t)∧K α':=by
 unfold dC at h
 split at h
 ·exact⟨α,fun _=>rfl,h⟩
 ·replace h:=aj h;obtain⟨d,hd,h⟩:=h
  replace h:=aj h;obtain⟨v,hv,h⟩:=h
  split at h
  ·rename_i b
   cases b
   ·exact⟨_,v6 hv,h.2 rfl⟩
   ·exact⟨_,v6 hv,h.1 rfl⟩
  ·exact⟨α,fun _=>rfl,h⟩
theorem FOk.same {β:AF} (hf:FOk K0 imm m N a α) (h:∀t,aB β t=aB α t):FOk K0 imm m N a β:=
 ⟨hf.defers,hf.size,fun t av ht=>hf.slot t av (by rw[←h];exact ht)⟩
theorem jK {ops:List Oper} {o:Oper} {step skip:AF→Prop} (hf:FOk K0 imm m N a α) (h:dC ops o.guard α fun α=>dk ops o.guard α step skip) :
  (Region.wanted o (yielded ops.toArray a.tmps)=true∧∃α',FOk K0 imm m N a α'∧step α')∨(Region.wanted o (yielded ops.toArray a.tmps)=false∧∃α',FOk K0 imm m N a α'∧skip α'):=by
 obtain⟨β,hβ,h⟩:=jo h
 replace hf:=hf.same hβ
 clear hβ;unfold dk at h
 cases hg:o.guard with
 | none=>rw[hg] at h;exact .inl ⟨by simp [Region.wanted,hg],β,hf,h⟩
 | some g=>
  obtain⟨j,want⟩:=g;rw[hg] at h
  replace h:=aj h;obtain⟨d,hd,h⟩:=h
  replace h:=aj h;obtain⟨v,hv,h⟩:=h
  obtain⟨u,hu,r⟩:=hf.slot d v hv;have hj:((ops.toArray[j]?).bind (·.dst)).bind (a.tmps[·]?)=some u:=by
   simp only[List.getElem?_toArray,hd,Option.bind_some,hu]
  split at h
  ·have:=r.c_inv;subst this;have hy:yielded ops.toArray a.tmps j=some true:=by simp only[yielded,hj]
   cases want
   ·exact .inr ⟨by simp [Region.wanted,hg,hy],β,hf,h⟩
   ·exact .inl ⟨by simp [Region.wanted,hg,hy],β,hf,h⟩
  ·have:=r.c_inv;subst this;have hy:yielded ops.toArray a.tmps j=some false:=by simp only[yielded,hj]
   cases want
   ·exact .inl ⟨by simp [Region.wanted,hg,hy],β,hf,h⟩
   ·exact .inr ⟨by simp [Region.wanted,hg,hy],β,hf,h⟩
  ·have:=r.c_inv;subst this;have hy:yielded ops.toArray a.tmps j=none:=by simp only[yielded,hj]
   exact .inr ⟨by simp [Region.wanted,hg,hy],β,hf,h⟩
  ·exact h.elim
theorem xe {o:Oper} {Kont:AV→aa→Prop} {next:Act→World→Prop} {Q:Exit→Act→World→Prop} {r:Result Next}
  (hup:Up P K0 imm m Kont r) (hnext:∀imm' m' v av σ' w',ILe imm imm'→OLe m m'→Sim K0 imm' m' w' σ'→Rep imm' m' v av→Kont av σ'→next (a.put o.dst v) w') :
  o.uponIn (Rnd rd) 0 P a next Q r:=by
 cases r with
 | halt x w'=>exact hup.elim
 | ok n w'=>
  cases n with
  | value v=>obtain⟨i,m',av,σ',a1,a2,a3,a4,a5⟩:=hup;exact hnext _ _ _ _ _ _ a1 a2 a3 a4 a5
  | skip=>obtain⟨i,m',av,σ',a1,a2,a3,a4,a5⟩:=hup;exact hnext _ _ _ _ _ _ a1 a2 a3 a4 a5
  | enter f args=>
   refine⟨fun h=>(by rw[wj] at h;cases h),?_⟩
   have h:CallsIn Fence.wide 0 P f args w' fun e w''=>∃imm' m' v r σ',e = .returned v∧ILe imm imm'∧OLe m m'∧Sim K0 imm' m' w'' σ'∧Rep imm' m' v r∧Kont r σ':=callsIn_wide.2 hup;have h':CallsIn (Rnd rd) 0 P f args w' fun e w''=>∃imm' m' v r σ',e = .returned v∧ILe imm imm'∧OLe m m'∧Sim K0 imm' m' w'' σ'∧Rep imm' m' v r∧Kont r σ':=by
    cases rd<;>exact h
   refine CallsIn.mono h' ?_;rintro e w'' ⟨i,m',v,av,σ',rfl,a1,a2,a3,a4,a5⟩;exact hnext _ _ _ _ _ _ a1 a2 a3 a4 a5
  | round l f tmps assign body=>
   refine⟨fun h=>(by rw[wj] at h;cases h),?_⟩
   have h':RoundIn (Rnd rd) 0 P l f tmps assign body w' fun e w''=>∃imm' m' v r σ',e = .returned v∧ILe imm imm'∧OLe m m'∧Sim K0 imm' m' w'' σ'∧Rep imm' m' v r∧Kont r σ':=by
    cases rd<;>exact hup
   refine RoundIn.mono h' ?_;rintro e w'' ⟨i,m',v,av,σ',rfl,a1,a2,a3,a4,a5⟩;exact hnext _ _ _ _ _ _ a1 a2 a3 a4 a5
  | _=>exact hup.elim
theorem dc {o:Oper} {Kont:AV→aa→Prop} {next:Act→World→Prop} {Q:Exit→Act→World→Prop} (hnd:∀c,o.op ≠ .defer c)
  (hup:Up P K0 imm m Kont ((execOp a.eval o).run P w)) (hnext:∀imm' m' v av σ' w',ILe imm imm'→OLe m m'→Sim K0 imm' m' w' σ'→Rep imm' m' v av→Kont av σ'→next (a.put o.dst v) w') :
  o.wpIn (Rnd rd) 0 P a w next Q:=by
 refine⟨fun f _=>jQ _ _,?_⟩;have hsem:o.semAt (Rnd rd).round a.eval=execOp a.eval o:=by
  rw[CP]
  cases rd with
  | none=>exact Oper.semAt_none ..
  | some l=>exact Oper.semAt_some _ _ _ hnd
 rw[hsem];exact xe hup hnext
theorem sL {F:Fence} {n:Nat} {o:Oper} {K K':Act→World→Prop} {Q Q':Exit→Act→World→Prop} (hk:∀a w,K a w→K' a w) (hq:∀e a w,Q e a w→Q' e a w) {r:Result Next} (h:o.uponIn F n P a K Q r):o.uponIn F n P a K' Q' r:=by
 cases r with
 | ok nx w'=>
  cases nx<;>simp only[Oper.uponIn] at h ⊢<;>
   first
    | exact hk _ _ h
    | exact⟨h.1,CallsIn.mono h.2 (fun e w'' he=>by cases e<;>first|exact hk _ _ he|exact hq _ _ _ he|(obtain⟨a,w,h⟩:=he;exact⟨a,w,hq _ _ _ h⟩))⟩
    | exact⟨h.1,RoundIn.mono h.2 (fun e w'' he=>by cases e<;>first|exact hk _ _ he|exact hq _ _ _ he|(obtain⟨a,w,h⟩:=he;exact⟨a,w,hq _ _ _ h⟩))⟩
    | exact⟨h.1,RowsIn.mono h.2 (fun _ _ he=>hk _ _ he)⟩
    | exact h
 | halt x w'=>cases x<;>simp only[Oper.uponIn] at h ⊢<;>first|exact hq _ _ _ h|exact h
theorem lZ {F:Fence} {n:Nat} {ops:Array Oper} {Q Q':Exit→Act→World→Prop} (hq:∀e a w,Q e a w→Q' e a w):∀(l:List Oper) (a:Act) (w:World),wpListIn F n P ops Q l a w→wpListIn F n P ops Q' l a w:=by
 intro l
 induction l with
 | nil=>intro a w h;exact hq _ _ _ h
 | cons o r ih=>
  intro a w h;unfold wpListIn at h ⊢
  split
  ·rename_i hw
   rw[if_pos hw] at h;exact⟨h.1,sL ih hq h.2⟩
  ·rename_i hw
   rw[if_neg hw] at h;exact⟨h.1,ih _ _ h.2⟩
theorem gK {op:Op} {ev:Operand→Option AV} {K:AV→aa→Prop} (h:AOp P op ev σ K):∀c,op ≠ .defer c:=by
 rintro c rfl;exact h
theorem Bq {ops:List Oper} {Q:bV} : ∀(l:List Oper) (α:AF) (σ:aa) (imm:Imm) (m:Own) (w:World) (a:Act),Sim K0 imm m w σ→FOk K0 imm m N a α →
  dw P N ops (fun α σ=>Q .normal α σ) l α σ→wpListIn (Rnd rd) 0 P ops.toArray (dS K0 N imm m Q) l a w:=by
 intro l
 induction l with
 | nil=>intro α σ imm m w a hs hf h;exact⟨imm,m,α,σ,.refl _,.refl _,hs,hf,h⟩
 | cons o r ih=>
  intro α σ imm m w a hs hf h;have mono:∀(imm':Imm) (m':Own),ILe imm imm'→OLe m m'→∀a' w',wpListIn (Rnd rd) 0 P ops.toArray (dS K0 N imm' m' Q) r a' w'→wpListIn (Rnd rd) 0 P ops.toArray (dS K0 N imm m Q) r a' w':=by
   intro imm' m' hi ho;have hq:∀e a w,dS K0 N imm' m' Q e a w→dS K0 N imm m Q e a w:=fun e a w h=>cK hi ho h;exact lZ hq r
  simp only[dw] at h;unfold wpListIn
  rcases jK hf h with ⟨hw,β,hfb,h⟩|⟨hw,β,hfb,h⟩
  ·rw[if_pos hw];have hup:=eL (dst:=o.dst) (type:=o.type) (pos:=o.pos) (after:=o.after) (guard:=o.guard) o.op hs (ff hfb) h;refine dc (gK h) hup fun imm' m' v av σ' w' hi ho hs' hr hk=>?_;obtain⟨α',hf',hk'⟩:=eE (hfb.mono hi ho) hr hk;exact mono imm' m' hi ho _ _ (ih α' σ' imm' m' w' _ hs' hf' hk')
  ·rw[if_neg (by rw[hw];simp)]
   obtain⟨α',hf',hk'⟩:=eE hfb (.c undef) h;exact⟨fun f _=>jQ _ _,ih α' σ imm m w _ hs hf' hk'⟩
theorem cU {id:Nat} {ops:List Oper} {Q:bV} (h:dw P N ops (fun α σ=>Q .normal α σ) ops α σ):aK rd P N (.region id ops.toArray false) Q α σ:=
 fun _ imm m w a hs hf=>wpIn_region_lit (Bq ops α σ imm m w a hs hf h)
end
end Go.Proofs.YtephecognbbaoaaGreat
namespace Go.Proofs.YtephecognbbaoaaGreat
open Go
set_option linter.all false
def oE (P:Program) (α:AF) (σ:aa):List ResultVar→Option (List AV)
 | []=>some []
 | .tmp t::r=>(aB α t).bind fun v=>(oE P α σ r).bind fun l=>some (v::l)
 | .cell s T::r=>(aB α s).bind fun p=>(ln P σ T p).bind fun v=>(oE P α σ r).bind fun l=>some (v::l)
def us:List AV→AV
 | [v]=>v
 | l=>.tup l
def Ds (P:Program) (rs:List ResultVar) (R:AV→aa→Prop):bV:=fun e α σ=>
 match e with
 | .normal=>on (oE P α σ rs) fun l=>R (us l) σ
 | .ret=>on (oE P α σ rs) fun l=>R (us l) σ
 | _=>False
def lU:Nat→List AV→AF
 | _,[]=>[]
 | i,v::r=>(i,v)::lU (i+1) r
section
variable {P:Program} {K0:World} {imm:Imm} {m:Own} {w:World} {α:AF} {σ:aa} {a:Act}
theorem zT:∀(vs:List AV) (i t:Nat) (av:AV),aB (lU i vs) t=some av→∃(h:t-i<vs.length),i≤t∧vs[t-i]=av:=by
 intro vs
 induction vs with
 | nil=>intro i t av h;cases h
 | cons v r ih=>
  intro i t av h;simp only[lU,aB] at h
  split at h
  ·rename_i e
   subst e
   cases h
   exact⟨by simp,Nat.le_refl _,by simp⟩
  ·rename_i hne
   obtain⟨h1,h2,h3⟩:=ih (i+1) t av h;have e:t-i=t-(i+1)+1:=by omega
   refine⟨by simp only[List.length_cons];omega,by omega,?_⟩
   simp only[e,List.getElem_cons_succ];exact h3
def rF (tmps:Array Value) (x:ResultVar):Sem Value:=
 match x with
 | .tmp t=>pure (tmps.getD t undef)
 | .cell a t=>do loadVar t (←asAddr (tmps.getD a undef))
theorem AK (fn:Func) (tmps:Array Value):results fn tmps=(do
  let vs ←fn.results.mapM (rF tmps)
  pure (if h:vs.size=1 then vs[0] else .tuple vs)):=rfl
theorem zr {fn:Func} {rs:List ResultVar} (hrs:fn.results=rs.toArray) {N:Nat} (hs:Sim K0 imm m w σ) (hf:FOk K0 imm m N a α) {l:List AV} (h:oE P α σ rs=some l) :
  ∃v,(results fn a.tmps).run P w = .ok v w∧Rep imm m v (us l):=by
 have key:∀(rs:List ResultVar) (l:List AV),oE P α σ rs=some l→∃vs:List Value,(rs.mapM (rF a.tmps)).run P w = .ok vs w∧bK imm m vs l:=by
  intro rs
  induction rs with
  | nil=>intro l h;cases h;exact⟨[],rfl,rfl,fun i h=>by simp at h⟩
  | cons x r ih=>
   intro l h;have cons:∀ {v:Value} {av:AV} {vs:List Value} {l':List AV},Rep imm m v av→bK imm m vs l'→bK imm m (v::vs) (av::l'):=fun {v av vs l'} h1 h2=>
    ⟨by simp [h2.1],fun i hi1 hi2=>by
     cases i with
     | zero=>exact h1
     | succ i=>exact h2.2 i (by simpa using hi1) (by simpa using hi2)⟩
   cases x with
   | tmp t=>
    simp only[oE,Option.bind_eq_some_iff] at h;obtain⟨av,hav,l',hl,e⟩:=h
    cases e
    obtain⟨vs,h1,h2⟩:=ih l' hl;obtain⟨u,hu,r1⟩:=hf.slot t av hav;refine⟨u::vs,?_,cons r1 h2⟩;simp only[List.mapM_cons,rF,Sem.run_bind,Sem.run_pure,Result.andThen_ok,h1];simp [hu]
   | cell s T=>
    simp only[oE,Option.bind_eq_some_iff] at h;obtain⟨p,hp,av,hav,l',hl,e⟩:=h
    cases e
    obtain⟨vs,h1,h2⟩:=ih l' hl;obtain⟨u,hu,r1⟩:=hf.slot s p hp;obtain⟨x,hx,r2⟩:=yk hs r1 hav;refine⟨x::vs,?_,cons r2 h2⟩;have hptr:∃ad,u = .pointer (some ad):=by
     unfold ln at hav
     split at hav
     ·cases r1;exact⟨_,rfl⟩
     ·cases r1;exact⟨_,rfl⟩
     ·cases hav
    obtain⟨ad,rfl⟩:=hptr;simp only[Instr.loadAt,Instr.sureAddr,Sem.run_bind,Sem.run_pure,Result.andThen_ok] at hx;have hget:a.tmps.getD s undef = .pointer (some ad):=by simp [hu]
    simp only[List.mapM_cons,rF,Sem.run_bind,hget,asAddr,Sem.run_pure,Result.andThen_ok,hx,h1]
 obtain⟨vs,h1,h2⟩:=key rs l h;have hm:(rs.toArray.mapM (rF a.tmps)).run P w = .ok vs.toArray w:=by
  rw[List.mapM_toArray];simp [h1]
 simp only[AK,hrs,Sem.run_bind,hm,Result.andThen_ok,Sem.run_pure]
 match hvs:vs,hl:l,h2 with
 | [],[],h2=>exact⟨_,rfl,.tup [] [] rfl (fun i h=>by simp at h)⟩
 | [v],[av],h2=>exact⟨v,rfl,h2.2 0 (by simp) (by simp)⟩
 | v1::v2::vr,a1::a2::ar,h2=>exact⟨.tuple (v1::v2::vr).toArray,by simp,.tup _ _ h2.1 h2.2⟩
 | [],_::_,h2=>exact absurd h2.1 (by simp)
 | _::_,[],h2=>exact absurd h2.1 (by simp)
 | [_],_::_::_,h2=>exact absurd h2.1 (by simp)
 | _::_::_,[_],h2=>exact absurd h2.1 (by simp)
theorem Rep.cells {imm imm':Imm} {m:Own} (hi:∀b o v,d6 imm b o=some v→d6 imm' b o=some v) (hmp:∀b ents clock,imm b=some (.map ents clock)→imm' b=some (.map ents clock)) {v:Value} {a:AV} (h:Rep imm m v a):Rep imm' m v a:=by
 induction h with
 | c v=>exact .c v
 | emp p=>exact .emp p
 | agg cs l hl _ ih=>exact .agg cs l hl ih
 | tup cs l hl _ ih=>exact .tup cs l hl ih
 | sl p cap n es k vals hn hcap hk hp _ ih=>
  refine .sl p cap n es k vals hn hcap hk (fun h0=>?_) ih;obtain⟨b,o,e,hc⟩:=hp h0;exact⟨b,o,e,fun i hi' j hj=>hi _ _ _ (hc i hi' j hj)⟩
 | cp b o x e off vals hx hc _ ih=>exact .cp b o x e off vals hx (fun j hj=>hi _ _ _ (hc j hj)) ih
 | own b k s n c cap blk sz x h hn hcc hx hc=>exact .own b k s n c cap blk sz x h hn hcc hx hc
 | ptr b k i off blk sz x h hx=>exact .ptr b k i off blk sz x h hx
 | fn f fs cs first cap hf hc _ _ ih1 ih2=>exact .fn f fs cs first cap hf hc ih1 ih2
 | mp b blk sz h=>exact .mp b blk sz h
 | cm blk es ents clock h hl hk _ ih=>exact .cm blk es ents clock (hmp _ _ _ h) hl hk ih
def gP (imm:Imm) (r:Nat):Imm:=fun b=>if b=r then none else imm b
theorem s6 {imm:Imm} {r:Nat} {ds:Option (List Deferred)} (hr:imm r=some (.deferred ds)):∀b i v,d6 imm b i=some v→d6 (gP imm r) b i=some v:=by
 intro b i v h;unfold d6 gP at *
 by_cases e:b=r
 ·subst e;rw[hr] at h
  cases h
 ·rw[if_neg e];exact h
theorem wd {imm:Imm} {r:Nat} {ds:Option (List Deferred)} (hr:imm r=some (.deferred ds)):∀b ents clock,imm b=some (.map ents clock)→gP imm r b=some (.map ents clock):=by
 intro b ents clock h;unfold gP;rw[if_neg (fun e=>by subst e;rw[hr] at h;cases h)]
 exact h
theorem Sim.shut {imm:Imm} (hs:Sim K0 imm m w σ) {r:Nat} {ds:Option (List Deferred)} (hr:imm r=some (.deferred ds)) (o':Obj):Sim K0 (gP imm r) m (w.putObj r o') σ:=by
 have hne:∀blk,imm blk=none→blk≠r:=fun blk h e=>by rw[e,hr] at h;cases h
 have hR:∀ {v:Value} {a:AV},Rep imm m v a→Rep (gP imm r) m v a:=fun h=>h.cells (s6 hr) (wd hr);have hd:∀blk,imm blk=none→gP imm r blk=none:=fun blk h=>by unfold gP;split<;>first|rfl|exact h
 refine⟨hs.os,hs.tape,hs.output,by rw[World.putObj_size];exact hs.size,fun b ob h=>?_,hs.dom,fun id hid=>?_,hs.inj⟩
 ·unfold gP at h
  split at h
  ·cases h
  ·rename_i e
   rw[World.putObj_heap_other e];exact hs.imm_ok b ob h
 ·have:=hs.obs id hid
  revert this
  cases σ[id] with
  | res=>exact fun h=>h
  | dead=>exact fun _=>trivial
  | cells k es=>
   rintro ⟨blk,sz,h1,h2,cs,T,fr,h3,h4,h5,h6,h7⟩;exact⟨blk,sz,h1,hd _ h2,cs,T,fr,by rw[World.putObj_heap_other (hne _ h2)];exact h3,h4,h5,h6,fun i hi=>⟨(h7 i hi).1,fun j hj=>let ⟨v,e,q⟩:=(h7 i hi).2 j hj;⟨v,e,hR q⟩⟩⟩
  | map es=>
   rintro ⟨blk,sz,h1,h2,ents,clock,h3,h4,h5,h6⟩;exact⟨blk,sz,h1,hd _ h2,ents,clock,by rw[World.putObj_heap_other (hne _ h2)];exact h3,h4,h5,fun i hi hj=>hR (h6 i hi hj)⟩
  | lp l al N rc=>
   rintro ⟨blk,sz,h1,h2,h3,h4,h5,h6,h7⟩;exact⟨blk,sz,h1,hd _ h2,h3,by rw[World.putObj_heap_other (hne _ h2)];exact h4,h5,fun t av ht=>let ⟨v,e,q⟩:=h6 t av ht;⟨v,e,hR q⟩,h7⟩
theorem sV {F:Fence} {n:Nat} {fn:Func} {tmps:Array Value} {R:Ending→World→Prop} : ∀(rs:List Nat) (imm:Imm) (w:World),rs.Nodup→(∀r∈rs,K0.heap.size≤r∧imm r=some (.deferred (some [])))→Sim K0 imm m w σ →
  (∀imm' w',(∀b,b<K0.heap.size→imm' b=imm b)→(∀b i v,d6 imm b i=some v→d6 imm' b i=some v)→(∀b ents clock,imm b=some (.map ents clock)→imm' b=some (.map ents clock))→Sim K0 imm' m w' σ→LeavesIn F n P fn tmps R [] .returning w')→LeavesInM F n P fn tmps R (rs.map AZ) .returning w
 | [],imm,w,_,_,hs,h=>h imm w (fun _ _=>rfl) (fun _ _ _ h=>h) (fun _ _ _ h=>h) hs
 | r::rs,imm,w,hn,hr,hs,h=>by
  obtain⟨h1,h2⟩:=hr r (by simp)
  have hcells:=s6 h2;refine⟨by simp,.inl ⟨r,_,rfl,run_takeDeferred (hs.imm_ok r _ h2),?_⟩⟩
  refine sV rs (gP imm r) _ (List.nodup_cons.1 hn).2 (fun r' hr'=>?_) (hs.shut h2 _) (fun imm' w' e1 e2 e3 hs'=>h imm' w' (fun b hb=>?_) (fun b i v hv=>e2 _ _ _ (hcells _ _ _ hv)) (fun b ents clock hv=>e3 _ _ _ (wd h2 _ _ _ hv)) hs')
  ·refine⟨(hr r' (by simp [hr'])).1,?_⟩
   unfold gP;rw[if_neg (fun e:r'=r=>(List.nodup_cons.1 hn).1 (e▸hr'))];exact (hr r' (by simp [hr'])).2
  ·rw[e1 b hb];unfold gP;rw[if_neg (by omega)]
theorem wX {f:FuncId} {fn:Func} {c:Code} {rs:List ResultVar} {args:List AV} {R:AV→aa→Prop} (hf:P.funcs[f]? = some fn) (hb:fn.body=some c) (hrs:fn.results=rs.toArray)
  (h:AWP P (args.length+(fn.ntmps-args.length)) c (Ds P rs R) (lU 0 args) σ):af P f args σ R:=by
 intro K imm m w vs hs0 hv;have hs:Sim w imm m w σ:=⟨rfl,rfl,rfl,Nat.le_refl _,hs0.imm_ok,hs0.dom,hs0.obs,hs0.inj⟩;refine callsIn_wide (n:=0) |>.1 (callsIn_of_wp_marks hf hb trivial ?_ rfl);have hlen:=hv.1;have hfok:FOk w imm m (args.length+(fn.ntmps-args.length)) { tmps:=vs.toArray++Array.replicate (fn.ntmps-vs.toArray.size) undef,defers:=[] } (lU 0 args):=by
  refine⟨lu.nil _ _,by simp [hlen],fun t av ht=>?_⟩
  obtain⟨h1,_,h3⟩:=zT args 0 t av ht;simp only[Nat.sub_zero] at h1 h3;subst h3;refine⟨vs[t],?_,hv.2 t (by omega) h1⟩
  rw[Array.getElem?_append_left (by simp;omega)]
  simp
 refine Code.wpIn_mono ?_ (h w imm m w _ hs hfok);rintro e a' w' ⟨i,o,α',σ',hi,ho,hs',hf',hq⟩;have fin:∀l,oE P α' σ' rs=some l→R (us l) σ'→LeavesInM Fence.wide 0 P fn a'.tmps (fun e w'=>∃imm' m' v r σ',e = .returned v∧ILe imm imm'∧OLe m m'∧Sim K imm' m' w' σ'∧Rep imm' m' v r∧R r σ') a'.defers .returning w':=by
  intro l hl hR;obtain⟨ms,hn,hms,hm⟩:=hf'.defers;rw[hms];refine sV ms i w' hn hm hs' ?_;intro imm' w'' e1 e2 e3 hs'';have hf'':FOk w imm' o (args.length+(fn.ntmps-args.length)) { a' with defers:=[] } α':=⟨lu.nil _ _,hf'.size,fun t av ht=>let ⟨v,hv,r⟩:=hf'.slot t av ht;⟨v,hv,r.cells e2 e3⟩⟩
  obtain⟨v,hv,r⟩:=zr hrs hs'' hf'' hl;refine⟨v,hv,imm',o,v,_,σ',rfl,fun b ob hb=>?_,ho,⟨hs''.os.trans hs0.os,hs''.tape.trans hs0.tape,hs''.output.trans hs0.output,Nat.le_trans hs0.size hs''.size,hs''.imm_ok,hs''.dom,hs''.obs,hs''.inj⟩,r,hR⟩;have hlt:b<w.heap.size:=(Array.getElem?_eq_some_iff.1 (hs.imm_ok b ob hb)).1;rw[e1 b hlt];exact hi b ob hb
 cases e with
 | normal=>obtain⟨l,hl,hR⟩:=aj hq;exact fin l hl hR
 | ret=>obtain⟨l,hl,hR⟩:=aj hq;exact fin l hl hR
 | _=>exact hq.elim
end
end Go.Proofs.YtephecognbbaoaaGreat
namespace Go.Proofs.YtephecognbbaoaaGreat
open Go
set_option linter.all false
section
variable {rd:Option Nat} {P:Program} {N:Nat} {K0:World} {imm:Imm} {m:Own} {w:World} {α:AF} {σ:aa} {a:Act} {Q:bV}
theorem Sim.freeze_reps (hs:Sim K0 imm m w σ) {b k s n c:Nat} {es:List (List AV)} (he:bO σ (.own b k s n c)=some es) :
  ∃imm',ILe imm imm'∧Sim K0 imm' m w (σ.set b .dead)∧∀v,Rep imm m v (.own b k s n c)→Rep imm' m v (.sl es):=by
 rw[ee] at he;simp only[dl] at he
 split at he
 ·rename_i k' es' hb
  split at he
  ·rename_i hc
   obtain⟨rfl,hle⟩:=hc
   cases he
   obtain⟨hlt,hob⟩:=List.getElem?_eq_some_iff.1 hb;have h0:=hs.obs b hlt;rw[hob] at h0;obtain⟨blk,sz,h1,h2,cs,T,fr,h3,h4,h5,h6,h7⟩:=h0;obtain⟨imm',hile,hi2,hs'⟩:=hs.freeze hlt (by rw[hob];rfl) h1 h3
   refine⟨imm',hile,hs',fun v hr=>?_⟩
   cases hr with
   | own b k s n c cap blk' sz' x hm hn hcc hx hc=>
    rw[h1] at hm
    cases hm
    subst hx;have hcell:∀i (h:i<n) j (hj:j<es'[s+i].length),∃u,cs[(s+i)*k'+j]? = some u∧Rep imm m u es'[s+i][j]:=fun i h j hj=>(h7 (s+i) (by omega)).2 j hj
    refine .sl _ cap n _ k' (fun i j=>(cs[(s+i)*k'+j]?).getD undef) (by simp;omega) (by omega) (fun i hi=>?_) (fun hpos=>⟨blk,s*k',rfl,fun i hi j hj=>?_⟩) (fun i hi j hj=>?_)
    ·simp only[List.getElem_take,List.getElem_drop];exact (h7 _ _).1
    ·simp only[List.length_take,List.length_drop] at hi;obtain⟨u,e,_⟩:=hcell i (by omega) j (by rw[(h7 (s+i) (by omega)).1];exact hj)
     have e3:s*k'+(i*k'+j)=(s+i)*k'+j:=by rw[Nat.add_mul];omega
     simp [d6,hi2,e3,e]
    ·simp only[List.length_take,List.length_drop] at hi;simp only[List.getElem_take,List.getElem_drop] at hj ⊢;obtain⟨u,e,r⟩:=hcell i (by omega) j hj
     rw[e];exact r.mono hile (.refl _)
  ·cases he
 ·cases he
theorem Sim.freeze_rep (hs:Sim K0 imm m w σ) {v:Value} {b k s n c:Nat} {es:List (List AV)} (hr:Rep imm m v (.own b k s n c)) (he:bO σ (.own b k s n c)=some es) :
  ∃imm',ILe imm imm'∧Sim K0 imm' m w (σ.set b .dead)∧Rep imm' m v (.sl es):=
 let ⟨i,h1,h2,h3⟩:=hs.freeze_reps he
 ⟨i,h1,h2,h3 v hr⟩
theorem BA {c:Code} (t:Nat) {b k s n d:Nat} {es:List (List AV)} (hl:aB α t=some (.own b k s n d)) (he:bO σ (.own b k s n d)=some es)
  (h:aK rd P N c Q ((t,.sl es)::α) (σ.set b .dead)):aK rd P N c Q α σ:=by
 intro K imm m w a hs hf;obtain⟨v,hv,hr⟩:=hf.slot t _ hl;obtain⟨imm',hi,hs',hr'⟩:=hs.freeze_rep hr he;refine Code.wpIn_mono (fun _ _ _ hq=>cK hi (.refl _) hq) (h K imm' m w a hs' ⟨hf.defers.mono (by assumption),hf.size,fun t' av ht=>?_⟩)
 simp only[aB] at ht
 split at ht
 ·rename_i e
  subst e
  cases ht
  exact⟨v,hv,hr'⟩
 ·obtain⟨u,hu,r⟩:=hf.slot t' av ht;exact⟨u,hu,r.mono hi (.refl _)⟩
theorem wW {c:Code} (t:Nat) {b k n d:Nat} {es:List (List AV)} (hl:aB α t=some (.own b k 0 n d)) (he:σ[b]? = some (.cells k es)) (hn:n=es.length)
  (h:aK rd P N c Q ((t,.sl es)::α) (σ.set b .dead)):aK rd P N c Q α σ:=
 BA t hl (by subst hn;simp [bO,he]) h
theorem aC {c:Code} (t:Nat) {b k:Nat} {e:List AV} (hl:aB α t=some (.ptr b k 0 0)) (he:σ[b]? = some (.cells k [e]))
  (h:aK rd P N c Q ((t,.cp e 0)::α) (σ.set b .dead)):aK rd P N c Q α σ:=by
 intro K imm m w a hs hf;obtain⟨v,hv,hr⟩:=hf.slot t _ hl;obtain⟨hlt,hob⟩:=List.getElem?_eq_some_iff.1 he;have h0:=hs.obs b hlt;rw[hob] at h0;obtain⟨blk,sz,h1,h2,cs,T,fr,h3,h4,h5,h6,h7⟩:=h0;obtain⟨imm',hi,hi2,hs'⟩:=hs.freeze hlt (by rw[hob];rfl) h1 h3
 have hr':Rep imm' m v (.cp e 0):=by
  cases hr with
  | ptr _ _ _ _ blk' sz' x hm hx=>
   rw[h1] at hm
   cases hm
   subst hx;have hcell:∀j (hj:j<e.length),∃u,cs[j]? = some u∧Rep imm m u e[j]:=fun j hj=>by
    have:=(h7 0 (by simp)).2 j (by simpa using hj)
    simpa using this
   refine .cp blk 0 _ e 0 (fun j=>(cs[j]?).getD undef) (by simp) (fun j hj=>?_) (fun j hj=>?_)
   ·obtain⟨u,e1,_⟩:=hcell j hj;simp [d6,hi2,e1]
   ·obtain⟨u,e1,r⟩:=hcell j hj;rw[e1];exact r.mono hi (.refl _)
 refine Code.wpIn_mono (fun _ _ _ hq=>cK hi (.refl _) hq) (h K imm' m w a hs' ⟨hf.defers.mono (by assumption),hf.size,fun t' av ht=>?_⟩)
 simp only[aB] at ht
 split at ht
 ·rename_i e
  subst e
  cases ht
  exact⟨v,hv,hr'⟩
 ·obtain⟨u,hu,r⟩:=hf.slot t' av ht;exact⟨u,hu,r.mono hi (.refl _)⟩
theorem Ab {c:Code} (t:Nat) {b:Nat} {es:List (Value×AV)} (hl:aB α t=some (.mp b)) (he:mW σ[b]? = some es)
  (h:aK rd P N c Q ((t,.cm es)::α) (σ.set b .dead)):aK rd P N c Q α σ:=by
 intro K imm m w a hs hf;obtain⟨v,hv,hr⟩:=hf.slot t _ hl;obtain⟨blk,sz,ents,clock,rfl,hm,himm,h3,h4,h5,h6,hlt,hob⟩:=oo hs hr he;obtain⟨imm',hi,hi2,hs'⟩:=hs.freeze hlt (by rw[hob];rfl) hm h3
 refine Code.wpIn_mono (fun _ _ _ hq=>cK hi (.refl _) hq) (h K imm' m w a hs' ⟨hf.defers.mono hi,hf.size,fun t' av ht=>?_⟩);simp only[aB] at ht
 split at ht
 ·rename_i e
  subst e
  cases ht
  exact⟨_,hv,.cm blk es ents clock hi2 h4 h5 fun i h1 h2=>(h6 i h1 h2).mono hi (.refl _)⟩
 ·obtain⟨u,hu,r⟩:=hf.slot t' av ht;exact⟨u,hu,r.mono hi (.refl _)⟩
theorem CT {x y:Code} {ι:Type} (A:ι→AF) (S:ι→aa) (rest:∀i,aK rd P N y Q (A i) (S i))
  (h:∀J:AF→aa→Prop,(∀α σ,aK rd P N y Q α σ→J α σ)→(∀i,aK rd P N y Q (A i) (S i))→aK rd P N x (ah J Q) α σ):aK rd P N (.seq x y) Q α σ:=
 Ap (h _ (fun _ _ h=>h) rest)
theorem af.cut {f:FuncId} {args:List AV} {R:AV→Prop} (h:af P f args σ fun r σ'=>(∃τ,σ'=σ++τ)∧Bd σ.length r∧R r):af P f args σ fun r σ'=>σ'=σ∧R r:=by
 intro K imm m w vs hs hv;refine (h K imm m w vs hs hv).mono ?_;rintro e w' ⟨imm',m',v,r,σ',he,hi,ho,hs',hr,⟨τ,rfl⟩,hb,hR⟩;refine⟨imm',Proofs.YtephecognbbaoaaGreat.cut m' σ.length,v,r,σ,he,hi,fun b o hbo=>?_,hs'.cut hs,hr.cut hb,rfl,hR⟩;have hlt:b<σ.length:=by
  rcases Nat.lt_or_ge b σ.length with h|h
  ·exact h
  ·rw[hs.dom b h] at hbo;cases hbo
 unfold Proofs.YtephecognbbaoaaGreat.cut;rw[if_pos hlt];exact ho _ _ hbo
theorem Sim.all (hs:Sim K0 imm m w σ):Sim K0 (fun b=>w.heap[b]?) m w (σ.map fun _=>.dead) where
 os:=hs.os
 tape:=hs.tape
 output:=hs.output
 size:=hs.size
 imm_ok:=fun _ _ h=>h
 dom:=fun id h=>hs.dom id (by simpa using h)
 obs:=fun id h=>by simp only[List.getElem_map];trivial
 inj:=fun i j hi hj li=>by simp only[List.getElem_map] at li;cases li
def Seen (σ:aa) (a a':AV):Prop:=a=a'∨∃es,bO σ a=some es∧a' = .sl es
def uW (σ:aa):List AV→List AV→Prop
 | [],[]=>True
 | a::r,a'::r'=>Seen σ a a'∧uW σ r r'
 | _,_=>False
theorem uW.get:∀(l l':List AV),uW σ l l'→l.length=l'.length∧∀i (h:i<l.length) (h':i<l'.length),Seen σ l[i] l'[i]
 | [],[],_=>⟨rfl,fun i h=>by simp at h⟩
 | a::r,a'::r',h=>by
  obtain⟨h1,h2⟩:=uW.get r r' h.2;refine⟨by simp [h1],fun i hi hi'=>?_⟩
  cases i with
  | zero=>exact h.1
  | succ i=>exact h2 i _ _
 | [],_::_,h=>h.elim
 | _::_,[],h=>h.elim
theorem af.borrow {f:FuncId} {args args':List AV} {R:Value→Prop} (hseen:uW σ args args')
  (h:∀τ,af P f args' τ fun r τ'=>τ'=τ∧∃v,r = .c v∧R v):af P f args σ fun r σ'=>σ'=σ∧∃v,r = .c v∧R v:=by
 intro K imm m w vs hs hv;have hall:=hs.all;have hile:ILe imm (fun b=>w.heap[b]?):=fun b o h=>hs.imm_ok b o h;have hv':bK (fun b=>w.heap[b]?) m vs args':=by
  obtain⟨h1,h2⟩:=hseen.get;refine⟨by rw[hv.1,h1],fun i hi1 hi2=>?_⟩
  rcases h2 i (by omega) hi2 with e|⟨es,he,e⟩
  ·rw[←e];exact (hv.2 i hi1 (by omega)).mono hile (.refl _)
  ·rw[e];obtain⟨p,cap,hvi,hcap,hat⟩:=gV hs (hv.2 i hi1 (by omega)) he
   rw[hvi]
   rcases Nat.eq_zero_or_pos es.length with h0|h0
   ·exact .sl p cap _ es 0 (fun _ _=>undef) rfl hcap (fun i hi=>by omega) (fun h=>by omega) (fun i hi=>by omega)
   ·obtain⟨b,o,k,rfl,hk,hc⟩:=hat h0;refine .sl _ cap _ es k (fun i j=>(w.cell? ⟨b,o+(i*k+j),none⟩).getD undef) rfl hcap hk (fun _=>⟨b,o,rfl,fun i hi j hj=>?_⟩) (fun i hi j hj=>?_)
    ·obtain⟨u,hu,_⟩:=hc i hi j (by rw[hk i hi];exact hj)
     rw[hu];unfold World.cell? at hu;unfold d6
     split at hu
     ·rename_i c T fr hb
      simp only at hb;simp only[hb]
      simpa using hu
     ·cases hu
    ·obtain⟨u,hu,r⟩:=hc i hi j hj;rw[hu];exact r.mono hile (.refl _)
 refine (h (σ.map fun _=>.dead) K _ m w vs hall hv').mono ?_;rintro e w' ⟨imm',m',v,r,τ',he,hi,ho,hs',hr,rfl,u,rfl,hR⟩;obtain rfl:=hr.c_inv;have hb:eI w w':=⟨hs'.os.trans hs.os.symm,hs'.tape.trans hs.tape.symm,hs'.output.trans hs.output.symm,by
  rcases Nat.eq_zero_or_pos w.heap.size with h0|h0
  ·omega
  ·have:=dI (hs'.imm_ok (w.heap.size-1) _ (hi _ _ (Array.getElem?_eq_getElem (by omega))))
   omega⟩
 refine⟨imm,m,v,.c v,σ,he,.refl _,.refl _,hs.keep hb fun b hb=>?_,.c v,rfl,v,rfl,hR⟩;have:=hs'.imm_ok b _ (hi b _ (Array.getElem?_eq_getElem hb));rw[this,Array.getElem?_eq_getElem hb]
end
def qE (α:AF):AF→Prop
 | []=>True
 | (k,v)::r=>aB α k=some v∧qE α r
theorem ai {α:AF} : ∀ {β:AF},qE α β→ALe α β
 | [],_=>fun t av h=>by cases h
 | (k,v)::r,h=>fun t av ht=>by
  simp only[aB] at ht
  split at ht
  ·rename_i e
   subst e
   cases ht
   exact h.1
  ·exact ai h.2 t av ht
theorem st0 (σ l:aa):(σ++l)[σ.length]? = l[0]? := by rw[List.getElem?_append_right (Nat.le_refl _),Nat.sub_self]
theorem st1 (σ l:aa) (k:Nat):(σ++l)[σ.length+k]? = l[k]? := by rw[List.getElem?_append_right (by omega),Nat.add_sub_cancel_left]
theorem ss0 (σ l:aa) (x:Ob):(σ++l).set σ.length x=σ++l.set 0 x:=by simp
theorem ss1 (σ l:aa) (k:Nat) (x:Ob):(σ++l).set (σ.length+k) x=σ++l.set k x:=by simp
end Go.Proofs.YtephecognbbaoaaGreat
