/- Operations that make memory; append; strings and bytes. -/
import Derived.WalkKit
import Derived.WalkLawsBesides
import Derived.RangeFuncIn
import Derived.Laws.StructEq
import Derived.Laws.Small
import Derived.Laws.IdiomCopy
namespace Go.Proofs.YtephecognbbaoaaGreat
open Go
set_option linter.all false
inductive AV where
 | c (v:Value)
 | emp
 | agg (l:List AV)
 | tup (l:List AV)
 | sl (es:List (List AV))
 | cp (e:List AV) (off:Nat)
 | own (b k s n c:Nat)
 | ptr (b k i off:Nat)
 | fn (f:FuncId) (first cap:List AV)
 | mp (b:Nat)
 | cm (es:List (Value×AV))
abbrev AF:=List (Nat×AV)
def aB:AF→Nat→Option AV
 | [],_=>none
 | (k,v)::r,t=>if k=t then some v else aB r t
inductive Ob where
 | res
 | dead
 | cells (k:Nat) (es:List (List AV))
 | map (es:List (Value×AV))
 | lp (l:Nat) (al:AF) (N:Nat) (r:Loop)
abbrev Imm:=Nat→Option Obj
abbrev Own:=Nat→Option (Nat×Nat)
abbrev aa:=List Ob
def d6 (imm:Imm) (b o:Nat):Option Value:=
 match imm b with
 | some (.cells c _ _)=>c[o]?
 | _=>none
inductive Rep (imm:Imm) (m:Own):Value→AV→Prop
 | c (v:Value):Rep imm m v (.c v)
 | emp (p:Option Addr):Rep imm m (.slice p 0 0) .emp
 | agg (cs:List Value) (l:List AV) (hl:cs.length=l.length)
   (h:∀i (h1:i<cs.length) (h2:i<l.length),Rep imm m cs[i] l[i]):Rep imm m (.agg cs.toArray) (.agg l)
 | tup (cs:List Value) (l:List AV) (hl:cs.length=l.length)
   (h:∀i (h1:i<cs.length) (h2:i<l.length),Rep imm m cs[i] l[i]):Rep imm m (.tuple cs.toArray) (.tup l)
 | sl (p:Option Addr) (cap n:Nat) (es:List (List AV)) (k:Nat) (vals:Nat→Nat→Value) (hn:n=es.length) (hcap:n≤cap)
   (hk:∀i (hi:i<es.length),es[i].length=k)
   (hp:0<es.length→∃b o,p=some ⟨b,o,none⟩∧∀i,i<es.length→∀j,j<k→d6 imm b (o+(i*k+j))=some (vals i j))
   (hr:∀i (hi:i<es.length) j (hj:j<es[i].length),Rep imm m (vals i j) es[i][j]):Rep imm m (.slice p n cap) (.sl es)
 | cp (b o x:Nat) (e:List AV) (off:Nat) (vals:Nat→Value) (hx:x=o+off)
   (hc:∀j,j<e.length→d6 imm b (o+j)=some (vals j))
   (hr:∀j (hj:j<e.length),Rep imm m (vals j) e[j]):Rep imm m (.pointer (some ⟨b,x,none⟩)) (.cp e off)
 | own (b k s n c cap blk sz x:Nat) (hm:m b=some (blk,sz)) (hn:n≤c) (hcc:c≤cap) (hx:x=s*k) (hc:(s+cap)*k≤sz) :
   Rep imm m (.slice (some ⟨blk,x,none⟩) n cap) (.own b k s n c)
 | ptr (b k i off blk sz x:Nat) (hm:m b=some (blk,sz)) (hx:x=i*k+off):Rep imm m (.pointer (some ⟨blk,x,none⟩)) (.ptr b k i off)
 | fn (f:FuncId) (fs cs:List Value) (first cap:List AV) (hf:fs.length=first.length) (hc:cs.length=cap.length)
   (h1:∀i (h1:i<fs.length) (h2:i<first.length),Rep imm m fs[i] first[i])
   (h2:∀i (h1:i<cs.length) (h2:i<cap.length),Rep imm m cs[i] cap[i]) :
   Rep imm m (.func (.func f) fs.toArray cs.toArray) (.fn f first cap)
 | mp (b blk sz:Nat) (hm:m b=some (blk,sz)):Rep imm m (.map (some blk)) (.mp b)
 | cm (blk:Nat) (es:List (Value×AV)) (ents:Array MapEntry) (clock:Nat) (hi:imm blk=some (.map ents clock)) (hl:ents.size=es.length) (hk:ents.toList.map (·.key)=es.map (·.1))
   (hr:∀i (h1:i<es.length) (h2:i<ents.size),Rep imm m ents[i].val es[i].2):Rep imm m (.map (some blk)) (.cm es)
def ILe (imm imm':Imm):Prop:=∀b o,imm b=some o→imm' b=some o
def OLe (m m':Own):Prop:=∀b o,m b=some o→m' b=some o
theorem ILe.refl (imm:Imm):ILe imm imm:=fun _ _ h=>h
theorem OLe.refl (m:Own):OLe m m:=fun _ _ h=>h
theorem ILe.trans {a b c:Imm} (h:ILe a b) (h':ILe b c):ILe a c:=fun _ _ x=>h' _ _ (h _ _ x)
theorem OLe.trans {a b c:Own} (h:OLe a b) (h':OLe b c):OLe a c:=fun _ _ x=>h' _ _ (h _ _ x)
theorem qu {imm imm':Imm} (h:ILe imm imm') {b o:Nat} {v:Value} (hc:d6 imm b o=some v):d6 imm' b o=some v:=by
 unfold d6 at *
 cases hb:imm b with
 | none=>simp [hb] at hc
 | some ob=>rw[h _ _ hb];simpa [hb] using hc
theorem Rep.mono {imm imm':Imm} {m m':Own} (hi:ILe imm imm') (hm:OLe m m') {v:Value} {a:AV} (h:Rep imm m v a):Rep imm' m' v a:=by
 induction h with
 | c v=>exact .c v
 | emp p=>exact .emp p
 | agg cs l hl _ ih=>exact .agg cs l hl ih
 | tup cs l hl _ ih=>exact .tup cs l hl ih
 | sl p cap n es k vals hn hcap hk hp _ ih=>
  refine .sl p cap n es k vals hn hcap hk (fun h0=>?_) ih;obtain⟨b,o,e,hc⟩:=hp h0;exact⟨b,o,e,fun i hi' j hj=>qu hi (hc i hi' j hj)⟩
 | cp b o x e off vals hx hc _ ih=>exact .cp b o x e off vals hx (fun j hj=>qu hi (hc j hj)) ih
 | own b k s n c cap blk sz x h hn hcc hx hc=>exact .own b k s n c cap blk sz x (hm _ _ h) hn hcc hx hc
 | ptr b k i off blk sz x h hx=>exact .ptr b k i off blk sz x (hm _ _ h) hx
 | fn f fs cs first cap hf hc _ _ ih1 ih2=>exact .fn f fs cs first cap hf hc ih1 ih2
 | mp b blk sz h=>exact .mp b blk sz (hm _ _ h)
 | cm blk es ents clock h hl hk _ ih=>exact .cm blk es ents clock (hi _ _ h) hl hk ih
def cut (m:Own) (n:Nat):Own:=fun b=>if b<n then m b else none
inductive Bd (n:Nat):AV→Prop
 | c (v:Value):Bd n (.c v)
 | emp:Bd n .emp
 | agg (l:List AV) (h:∀i (h2:i<l.length),Bd n l[i]):Bd n (.agg l)
 | tup (l:List AV) (h:∀i (h2:i<l.length),Bd n l[i]):Bd n (.tup l)
 | sl (es:List (List AV)) (h:∀i (hi:i<es.length) j (hj:j<es[i].length),Bd n es[i][j]):Bd n (.sl es)
 | cp (e:List AV) (off:Nat) (h:∀i (h2:i<e.length),Bd n e[i]):Bd n (.cp e off)
 | own (b k s l c:Nat) (h:b<n):Bd n (.own b k s l c)
 | ptr (b k i off:Nat) (h:b<n):Bd n (.ptr b k i off)
 | fn (f:FuncId) (first cap:List AV) (h1:∀i (h2:i<first.length),Bd n first[i]) (h2:∀i (h2:i<cap.length),Bd n cap[i]):Bd n (.fn f first cap)
 | mp (b:Nat) (h:b<n):Bd n (.mp b)
 | cm (es:List (Value×AV)) (h:∀i (h2:i<es.length),Bd n es[i].2):Bd n (.cm es)
theorem Bd.up {n n':Nat} (hn:n≤n') {a:AV} (h:Bd n a):Bd n' a:=by
 induction h with
 | c v=>exact .c v
 | emp=>exact .emp
 | agg l _ ih=>exact .agg l ih
 | tup l _ ih=>exact .tup l ih
 | sl es _ ih=>exact .sl es ih
 | cp e off _ ih=>exact .cp e off ih
 | own b k s l c h=>exact .own b k s l c (by omega)
 | ptr b k i off h=>exact .ptr b k i off (by omega)
 | fn f a b _ _ h1 h2=>exact .fn f a b h1 h2
 | mp b h=>exact .mp b (by omega)
 | cm es _ ih=>exact .cm es ih
theorem Rep.bd {imm:Imm} {m:Own} {n:Nat} (hd:∀b,n≤b→m b=none) {v:Value} {a:AV} (h:Rep imm m v a):Bd n a:=by
 have key:∀b blk sz,m b=some (blk,sz)→b<n:=fun b blk sz h=>by
  rcases Nat.lt_or_ge b n with h'|h'
  ·exact h'
  ·rw[hd b h'] at h;cases h
 induction h with
 | c v=>exact .c v
 | emp p=>exact .emp
 | agg cs l hl _ ih=>exact .agg l fun i h2=>ih i (by omega) h2
 | tup cs l hl _ ih=>exact .tup l fun i h2=>ih i (by omega) h2
 | sl p cap n es k vals hn hcap hk hp _ ih=>exact .sl es ih
 | cp b o x e off vals hx hc _ ih=>exact .cp e off ih
 | own b k s n c cap blk sz x h hn hcc hx hc=>exact .own b k s n c (key _ _ _ h)
 | ptr b k i off blk sz x h hx=>exact .ptr b k i off (key _ _ _ h)
 | fn f fs cs first cap hf hc _ _ ih1 ih2=>exact .fn f first cap (fun i h2=>ih1 i (by omega) h2) (fun i h2=>ih2 i (by omega) h2)
 | mp b blk sz h=>exact .mp b (key _ _ _ h)
 | cm blk es ents clock h hl hk _ ih=>exact .cm es fun i h2=>ih i h2 (by omega)
theorem Rep.cut {imm:Imm} {m:Own} {n:Nat} {v:Value} {a:AV} (h:Rep imm m v a):Bd n a→Rep imm (cut m n) v a:=by
 induction h with
 | c v=>exact fun _=>.c v
 | emp p=>exact fun _=>.emp p
 | agg cs l hl _ ih=>intro hb;cases hb with|agg _ hb=>exact .agg cs l hl fun i h1 h2=>ih i h1 h2 (hb i h2)
 | tup cs l hl _ ih=>intro hb;cases hb with|tup _ hb=>exact .tup cs l hl fun i h1 h2=>ih i h1 h2 (hb i h2)
 | sl p cap n es k vals hn hcap hk hp _ ih=>intro hb;cases hb with|sl _ hb=>exact .sl p cap n es k vals hn hcap hk hp fun i hi j hj=>ih i hi j hj (hb i hi j hj)
 | cp b o x e off vals hx hc _ ih=>intro hb;cases hb with|cp _ _ hb=>exact .cp b o x e off vals hx hc fun j hj=>ih j hj (hb j hj)
 | own b k s n c cap blk sz x h hn hcc hx hc=>intro hb;cases hb with|own _ _ _ _ _ hb=>exact .own b k s n c cap blk sz x (by simp [Proofs.YtephecognbbaoaaGreat.cut,hb,h]) hn hcc hx hc
 | ptr b k i off blk sz x h hx=>intro hb;cases hb with|ptr _ _ _ _ hb=>exact .ptr b k i off blk sz x (by simp [Proofs.YtephecognbbaoaaGreat.cut,hb,h]) hx
 | fn f fs cs first cap hf hc _ _ ih1 ih2=>intro hb;cases hb with|fn _ _ _ hb1 hb2=>exact .fn f fs cs first cap hf hc (fun i h1 h2=>ih1 i h1 h2 (hb1 i h2)) (fun i h1 h2=>ih2 i h1 h2 (hb2 i h2))
 | mp b blk sz h=>intro hb;cases hb with|mp _ hb=>exact .mp b blk sz (by simp [Proofs.YtephecognbbaoaaGreat.cut,hb,h])
 | cm blk es ents clock h hl hk _ ih=>intro hb;cases hb with|cm _ hb=>exact .cm blk es ents clock h hl hk fun i h1 h2=>ih i h1 h2 (hb i h1)
def bK (imm:Imm) (m:Own) (vs:List Value) (as':List AV):Prop:=
 vs.length=as'.length∧∀i (h1:i<vs.length) (h2:i<as'.length),Rep imm m vs[i] as'[i]
theorem bK.mono {imm imm':Imm} {m m':Own} (hi:ILe imm imm') (hm:OLe m m') {v:List Value} {a:List AV} (h:bK imm m v a):bK imm' m' v a:=
 ⟨h.1,fun i h1 h2=>(h.2 i h1 h2).mono hi hm⟩
def Ob.live:Ob→Bool
 | .cells .. => true
 | .map .. => true
 | .lp .. => true
 | _=>false
def qG (imm:Imm) (m:Own) (w:World) (id:Nat):Ob→Prop
 | .res=>m id=none
 | .dead=>True
 | .cells k es=>∃blk sz,m id=some (blk,sz)∧imm blk=none∧∃cs T fr,w.heap[blk]? = some (.cells cs T fr)∧cs.size=sz ∧
   (∀o,o<sz→¬(fr.1≤o∧o<fr.2))∧es.length*k≤sz ∧
   ∀i (hi:i<es.length),es[i].length=k∧∀j (hj:j<es[i].length),∃v,cs[i*k+j]? = some v∧Rep imm m v es[i][j]
 | .map es=>∃blk sz,m id=some (blk,sz)∧imm blk=none∧∃ents clock,w.heap[blk]? = some (.map ents clock)∧ents.size=es.length ∧
   ents.toList.map (·.key)=es.map (·.1)∧∀i (hi:i<es.length) (hj:i<ents.size),Rep imm m ents[i].val es[i].2
 | .lp l al N r=>∃blk sz,m id=some (blk,sz)∧imm blk=none∧blk=l∧w.heap[blk]? = some (.loop r)∧r.tmps.size=N ∧
   (∀t av,aB al t=some av→∃v,r.tmps[t]? = some v∧Rep imm m v av)∧∀t av,aB al t=some av→Bd id av
structure Sim (K:World) (imm:Imm) (m:Own) (w:World) (σ:aa):Prop where
 os:w.os=K.os
 tape:w.tape=K.tape
 output:w.output=K.output
 size:K.heap.size≤w.heap.size
 imm_ok:∀b o,imm b=some o→w.heap[b]? = some o
 dom:∀id,σ.length≤id→m id=none
 obs:∀id (h:id<σ.length),qG imm m w id σ[id]
 inj:∀i j (hi:i<σ.length) (hj:j<σ.length),σ[i].live=true→σ[j].live=true→(m i).map (·.1)=(m j).map (·.1)→i=j
end Go.Proofs.YtephecognbbaoaaGreat
namespace Go.Proofs.YtephecognbbaoaaGreat
open Go
set_option linter.all false
def AZ (r:Nat):Deferred := { target:=.collected r,args := #[] }
def lu (K:World) (imm:Imm) (ds:List Deferred):Prop:=
 ∃rs:List Nat,rs.Nodup∧ds=rs.map AZ∧∀r∈rs,K.heap.size≤r∧imm r=some (.deferred (some []))
theorem lu.nil (K:World) (imm:Imm):lu K imm []:=⟨[],.nil,rfl,fun _ h=>by cases h⟩
theorem lu.mono {K:World} {imm imm':Imm} {ds:List Deferred} (hi:ILe imm imm') (h:lu K imm ds):lu K imm' ds:=
 let ⟨rs,h1,h2,h3⟩:=h;⟨rs,h1,h2,fun r hr=>⟨(h3 r hr).1,hi _ _ (h3 r hr).2⟩⟩
structure FOk (K:World) (imm:Imm) (m:Own) (N:Nat) (a:Act) (α:AF):Prop where
 defers:lu K imm a.defers
 size:a.tmps.size=N
 slot:∀t av,aB α t=some av→∃v,a.tmps[t]? = some v∧Rep imm m v av
theorem FOk.mono {K:World} {imm imm':Imm} {m m':Own} {N:Nat} {a:Act} {α:AF} (hi:ILe imm imm') (hm:OLe m m') (h:FOk K imm m N a α):FOk K imm' m' N a α:=
 ⟨h.defers.mono hi,h.size,fun t av ht=>let ⟨v,e,r⟩:=h.slot t av ht;⟨v,e,r.mono hi hm⟩⟩
def ALe (α β:AF):Prop:=∀t av,aB β t=some av→aB α t=some av
theorem FOk.weak {K:World} {imm:Imm} {m:Own} {N:Nat} {a:Act} {α β:AF} (h:FOk K imm m N a α) (hl:ALe α β):FOk K imm m N a β:=
 ⟨h.defers,h.size,fun t av ht=>h.slot t av (hl t av ht)⟩
theorem FOk.put {K:World} {imm:Imm} {m:Own} {N:Nat} {a:Act} {α:AF} (h:FOk K imm m N a α) {d:Nat} (hd:d<N) {v:Value} {av:AV} (hr:Rep imm m v av):FOk K imm m N (a.put (some d) v) ((d,av)::α):=by
 refine⟨h.defers,by simp [Act.put,h.size],fun t av' ht=>?_⟩
 have hs:=h.size;simp only[aB] at ht
 by_cases hdt:d=t
 ·rw[if_pos hdt] at ht
  cases ht
  subst hdt;exact⟨v,by simp [Act.put,hs,hd],hr⟩
 ·rw[if_neg hdt] at ht;obtain⟨u,e,r⟩:=h.slot t av' ht;exact⟨u,by simp [Act.put,Array.getElem?_setIfInBounds,hdt,e],r⟩
theorem FOk.none {K:World} {imm:Imm} {m:Own} {N:Nat} {a:Act} {α:AF} (h:FOk K imm m N a α) (v:Value):FOk K imm m N (a.put none v) α:=h
abbrev bV:=Exit→AF→aa→Prop
def dS (K:World) (N:Nat) (imm0:Imm) (m0:Own) (Q:bV):Exit→Act→World→Prop:=fun e a w=>
 ∃imm m α σ,ILe imm0 imm∧OLe m0 m∧Sim K imm m w σ∧FOk K imm m N a α∧Q e α σ
def Rnd:Option Nat→Fence
 | none=>Fence.wide
 | some l=>Fence.wide.inRound l
theorem jQ (rd:Option Nat) (f:FuncId):(Rnd rd).fn f:=by cases rd<;>trivial
theorem wj (rd:Option Nat):(Rnd rd).depth=none:=by cases rd<;>rfl
theorem CP (rd:Option Nat):(Rnd rd).round=rd:=by cases rd<;>rfl
def aK (rd:Option Nat) (P:Program) (N:Nat) (c:Code) (Q:bV) (α:AF) (σ:aa):Prop:=
 ∀K imm m w a,Sim K imm m w σ→FOk K imm m N a α→Code.wpIn (Rnd rd) 0 P c (dS K N imm m Q) a w
abbrev AWP (P:Program) (N:Nat) (c:Code) (Q:bV) (α:AF) (σ:aa):Prop:=aK none P N c Q α σ
def af (P:Program) (f:FuncId) (args:List AV) (σ:aa) (R:AV→aa→Prop):Prop:=
 ∀K imm m w vs,Sim K imm m w σ→bK imm m vs args→Calls P f vs.toArray w fun e w'=>
  ∃imm' m' v r σ',e = .returned v∧ILe imm imm'∧OLe m m'∧Sim K imm' m' w' σ'∧Rep imm' m' v r∧R r σ'
theorem af.mono {P:Program} {f:FuncId} {args:List AV} {σ:aa} {R R':AV→aa→Prop} (h:af P f args σ R) (hr:∀r σ',R r σ'→R' r σ'):af P f args σ R':=
 fun K imm m w vs hs hv=>(h K imm m w vs hs hv).mono fun _ _ ⟨i,m',v,r,s,a,b,c,d,e,f⟩=>⟨i,m',v,r,s,a,b,c,d,e,hr _ _ f⟩
section
variable {rd:Option Nat} {P:Program} {N:Nat} {Q:bV} {α:AF} {σ:aa}
theorem cK {K:World} {imm imm':Imm} {m m':Own} {Q:bV} {e:Exit} {a:Act} {w:World} (hi:ILe imm imm') (hm:OLe m m') (h:dS K N imm' m' Q e a w):dS K N imm m Q e a w:=
 let ⟨i,o,α,σ,a,b,c⟩:=h;⟨i,o,α,σ,hi.trans a,hm.trans b,c⟩
theorem aK.mono {c:Code} {Q':bV} (h:aK rd P N c Q α σ) (hq:∀e α σ,Q e α σ→Q' e α σ):aK rd P N c Q' α σ:=
 fun K imm m w a hs hf=>Code.wpIn_mono (fun _ _ _ ⟨i,o,α,σ,a,b,c,d,e⟩=>⟨i,o,α,σ,a,b,c,d,hq _ _ _ e⟩) (h K imm m w a hs hf)
theorem aK.weak {c:Code} {β:AF} (hl:ALe α β) (h:aK rd P N c Q β σ):aK rd P N c Q α σ:=
 fun K imm m w a hs hf=>h K imm m w a hs (hf.weak hl)
def ah (R:AF→aa→Prop) (Q:bV):bV:=fun e α σ=>
 match e with
 | .normal=>R α σ
 | e=>Q e α σ
def ae (id:Nat) (Q:bV):bV:=fun e α σ=>
 match e with
 | .exit id'=>if id'=id then Q .normal α σ else Q (.exit id') α σ
 | e=>Q e α σ
theorem Ap {x y:Code} (h:aK rd P N x (ah (fun α σ=>aK rd P N y Q α σ) Q) α σ):aK rd P N (.seq x y) Q α σ:=by
 intro K imm m w a hs hf;refine wpIn_seq (Code.wpIn_mono ?_ (h K imm m w a hs hf));rintro e a' w' ⟨i,o,α',σ',hi,ho,hs',hf',hq⟩
 cases e with
 | normal=>exact Code.wpIn_mono (fun _ _ _ hh=>cK hi ho hh) (hq K i o w' a' hs' hf')
 | _=>exact⟨i,o,α',σ',hi,ho,hs',hf',hq⟩
theorem CU {x y:Code} (h:∀K:AF→aa→Prop,(∀α σ,aK rd P N y Q α σ→K α σ)→aK rd P N x (ah K Q) α σ):aK rd P N (.seq x y) Q α σ:=
 Ap (h _ fun _ _ h=>h)
theorem C8 {id:Nat} {c:Code} (h:aK rd P N c (ae id Q) α σ):aK rd P N (.block id c) Q α σ:=by
 intro K imm m w a hs hf;refine wpIn_block (Code.wpIn_mono ?_ (h K imm m w a hs hf));rintro e a' w' ⟨i,o,α',σ',hi,ho,hs',hf',hq⟩
 cases e with
 | exit id'=>
  simp only[Exit.inBlock];simp only[ae] at hq
  split
  ·rename_i he;rw[if_pos he] at hq;exact⟨i,o,α',σ',hi,ho,hs',hf',hq⟩
  ·rename_i he;rw[if_neg he] at hq;exact⟨i,o,α',σ',hi,ho,hs',hf',hq⟩
 | _=>exact⟨i,o,α',σ',hi,ho,hs',hf',hq⟩
theorem Ei (h:Q .normal α σ):aK rd P N .skip Q α σ:=fun K imm m w a hs hf=>
 wpIn_skip ⟨imm,m,α,σ,.refl _,.refl _,hs,hf,h⟩
theorem Ek {id:Nat} (h:Q (.exit id) α σ):aK rd P N (.exit id) Q α σ:=fun K imm m w a hs hf=>
 wpIn_exit ⟨imm,m,α,σ,.refl _,.refl _,hs,hf,h⟩
theorem Aq (h:Q .ret α σ):aK rd P N .ret Q α σ:=fun K imm m w a hs hf=>
 wpIn_ret ⟨imm,m,α,σ,.refl _,.refl _,hs,hf,h⟩
theorem FOk.eval {K:World} {imm:Imm} {m:Own} {a:Act} {t:Nat} {av:AV} (h:FOk K imm m N a α) (hl:aB α t=some av):∃v,a.eval (.tmp t)=v∧Rep imm m v av:=by
 obtain⟨v,e,r⟩:=h.slot t av hl;exact⟨v,by simp [Act.eval,e],r⟩
theorem dg {t:Nat} {x y:Code} {b:Bool} (hl:aB α t=some (.c (.bool b))) (h1:b=true→aK rd P N x Q α σ) (h2:b=false→aK rd P N y Q α σ):aK rd P N (.cond (.tmp t) x y) Q α σ:=by
 intro K imm m w a hs hf;obtain⟨v,e,r⟩:=hf.eval hl
 cases r
 exact wpIn_cond_split e (fun hb=>h1 hb K imm m w a hs hf) (fun hb=>h2 hb K imm m w a hs hf)
theorem qp {p:Nat→Prop} : ∀n,p n→∃n,p n∧∀k,p k→n≤k:=by
 intro n
 induction n using Nat.strongRecOn with
 | _ n ih=>
  intro hn
  by_cases h:∃k,k<n∧p k
  ·obtain⟨k,hk,hp⟩:=h;exact ih k hk hp
  ·exact⟨n,hn,fun k hk=>by
    rcases Nat.lt_or_ge k n with h'|h'
    ·exact absurd ⟨k,h',hk⟩ h
    ·exact h'⟩
theorem wt {F:Fence} {n':Nat} {c:Code} {Q:Exit→Act→World→Prop} (Inv:Nat→Act→World→Prop) {a:Act} {w:World} (n:Nat) (h0:Inv n a w)
  (round:∀n a w,Inv n a w→c.wpIn F n' P (Exit.then (fun a' w'=>∃n',n'<n∧Inv n' a' w') Q) a w):(Code.loop c).wpIn F n' P Q a w:=by
 classical
 let μ:Act→World→Nat:=fun a w=>if h:∃n,Inv n a w then Classical.choose (qp (p:=fun n=>Inv n a w) h.choose h.choose_spec) else 0
 have hμ:∀a w n,Inv n a w→Inv (μ a w) a w∧μ a w≤n:=by
  intro a w n h;have hex:∃n,Inv n a w:=⟨n,h⟩;have hs:=Classical.choose_spec (qp (p:=fun n=>Inv n a w) hex.choose hex.choose_spec);have e:μ a w=Classical.choose (qp (p:=fun n=>Inv n a w) hex.choose hex.choose_spec):=dif_pos hex;rw[e];exact⟨hs.1,hs.2 n h⟩
 refine wpIn_loop (fun a w=>∃n,Inv n a w) μ ⟨n,h0⟩ ?_;rintro a w ⟨n,h⟩;refine Code.wpIn_mono ?_ (round (μ a w) a w (hμ a w n h).1);intro e a' w' hq
 cases e with
 | normal=>
  obtain⟨n',hlt,hI⟩:=hq;exact⟨⟨n',hI⟩,Nat.lt_of_le_of_lt (hμ a' w' n' hI).2 hlt⟩
 | _=>exact hq
theorem Ej {c:Code} {ι:Type} (H:ι→Prop) (A:ι→AF) (S:ι→aa) (μ:ι→Nat) (x:ι) (h0:H x) (ha:ALe α (A x)) (hs:S x=σ)
  (round:∀x,H x→aK rd P N c (ah (fun α' σ'=>∃y,H y∧μ y<μ x∧ALe α' (A y)∧S y=σ') Q) (A x) (S x)):aK rd P N (.loop c) Q α σ:=by
 intro K imm m w a hsim hf;subst hs;refine wt (fun n a w=>∃imm' m' y,ILe imm imm'∧OLe m m'∧Sim K imm' m' w (S y)∧FOk K imm' m' N a (A y)∧H y∧μ y=n) (μ x)
  ⟨imm,m,x,.refl _,.refl _,hsim,hf.weak ha,h0,rfl⟩ ?_
 rintro n a w ⟨imm',m',y,hi,ho,hs',hf',hy,rfl⟩;refine Code.wpIn_mono ?_ (round y hy K imm' m' w a hs' hf');rintro e a' w' ⟨i,o,α',σ',hi',ho',hs'',hf'',hq⟩
 cases e with
 | normal=>
  obtain⟨z,hz,hlt,hal,hst⟩:=hq;subst hst;exact⟨μ z,hlt,i,o,z,hi.trans hi',ho.trans ho',hs'',hf''.weak hal,hz,rfl⟩
 | _=>exact⟨i,o,α',σ',hi.trans hi',ho.trans ho',hs'',hf'',hq⟩
end
end Go.Proofs.YtephecognbbaoaaGreat
namespace Go.Proofs.YtephecognbbaoaaGreat
open Go
set_option linter.all false
def on {α:Type} (o:Option α) (k:α→Prop):Prop:=match o with|some a=>k a|none=>False
theorem aX {α:Type} (a:α) (k:α→Prop):on (some a) k=k a:=rfl
theorem aj {α:Type} {o:Option α} {k:α→Prop} (h:on o k):∃a,o=some a∧k a:=by
 cases o with
 | none=>exact h.elim
 | some a=>exact⟨a,rfl,h⟩
def I64 (n:Int):Prop := -9223372036854775808≤n∧n≤9223372036854775807
theorem gm {n:Int} (h:I64 n):IntKind.i64.wrap n=n:=IntWalk.i64_in n h
def cd:AV→List AV
 | .agg l=>l
 | .c (.agg cs)=>cs.toList.map .c
 | a=>[a]
def bA (P:Program) (t:TypeId):Option Nat:=
 match P.underlying t with
 | some (.struct _)=>some (P.cellsOf t)
 | some (.array _ _)=>some (P.cellsOf t)
 | _=>none
def b6 (P:Program) (t:TypeId):Option Nat:=
 match P.underlying t with
 | some (.slice e)=>if (P.info? e).isSome then some (P.cellsOf e) else none
 | _=>none
def vF (P:Program) (t:TypeId):Option (Nat×Nat):=
 match P.underlying t with
 | some (.array n e)=>if (P.info? e).isSome then some (P.cellsOf e,n) else none
 | _=>none
def aZ (P:Program) (t:TypeId) (f:Nat):Option Nat:=
 match P.underlying t with
 | some (.struct fs)=>match fs[f]? with
  | some x=>if (P.info? x.type).isSome&&P.cellsOf x.type != 0 then some x.offset else none
  | none=>none
 | _=>none
def tJ (P:Program) (t:TypeId) (f:Nat):Option Nat:=
 match P.underlying t with
 | some (.struct fs)=>match fs[f]? with
  | some x=>if (P.underlying x.type).isSome&&(bA P x.type).isNone then some x.offset else none
  | none=>none
 | _=>none
def dV (P:Program) (t:TypeId):Bool:=(P.underlying t).isSome&&(P.info? t).isSome
def tU (P:Program) (t:TypeId) (e:List AV) (off:Nat):Option AV:=
 match bA P t with
 | some n=>if off+n≤e.length∧(P.info? t).isSome then some (.agg ((e.drop off).take n)) else none
 | none=>if dV P t then e[off]? else none
def m9 (σ:aa) (b k i:Nat):Option (List AV):=
 match σ[b]? with
 | some (.cells k' es)=>if k'=k then es[i]? else none
 | _=>none
def ln (P:Program) (σ:aa) (t:TypeId):AV→Option AV
 | .ptr b k i off=>(m9 σ b k i).bind fun e=>tU P t e off
 | .cp e off=>tU P t e off
 | _=>none
def vC (op:BinOp) (k:IntKind) (x y:Int) (K:Value→Prop):Prop:=
 match op with
 | .add=>match k with | .i64=>I64 (x+y)∧K (.int .i64 (x+y))|k=>K (.int k (k.wrap (x+y)))
 | .sub=>match k with | .i64=>I64 (x-y)∧K (.int .i64 (x-y))|k=>K (.int k (k.wrap (x-y)))
 | .mul=>match k with | .i64=>I64 (x*y)∧K (.int .i64 (x*y))|k=>K (.int k (k.wrap (x*y)))
 | .quo=>match k with | .i64=>y≠0∧I64 (x.tdiv y)∧K (.int .i64 (x.tdiv y))|k=>y≠0∧K (.int k (k.wrap (x.tdiv y)))
 | .rem=>y≠0∧K (.int k (x.tmod y))
 | .and=>K (.int k (k.wrap (BitVec.ofInt k.bits x &&& BitVec.ofInt k.bits y).toNat))
 | .or=>K (.int k (k.wrap (BitVec.ofInt k.bits x ||| BitVec.ofInt k.bits y).toNat))
 | .xor=>K (.int k (k.wrap (BitVec.ofInt k.bits x ^^^ BitVec.ofInt k.bits y).toNat))
 | .eql=>K (.bool (x==y))
 | .neq=>K (.bool (x != y))
 | .lss=>K (.bool (decide (x<y)))
 | .leq=>K (.bool (decide (x≤y)))
 | .gtr=>K (.bool (decide (x>y)))
 | .geq=>K (.bool (decide (x≥y)))
 | _=>False
def sh (op:BinOp) (a b:AV) (K:Value→Prop):Prop:=
 match a,b with
 | .c (.int k x),.c (.int k' y)=>
  match op with
  | .shl=>0≤y∧K (.int k (k.wrap (x*2 ^ (min y.toNat k.bits))))
  | .shr=>0≤y∧K (.int k (x.fdiv (2 ^ (min y.toNat k.bits))))
  | op=>k=k'∧vC op k x y K
 | .c (.string s),.c (.string t)=>
  match op with
  | .add=>((s.size+t.size:Nat):Int)≤9223372036854775807∧K (.string (s++t))
  | .eql=>K (.bool (s.toList==t.toList))
  | .neq=>K (.bool (!(s.toList==t.toList)))
  | _=>False
 | _,_=>False
def uI (P:Program) (T:TypeId):Option (List (Nat×Bool)):=
 match P.underlying T with
 | some (.struct fs)=>if P.stoodInHeld T=false∧P.eqGuardType P.depth T=false then
   fs.toList.mapM fun f=>match P.underlying f.type with
    | some (.int _)=>if f.name ≠ "_" then some (f.offset,false) else none
    | some .string=>if f.name ≠ "_" then some (f.offset,true) else none
    | _=>none
  else none
 | _=>none
def la:List (Nat×Bool)→List AV→List AV→Option Bool
 | [],_,_=>some true
 | (o,false)::r,xs,ys=>match xs[o]?,ys[o]? with
  | some (.c (.int k a)),some (.c (.int k' b))=>if k=k' then (la r xs ys).map fun t=>a==b&&t else none
  | _,_=>none
 | (o,true)::r,xs,ys=>match xs[o]?,ys[o]? with
  | some (.c (.string a)),some (.c (.string b))=>(la r xs ys).map fun t=>a.toList==b.toList&&t
  | _,_=>none
def o6 (P:Program) (T:TypeId) (op:BinOp) (a b:AV) (K:Value→Prop):Prop:=
 match a,b with
 | .agg xs,.agg ys=>on (uI P T) fun pl=>on (la pl xs ys) fun r=>match op with
  | .eql=>K (.bool r)
  | .neq=>K (.bool (!r))
  | _=>False
 | .c (.bool p),.c (.bool q)=>P.underlying T=some .bool∧match op with
  | .eql=>K (.bool (p==q))
  | .neq=>K (.bool (p != q))
  | _=>False
 | a,b=>sh op a b K
def DI (P:Program) (T:TypeId) (op:BinOp) (a:AV) (K:Value→Prop):Prop:=
 match P.underlying T with
 | some (.slice _)=>match op with
  | .eql=>match a with
   | .sl es=>(es.length=0→K (.bool true))∧K (.bool false)
   | .own .. => K (.bool false)
   | .emp=>K (.bool true)∧K (.bool false)
   | .c (.slice none 0 0)=>K (.bool true)
   | _=>False
  | _=>False
 | _=>False
def vB (P:Program) (T:TypeId) (op:BinOp) (a b:AV) (K:Value→Prop):Prop:=
 match b with
 | .c (.slice none 0 0)=>DI P T op a K
 | b=>o6 P T op a b K
def jG:AV→Option Nat
 | .sl es=>some es.length
 | .own _ _ _ n _=>some n
 | .emp=>some 0
 | .c (.slice none 0 0)=>some 0
 | .c (.string s)=>some s.size
 | _=>none
def Up (P:Program) (K0:World) (imm:Imm) (m:Own) (K:AV→aa→Prop):Result Next→Prop
 | .ok (.value v) w'=>∃imm' m' av σ',ILe imm imm'∧OLe m m'∧Sim K0 imm' m' w' σ'∧Rep imm' m' v av∧K av σ'
 | .ok .skip w'=>∃imm' m' av σ',ILe imm imm'∧OLe m m'∧Sim K0 imm' m' w' σ'∧Rep imm' m' undef av∧K av σ'
 | .ok (.enter f args) w'=>Calls P f args w' fun e w''=>
  ∃imm' m' v av σ',e = .returned v∧ILe imm imm'∧OLe m m'∧Sim K0 imm' m' w'' σ'∧Rep imm' m' v av∧K av σ'
 | .ok (.round l f tmps assign body) w'=>RoundIn Fence.wide 0 P l f tmps assign body w' fun e w''=>
  ∃imm' m' v av σ',e = .returned v∧ILe imm imm'∧OLe m m'∧Sim K0 imm' m' w'' σ'∧Rep imm' m' v av∧K av σ'
 | _=>False
def evL (ev:Operand→Option AV):List Operand→Option (List AV)
 | []=>some []
 | x::r=>(ev x).bind fun v=>(evL ev r).bind fun l=>some (v::l)
def Dl (P:Program) (t:TypeId):Bool:=match P.underlying t with|some .string=>true|_=>false
def w6 (P:Program) (t:TypeId) (x:AV):Bool:=
 match x with
 | .c (.string _)=>Dl P t
 | .c (.slice ..)=>(b6 P t).isSome
 | .sl _=>(b6 P t).isSome
 | .own .. => (b6 P t).isSome
 | .emp=>(b6 P t).isSome
 | _=>false
def jI:AV→Option Int
 | .c (.int _ n)=>some n
 | _=>none
def c7 (ev:Operand→Option AV) (x:Option Operand) (d:Int):Option Int:=
 match x with
 | some o=>(ev o).bind jI
 | none=>some d
def rC:AV→Bool
 | .sl _=>true
 | .own .. => true
 | .emp=>true
 | .c (.slice none 0 0)=>true
 | _=>false
def eW (b:Bool) (p q:Prop):Prop:=(b=true→p)∧(b=false→q)
theorem ak {b:Bool} {p q:Prop} (h1:b=true→p) (h2:b=false→q):eW b p q:=⟨h1,h2⟩
theorem zm {p q:Prop} : eW true p q=p:=by simp [eW]
theorem xH {p q:Prop} : eW false p q=q:=by simp [eW]
def fI (P:Program) (d:Option TypeDesc) (x:AV) (mx:Option Operand) (hi:Bool) (l h:Int) (len:Nat) (mz:Int) (K:AV→Prop):Prop:=
 match d,x,mx with
 | some .string,.c (.string s),none=>0≤l∧l≤h∧h≤len∧K (.c (.string (s.extract l.toNat h.toNat)))
 | some (.slice e),.sl es,none=>(P.info? e).isSome=true∧(∀x,x∈es→x.length=P.cellsOf e)∧0≤l∧l≤h∧h≤len∧K (.sl ((es.drop l.toNat).take (h.toNat-l.toNat)))
 | some (.slice e),.own b k s n c,none=>(P.info? e).isSome=true∧P.cellsOf e=k∧0≤l∧l≤h∧h≤len∧(l=0∨l<len→K (.own b k (s+l.toNat) (h.toNat-l.toNat) (c-l.toNat)))∧(l≠0→l=len→K (.sl []))
 | some (.slice e),x,some _=>(P.info? e).isSome=true∧rC x=true∧l=0∧h=0∧hi=true∧mz=0∧K .emp
 | _,_,_=>False
def uN (d d':Option TypeDesc) (x:AV) (K:AV→Prop):Prop:=
 match d,d',x with
 | some (.int _),some (.int k),.c (.int _ n)=>K (.c (.int k (k.wrap n)))
 | _,_,_=>False
def cH (P:Program) (op:Op) (ev:Operand→Option AV) (K:AV→Prop):Prop:=
 match op with
 | .move x=>on (ev x) K
 | .assign x=>on (ev x) K
 | .pick c a b=>on (ev c) fun c=>on (ev a) fun a=>on (ev b) fun b=>match c with
  | .c (.bool t)=>eW t (K a) (K b)
  | _=>False
 | .binOp op T x y _=>on (ev x) fun a=>on (ev y) fun b=>vB P T op a b fun v=>K (.c v)
 | .unOp op _ x=>on (ev x) fun a=>match op,a with
  | .not,.c (.bool b)=>K (.c (.bool (!b)))
  | .neg,.c (.int .i64 n)=>I64 (0-n)∧K (.c (.int .i64 (0-n)))
  | _,_=>False
 | .makeFunc fn first captured=>on (evL ev first.toList) fun fs=>on (evL ev captured.toList) fun cs=>match fn with
  | .func f=>K (.fn f fs cs)
  | _=>False
 | .extract t ix=>on (ev t) fun t=>match t with
  | .tup l=>on l[ix]? K
  | _=>False
 | .fieldAddr T x f=>on (ev x) fun x=>on (aZ P T f) fun d=>match x with
  | .ptr b k i off=>K (.ptr b k i (off+d))
  | .cp e off=>K (.cp e (off+d))
  | _=>False
 | .indexAddr T x i=>on (ev x) fun x=>on (ev i) fun i=>match x with
  | .ptr b k' j off=>on (vF P T) fun ks=>match i with
   | .c (.int _ n)=>0≤n∧n<ks.2∧K (.ptr b k' j (off+n.toNat*ks.1))
   | _=>False
  | x=>on (b6 P T) fun k=>match x,i with
   | .sl es,.c (.int _ n)=>0≤n∧on es[n.toNat]? fun e=>e.length=k∧K (.cp e 0)
   | .own b k' s len _,.c (.int _ n)=>k'=k∧0≤n∧n<len∧K (.ptr b k (s+n.toNat) 0)
   | _,_=>False
 | .index T x i=>on (ev x) fun x=>on (ev i) fun i=>match x,i with
  | .c (.string s),.c (.int _ n)=>P.underlying T=some .string∧0≤n∧on s[n.toNat]? fun b=>K (.c (.int .u8 b.toNat))
  | _,_=>False
 | .nilCheck x=>on (ev x) fun v=>match v with
  | .ptr .. => K v
  | .cp .. => K v
  | .fn .. => K v
  | _=>False
 | .convert s d x=>on (ev x) fun x=>uN (P.underlying s) (P.underlying d) x K
 | .field T x f=>on (ev x) fun x=>on (tJ P T f) fun d=>match x with
  | .agg l=>on l[d]? K
  | _=>False
 | .call { callee:=.builtin .len,args:=args,argTypes:=ts } => on (evL ev args.toList) fun l=>match l,ts.toList with
  | [x],t::_=>on (jG x) fun n=>w6 P t x=true∧K (.c (.int .i64 n))
  | _,_=>False
 | .call { callee:=.builtin .max,args:=args,argTypes:=_ } => on (evL ev args.toList) fun l=>match l with
  | [.c (.int k x),.c (.int _ y)]=>K (.c (.int k (max x y)))
  | _=>False
 | .call { callee:=.builtin .min,args:=args,argTypes:=_ } => on (evL ev args.toList) fun l=>match l with
  | [.c (.int k x),.c (.int _ y)]=>K (.c (.int k (min x y)))
  | _=>False
 | .slice T x lo hi mx=>on (ev x) fun x=>
  on (c7 ev lo 0) fun l=>
  on (jG x) fun len=>
  on (c7 ev hi len) fun h=>
  on (c7 ev mx 0) fun mz=>
  fI P (P.underlying T) x mx hi.isSome l h len mz K
 | _=>False
section
variable {P:Program} {imm:Imm} {m:Own} {w:World} {ev:Operand→Option AV} {ρ:Operand→Value}
theorem fq (hev:∀x av,ev x=some av→Rep imm m (ρ x) av):∀(xs:List Operand) (l:List AV),evL ev xs=some l→bK imm m (xs.map ρ) l:=by
 intro xs
 induction xs with
 | nil=>intro l h;simp [evL] at h;subst h;exact⟨rfl,fun i h1=>by simp at h1⟩
 | cons x r ih=>
  intro l h;simp only[evL,Option.bind_eq_some_iff] at h;obtain⟨v,hv,l',hl,e⟩:=h
  cases e
  obtain⟨h1,h2⟩:=ih l' hl;refine⟨by simpa using h1,fun i hi1 hi2=>?_⟩
  cases i with
  | zero=>exact hev _ _ hv
  | succ i=>
   simp only[List.map_cons,List.getElem_cons_succ];exact h2 i (by simpa using hi1) (by simpa using hi2)
theorem Rep.c_inv {v u:Value} (h:Rep imm m v (.c u)):v=u:=by cases h;rfl
abbrev yW (P:Program) (ρ:Operand→Value) (op:Op) (w:World) (v:Value):Prop:=
 ∀dst type pos after guard,(execOp ρ { dst,op,type,pos,after,guard }).run P w = .ok (.value v) w
theorem Bo {op:BinOp} {a b:AV} {K:Value→Prop} (T:TypeId) (x y:Operand) (U:TypeId) (ha:Rep imm m (ρ x) a) (hb:Rep imm m (ρ y) b)
  (h:sh op a b K):∃v,yW P ρ (.binOp op T x y U) w v∧K v:=by
 unfold sh at h
 split at h
 ·rename_i k i k' j
  have h1:=ha.c_inv;have h2:=hb.c_inv
  split at h
  ·obtain⟨h0,hk⟩:=h;refine⟨_,?_,hk⟩;intro dst type pos after guard;have:¬j<0:=by omega
   simp [execOp,h1,h2,eqGuard,binOp,Op.shift,this]
  ·obtain⟨h0,hk⟩:=h;refine⟨_,?_,hk⟩;intro dst type pos after guard;have:¬j<0:=by omega
   simp [execOp,h1,h2,eqGuard,binOp,Op.shift,this]
  ·obtain⟨rfl,h⟩:=h;unfold vC at h
   split at h<;>(try (split at h))<;>(try exact h.elim)<;>(try obtain⟨h0,h⟩:=h)<;>(try obtain⟨h9,h⟩:=h)<;>refine⟨_,?_,h⟩<;>intro dst type pos after guard<;>
    simp [execOp,h1,h2,eqGuard,binOp,Op.intArith,Op.intDiv,Op.intCmp,Op.intBits,gm, *]
 ·rename_i s t
  have h1:=ha.c_inv;have h2:=hb.c_inv
  split at h
  ·obtain⟨h0,hk⟩:=h;refine⟨_,?_,hk⟩;intro dst type pos after guard;simp [execOp,h1,h2,eqGuard,binOp,Op.stringOp];omega
  ·refine⟨_,?_,h⟩;intro dst type pos after guard;simp [execOp,h1,h2,eqGuard,binOp,Op.stringOp]
  ·refine⟨_,?_,h⟩;intro dst type pos after guard;simp [execOp,h1,h2,eqGuard,binOp,Op.stringOp]
  ·exact h.elim
 ·exact h.elim
theorem eT (hev:∀x av,ev x=some av→Rep imm m (ρ x) av) {o:Operand} {d n:Int} (h:c7 ev (some o) d=some n):∃k,ρ o = .int k n:=by
 simp only[c7,Option.bind_eq_some_iff] at h;obtain⟨a,ha,hn⟩:=h;have hr:=hev _ _ ha;unfold jI at hn
 split at hn
 ·rename_i k n'
  cases hn
  exact⟨k,hr.c_inv⟩
 ·cases hn
theorem aD {t:TypeId} {d:TypeDesc} (h:P.underlying t=some d):(underlying t).run P w = .ok d w:=by
 simp [underlying,program,h,Sem.run,Sem.run_bind,Result.andThen]
theorem jp {t:TypeId} {i:TypeInfo} (h:P.info? t=some i):(typeInfo t).run P w = .ok i w:=by
 simp [typeInfo,program,h,Sem.run,Sem.run_bind,Result.andThen]
theorem cQ {t:TypeId} (h:(P.info? t).isSome=true):(sizeOf t).run P w = .ok (P.cellsOf t) w:=by
 obtain⟨i,hi⟩:=Option.isSome_iff_exists.1 h;simp [sizeOf,jp hi,Program.cellsOf,hi]
theorem nJ (d:Nat):∀(fs:List Field) (pl:List (Nat×Bool)) (xs ys:List Value) (as' bs:List AV) (r:Bool),bK imm m xs as'→bK imm m ys bs →
  (fs.mapM fun f=>match P.underlying f.type with
    | some (.int _)=>if f.name ≠ "_" then some (f.offset,false) else none
    | some .string=>if f.name ≠ "_" then some (f.offset,true) else none
    | _=>none)=some pl→la pl as' bs=some r→(Op.eqFields (d+1) xs.toArray ys.toArray fs).run P w = .ok r w
 | [],pl,xs,ys,as',bs,r,hx,hy,hm,he=>by
  simp at hm;subst hm
  cases he
  simp [Op.eqFields]
 | f::fs,pl,xs,ys,as',bs,r,hx,hy,hm,he=>by
  simp only[List.mapM_cons,Option.bind_eq_bind,Option.bind_eq_some_iff,Option.pure_def,Option.some.injEq] at hm;obtain⟨q,hq,pl',hpl,rfl⟩:=hm;have one:∀ {zs:List Value} {cs:List AV} {o:Nat} {v:Value},bK imm m zs cs→cs[o]? = some (.c v)→zs[o]? = some v:=by
   intro zs cs o v h1 h2;obtain⟨hlt,e⟩:=List.getElem?_eq_some_iff.1 h2;have h3:=h1.2 o (by rw[h1.1];exact hlt) hlt
   rw[e] at h3;rw[List.getElem?_eq_getElem (by rw[h1.1];exact hlt),h3.c_inv]
  split at hq
  ·rename_i k hk
   split at hq
   ·rename_i hn
    cases hq
    simp only[la] at he
    split at he
    ·rename_i k1 a k2 b ha hb
     split at he
     ·rename_i hkk
      subst hkk;obtain⟨t,ht,rfl⟩:=Option.map_eq_some_iff.1 he;have ih:=nJ d fs pl' xs ys as' bs t hx hy hpl ht;have e1:=one hx ha;have e2:=one hy hb;have hu:=aD (w:=w) hk;simp [Op.eqFields,hn,part,isAgg,hu,Result.andThen_ok,e1,e2,run_equalIn_int,hk,ih]
      by_cases h:a=b<;>simp [h]
     ·cases he
    ·cases he
   ·cases hq
  ·rename_i hk
   split at hq
   ·rename_i hn
    cases hq
    simp only[la] at he
    split at he
    ·rename_i a b ha hb
     obtain⟨t,ht,rfl⟩:=Option.map_eq_some_iff.1 he;have ih:=nJ d fs pl' xs ys as' bs t hx hy hpl ht;have e1:=one hx ha;have e2:=one hy hb;have hu:=aD (w:=w) hk;simp [Op.eqFields,hn,part,isAgg,hu,Result.andThen_ok,e1,e2,run_equalIn_string,hk,ih]
     by_cases h:a.toList=b.toList<;>simp [h]
    ·cases he
   ·cases hq
  ·cases hq
theorem yz {T:TypeId} {p q:Bool} (d:Nat) (hT:P.underlying T=some .bool):(Op.equalIn (d+1) T (.bool p) (.bool q)).run P w = .ok (p==q) w:=by
 simp [Op.equalIn,aD hT]
theorem zR {T e:TypeId} {q:Option Addr} {n c:Nat} (d:Nat) (hT:P.underlying T=some (.slice e)):(Op.equalIn (d+1) T (.slice q n c) (.slice none 0 0)).run P w = .ok q.isNone w:=by
 cases q<;>simp [Op.equalIn,aD hT]
theorem Bm {op:BinOp} {a b:AV} {K:Value→Prop} (T:TypeId) (x y:Operand) (U:TypeId) (ha:Rep imm m (ρ x) a) (hb:Rep imm m (ρ y) b)
  (h:o6 P T op a b K):∃v,yW P ρ (.binOp op T x y U) w v∧K v:=by
 unfold o6 at h
 split at h
 ·rename_i xs ys
  replace h:=aj h;obtain⟨pl,hpl,h⟩:=h
  replace h:=aj h;obtain⟨r,hr,h⟩:=h
  generalize hvx:ρ x=vx at ha
  generalize hvy:ρ y=vy at hb
  cases ha with
  | agg cs _ hl hh=>
   cases hb with
   | agg ds _ hl' hh'=>
    unfold uI at hpl
    split at hpl
    ·rename_i fs hfs
     split at hpl
     ·rename_i hc
      have hf:P.fieldsOf T=fs:=by simp [Program.fieldsOf,hfs]
      have hrun:=nJ (P:=P) (w:=w) (imm:=imm) (m:=m) 9998 fs.toList pl cs ds xs ys r ⟨hl,hh⟩ ⟨hl',hh'⟩ hpl hr;have he:(Op.equalIn 10000 T (.agg cs.toArray) (.agg ds.toArray)).run P w = .ok r w:=by
       rw[run_equalIn_struct w 9999 T _ _ (by rw[hf];exact hfs) hc.1,hf]
       exact hrun
      split at h
      ·refine⟨_,?_,h⟩;intro dst type pos after guard;simp only[execOp,hvx,hvy,Sem.run_bind,run_eqGuard_agg w _ T x y _ _ hc.2,Result.andThen_ok,run_eql_struct,he,Sem.run_pure]
      ·refine⟨_,?_,h⟩;intro dst type pos after guard;simp only[execOp,hvx,hvy,Sem.run_bind,run_eqGuard_agg w _ T x y _ _ hc.2,Result.andThen_ok,run_neq_struct,he,Sem.run_pure]
      ·exact h.elim
     ·cases hpl
    ·cases hpl
 ·rename_i p q
  obtain⟨hT,h⟩:=h;have h1:=ha.c_inv;have h2:=hb.c_inv;have he:(Op.equal T (.bool p) (.bool q)).run P w = .ok (p==q) w:=by
   exact yz 9999 hT
  split at h
  ·refine⟨_,?_,h⟩;intro dst type pos after guard;simp [execOp,h1,h2,eqGuard,binOp,he]
  ·refine⟨_,?_,h⟩;intro dst type pos after guard;simp [execOp,h1,h2,eqGuard,binOp,he]
   cases p<;>cases q<;>rfl
  ·exact h.elim
 ·exact Bo T x y U ha hb h
theorem AH {T e:TypeId} (hT:P.underlying T=some (.slice e)) (q:Option Addr) (n c:Nat):(Op.equal T (.slice q n c) (.slice none 0 0)).run P w = .ok q.isNone w:=by
 exact zR 9999 hT
theorem Bn {op:BinOp} {a b:AV} {K:Value→Prop} (T:TypeId) (x y:Operand) (U:TypeId) (ha:Rep imm m (ρ x) a) (hb:Rep imm m (ρ y) b)
  (h:vB P T op a b K):∃v,yW P ρ (.binOp op T x y U) w v∧K v:=by
 unfold vB at h
 split at h
 ·have hy:=hb.c_inv;unfold DI at h
  split at h
  ·rename_i e hT
   split at h
   ·have key:∀(q:Option Addr) (n c:Nat),ρ x = .slice q n c→K (.bool q.isNone)→∃v,yW P ρ (.binOp .eql T x y U) w v∧K v:=fun q n c hx hk=>by
     refine⟨_,?_,hk⟩;intro dst type pos after guard;simp [execOp,hx,hy,eqGuard,binOp,AH hT]
    split at h
    ·rename_i es
     generalize hv:ρ x=v at ha
     cases ha with
     | sl q cap n es k vals hn hcap hk hp hr=>
      refine key q n cap hv ?_
      cases q with
      | some a=>exact h.2
      | none=>
       refine h.1 ?_
       rcases Nat.eq_zero_or_pos es.length with h0|h0
       ·exact h0
       ·obtain⟨b,o,e,_⟩:=hp h0
        cases e
    ·generalize hv:ρ x=v at ha
     cases ha with
     | own=>exact key _ _ _ hv h
    ·generalize hv:ρ x=v at ha
     cases ha with
     | emp q=>
      refine key _ _ _ hv ?_
      cases q with
      | some a=>exact h.2
      | none=>exact h.1
    ·exact key _ _ _ ha.c_inv h
    ·exact h.elim
   ·exact h.elim
  ·exact h.elim
 ·exact Bm T x y U ha hb h
theorem BC (op:Op) (hev:∀x av,ev x=some av→Rep imm m (ρ x) av) {K:AV→Prop} (h:cH P op ev K) :
  ∃v av,yW P ρ op w v∧Rep imm m v av∧K av:=by
 cases op with
 | move x=>
  replace h:=aj h;obtain⟨av,hx,hk⟩:=h
  exact⟨_,av,fun _ _ _ _ _=>by simp [execOp],hev _ _ hx,hk⟩
 | assign x=>
  replace h:=aj h;obtain⟨av,hx,hk⟩:=h
  exact⟨_,av,fun _ _ _ _ _=>by simp [execOp],hev _ _ hx,hk⟩
 | pick c a b=>
  replace h:=aj h;obtain⟨cv,hc,h⟩:=h
  replace h:=aj h;obtain⟨av,ha,h⟩:=h
  replace h:=aj h;obtain⟨bv,hb,h⟩:=h
  split at h
  ·rename_i t
   have hc:=(hev _ _ hc).c_inv
   cases t
   ·exact⟨ρ b,bv,fun _ _ _ _ _=>by simp [execOp,hc,asBool],hev _ _ hb,h.2 rfl⟩
   ·exact⟨ρ a,av,fun _ _ _ _ _=>by simp [execOp,hc,asBool],hev _ _ ha,h.1 rfl⟩
  ·exact h.elim
 | binOp op T x y U=>
  replace h:=aj h;obtain⟨a,ha,h⟩:=h
  replace h:=aj h;obtain⟨b,hb,h⟩:=h
  obtain⟨v,hr,hk⟩:=Bn T x y U (hev _ _ ha) (hev _ _ hb) h;exact⟨v,_,hr,.c v,hk⟩
 | unOp op T x=>
  replace h:=aj h;obtain⟨a,ha,h⟩:=h
  have hr:=hev _ _ ha
  split at h
  ·have:=hr.c_inv;exact⟨_,_,fun _ _ _ _ _=>by simp [execOp,this,Op.unary],.c _,h⟩
  ·have:=hr.c_inv;obtain⟨h0,h⟩:=h;exact⟨_,_,fun _ _ _ _ _=>by simp only[execOp,this,Op.unary,Op.intArith,gm h0,Sem.run_bind,Sem.run_pure,Result.andThen_ok],.c _,h⟩
  ·exact h.elim
 | makeFunc fn first captured=>
  replace h:=aj h;obtain⟨fs,hf,h⟩:=h
  replace h:=aj h;obtain⟨cs,hc,h⟩:=h
  split at h
  ·rename_i f
   have h1:=fq hev _ _ hf;have h2:=fq hev _ _ hc;refine⟨.func (.func f) (first.map ρ) (captured.map ρ),_,fun _ _ _ _ _=>by simp [execOp,Instr.makeFunc],?_,h⟩
   have e1:first.map ρ=(first.toList.map ρ).toArray:=by cases first;simp
   have e2:captured.map ρ=(captured.toList.map ρ).toArray:=by cases captured;simp
   rw[e1,e2];exact .fn f _ _ fs cs h1.1 h2.1 h1.2 h2.2
  ·exact h.elim
 | extract t ix=>
  replace h:=aj h;obtain⟨a,ha,h⟩:=h
  split at h
  ·rename_i l
   replace h:=aj h;obtain⟨b,hb,hk⟩:=h
   have hr:=hev _ _ ha
   generalize hv:ρ t=v at hr
   cases hr with
   | tup cs l hl hh=>
    obtain⟨h2,rfl⟩:=List.getElem?_eq_some_iff.1 hb;exact⟨cs[ix],l[ix],fun _ _ _ _ _=>by simp [execOp,hv,Instr.extract,show ix<cs.length by omega],hh ix (by omega) h2,hk⟩
  ·exact h.elim
 | fieldAddr T x f=>
  replace h:=aj h;obtain⟨a,ha,h⟩:=h
  replace h:=aj h;obtain⟨d,hd,h⟩:=h
  have hr:=hev _ _ ha
  generalize hv:ρ x=v at hr
  unfold aZ at hd
  split at hd
  ·rename_i fs hfs
   split at hd
   ·rename_i fd hfd
    split at hd
    ·rename_i hc
     simp only[Bool.and_eq_true,bne_iff_ne] at hc
     cases hd
     have key:∀(b o:Nat),(Instr.fieldAt T (.pointer (some ⟨b,o,none⟩)) f).run P w = .ok (.pointer (some ⟨b,o+fd.offset,none⟩)) w:=by
      intro b o;simp only[Instr.fieldAt,Sem.run_bind,aD hfs,Result.andThen_ok,hfd,Instr.sureAddr,Sem.run_pure,fieldPlace,cQ hc.1];rw[if_neg (by simpa using hc.2)]
      simp only[Sem.run_pure,Result.andThen_ok,Addr.add]
      split<;>simp_all
     split at h
     ·cases hr with
      | ptr b k i off blk sz x hm hx=>exact⟨_,_,fun _ _ _ _ _=>by simp only[execOp,hv,key,Sem.run_bind,Result.andThen_ok,Sem.run_pure];rfl,.ptr _ _ _ _ blk sz _ hm (by omega),h⟩
     ·cases hr with
      | cp b o x e off vals hx hc hr=>exact⟨_,_,fun _ _ _ _ _=>by simp only[execOp,hv,key,Sem.run_bind,Result.andThen_ok,Sem.run_pure];rfl,.cp b o _ _ _ vals (by omega) hc hr,h⟩
     ·exact h.elim
    ·cases hd
   ·cases hd
  ·cases hd
 | indexAddr T x i=>
  replace h:=aj h;obtain⟨a,ha,h⟩:=h
  replace h:=aj h;obtain⟨b,hb,h⟩:=h
  split at h
  ·rename_i b' k' j off
   replace h:=aj h;obtain⟨ks,hk,h⟩:=h
   have hr:=hev _ _ ha
   generalize hv:ρ x=v at hr
   unfold vF at hk
   split at hk
   ·rename_i n el hel
    split at hk
    ·rename_i hi
     cases hk
     split at h
     ·rename_i kk nn
      obtain⟨h0,h1,hK⟩:=h;have hc:=(hev _ _ hb).c_inv
      cases hr with
      | ptr _ _ _ _ blk sz x' hm hx=>
       refine⟨_,.ptr b' k' j (off+nn.toNat*P.cellsOf el),fun _ _ _ _ _=>?_,.ptr b' k' j (off+nn.toNat*P.cellsOf el) blk sz (x'+nn.toNat*P.cellsOf el) hm (by omega),hK⟩
       have hcond:0≤nn∧nn<(n:Int):=⟨h0,h1⟩;simp only[execOp,hv,hc,Instr.indexAt,asIntOf,Sem.run_bind,Sem.run_pure,Result.andThen_ok,aD hel,Instr.sureAddr];rw[if_pos hcond];simp only[Sem.run_bind,cQ hi,Result.andThen_ok,Sem.run_pure,Addr.add]
       split<;>simp_all
     ·exact h.elim
    ·cases hk
   ·cases hk
  rename_i hnp
  clear hnp
  replace h:=aj h;obtain⟨k,hk,h⟩:=h
  have hr:=hev _ _ ha
  generalize hv:ρ x=v at hr
  unfold b6 at hk
  split at hk
  ·rename_i el hel
   split at hk
   ·rename_i hi
    cases hk
    have key:∀(blk o n cap:Nat) (kk:IntKind) (j:Int),0≤j→j<n→(Instr.indexAt T (.slice (some ⟨blk,o,none⟩) n cap) (.int kk j)).run P w = .ok (.pointer (some ⟨blk,o+j.toNat*P.cellsOf el,none⟩)) w:=by
     intro blk o n cap kk j h0 h1;simp only[Instr.indexAt,asIntOf,Sem.run_bind,Sem.run_pure,Result.andThen_ok,aD hel];rw[if_pos ⟨h0,h1⟩];simp only[Sem.run_bind,cQ hi,Result.andThen_ok,Sem.run_pure,Addr.add]
     split<;>simp_all
    split at h
    ·rename_i es kk n
     obtain⟨h0,h⟩:=h
     replace h:=aj h;obtain⟨e,he,hl,hK⟩:=h
     have hc:=(hev _ _ hb).c_inv;obtain⟨h2,rfl⟩:=List.getElem?_eq_some_iff.1 he
     cases hr with
     | sl p cap n' es k vals hn hcap hk hp hr=>
      subst hn;obtain⟨blk,o,rfl,hcell⟩:=hp (by omega)
      have ek:k=P.cellsOf el:=by rw[←hk _ h2];exact hl
      refine⟨_,_,fun _ _ _ _ _=>by simp only[execOp,hv,hc,Sem.run_bind,key blk o es.length cap kk n h0 (by omega),Result.andThen_ok,Sem.run_pure];rfl,
       .cp blk (o+n.toNat*P.cellsOf el) _ es[n.toNat] 0 (vals n.toNat) rfl (fun j hj=>?_) (fun j hj=>hr n.toNat h2 j hj),hK⟩
      have:=hcell n.toNat h2 j (by rw[←hk _ h2];exact hj)
      rw[←this,ek]
      congr 1
      omega
    ·rename_i b' k' s len c' kk n
     obtain⟨rfl,h0,h1,hK⟩:=h;have hc:=(hev _ _ hb).c_inv
     cases hr with
     | own b k s n' c cap blk sz x hm hn hcc hx hc0=>
      refine⟨_,_,fun _ _ _ _ _=>by simp only[execOp,hv,hc,Sem.run_bind,key blk x len cap kk n h0 (by omega),Result.andThen_ok,Sem.run_pure];rfl,
       .ptr b' _ (s+n.toNat) 0 blk sz _ hm (by rw[hx,Nat.add_mul];omega),hK⟩
    ·exact h.elim
   ·cases hk
  ·cases hk
 | index T x i=>
  replace h:=aj h;obtain⟨a,ha,h⟩:=h
  replace h:=aj h;obtain⟨b,hb,h⟩:=h
  split at h
  ·rename_i s kk n
   obtain⟨hT,h0,h⟩:=h
   replace h:=aj h;obtain⟨c,hc,hK⟩:=h
   have e1:=(hev _ _ ha).c_inv;have e2:=(hev _ _ hb).c_inv;exact⟨_,_,fun _ _ _ _ _=>by simp only[execOp,e1,e2,Instr.index,asIntOf,Sem.run_bind,Sem.run_pure,Result.andThen_ok,aD hT,if_pos h0,hc],.c _,hK⟩
  ·exact h.elim
 | nilCheck x=>
  replace h:=aj h;obtain⟨a,ha,h⟩:=h
  have hr:=hev _ _ ha
  split at h<;>(try exact h.elim)
  all_goals
   refine⟨ρ x,_,fun _ _ _ _ _=>?_,hr,h⟩
   generalize hv:ρ x=v at hr
   cases hr
   simp [execOp,hv]
 | convert s d x=>
  replace h:=aj h;obtain⟨a,ha,h⟩:=h
  unfold uN at h
  split at h
  ·rename_i h1 h2
   have e1:=(hev _ _ ha).c_inv;exact⟨_,_,fun _ _ _ _ _=>by simp only[execOp,e1,convert,Sem.run_bind,aD h1,aD h2,Result.andThen_ok,Conv.intToInt,Sem.run_pure],.c _,h⟩
  ·exact h.elim
 | call c=>
  obtain⟨callee,args,ts⟩:=c
  cases callee with
  | builtin b=>
   cases b with
   | len=>
    replace h:=aj h;obtain⟨l,hl,h⟩:=h
    split at h
    ·rename_i x t tr hts
     replace h:=aj h;obtain⟨n,hn,h⟩:=h
     obtain⟨hT,hK⟩:=h;have ht:ts[0]? = some t:=by cases ts;simp_all
     have hr:=fq hev _ _ hl;obtain⟨o,ho⟩:∃o,args.toList=[o]:=by
      have:=hr.1;simp only[List.length_map] at this;exact List.length_eq_one_iff.1 this
     have hargs:args = #[o]:=by cases args;simp_all
     subst hargs;have hx:Rep imm m (ρ o) x:=by
      have:=hr.2 0 (by simp) (by simp)
      simpa using this
     generalize hv:ρ o=v at hx
     refine⟨_,_,fun _ _ _ _ _=>?_,.c _,hK⟩;simp only[execOp,resolve,Sem.run_bind,Sem.run_pure,Result.andThen_ok,invoke,builtin,Builtin.len_,ht,List.map_toArray,List.map_cons,List.map_nil,hv];simp only[show (#[v]:Array Value)[0]? = some v from rfl];have hsl:(b6 P t).isSome=true→∃e,P.underlying t=some (.slice e):=fun h=>by
      unfold b6 at h
      split at h
      ·rename_i e he;exact⟨e,he⟩
      ·cases h
     unfold w6 at hT
     split at hT
     ·rename_i s
      have hu:P.underlying t=some .string:=by
       unfold Dl at hT
       split at hT
       ·assumption
       ·cases hT
      cases hx.c_inv
      simp only[jG] at hn
      cases hn
      simp [aD hu,goInt]
     ·obtain⟨e,hu⟩:=hsl hT
      cases hx.c_inv
      simp only[jG] at hn
      split at hn
      all_goals first|(rename_i heq;cases heq;done)|skip
      ·rename_i heq;cases heq;cases hn;simp [aD hu,goInt]
      ·cases hn
     ·obtain⟨e,hu⟩:=hsl hT;simp only[jG] at hn
      cases hn
      cases hx with
      | sl p cap n es k vals hn hcap hk hp hr=>simp [aD hu,goInt,hn]
     ·obtain⟨e,hu⟩:=hsl hT;simp only[jG] at hn
      cases hn
      cases hx with
      | own=>simp [aD hu,goInt]
     ·obtain⟨e,hu⟩:=hsl hT;simp only[jG] at hn
      cases hn
      cases hx with
      | emp=>simp [aD hu,goInt]
     ·cases hT
    ·exact h.elim
   | max=>
    replace h:=aj h;obtain⟨l,hl,h⟩:=h
    split at h
    ·rename_i k x k' y
     have hr:=fq hev _ _ hl;obtain⟨o1,o2,ho⟩:∃o1 o2,args.toList=[o1,o2]:=by
      have:=hr.1;simp only[List.length_map] at this
      match h9:args.toList,this with
      | [a,b],_=>exact⟨a,b,rfl⟩
     have hargs:args = #[o1,o2]:=by cases args;simp_all
     subst hargs;have hx:Rep imm m (ρ o1) (.c (.int k x)):=by simpa using hr.2 0 (by simp) (by simp)
     have hy:Rep imm m (ρ o2) (.c (.int k' y)):=by simpa using hr.2 1 (by simp) (by simp)
     refine⟨_,_,fun _ _ _ _ _=>?_,.c _,h⟩;simp only[execOp,resolve,Sem.run_bind,Sem.run_pure,Result.andThen_ok,invoke,builtin,List.map_toArray,List.map_cons,List.map_nil,hx.c_inv,hy.c_inv,run_max_int2]
     congr 3
     omega
    ·exact h.elim
   | min=>
    replace h:=aj h;obtain⟨l,hl,h⟩:=h
    split at h
    ·rename_i k x k' y
     have hr:=fq hev _ _ hl;obtain⟨o1,o2,ho⟩:∃o1 o2,args.toList=[o1,o2]:=by
      have:=hr.1;simp only[List.length_map] at this
      match h9:args.toList,this with
      | [a,b],_=>exact⟨a,b,rfl⟩
     have hargs:args = #[o1,o2]:=by cases args;simp_all
     subst hargs;have hx:Rep imm m (ρ o1) (.c (.int k x)):=by simpa using hr.2 0 (by simp) (by simp)
     have hy:Rep imm m (ρ o2) (.c (.int k' y)):=by simpa using hr.2 1 (by simp) (by simp)
     refine⟨_,_,fun _ _ _ _ _=>?_,.c _,h⟩;simp only[execOp,resolve,Sem.run_bind,Sem.run_pure,Result.andThen_ok,invoke,builtin,List.map_toArray,List.map_cons,List.map_nil,hx.c_inv,hy.c_inv,run_min_int2]
     congr 3
     omega
    ·exact h.elim
   | _=>exact h.elim
  | _=>exact h.elim
 | slice T x lo hi mx=>
  replace h:=aj h;obtain⟨a,ha,h⟩:=h
  replace h:=aj h;obtain⟨l,hl,h⟩:=h
  replace h:=aj h;obtain⟨len,hlen,h⟩:=h
  replace h:=aj h;obtain⟨hh,hhi,h⟩:=h
  replace h:=aj h;obtain⟨mz,hmz,h⟩:=h
  have hr:=hev _ _ ha
  generalize hv:ρ x=v at hr
  have key:∀(isSlice:Bool) (n cap:Nat),(len:Nat)=n→n≤cap→0≤l→l≤hh→hh≤len→(Instr.sliceBounds isSlice n cap (lo.map ρ) (hi.map ρ) none).run P w = .ok (l.toNat,hh.toNat,cap) w:=by
   intro isSlice n cap hn hc h0 h1 h2;have hhigh:∀code,hi.isSome=true→∃o,hi=some o∧(Instr.sliceBound (ρ o) cap code).run P w = .ok hh.toNat w:=by
    intro code hs;obtain⟨o,ho⟩:=Option.isSome_iff_exists.1 hs;subst ho;obtain⟨k,hk⟩:=eT hev hhi;refine⟨o,rfl,?_⟩;simp only[Instr.sliceBound,hk,asIntOf,Sem.run_bind,Sem.run_pure,Result.andThen_ok];rw[if_pos ⟨by omega,by omega⟩]
    rfl
   have hlow:∀code,lo.isSome=true→∃o,lo=some o∧(Instr.sliceBound (ρ o) hh.toNat code).run P w = .ok l.toNat w:=by
    intro code hs;obtain⟨o,ho⟩:=Option.isSome_iff_exists.1 hs;subst ho;obtain⟨k,hk⟩:=eT hev hl;refine⟨o,rfl,?_⟩;simp only[Instr.sliceBound,hk,asIntOf,Sem.run_bind,Sem.run_pure,Result.andThen_ok];rw[if_pos ⟨by omega,by omega⟩]
    rfl
   cases hi with
   | none=>
    simp only[c7] at hhi
    cases hhi
    cases lo with
    | none=>
     simp only[c7] at hl
     cases hl
     simp [Instr.sliceBounds,hn]
    | some o=>
     obtain⟨o',e,hb⟩:=hlow .sliceB rfl
     cases e
     simp only[Int.toNat_natCast,hn] at hb;simp [Instr.sliceBounds,hb,hn]
   | some o2=>
    obtain⟨o2',e2,hb2⟩:=hhigh (if isSlice then .sliceAcap else .sliceAlen) rfl
    cases e2
    cases lo with
    | none=>
     simp only[c7] at hl
     cases hl
     simp [Instr.sliceBounds,hb2]
    | some o=>
     obtain⟨o',e,hb⟩:=hlow .sliceB rfl
     cases e
     simp [Instr.sliceBounds,hb2,hb]
  have sl0:∀(h1:∀n e,P.underlying T≠some (.array n e)),(Instr.sliceAt T v (lo.map ρ) (hi.map ρ) (mx.map ρ)).run P w=(Instr.slice T v (lo.map ρ) (hi.map ρ) (mx.map ρ)).run P w:=by
   intro h1
   cases hT:P.underlying T with
   | none=>simp [Instr.sliceAt,Instr.slice,underlying,program,hT,Sem.run_bind,Sem.run,Result.andThen]
   | some d=>
    simp only[Instr.sliceAt,Sem.run_bind,aD hT,Result.andThen_ok]
    cases d<;>first|rfl|exact absurd hT (h1 _ _)
  unfold fI at h
  split at h
  ·rename_i s hT
   obtain⟨h0,h1,h2,hK⟩:=h
   cases hr.c_inv
   have sl1:=sl0 (by simp [hT])
   simp only[Option.map_none,Option.map_some] at sl1;have hl2:len=s.size:=by simpa [jG] using hlen.symm
   have hk:=key false s.size s.size hl2 (Nat.le_refl _) h0 h1 h2;refine⟨_,_,fun _ _ _ _ _=>?_,.c _,hK⟩;simp only[execOp,hv,Sem.run_bind,sl1,Instr.slice,aD hT,Result.andThen_ok,Option.map_none];rw[if_neg (by simp)]
   simp only[Sem.run_bind,Sem.run_pure,hk,Result.andThen_ok]
  ·rename_i e es hT
   obtain⟨hi',hes,h0,h1,h2,hK⟩:=h;have sl1:=sl0 (by simp [hT])
   simp only[Option.map_none,Option.map_some] at sl1;have hl2:len=es.length:=by simpa [jG] using hlen.symm
   cases hr with
   | sl p cap n es k vals hn hcap hk hp hr=>
    have hkey:=key true n cap (by omega) hcap h0 h1 h2
    have hrun:(Instr.slice T (.slice p n cap) (lo.map ρ) (hi.map ρ) none).run P w = .ok (.slice (if cap=l.toNat then p else p.map (·.add (l.toNat*P.cellsOf e))) (hh.toNat-l.toNat) (cap-l.toNat)) w:=by
     simp only[Instr.slice,Sem.run_bind,aD hT,Result.andThen_ok,hkey,cQ hi',Sem.run_pure]
    refine⟨_,_,fun _ _ _ _ _=>by simp only[execOp,hv,Sem.run_bind,sl1,Option.map_none,hrun,Result.andThen_ok,Sem.run_pure];rfl,?_,hK⟩
    refine .sl _ _ _ _ k (fun i j=>vals (l.toNat+i) j) (by simp;omega) (by omega) (fun i hi=>?_) (fun hpos=>?_) (fun i hi j hj=>?_)
    ·simp only[List.getElem_take,List.getElem_drop];exact hk _ _
    ·simp only[List.length_take,List.length_drop] at hpos;obtain⟨b,o,rfl,hc⟩:=hp (by omega)
     have hcl:cap≠l.toNat:=by omega
     have ek:k=P.cellsOf e:=by
      rw[←hk 0 (by omega)]
      exact hes _ (List.getElem_mem _)
     refine⟨b,o+l.toNat*k,?_,fun i hi j hj=>?_⟩
     ·rw[if_neg hcl,←ek];simp only[Option.map_some,Addr.add]
      split<;>simp_all
     ·simp only[List.length_take,List.length_drop] at hi;have:=hc (l.toNat+i) (by omega) j hj
      rw[←this,Nat.add_mul]
      congr 1
      omega
    ·simp only[List.getElem_take,List.getElem_drop] at hj ⊢;exact hr _ _ j hj
  ·rename_i e b k s n c hT
   obtain⟨hi',hce,h0,h1,h2,hK1,hK2⟩:=h;have sl1:=sl0 (by simp [hT])
   simp only[Option.map_none,Option.map_some] at sl1;have hl2:len=n:=by simpa [jG] using hlen.symm
   cases hr with
   | own b k s n c cap blk sz x hm hn hcc hx hc=>
    have hkey:=key true n cap (by omega) (by omega) h0 h1 h2
    have hrun:(Instr.slice T (.slice (some ⟨blk,x,none⟩) n cap) (lo.map ρ) (hi.map ρ) none).run P w = .ok (.slice (if cap=l.toNat then some ⟨blk,x,none⟩ else (some (⟨blk,x,none⟩:Addr)).map (·.add (l.toNat*P.cellsOf e))) (hh.toNat-l.toNat) (cap-l.toNat)) w:=by
     simp only[Instr.slice,Sem.run_bind,aD hT,Result.andThen_ok,hkey,cQ hi',Sem.run_pure]
    by_cases hl0:l=0∨l<len
    ·refine⟨_,_,fun _ _ _ _ _=>by simp only[execOp,hv,Sem.run_bind,sl1,Option.map_none,hrun,Result.andThen_ok,Sem.run_pure];rfl,?_,hK1 hl0⟩
     have e1:(if cap=l.toNat then some (⟨blk,x,none⟩:Addr) else (some (⟨blk,x,none⟩:Addr)).map (·.add (l.toNat*P.cellsOf e)))=some ⟨blk,x+l.toNat*k,none⟩:=by
      rw[hce]
      split
      ·rcases hl0 with rfl|hlt
       ·simp
       ·omega
      ·simp only[Option.map_some,Addr.add]
       split<;>simp_all
     rw[e1];refine .own b k _ _ _ _ blk sz _ hm (by omega) (by omega) (by rw[hx,Nat.add_mul]) ?_
     have:s+l.toNat+(cap-l.toNat)=s+cap:=by omega
     rw[this];exact hc
    ·refine⟨_,_,fun _ _ _ _ _=>by simp only[execOp,hv,Sem.run_bind,sl1,Option.map_none,hrun,Result.andThen_ok,Sem.run_pure];rfl,?_,hK2 (by omega) (by omega)⟩
     exact .sl _ _ _ [] 0 (fun _ _=>undef) (by simp;omega) (by omega) (fun i hi=>by simp at hi) (fun hpos=>by simp at hpos) (fun i hi=>by simp at hi)
  ·rename_i e x o hT
   obtain⟨hi',hsl,rfl,rfl,his,rfl,hK⟩:=h;have sl1:=sl0 (by simp [hT])
   simp only[Option.map_some] at sl1;have hv2:∃p n cap,v = .slice p n cap:=by
    unfold rC at hsl
    split at hsl
    ·cases hr;exact⟨_,_,_,rfl⟩
    ·cases hr;exact⟨_,_,_,rfl⟩
    ·cases hr;exact⟨_,_,_,rfl⟩
    ·exact⟨_,_,_,hr.c_inv⟩
    ·cases hsl
   obtain⟨p,n,cap,rfl⟩:=hv2;have hz:∀(o:Operand) (d:Int) (y:Nat) code,c7 ev (some o) d=some 0→(Instr.sliceBound (ρ o) y code).run P w = .ok 0 w:=by
    intro o d y code hb;obtain⟨k,hk⟩:=eT hev hb;simp only[Instr.sliceBound,hk,asIntOf,Sem.run_bind,Sem.run_pure,Result.andThen_ok];rw[if_pos ⟨by omega,by omega⟩]
    rfl
   have hrun:(Instr.slice T (.slice p n cap) (lo.map ρ) (hi.map ρ) (some (ρ o))).run P w = .ok (.slice p 0 0) w:=by
    obtain⟨o2,ho2⟩:=Option.isSome_iff_exists.1 his;subst ho2;have b1:=hz o 0 cap .slice3Acap hmz;have b2:=hz o2 _ 0 .slice3B hhi;simp only[Instr.slice,Sem.run_bind,aD hT,Result.andThen_ok,cQ hi',Sem.run_pure,Instr.sliceBounds,b1,if_true,Option.map_some,b2]
    cases lo with
    | none=>simp
    | some o3=>
     have b3:=hz o3 _ 0 .slice3C hl;simp [b3]
   refine⟨_,_,fun _ _ _ _ _=>by simp only[execOp,hv,Sem.run_bind,sl1,Option.map_some,hrun,Result.andThen_ok,Sem.run_pure],.emp p,hK⟩
  ·exact h.elim
 | field T x f=>
  replace h:=aj h;obtain⟨a,ha,h⟩:=h
  replace h:=aj h;obtain⟨d,hd,h⟩:=h
  split at h
  ·rename_i l
   replace h:=aj h;obtain⟨av,hav,hK⟩:=h
   have hr:=hev _ _ ha
   generalize hv:ρ x=v at hr
   cases hr with
   | agg cs _ hl hh=>
    unfold tJ at hd
    split at hd
    ·rename_i fs hfs
     split at hd
     ·rename_i fd hfd
      split at hd
      ·rename_i hc
       cases hd
       simp only[Bool.and_eq_true] at hc;obtain⟨td,htd⟩:=Option.isSome_iff_exists.1 hc.1;obtain⟨hlt,rfl⟩:=List.getElem?_eq_some_iff.1 hav;have hna:(isAgg fd.type).run P w = .ok false w:=by
        have h9:=hc.2;unfold bA at h9;unfold isAgg;simp only[Sem.run_bind,aD htd,Result.andThen_ok];rw[htd] at h9
        cases td<;>first|rfl|(cases h9;done)
       refine⟨cs[fd.offset]'(by omega),_,fun _ _ _ _ _=>?_,hh fd.offset (by omega) hlt,hK⟩
       have hgc:cs[fd.offset]? = some (cs[fd.offset]'(by omega)):=List.getElem?_eq_getElem (by omega)
       simp [execOp,hv,Instr.field,aD hfs,hfd,asAgg,part,hna,hgc]
      ·cases hd
     ·cases hd
    ·cases hd
  ·exact h.elim
 | _=>exact h.elim
end
end Go.Proofs.YtephecognbbaoaaGreat
namespace Go.Proofs.YtephecognbbaoaaGreat
open Go
set_option linter.all false
def upd (m:Own) (id:Nat) (x:Nat×Nat):Own:=fun b=>if b=id then some x else m b
section
variable {P:Program} {K:World} {imm:Imm} {m:Own} {w w':World} {σ:aa}
structure eI (w w':World):Prop where
 os:w'.os=w.os
 tape:w'.tape=w.tape
 output:w'.output=w.output
 size:w.heap.size≤w'.heap.size
theorem dI {b:Nat} {o:Obj} (h:w.heap[b]? = some o):b<w.heap.size:=by
 rcases Nat.lt_or_ge b w.heap.size with h'|h'
 ·exact h'
 ·rw[Array.getElem?_eq_none h'] at h;cases h
theorem qG.keep {imm':Imm} {m':Own} {id:Nat} {ob:Ob} (h:qG imm m w id ob) (hi:ILe imm imm') (hm:OLe m m') (hres:m id=none→m' id=none)
  (hnew:∀b,imm b=none→b<w.heap.size→imm' b=none)
  (hh:ob.live=true→∀blk sz,m id=some (blk,sz)→w'.heap[blk]? = w.heap[blk]?):qG imm' m' w' id ob:=by
 cases ob with
 | res=>exact hres h
 | dead=>trivial
 | cells k es=>
  obtain⟨blk,sz,h1,h2,cs,T,fr,h3,h4,h5,h6,h7⟩:=h;refine⟨blk,sz,hm _ _ h1,hnew _ h2 (dI h3),cs,T,fr,by rw[hh rfl _ _ h1];exact h3,h4,h5,h6,fun i hi'=>⟨(h7 i hi').1,fun j hj=>?_⟩⟩
  obtain⟨v,e,r⟩:=(h7 i hi').2 j hj;exact⟨v,e,r.mono hi hm⟩
 | map es=>
  obtain⟨blk,sz,h1,h2,ents,clock,h3,h4,h5,h6⟩:=h;exact⟨blk,sz,hm _ _ h1,hnew _ h2 (dI h3),ents,clock,by rw[hh rfl _ _ h1];exact h3,h4,h5,fun i hi' hj=>(h6 i hi' hj).mono hi hm⟩
 | lp l al N r=>
  obtain⟨blk,sz,h1,h2,h3,h4,h5,h6,h7⟩:=h;exact⟨blk,sz,hm _ _ h1,hnew _ h2 (dI h4),h3,by rw[hh rfl _ _ h1];exact h4,h5,fun t av ht=>let ⟨v,e,q⟩:=h6 t av ht;⟨v,e,q.mono hi hm⟩,h7⟩
theorem qG.lt {id:Nat} {ob:Ob} (h:qG imm m w id ob) (hl:ob.live=true):∃blk sz,m id=some (blk,sz)∧blk<w.heap.size∧imm blk=none:=by
 cases ob with
 | cells k es=>
  obtain⟨blk,sz,h1,h2,cs,T,fr,h3,_⟩:=h;exact⟨blk,sz,h1,dI h3,h2⟩
 | map es=>
  obtain⟨blk,sz,h1,h2,ents,clock,h3,_⟩:=h;exact⟨blk,sz,h1,dI h3,h2⟩
 | lp l al N r=>
  obtain⟨blk,sz,h1,h2,h3,h4,_⟩:=h;exact⟨blk,sz,h1,dI h4,h2⟩
 | _=>cases hl
theorem Sim.other {i j:Nat} (hs:Sim K imm m w σ) (hi:i<σ.length) (hj:j<σ.length) (li:σ[i].live=true) (lj:σ[j].live=true) (hne:i≠j)
  {bi bj:Nat×Nat} (ei:m i=some bi) (ej:m j=some bj):bi.1≠bj.1:=fun e=>hne (hs.inj i j hi hj li lj (by simp [ei,ej,e]))
theorem Sim.keep (hs:Sim K imm m w σ) (hb:eI w w') (hh:∀b,b<w.heap.size→w'.heap[b]? = w.heap[b]?):Sim K imm m w' σ where
 os:=hb.os.trans hs.os
 tape:=hb.tape.trans hs.tape
 output:=hb.output.trans hs.output
 size:=Nat.le_trans hs.size hb.size
 imm_ok:=fun b o h=>by rw[hh b (dI (hs.imm_ok b o h))];exact hs.imm_ok b o h
 dom:=hs.dom
 obs:=fun id h=>by
  refine (hs.obs id h).keep (.refl _) (.refl _) (fun h=>h) (fun _ h _=>h) fun hl b s e'=>?_;obtain⟨blk,sz,e,hlt,_⟩:=(hs.obs id h).lt hl;rw[e] at e';cases e';exact hh _ hlt
 inj:=hs.inj
theorem OLe.upd (hd:m σ.length=none) (x:Nat×Nat):OLe m (upd m σ.length x):=fun b o h=>by
 unfold Proofs.YtephecognbbaoaaGreat.upd
 split
 ·rename_i e;subst e;rw[hd] at h;cases h
 ·exact h
theorem Sim.push (hs:Sim K imm m w σ) (hb:eI w w') (cs:Array Value) (T:TypeId) (fr:Nat×Nat) (hw:w'.heap=w.heap.push (.cells cs T fr))
  (k:Nat) (es:List (List AV)) (hfr:∀o,o<cs.size→¬(fr.1≤o∧o<fr.2)) (hle:es.length*k≤cs.size)
  (hrep:∀i (hi:i<es.length),es[i].length=k∧∀j (hj:j<es[i].length),∃v,cs[i*k+j]? = some v∧Rep imm m v es[i][j]) :
  Sim K imm (upd m σ.length (w.heap.size,cs.size)) w' (σ++[.cells k es]):=by
 have hd:m σ.length=none:=hs.dom _ (Nat.le_refl _);have hold:∀b,b<w.heap.size→w'.heap[b]? = w.heap[b]? := fun b h=>by rw[hw,Array.getElem?_push,if_neg (by omega)]
 have hk:=hs.keep hb hold;refine⟨hk.os,hk.tape,hk.output,hk.size,hk.imm_ok,fun id h=>?_,fun id h=>?_,fun i j hi hj li lj e=>?_⟩
 ·simp only[List.length_append,List.length_cons,List.length_nil] at h;unfold upd;rw[if_neg (by omega)]
  exact hs.dom id (by omega)
 ·simp only[List.length_append,List.length_cons,List.length_nil] at h
  rcases Nat.lt_or_ge id σ.length with hlt|hge
  ·rw[List.getElem_append_left hlt];refine (hk.obs id hlt).keep (.refl _) (.upd hd _) (fun hn=>?_) (fun _ h _=>h) (fun _ _ _ _=>rfl);unfold upd;rw[if_neg (by omega)]
   exact hn
  ·obtain rfl:id=σ.length:=by omega
   rw[List.getElem_append_right (Nat.le_refl _)];simp only[Nat.sub_self,List.getElem_cons_zero];refine⟨w.heap.size,cs.size,by simp [upd],?_,cs,T,fr,by rw[hw];simp,rfl,hfr,hle,fun i hi=>⟨(hrep i hi).1,fun j hj=>?_⟩⟩
   ·cases himm:imm w.heap.size with
    | none=>rfl
    | some o=>exact absurd (dI (hs.imm_ok _ _ himm)) (Nat.lt_irrefl _)
   ·obtain⟨v,e,r⟩:=(hrep i hi).2 j hj;exact⟨v,e,r.mono (.refl _) (.upd hd _)⟩
 ·simp only[List.length_append,List.length_cons,List.length_nil] at hi hj;have key:∀(i:Nat) (hi:i<(σ++[Ob.cells k es]).length),(σ++[Ob.cells k es])[i].live=true→i<σ.length→∃b,upd m σ.length (w.heap.size,cs.size) i=some b∧b.1<w.heap.size:=by
   intro i hi hl hlt;rw[List.getElem_append_left hlt] at hl;obtain⟨blk,sz,e,hb,_⟩:=(hs.obs i hlt).lt hl;exact⟨(blk,sz),by unfold upd;rw[if_neg (by omega)];exact e,hb⟩
  rcases Nat.lt_or_ge i σ.length with hi'|hi'<;>rcases Nat.lt_or_ge j σ.length with hj'|hj'
  ·rw[List.getElem_append_left hi'] at li;rw[List.getElem_append_left hj'] at lj;refine hs.inj i j hi' hj' li lj ?_
   simpa [upd,Nat.ne_of_lt hi',Nat.ne_of_lt hj'] using e
  ·obtain⟨b,eb,hb⟩:=key i (by simp;omega) li hi'
   obtain rfl:j=σ.length:=by omega
   rw[eb] at e;simp [upd] at e;omega
  ·obtain⟨b,eb,hb⟩:=key j (by simp;omega) lj hj'
   obtain rfl:i=σ.length:=by omega
   rw[eb] at e;simp [upd] at e;omega
  ·omega
theorem Sim.set (hs:Sim K imm m w σ) (hb:eI w w') {b blk sz:Nat} (hlt:b<σ.length) (hm:m b=some (blk,sz)) {k:Nat} {es0:List (List AV)} (hob:σ[b] = .cells k es0)
  (hother:∀c,c≠blk→w'.heap[c]? = w.heap[c]?) (cs:Array Value) (T:TypeId) (fr:Nat×Nat) (hw:w'.heap[blk]? = some (.cells cs T fr)) (hsz:cs.size=sz)
  (hfr:∀o,o<sz→¬(fr.1≤o∧o<fr.2)) (es:List (List AV)) (hle:es.length*k≤sz)
  (hrep:∀i (hi:i<es.length),es[i].length=k∧∀j (hj:j<es[i].length),∃v,cs[i*k+j]? = some v∧Rep imm m v es[i][j]) :
  Sim K imm m w' (σ.set b (.cells k es)):=by
 have hl0:σ[b].live=true:=by rw[hob];rfl
 obtain⟨blk',sz',e',hblt,himm⟩:=(hs.obs b hlt).lt hl0;rw[hm] at e'
 cases e'
 have hlive:∀i (h:i<(σ.set b (.cells k es)).length) (h':i<σ.length),(σ.set b (.cells k es))[i].live=true→σ[i].live=true:=by
  intro i h h' hl;rw[List.getElem_set] at hl
  split at hl
  ·rename_i e;subst e;exact hl0
  ·exact hl
 refine⟨hb.os.trans hs.os,hb.tape.trans hs.tape,hb.output.trans hs.output,Nat.le_trans hs.size hb.size,fun c o h=>?_,fun id h=>?_,fun id h=>?_,fun i j hi hj li lj e=>?_⟩
 ·rw[hother c (fun e=>by subst e;rw[himm] at h;cases h)]
  exact hs.imm_ok c o h
 ·simp only[List.length_set] at h;exact hs.dom id h
 ·have h':id<σ.length:=by simpa using h
  rw[List.getElem_set]
  split
  ·rename_i e
   subst e;exact⟨blk,sz,hm,himm,cs,T,fr,hw,hsz,hfr,hle,hrep⟩
  ·rename_i hne
   refine (hs.obs id h').keep (.refl _) (.refl _) (fun h=>h) (fun _ h _=>h) fun hl c s e=>hother c fun ec=>?_;exact hs.other hlt h' hl0 hl hne hm e ec.symm
 ·have hi':i<σ.length:=by simpa using hi
  have hj':j<σ.length:=by simpa using hj
  exact hs.inj i j hi' hj' (hlive i hi hi' li) (hlive j hj hj' lj) e
theorem Sim.kill (hs:Sim K imm m w σ) (b:Nat):Sim K imm m w (σ.set b .dead):=by
 have hlive:∀i (h:i<(σ.set b .dead).length) (h':i<σ.length),(σ.set b .dead)[i].live=true→σ[i].live=true:=by
  intro i h h' hl;rw[List.getElem_set] at hl
  split at hl
  ·cases hl
  ·exact hl
 refine⟨hs.os,hs.tape,hs.output,hs.size,hs.imm_ok,fun id h=>?_,fun id h=>?_,fun i j hi hj li lj e=>?_⟩
 ·simp only[List.length_set] at h;exact hs.dom id h
 ·have h':id<σ.length:=by simpa using h
  rw[List.getElem_set]
  split
  ·trivial
  ·exact hs.obs id h'
 ·have hi':i<σ.length:=by simpa using hi
  have hj':j<σ.length:=by simpa using hj
  exact hs.inj i j hi' hj' (hlive i hi hi' li) (hlive j hj hj' lj) e
theorem Sim.freeze (hs:Sim K imm m w σ) {b:Nat} (hlt:b<σ.length) (hl:σ[b].live=true) {blk sz:Nat} (hm:m b=some (blk,sz)) {o:Obj} (ho:w.heap[blk]? = some o) :
  ∃imm',ILe imm imm'∧imm' blk=some o∧Sim K imm' m w (σ.set b .dead):=by
 obtain⟨blk',sz',e',hblt,himm⟩:=(hs.obs b hlt).lt hl;rw[hm] at e'
 cases e'
 have hi:ILe imm (fun c=>if c=blk then some o else imm c):=fun c o' h=>by
  dsimp only
  split
  ·rename_i e;subst e;rw[himm] at h;cases h
  ·exact h
 have hk:=hs.kill b;refine⟨_,hi,by simp,hs.os,hs.tape,hs.output,hs.size,fun c o' h=>?_,hk.dom,fun id h=>?_,hk.inj⟩
 ·split at h
  ·rename_i e;subst e;cases h;exact ho
  ·exact hs.imm_ok c o' h
 ·have h':id<σ.length:=by simpa using h
  rw[List.getElem_set]
  split
  ·trivial
  ·rename_i hne
   cases hob:σ[id] with
   | res=>have:=hs.obs id h';rw[hob] at this;exact this
   | dead=>trivial
   | cells k es=>
    have h0:=hs.obs id h';rw[hob] at h0;obtain⟨b2,s2,h1,h2,rest⟩:=h0;have hne2:b2≠blk:=fun e=>hs.other hlt h' hl (by rw[hob];rfl) hne hm h1 e.symm
    refine⟨b2,s2,h1,by dsimp only;rw[if_neg hne2];exact h2,?_⟩
    obtain⟨cs,T,fr,h3,h4,h5,h6,h7⟩:=rest;refine⟨cs,T,fr,h3,h4,h5,h6,fun i hi'=>⟨(h7 i hi').1,fun j hj=>?_⟩⟩;obtain⟨v,e,r⟩:=(h7 i hi').2 j hj;exact⟨v,e,r.mono hi (.refl _)⟩
   | map es=>
    have h0:=hs.obs id h';rw[hob] at h0;obtain⟨b2,s2,h1,h2,ents,clock,h3,h4,h5,h6⟩:=h0;have hne2:b2≠blk:=fun e=>hs.other hlt h' hl (by rw[hob];rfl) hne hm h1 e.symm
    exact⟨b2,s2,h1,by dsimp only;rw[if_neg hne2];exact h2,ents,clock,h3,h4,h5,fun i hi' hj=>(h6 i hi' hj).mono hi (.refl _)⟩
   | lp l al N r=>
    have h0:=hs.obs id h';rw[hob] at h0;obtain⟨b2,s2,h1,h2,h3,h4,h5,h6,h7⟩:=h0;have hne2:b2≠blk:=fun e=>hs.other hlt h' hl (by rw[hob];rfl) hne hm h1 e.symm
    exact⟨b2,s2,h1,by dsimp only;rw[if_neg hne2];exact h2,h3,h4,h5,fun t av ht=>let ⟨v,e,q⟩:=h6 t av ht;⟨v,e,q.mono hi (.refl _)⟩,h7⟩
theorem Sim.cut {m0:Own} {imm0:Imm} {w0:World} {τ:aa} (hs:Sim K imm m w (σ++τ)) (h0:Sim K imm0 m0 w0 σ):Sim K imm (cut m σ.length) w σ:=by
 have bdob:∀id (h:id<σ.length),∀ob,σ[id]=ob→(match ob with
   | .cells _ es=>∀i (hi:i<es.length) j (hj:j<es[i].length),Bd σ.length es[i][j]
   | .map es=>∀i (hi:i<es.length),Bd σ.length es[i].2
   | _=>True):=by
  intro id h ob hob;have:=h0.obs id h;rw[hob] at this
  cases ob with
  | res=>trivial
  | dead=>trivial
  | cells k es=>
   obtain⟨blk,sz,h1,h2,cs,T,fr,h3,h4,h5,h6,h7⟩:=this;intro i hi j hj;obtain⟨v,_,r⟩:=(h7 i hi).2 j hj;exact r.bd h0.dom
  | map es=>
   obtain⟨blk,sz,h1,h2,ents,clock,h3,h4,h5,h6⟩:=this;intro i hi;exact (h6 i hi (by omega)).bd h0.dom
  | lp l al N r=>trivial
 refine⟨hs.os,hs.tape,hs.output,hs.size,hs.imm_ok,fun id h=>?_,fun id h=>?_,fun i j hi hj li lj e=>?_⟩
 ·unfold Proofs.YtephecognbbaoaaGreat.cut;rw[if_neg (by omega)]
 ·have h1:=hs.obs id (by simp;omega)
  rw[List.getElem_append_left h] at h1;have hb:=bdob id h _ rfl
  cases hob:σ[id] with
  | res=>rw[hob] at h1;show Proofs.YtephecognbbaoaaGreat.cut m σ.length id=none;unfold Proofs.YtephecognbbaoaaGreat.cut;rw[if_pos h];exact h1
  | dead=>trivial
  | cells k es=>
   rw[hob] at h1 hb;obtain⟨blk,sz,h1,h2,cs,T,fr,h3,h4,h5,h6,h7⟩:=h1;refine⟨blk,sz,by unfold Proofs.YtephecognbbaoaaGreat.cut;rw[if_pos h];exact h1,h2,cs,T,fr,h3,h4,h5,h6,fun i hi=>⟨(h7 i hi).1,fun j hj=>?_⟩⟩
   obtain⟨v,e,r⟩:=(h7 i hi).2 j hj;exact⟨v,e,r.cut (hb i hi j hj)⟩
  | map es=>
   rw[hob] at h1 hb;obtain⟨blk,sz,h1,h2,ents,clock,h3,h4,h5,h6⟩:=h1;exact⟨blk,sz,by unfold Proofs.YtephecognbbaoaaGreat.cut;rw[if_pos h];exact h1,h2,ents,clock,h3,h4,h5,fun i hi hj=>(h6 i hi hj).cut (hb i hi)⟩
  | lp l al N r=>
   rw[hob] at h1;obtain⟨blk,sz,h1,h2,h3,h4,h5,h6,h7⟩:=h1;exact⟨blk,sz,by unfold Proofs.YtephecognbbaoaaGreat.cut;rw[if_pos h];exact h1,h2,h3,h4,h5,fun t av ht=>let ⟨v,e,q⟩:=h6 t av ht;⟨v,e,q.cut ((h7 t av ht).up (by omega))⟩,h7⟩
 ·have e2:∀i,i<σ.length→Proofs.YtephecognbbaoaaGreat.cut m σ.length i=m i:=fun i h=>by unfold Proofs.YtephecognbbaoaaGreat.cut;rw[if_pos h]
  rw[e2 i hi,e2 j hj] at e;exact hs.inj i j (by simp;omega) (by simp;omega) (by rw[List.getElem_append_left hi];exact li) (by rw[List.getElem_append_left hj];exact lj) e
theorem Sim.move (hs:Sim K imm m w σ) (hb:eI w w') {b blk sz:Nat} (hlt:b<σ.length) (hm:m b=some (blk,sz)) {k0:Nat} {es0:List (List AV)} (hob:σ[b] = .cells k0 es0)
  (hother:∀c,c≠blk→w'.heap[c]? = w.heap[c]?) (cs:Array Value) (T:TypeId) (fr:Nat×Nat) (hw:w'.heap[blk]? = some (.cells cs T fr)) (hsz:cs.size=sz)
  (hfr:∀o,o<sz→¬(fr.1≤o∧o<fr.2)) (k:Nat) (es:List (List AV)) (hle:es.length*k≤sz)
  (hrep:∀i (hi:i<es.length),es[i].length=k∧∀j (hj:j<es[i].length),∃v,cs[i*k+j]? = some v∧Rep imm m v es[i][j]) :
  Sim K imm (upd m σ.length (blk,sz)) w' (σ.set b .dead++[.cells k es]):=by
 have hl0:σ[b].live=true:=by rw[hob];rfl
 have hd:m σ.length=none:=hs.dom _ (Nat.le_refl _);obtain⟨blk',sz',e',hblt,himm⟩:=(hs.obs b hlt).lt hl0;rw[hm] at e'
 cases e'
 have hk:=hs.kill b;have hlen:(σ.set b .dead).length=σ.length:=by simp
 have hne:∀i (hi:i<(σ.set b .dead).length),(σ.set b .dead)[i].live=true→∃bi,m i=some bi∧bi.1≠blk:=by
  intro i hi hl;have hi':i<σ.length:=by simpa using hi
  obtain⟨b2,s2,e2,_,_⟩:=(hk.obs i hi).lt hl;rw[List.getElem_set] at hl
  split at hl
  ·cases hl
  ·rename_i hni
   exact⟨_,e2,hs.other hi' hlt hl hl0 (fun e=>hni e.symm) e2 hm⟩
 refine⟨hb.os.trans hs.os,hb.tape.trans hs.tape,hb.output.trans hs.output,Nat.le_trans hs.size hb.size,fun c o h=>?_,fun id h=>?_,fun id h=>?_,fun i j hi hj li lj e=>?_⟩
 ·rw[hother c (fun e=>by subst e;rw[himm] at h;cases h)]
  exact hs.imm_ok c o h
 ·simp only[List.length_append,List.length_set,List.length_cons,List.length_nil] at h;unfold upd;rw[if_neg (by omega)]
  exact hs.dom id (by omega)
 ·simp only[List.length_append,List.length_set,List.length_cons,List.length_nil] at h
  rcases Nat.lt_or_ge id σ.length with h'|h'
  ·have h2:id<(σ.set b .dead).length:=by omega
   rw[List.getElem_append_left h2];refine (hk.obs id h2).keep (.refl _) (.upd hd _) (fun hn=>?_) (fun _ h _=>h) (fun hl c s e=>?_)
   ·unfold upd;rw[if_neg (by omega)]
    exact hn
   ·obtain⟨bi,e2,hbi⟩:=hne id h2 hl;rw[e] at e2
    cases e2
    exact hother _ hbi
  ·obtain rfl:id=σ.length:=by omega
   rw[List.getElem_append_right (by omega)]
   simp only[List.length_set,Nat.sub_self,List.getElem_cons_zero];refine⟨blk,sz,by simp [upd],himm,cs,T,fr,hw,hsz,hfr,hle,fun i hi=>⟨(hrep i hi).1,fun j hj=>?_⟩⟩
   obtain⟨v,e,r⟩:=(hrep i hi).2 j hj;exact⟨v,e,r.mono (.refl _) (.upd hd _)⟩
 ·simp only[List.length_append,List.length_set,List.length_cons,List.length_nil] at hi hj
  rcases Nat.lt_or_ge i σ.length with hi'|hi'<;>rcases Nat.lt_or_ge j σ.length with hj'|hj'
  ·rw[List.getElem_append_left (by omega)] at li lj
   refine hk.inj i j (by omega) (by omega) li lj ?_
   simpa [upd,Nat.ne_of_lt hi',Nat.ne_of_lt hj'] using e
  ·rw[List.getElem_append_left (by omega)] at li
   obtain⟨bi,e2,hbi⟩:=hne i (by omega) li
   obtain rfl:j=σ.length:=by omega
   simp [upd,Nat.ne_of_lt hi',e2] at e;exact absurd e hbi
  ·rw[List.getElem_append_left (by omega)] at lj
   obtain⟨bi,e2,hbi⟩:=hne j (by omega) lj
   obtain rfl:i=σ.length:=by omega
   simp [upd,Nat.ne_of_lt hj',e2] at e;exact absurd e.symm hbi
  ·omega
end
end Go.Proofs.YtephecognbbaoaaGreat
namespace Go.Proofs.YtephecognbbaoaaGreat
open Go
set_option linter.all false
def bY (P:Program) (T:TypeId):Option (List AV):=
 match P.info? T with
 | some i=>i.zero.map fun z=>z.cells.toList.map .c
 | none=>none
def cw:AV→Bool
 | .c v=>v.oneCell'
 | .agg _=>false
 | .tup _=>false
 | _=>true
def setL:List AV→Nat→List AV→List AV
 | e,_,[]=>e
 | e,off,a::r=>setL (e.set off a) (off+1) r
def dl (σ:aa):AV→Option (List (List AV))
 | .sl es=>some es
 | .emp=>some []
 | .c (.slice none 0 0)=>some []
 | .own b k s n _=>match σ[b]? with
  | some (.cells k' es)=>if k'=k∧s+n≤es.length then some ((es.drop s).take n) else none
  | _=>none
 | _=>none
def bO (σ:aa):AV→Option (List (List AV))
 | .sl es=>some es
 | .emp=>some []
 | .c (.slice none 0 0)=>some []
 | .own b k s n _=>match σ[b]? with
  | some (.cells k' es)=>if k'=k then (if s=0∧n=es.length then some es else if s+n≤es.length then some ((es.drop s).take n) else none) else none
  | _=>none
 | _=>none
theorem ee (σ:aa) (a:AV):bO σ a=dl σ a:=by
 unfold bO dl
 split
 ·rfl
 ·rfl
 ·rfl
 ·rename_i b k s n c
  split
  ·rename_i k' es _
   by_cases h1:k'=k
   ·by_cases h2:s=0∧n=es.length
    ·obtain⟨rfl,rfl⟩:=h2;simp [h1]
    ·rw[if_pos h1,if_neg h2]
     by_cases h3:s+n≤es.length
     ·rw[if_pos h3,if_pos ⟨h1,h3⟩]
     ·rw[if_neg h3,if_neg (fun h=>h3 h.2)]
   ·rw[if_neg h1,if_neg (fun h=>h1 h.1)]
  ·rfl
 ·rfl
def ud (P:Program) (σ:aa) (T:TypeId) (p v:AV):Option aa:=
 match p with
 | .ptr b k i off=>match σ[b]? with
  | some (.cells k' es)=>match es[i]? with
   | some e=>if k'=k∧(P.info? T).isSome∧(cd v).length=P.cellsOf T∧off+(cd v).length≤k∧(cd v).all cw then
     some (σ.set b (.cells k (es.set i (setL e off (cd v))))) else none
   | none=>none
  | _=>none
 | _=>none
section
variable {P:Program} {K:World} {imm:Imm} {m:Own} {w w':World} {σ:aa}
theorem se {v:Value} {a:AV} (h:Rep imm m v a):bK imm m v.cells.toList (cd a):=by
 have one:∀ {v:Value} {a:AV},Rep imm m v a→bK imm m [v] [a]:=fun {v a} h=>⟨rfl,fun i h1 h2=>by
  obtain rfl:i=0:=by simp at h1;omega
  exact h⟩
 cases a with
 | agg l=>cases h with|agg cs l hl hh=>exact⟨by simpa [Value.cells,cd] using hl,fun i h1 h2=>hh i _ _⟩
 | c u=>
  obtain rfl:=h.c_inv
  cases v with
  | agg cs=>
   refine⟨by simp [Value.cells,cd],fun i h1 h2=>?_⟩
   simp only[cd,List.getElem_map];exact .c _
  | _=>exact one (.c _)
 | emp=>cases h;exact one (.emp _)
 | tup l=>cases h with|tup cs l hl hh=>exact one (.tup cs l hl hh)
 | sl es=>cases h with|sl p cap n es k vals hn hcap hk hp hr=>exact one (.sl p cap n es k vals hn hcap hk hp hr)
 | cp e off=>cases h with|cp b o x e off vals hx hc hr=>exact one (.cp b o x e off vals hx hc hr)
 | own b k s n c=>cases h with|own b k s n c cap blk sz x hm hn hcc hx hc=>exact one (.own b k s n c cap blk sz x hm hn hcc hx hc)
 | ptr b k i off=>cases h with|ptr b k i off blk sz x hm hx=>exact one (.ptr b k i off blk sz x hm hx)
 | fn f l1 l2=>cases h with|fn f fs cs first cap hf hc h1 h2=>exact one (.fn f fs cs l1 l2 hf hc h1 h2)
 | mp b=>cases h with|mp b blk sz hm=>exact one (.mp b blk sz hm)
 | cm es=>cases h with|cm blk es ents clock h1 h2 h3 h4=>exact one (.cm blk es ents clock h1 h2 h3 h4)
theorem p8 {v:Value} {a:AV} (h:Rep imm m v a) (h1:cw a=true):v.oneCell'=true:=by
 cases h with
 | c=>exact h1
 | agg=>cases h1
 | tup=>cases h1
 | _=>rfl
theorem sJ {b o:Nat} {v:Value} {cs:Array Value} {T:TypeId} {fr:Nat×Nat} (h:w.heap[b]? = some (.cells cs T fr)) :
  (w.setCell ⟨b,o,none⟩ v).heap[b]? = some (.cells (cs.setIfInBounds o v) T fr):=by
 simp [World.setCell,Array.getElem?_modify,h]
theorem mj (b:Nat) (T:TypeId) (fr:Nat×Nat):∀(vs:List Value) (o:Nat) (cs:Array Value) (w:World),w.heap[b]? = some (.cells cs T fr) →
  ∃cs',(w.setCells b o vs).heap[b]? = some (.cells cs' T fr)∧cs'.size=cs.size∧(∀j,j<o∨o+vs.length≤j→cs'[j]? = cs[j]?) ∧
   (∀j (hj:j<vs.length),o+j<cs.size→cs'[o+j]? = some vs[j])∧(∀c,c≠b→(w.setCells b o vs).heap[c]? = w.heap[c]?)∧eI w (w.setCells b o vs)
 | [],o,cs,w,h=>⟨cs,h,rfl,fun _ _=>rfl,fun j hj=>by simp at hj,fun _ _=>rfl,⟨rfl,rfl,rfl,Nat.le_refl _⟩⟩
 | v::r,o,cs,w,h=>by
  obtain⟨cs',h1,h2,h3,h4,h5,h6⟩:=mj b T fr r (o+1) (cs.setIfInBounds o v) (w.setCell ⟨b,o,none⟩ v) (sJ h);refine⟨cs',h1,by simpa using h2,fun j hj=>?_,fun j hj hlt=>?_,fun c hc=>?_,⟨h6.os,h6.tape,h6.output,?_⟩⟩
  ·rw[h3 j (by simp only[List.length_cons] at hj;omega)]
   rw[Array.getElem?_setIfInBounds,if_neg (by simp only[List.length_cons] at hj;omega)]
  ·cases j with
   | zero=>
    rw[h3 (o+0) (by omega)]
    simp at hlt;simp [hlt]
   | succ j=>
    have:=h4 j (by simpa using hj) (by simp;omega)
    rw[show o+(j+1)=o+1+j by omega]
    simpa using this
  ·rw[World.setCells,h5 c hc];exact RowKit.Below.heap_setCell _ _ _ _ hc
  ·have:=h6.size;simp only[World.setCell,Array.size_modify] at this;exact this
theorem eN:∀(vs:List AV) (e:List AV) (o:Nat),(setL e o vs).length=e.length
 | [],_,_=>rfl
 | a::r,e,o=>by rw[setL,eN r];simp
theorem pU:∀(vs:List AV) (e:List AV) (o:Nat) (j:Nat) (hj:j<(setL e o vs).length) (hj':j<e.length),
  (∀x (hx:x<vs.length),j=o+x→(setL e o vs)[j]=vs[x])∧((j<o∨o+vs.length≤j)→(setL e o vs)[j]=e[j])
 | [],e,o,j,hj,hj'=>⟨fun x hx=>by simp at hx,fun _=>rfl⟩
 | a::r,e,o,j,hj,hj'=>by
  have ih:=pU r (e.set o a) (o+1) j hj (by simpa using hj')
  refine⟨fun x hx hjx=>?_,fun h=>?_⟩
  ·cases x with
   | zero=>
    have:=ih.2 (by omega)
    show (setL (e.set o a) (o+1) r)[j]=_;rw[this,List.getElem_set,if_pos (by omega)]
    rfl
   | succ x=>
    have:=ih.1 x (by simpa using hx) (by omega)
    show (setL (e.set o a) (o+1) r)[j]=_;rw[this];rfl
  ·simp only[List.length_cons] at h;have:=ih.2 (by omega)
   show (setL (e.set o a) (o+1) r)[j]=_;rw[this,List.getElem_set,if_neg (by omega)]
theorem fe {k i n x:Nat} (hx:x<k) (hi:i<n):i*k+x<n*k:=by
 have:=Nat.mul_le_mul_right k (show i+1≤n by omega)
 rw[Nat.add_mul] at this;omega
theorem zX {b k i:Nat} {e:List AV} (h:m9 σ b k i=some e):∃(hb:b<σ.length) (es:List (List AV)) (hi:i<es.length),σ[b] = .cells k es∧es[i]=e:=by
 unfold m9 at h
 split at h
 ·rename_i k' es hs
  split at h
  ·rename_i hk
   subst hk;obtain⟨hb,e1⟩:=List.getElem?_eq_some_iff.1 hs;obtain⟨hi,e2⟩:=List.getElem?_eq_some_iff.1 h;exact⟨hb,es,hi,e1,e2⟩
  ·cases h
 ·cases h
theorem yH (hs:Sim K imm m w σ) {b k i off:Nat} {e:List AV} {v:Value} (hr:Rep imm m v (.ptr b k i off)) (hc:m9 σ b k i=some e) :
  ∃blk o,v = .pointer (some ⟨blk,o+off,none⟩)∧∀j (hj:j<e.length),∃u,w.cell? ⟨blk,o+j,none⟩=some u∧Rep imm m u e[j]:=by
 obtain⟨hb,es,hi,hob,rfl⟩:=zX hc;have h:=hs.obs b hb;rw[hob] at h;obtain⟨blk,sz,h1,h2,cs,T,fr,h3,h4,h5,h6,h7⟩:=h
 cases hr with
 | ptr b k i off blk' sz' x hm hx=>
  rw[h1] at hm
  cases hm
  refine⟨blk,i*k,by rw[hx],fun j hj=>?_⟩
  obtain⟨u,e,r⟩:=(h7 i hi).2 j hj;exact⟨u,by simp [World.cell?,h3,e],r⟩
theorem gj (a:Addr):∀(n i:Nat) (acc:Array Value) (f:Nat→Value),(∀j,j<n→w.cell? (a.add (i+j))=some (f j)) →
  (loadCellsFrom a i n acc).run P w = .ok (acc++((List.range n).map f).toArray) w
 | 0,i,acc,f,_=>by simp [loadCellsFrom]
 | n+1,i,acc,f,h=>by
  have h0:=h 0 (by omega)
  have ih:=gj a n (i+1) (acc.push (f 0)) (fun j=>f (j+1)) (fun j hj=>by
   have:=h (j+1) (by omega)
   rw[show i+1+j=i+(j+1) by omega]
   exact this)
  simp only[Nat.add_zero] at h0;simp only[loadCellsFrom,Sem.run_bind,run_load,h0];simp only[Result.andThen_ok,ih]
  congr 1
  apply Array.ext';simp [List.range_succ_eq_map,Function.comp_def]
theorem nN (b o n:Nat):(⟨b,o,none⟩:Addr).add n=⟨b,o+n,none⟩:=by
 unfold Addr.add
 split<;>simp_all
theorem wa {T:TypeId} (hk:(P.underlying T).isSome=true):(isAgg T).run P w = .ok (bA P T).isSome w:=by
 obtain⟨d,hd⟩:=Option.isSome_iff_exists.1 hk;simp only[isAgg,Sem.run_bind,aD hd,Result.andThen_ok,bA,hd]
 cases d<;>simp
theorem yV {T n:Nat} (h:bA P T=some n):n=P.cellsOf T∧(P.underlying T).isSome=true:=by
 unfold bA at h
 split at h<;>first|(cases h;done)|skip
 all_goals
  rename_i hT
  cases h
  exact⟨rfl,by simp [hT]⟩
theorem xg {T:TypeId} {e:List AV} {off:Nat} {av:AV} {blk o:Nat} (ht:tU P T e off=some av)
  (hc:∀j (hj:j<e.length),∃u,w.cell? ⟨blk,o+j,none⟩=some u∧Rep imm m u e[j]) :
  ∃v,(loadVar T ⟨blk,o+off,none⟩).run P w = .ok v w∧Rep imm m v av:=by
 unfold tU at ht
 split at ht
 ·rename_i n hn
  split at ht
  ·rename_i hle
   cases ht
   obtain⟨rfl,hu⟩:=yV hn;have hi:=hle.2;have hcs:∀j,j<P.cellsOf T→∃u,w.cell? ⟨blk,o+off+j,none⟩=some u∧∀hj:off+j<e.length,Rep imm m u e[off+j]:=fun j hj=>by
    obtain⟨u,e1,r⟩:=hc (off+j) (by omega)
    exact⟨u,by rw[show o+off+j=o+(off+j) by omega];exact e1,fun _=>r⟩
   let f:Nat→Value:=fun j=>if h:j<P.cellsOf T then (hcs j h).choose else undef
   have hf:∀j (h:j<P.cellsOf T),w.cell? ⟨blk,o+off+j,none⟩=some (f j)∧∀hj:off+j<e.length,Rep imm m (f j) e[off+j]:=fun j h=>by
    have:=(hcs j h).choose_spec;simp only[f,h,dif_pos];exact this
   have hrun:=gj (P:=P) (w:=w) ⟨blk,o+off,none⟩ (P.cellsOf T) 0 #[] f (fun j hj=>by rw[nN];simpa using (hf j hj).1)
   refine⟨.agg ((List.range (P.cellsOf T)).map f).toArray,?_,?_⟩
   ·simp only[loadVar,Sem.run_bind,wa hu,hn,Option.isSome_some,Result.andThen_ok,if_true,cQ hi,loadCells,hrun,Sem.run_pure];simp
   ·refine .agg _ _ (by simp;omega) (fun i h1 h2=>?_)
    simp only[List.getElem_map,List.getElem_range,List.getElem_take,List.getElem_drop];simp at h1;exact (hf i h1).2 _
  ·cases ht
 ·rename_i hn
  split at ht
  ·rename_i hk
   simp only[dV,Bool.and_eq_true] at hk;obtain⟨hj,rfl⟩:=List.getElem?_eq_some_iff.1 ht;obtain⟨u,e1,r⟩:=hc off hj;refine⟨u,?_,r⟩;simp only[loadVar,Sem.run_bind,wa hk.1,hn,Option.isSome_none,Result.andThen_ok];simp [run_load,e1]
  ·cases ht
theorem yk (hs:Sim K imm m w σ) {T:TypeId} {p av:AV} {v:Value} (hr:Rep imm m v p) (h:ln P σ T p=some av) :
  ∃u,(Instr.loadAt T v).run P w = .ok u w∧Rep imm m u av:=by
 unfold ln at h
 split at h
 ·rename_i b k i off
  obtain⟨e,he,ht⟩:=Option.bind_eq_some_iff.1 h;obtain⟨blk,o,rfl,hc⟩:=yH hs hr he;obtain⟨u,h1,h2⟩:=xg ht hc;exact⟨u,by simp [Instr.loadAt,Instr.sureAddr,h1],h2⟩
 ·rename_i e off
  cases hr with
  | cp b o x e off vals hx hc hr=>
   subst hx;have hcell:∀j (hj:j<e.length),∃u,w.cell? ⟨b,o+j,none⟩=some u∧Rep imm m u e[j]:=fun j hj=>by
    refine⟨vals j,?_,hr j hj⟩;have:=hc j hj;unfold d6 at this
    split at this
    ·rename_i c T fr hb
     simp [World.cell?,hs.imm_ok _ _ hb,this]
    ·cases this
   obtain⟨u,h1,h2⟩:=xg (P:=P) h hcell;exact⟨u,by simp [Instr.loadAt,Instr.sureAddr,h1],h2⟩
 ·cases h
theorem BN (hs:Sim K imm m w σ) {T:TypeId} {p av:AV} {v u:Value} {σ':aa} (hp:Rep imm m v p) (hv:Rep imm m u av) (h:ud P σ T p av=some σ') :
  ∃w',(Instr.storeAt T v u).run P w = .ok () w'∧Sim K imm m w' σ':=by
 unfold ud at h
 split at h
 ·rename_i b k i off
  split at h
  ·rename_i k' es hb
   split at h
   ·rename_i e he
    split at h
    ·rename_i hcond
     obtain⟨rfl,hT,hlen,hoff,hone⟩:=hcond
     cases h
     obtain⟨hlt,hob⟩:=List.getElem?_eq_some_iff.1 hb;obtain⟨hi,rfl⟩:=List.getElem?_eq_some_iff.1 he;have h0:=hs.obs b hlt;rw[hob] at h0;obtain⟨blk,sz,h1,h2,cs,T',fr,h3,h4,h5,h6,h7⟩:=h0
     cases hp with
     | ptr b k i off blk' sz' x hm hx=>
      rw[h1] at hm
      cases hm
      subst hx;have hcr:=se hv;have hk:=(h7 i hi).1;have hbnd:∀j,j<k'→i*k'+j<sz:=fun j hj=>Nat.lt_of_lt_of_le (fe hj hi) h6;have hcell:∀j,j<u.cells.toList.length→(w.cell? ⟨blk,i*k'+off+0+j,none⟩).isSome=true:=fun j hj=>by
       have:i*k'+(off+j)<cs.size:=by rw[h4];exact hbnd _ (by have:=hcr.1;omega)
       simp [World.cell?,h3,show i*k'+off+j<cs.size by omega]
      have hfro:∀j,j<u.cells.toList.length→w.frozen? ⟨blk,i*k'+off+0+j,none⟩=false:=fun j hj=>by
       have:=h5 (i*k'+off+0+j) (by have:=hbnd (off+j) (by have:=hcr.1;omega);omega)
       simp only[World.frozen?,h3];simp only[Nat.add_zero] at this ⊢
       simpa using this
      have hon:∀x∈u.cells.toList,x.oneCell'=true:=fun x hx=>by
       obtain⟨j,hj,rfl⟩:=List.getElem_of_mem hx;refine p8 (hcr.2 j hj (by have:=hcr.1;omega)) ?_
       exact List.all_eq_true.1 hone _ (List.getElem_mem _)
      have hst:=run_storeCells_cells (P:=P) blk (i*k'+off) u.cells.toList 0 w hcell hfro hon;obtain⟨cs',g1,g2,g3,g4,g5,g6⟩:=mj blk T' fr u.cells.toList (i*k'+off) cs w h3;refine⟨w.setCells blk (i*k'+off) u.cells.toList,?_,?_⟩
      ·have hsz:u.cells.size=P.cellsOf T:=by rw[←hlen,←hcr.1];simp
       simp only[Instr.storeAt,Instr.sureAddr,Sem.run_bind,Sem.run_pure,Result.andThen_ok,storeVar,cQ hT,hsz];simp only[Nat.add_zero] at hst;simp [hst]
      ·refine hs.set g6 hlt h1 hob g5 cs' T' fr g1 (by omega) h5 _ (by simpa using h6) (fun i' hi'=>?_)
       simp only[List.length_set] at hi';rw[List.getElem_set]
       split
       ·rename_i hii
        subst hii;refine⟨by rw[eN,hk],fun j hj=>?_⟩
        have hj':j<es[i].length:=by rwa [eN] at hj
        have hg:=pU (cd av) es[i] off j hj hj'
        rcases Nat.lt_or_ge j off with hjo|hjo
        ·rw[hg.2 (.inl hjo),g3 _ (.inl (by omega))]
         exact (h7 i hi).2 j hj'
        ·rcases Nat.lt_or_ge j (off+(cd av).length) with hjl|hjl
         ·rw[hg.1 (j-off) (by omega) (by omega)]
          have:=g4 (j-off) (by have:=hcr.1;omega) (by rw[h4];have:=hbnd j (by omega);omega)
          rw[show i*k'+off+(j-off)=i*k'+j by omega] at this
          exact⟨_,this,hcr.2 _ _ _⟩
         ·rw[hg.2 (.inr hjl),g3 _ (.inr (by have:=hcr.1;omega))]
          exact (h7 i hi).2 j hj'
       ·rename_i hii
        refine⟨(h7 i' hi').1,fun j hj=>?_⟩;obtain⟨x,e1,r⟩:=(h7 i' hi').2 j hj;refine⟨x,?_,r⟩;rw[g3 _ ?_,e1];have hj':j<k':=by rw[←(h7 i' hi').1];exact hj
        rcases Nat.lt_or_ge i' i with hlt'|hge'
        ·have:=fe hj' hlt';exact .inl (by omega)
        ·have:=Nat.mul_le_mul_right k' (show i+1≤i' by omega)
         rw[Nat.add_mul] at this;exact .inr (by have:=hcr.1;omega)
    ·cases h
   ·cases h
  ·cases h
 ·cases h
end
end Go.Proofs.YtephecognbbaoaaGreat
namespace Go.Proofs.YtephecognbbaoaaGreat
open Go
set_option linter.all false
def jL (place:Nat→Option (Nat×Nat)) (cells:List AV):List (Nat×AV)→Option (List AV)
 | []=>some cells
 | (i,v)::r=>match place i with
  | some (off,size)=>if (cd v).length=size∧off+size≤cells.length then jL place (setL cells off (cd v)) r else none
  | none=>none
def dy (P:Program) (T:TypeId):Option (List (Nat×Nat)):=
 match P.underlying T with
 | some (.struct fs)=>if fs.all (fun f=>(P.info? f.type).isSome) then some (fs.toList.map fun f=>(f.offset,P.cellsOf f.type)) else none
 | some (.array n e)=>if (P.info? e).isSome then some ((List.range n).map fun i=>(i*P.cellsOf e,P.cellsOf e)) else none
 | _=>none
theorem uG {f g:Nat→Option (Nat×Nat)} (h:∀i p,f i=some p→g i=some p):∀(ps:List (Nat×AV)) (e l:List AV),jL f e ps=some l→jL g e ps=some l
 | [],e,l,hl=>hl
 | (i,v)::r,e,l,hl=>by
  simp only[jL] at hl ⊢
  cases hf:f i with
  | none=>rw[hf] at hl;cases hl
  | some p=>
   rw[hf] at hl;rw[h i p hf];obtain⟨o,n⟩:=p;simp only at hl ⊢
   split at hl
   ·rename_i hc
    rw[if_pos hc];exact uG h r _ l hl
   ·cases hl
def eY (ev:Operand→Option AV):List (Nat×Operand)→Option (List (Nat×AV))
 | []=>some []
 | (i,x)::r=>(ev x).bind fun v=>(eY ev r).bind fun l=>some ((i,v)::l)
def ll (k:Nat):Nat→List (Nat×AV)→Option (List (List AV))
 | _,[]=>some []
 | i,(j,v)::r=>if i=j∧(cd v).length=k then (ll k (i+1) r).map fun l=>cd v::l else none
section
variable {P:Program} {K:World} {imm:Imm} {m:Own} {w w':World} {σ:aa} {ev:Operand→Option AV} {ρ:Operand→Value}
theorem fF {T:TypeId} {z:List AV} (h:bY P T=some z):∃v,(zeroValue T).run P w = .ok v w∧bK imm m v.cells.toList z∧z=v.cells.toList.map .c∧((P.info? T).map (·.zero)=some (some v)):=by
 unfold bY at h
 split at h
 ·rename_i i hi
  cases hz:i.zero with
  | none=>rw[hz] at h;cases h
  | some v=>
   rw[hz] at h
   cases h
   refine⟨v,by simp [zeroValue,jp hi,hz],⟨by simp,fun j h1 h2=>?_⟩,rfl,by simp [hi,hz]⟩
   simp only[List.getElem_map];exact .c _
 ·cases h
theorem fh (o:Obj):eI w (w.alloc o):=⟨rfl,rfl,rfl,by simp⟩
theorem Sim.alloc1 (hs:Sim K imm m w σ) (cells:Array Value) (T:TypeId) (z:List AV) (hz:bK imm m cells.toList z) :
  ∃m',OLe m m'∧Sim K imm m' (w.alloc (.cells cells T)) (σ++[.cells z.length [z]])∧Rep imm m' (.pointer (some ⟨w.heap.size,0,none⟩)) (.ptr σ.length z.length 0 0):=by
 have hl:cells.size=z.length:=by simpa using hz.1
 refine⟨_,.upd (hs.dom _ (Nat.le_refl _)) _,hs.push (fh _) cells T (0,0) rfl z.length [z] (by simp) (by simp [hl]) (fun i hi=>?_),.ptr _ _ _ _ _ cells.size _ (by simp [upd]) (by simp)⟩
 obtain rfl:i=0:=by simp at hi;omega
 refine⟨rfl,fun j hj=>⟨cells[j]'(by rw[hl];exact hj),by simp [hl],?_⟩⟩
 have h9:=hz.2 j (by simp only[Array.length_toList];rw[hl];exact hj) hj
 exact h9
theorem p7 (hev:∀x av,ev x=some av→Rep imm m (ρ x) av):∀(ps:List (Nat×Operand)) (l:List (Nat×AV)),eY ev ps=some l →
  ps.length=l.length∧∀i (h1:i<ps.length) (h2:i<l.length),ps[i].1=l[i].1∧Rep imm m (ρ ps[i].2) l[i].2:=by
 intro ps
 induction ps with
 | nil=>intro l h;cases h;exact⟨rfl,fun i h1=>by simp at h1⟩
 | cons p r ih=>
  obtain⟨n,x⟩:=p;intro l h;simp only[eY,Option.bind_eq_some_iff] at h;obtain⟨v,hv,l',hl,e⟩:=h
  cases e
  obtain⟨h1,h2⟩:=ih l' hl;refine⟨by simpa using h1,fun i hi1 hi2=>?_⟩
  cases i with
  | zero=>exact⟨rfl,hev _ _ hv⟩
  | succ i=>
   simp only[List.getElem_cons_succ];exact h2 i (by simpa using hi1) (by simpa using hi2)
theorem Fy (off:Nat):∀(vs:List Value) (cs:Array Value) (n:Nat),(vs.zipIdx n).foldl (fun cs (c,j)=>cs.setIfInBounds (off+j) c) cs=(vs.zipIdx n).foldl (fun cs (c,j)=>cs.setIfInBounds (off+j) c) cs:=fun _ _ _=>rfl
theorem xP:∀(vs:List Value) (as':List AV) (cs:Array Value) (e:List AV) (off n:Nat),bK imm m cs.toList e→bK imm m vs as'→off+n+vs.length≤cs.size →
  bK imm m ((vs.zipIdx n).foldl (fun cs (c,j)=>cs.setIfInBounds (off+j) c) cs).toList (setL e (off+n) as')
 | [],as',cs,e,off,n,hc,hv,hle=>by
  obtain rfl:as'=[]:=List.eq_nil_of_length_eq_zero (by have:=hv.1;simpa using this.symm)
  exact hc
 | v::r,as',cs,e,off,n,hc,hv,hle=>by
  cases as' with
  | nil=>have:=hv.1;simp at this
  | cons a s=>
   simp only[List.zipIdx_cons,List.foldl_cons,setL];have h0:Rep imm m v a:=hv.2 0 (by simp) (by simp)
   have hr:bK imm m r s:=⟨by have:=hv.1;simpa using this,fun i h1 h2=>by
    have:=hv.2 (i+1) (by simp;omega) (by simp;omega)
    simpa using this⟩
   have hc':bK imm m (cs.setIfInBounds (off+n) v).toList (e.set (off+n) a):=by
    refine⟨by have:=hc.1;simp at this ⊢;exact this,fun i h1 h2=>?_⟩
    simp only[Array.toList_setIfInBounds,List.getElem_set]
    split
    ·exact h0
    ·exact hc.2 i _ _
   have:=xP r s (cs.setIfInBounds (off+n) v) (e.set (off+n) a) off (n+1) hc' hr (by simp only[List.length_cons] at hle;simp;omega)
   rw[show off+n+1=off+(n+1) by omega]
   exact this
theorem ow (place:Nat→Option (Nat×Nat)):∀(ps:List (Nat×Value)) (l:List (Nat×AV)) (cs:Array Value) (e e':List AV),bK imm m cs.toList e →
  (ps.length=l.length∧∀i (h1:i<ps.length) (h2:i<l.length),ps[i].1=l[i].1∧Rep imm m ps[i].2 l[i].2)→jL place e l=some e' →
  ∃cs',Instr.fill place cs ps=some cs'∧bK imm m cs'.toList e'
 | [],l,cs,e,e',hc,hp,h=>by
  obtain rfl:l=[]:=List.eq_nil_of_length_eq_zero (by have:=hp.1;simpa using this.symm)
  cases h
  exact⟨cs,rfl,hc⟩
 | (i,v)::r,l,cs,e,e',hc,hp,h=>by
  cases l with
  | nil=>have:=hp.1;simp at this
  | cons x s=>
   obtain⟨j,a⟩:=x;have h0:=hp.2 0 (by simp) (by simp)
   simp only[List.getElem_cons_zero] at h0;obtain⟨rfl,hr0⟩:=h0;have hcv:=se hr0;simp only[jL] at h
   split at h
   ·rename_i off size hpl
    split at h
    ·rename_i hcond
     have hl1:v.cells.size=size:=by rw[←hcond.1,←hcv.1];simp
     have hl2:cs.size=e.length:=by have:=hc.1;simpa using this
     have hset:=xP v.cells.toList (cd a) cs e off 0 hc hcv (by simp [hl1,hl2];exact hcond.2)
     have hrest:(r.length=s.length∧∀i (h1:i<r.length) (h2:i<s.length),r[i].1=s[i].1∧Rep imm m r[i].2 s[i].2):=
      ⟨by have:=hp.1;simpa using this,fun n h1 h2=>by
       have:=hp.2 (n+1) (by simp;omega) (by simp;omega)
       simpa using this⟩
     obtain⟨cs',e1,r1⟩:=ow place r s _ _ e' hset hrest h;refine⟨cs',?_,r1⟩;simp only[Instr.fill,hpl];rw[if_neg (by rw[hl1,hl2];simp;exact hcond.2)]
     rw[←e1]
     congr 1
     rw[←Array.foldl_toList,Array.toList_zipIdx]
    ·cases h
   ·cases h
end
end Go.Proofs.YtephecognbbaoaaGreat
