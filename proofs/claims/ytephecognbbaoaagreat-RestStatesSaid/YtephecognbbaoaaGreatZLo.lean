/- Loops whose frame is kept but for the slots that a round writes. -/
import Derived.Test.YtephecognbbaoaaGreatZFz
import Derived.OrdersIn
import Derived.LoopNIn
namespace Go.Proofs.YtephecognbbaoaaGreat
open Go
set_option linter.all false
inductive Anc (ops:List Oper):Nat→Nat→Prop
 | edge (i j:Nat) (o:Oper) (e:Edge) (hj:ops[j]? = some o) (he:e∈o.after.toList) (hb:Region.binds .any e=true) (hi:e.on=i):Anc ops i j
 | trans (i j k:Nat) (h:Anc ops i j) (h':Anc ops j k):Anc ops i k
def vD:List Oper→List Nat→List Nat
 | [],acc=>acc
 | o::r,acc=>vD r (acc++[o.after.toList.foldl (fun s e=>if Region.binds .any e then s ||| 2 ^ e.on ||| acc.getD e.on 0 else s) 0])
theorem wb (acc:List Nat) (i:Nat):∀(l:List Edge) (s:Nat),(l.foldl (fun s e=>if Region.binds .any e then s ||| 2 ^ e.on ||| acc.getD e.on 0 else s) s).testBit i=true →
  s.testBit i=true∨∃e∈l,Region.binds .any e=true∧(e.on=i∨(acc.getD e.on 0).testBit i=true)
 | [],s,h=>.inl h
 | e::r,s,h=>by
  simp only[List.foldl_cons] at h
  rcases wb acc i r _ h with h1|⟨e',he',h1⟩
  ·split at h1
   ·rename_i hb
    rw[Nat.testBit_or,Nat.testBit_or] at h1;simp only[Bool.or_eq_true] at h1
    rcases h1 with (h1|h1)|h1
    ·exact .inl h1
    ·rw[Nat.testBit_two_pow] at h1;exact .inr ⟨e,by simp,hb,.inl (by simpa using h1)⟩
    ·exact .inr ⟨e,by simp,hb,.inr h1⟩
   ·exact .inl h1
  ·exact .inr ⟨e',by simp [he'],h1⟩
theorem lY (ops:List Oper):∀(l:List Oper) (acc:List Nat),(∀j,l[j]? = ops[acc.length+j]?)→(∀j i,(acc.getD j 0).testBit i=true→Anc ops i j) →
  ∀j i,((vD l acc).getD j 0).testBit i=true→Anc ops i j
 | [],acc,_,hacc,j,i,h=>hacc j i h
 | o::r,acc,hl,hacc,j,i,h=>by
  refine lY ops r (acc++[_]) (fun j=>?_) (fun j i h=>?_) j i h
  ·have:=hl (j+1);simp only[List.length_append,List.length_cons,List.length_nil];rw[show acc.length+(0+1)+j=acc.length+(j+1) by omega,←this]
   rfl
  ·rcases Nat.lt_or_ge j acc.length with hlt|hge
   ·rw[List.getD_eq_getElem?_getD,List.getElem?_append_left hlt,←List.getD_eq_getElem?_getD] at h;exact hacc j i h
   ·rcases Nat.lt_or_ge acc.length j with hgt|hle
    ·rw[List.getD_eq_getElem?_getD,List.getElem?_eq_none (by simp;omega)] at h
     simp at h
    ·obtain rfl:j=acc.length:=by omega
     rw[List.getD_eq_getElem?_getD,List.getElem?_append_right (Nat.le_refl _)] at h;simp only[Nat.sub_self,List.getElem?_cons_zero,Option.getD_some] at h;have ho:ops[acc.length]? = some o:=by have:=hl 0;simpa using this.symm
     rcases wb acc i _ 0 h with h1|⟨e,he,hb,h1|h1⟩
     ·simp at h1
     ·exact .edge i acc.length o e ho he hb h1
     ·exact .trans i e.on acc.length (hacc e.on i h1) (.edge e.on acc.length o e ho he hb rfl)
def bN (ops:List Oper) (o:Oper):List Nat:=
 o.dst.toList++o.op.operands.toList.filterMap (fun | .tmp t=>some t|_=>none)++(match o.guard with|some (g,_)=>((ops[g]?).bind (·.dst)).toList|none=>[])
def dQ (ops:List Oper) (p:Nat):Bool:=
 let b:=vD ops []
 (List.range ops.length).all fun j=>(List.range j).all fun i=>
  let both:=(match ops[i]?,ops[j]? with
   | some x,some y=>(x.dst.any fun d=>(bN ops y).contains d)||(y.dst.any fun d=>(bN ops x).contains d)
   | _,_=>true)||decide (p≤j)
  !both||(b.getD j 0).testBit i
def bT (ops:List Oper):Bool:=ops.zipIdx.all fun (o,j)=>o.after.toList.all fun e => !Region.binds .any e||decide (e.on<j)
def cy (ops:List Oper):Bool:=ops.all fun o=>match o.op with | .select .. => false|_=>true
theorem jM {ops:List Oper} {p:Nat} (h:dQ ops p=true) {i j:Nat} (hij:i<j) {x y:Oper} (hx:ops[i]? = some x) (hy:ops[j]? = some y)
  (hc:(∃d,x.dst=some d∧d∈bN ops y)∨(∃d,y.dst=some d∧d∈bN ops x)∨p≤j):Anc ops i j:=by
 have hj:j<ops.length:=(List.getElem?_eq_some_iff.1 hy).1;simp only[dQ,List.all_eq_true,List.mem_range] at h;have h1:=h j hj i hij;refine lY ops ops [] (fun j=>by simp) (fun j i h=>by simp at h) j i ?_
 simp only[hx,hy,Bool.or_eq_true,Bool.not_eq_true',Bool.or_eq_false_iff] at h1
 rcases h1 with ⟨⟨h2,h3⟩,h4⟩|h1
 ·exfalso
  rcases hc with ⟨d,hd,hm⟩|⟨d,hd,hm⟩|hp
  ·simp [hd,hm] at h2
  ·simp [hd,hm] at h3
  ·simp at h4;omega
 ·exact h1
def gM (ns:List Nat) (α:AF):AF:=α.filter fun p=>ns.contains p.1
theorem dL (ns:List Nat):∀(α:AF) (t:Nat),aB (gM ns α) t=if ns.contains t then aB α t else none
 | [],t=>by simp [gM,aB]
 | (k,v)::r,t=>by
  have ih:=dL ns r t;unfold gM at ih ⊢;simp only[List.filter_cons]
  by_cases hk:ns.contains k=true
  ·simp only[hk,if_true,aB]
   by_cases e:k=t
   ·subst e;rw[if_pos rfl,if_pos hk,if_pos rfl]
   ·simp only[e,if_false];exact ih
  ·simp only[hk,aB];rw[if_neg (by simp),ih]
   by_cases e:k=t
   ·subst e;rw[if_neg hk,if_neg hk]
   ·simp [e]
section congr
variable {P:Program} {ev ev':Operand→Option AV}
theorem ox:∀(l:List Operand),(∀x∈l,ev x=ev' x)→evL ev l=evL ev' l
 | [],_=>rfl
 | x::r,h=>by simp only[evL,h x (by simp),ox r fun y hy=>h y (by simp [hy])]
theorem jr:∀(l:List (Nat×Operand)),(∀x∈l,ev x.2=ev' x.2)→eY ev l=eY ev' l
 | [],_=>rfl
 | (i,x)::r,h=>by
  have h0:ev x=ev' x:=h (i,x) (by simp)
  simp only[eY,h0,jr r fun y hy=>h y (by simp [hy])]
theorem oA (op:Op) (hsel:∀cs b,op ≠ .select cs b) (h:∀x∈op.operands,ev x=ev' x) (σ:aa) (K:AV→aa→Prop):AOp P op ev σ K=AOp P op ev' σ K:=by
 cases op<;>simp only[Op.operands] at h<;>simp only[AOp,cH]
 case move x=>rw[h x (by simp)]
 case assign x=>rw[h x (by simp)]
 case pick c a b=>rw[h c (by simp),h a (by simp),h b (by simp)]
 case box T x=>rw[h x (by simp)]
 case build T ps=>rw[jr ps.toList fun x hx=>h _ (by simp;exact⟨x.1,by simpa using hx⟩)]
 case buildSlice T n ps=>rw[jr ps.toList fun x hx=>h _ (by simp;exact⟨x.1,by simpa using hx⟩)]
 case load T x=>rw[h x (by simp)]
 case store T a x=>rw[h a (by simp),h x (by simp)]
 case nilCheck x=>rw[h x (by simp)]
 case binOp op T x y U=>rw[h x (by simp),h y (by simp)]
 case unOp op T x=>rw[h x (by simp)]
 case convert s d x=>rw[h x (by simp)]
 case makeFunc fn first captured=>rw[ox first.toList fun x hx=>h x (by simp;exact .inl (by simpa using hx)),ox captured.toList fun x hx=>h x (by simp;exact .inr (by simpa using hx))]
 case makeSlice T l c=>rw[h l (by simp),h c (by simp)]
 case makeMap T r=>cases r<;>simp only[AOp,cH]
 case insert T m k x=>rw[h m (by simp),h k (by simp),h x (by simp)]
 case mapUpdate T m k x=>rw[h m (by simp),h k (by simp),h x (by simp)]
 case lookup T m k ok=>rw[h m (by simp),h k (by simp)]
 case slice T x lo hi mx=>
  have e1:c7 ev lo 0=c7 ev' lo 0:=by
   cases lo with
   | none=>rfl
   | some o=>simp only[c7,h o (by simp)]
  have e2:∀d,c7 ev hi d=c7 ev' hi d:=fun d=>by
   cases hi with
   | none=>rfl
   | some o=>simp only[c7,h o (by simp)]
  have e3:c7 ev mx 0=c7 ev' mx 0:=by
   cases mx with
   | none=>rfl
   | some o=>simp only[c7,h o (by simp)]
  rw[h x (by simp),e1,e3]
  simp only[e2]
 case fieldAddr T x f=>rw[h x (by simp)]
 case field T x f=>rw[h x (by simp)]
 case indexAddr T x i=>rw[h x (by simp),h i (by simp)]
 case index T x i=>rw[h x (by simp),h i (by simp)]
 case extract t i=>rw[h t (by simp)]
 case call c=>
  obtain⟨callee,args,ts⟩:=c;have hargs:evL ev args.toList=evL ev' args.toList:=ox args.toList fun x hx=>h x (by simp [Call.operands];exact .inr (by simpa using hx))
  cases callee with
  | value f=>simp only[h f (by simp [Call.operands]),hargs]
  | invoke r n=>rfl
  | builtin b=>cases b<;>simp only[AOp,cH,hargs]
end congr
def bk (P:Program) (op:Op) (ev:Operand→Option AV) (σ:aa) (v:AV):Prop:=
 match op with
 | .buildSlice T n parts=>on (b6 P T) fun k=>on (eY ev parts.toList) fun ps=>on (ll k 0 ps) fun es=>
  es.length=n∧n*k≤16777216∧(match P.underlying T with|some (.slice e)=>(bY P e).map (·.length)=some k|_=>False)∧v = .sl es
 | .makeSlice T l c=>on ((ev l).bind jI) fun l=>on ((ev c).bind jI) fun c=>match P.underlying T with
  | some (.slice e)=>on (bY P e) fun z=>z.length=P.cellsOf e∧0≤l∧l=c∧(P.bytesOf e:Int)*c≤140737488355328∧c≤9223372036854775807∧v = .sl (List.replicate c.toNat z)
  | _=>False
 | op=>AOp P op ev σ fun v' σ'=>v'=v∧σ'=σ
section
variable {P:Program} {K0:World} {imm:Imm} {m:Own} {w w':World} {σ:aa} {ev:Operand→Option AV} {ρ:Operand→Value}
theorem m6 {ev':Operand→Option AV} (op:Op) (hsel:∀cs b,op ≠ .select cs b) (h:∀x∈op.operands,ev x=ev' x) (σ:aa) (v:AV):bk P op ev σ v=bk P op ev' σ v:=by
 cases op with
 | buildSlice T n ps=>
  simp only[Op.operands] at h;simp only[bk];rw[jr ps.toList fun x hx=>h _ (by simp;exact⟨x.1,by simpa using hx⟩)]
 | makeSlice T l c=>
  simp only[Op.operands] at h;simp only[bk];rw[h l (by simp),h c (by simp)]
 | _=>simp only[bk];exact oA _ hsel h _ _
theorem mX (hs:Sim K0 imm m w σ) {imm':Imm} {m':Own} {v:Value} {k n c:Nat} {es:List (List AV)} (hi:ILe imm imm') (ho:OLe m m') (hs':Sim K0 imm' m' w' (σ++[.cells k es]))
  (hr:Rep imm' m' v (.own σ.length k 0 n c)) (hn:n=es.length) (hbd:∀i (hi:i<es.length) j (hj:j<es[i].length),Bd σ.length es[i][j]) :
  ∃imm'' m'',ILe imm imm''∧OLe m m''∧Sim K0 imm'' m'' w' σ∧Rep imm'' m'' v (.sl es):=by
 subst hn;have he:bO (σ++[.cells k es]) (.own σ.length k 0 es.length c)=some es:=by simp [bO]
 obtain⟨imm'',h1,h2,h3⟩:=hs'.freeze_rep hr he;have hset:(σ++[Ob.cells k es]).set σ.length .dead=σ++[.dead]:=by simp
 rw[hset] at h2;refine⟨imm'',Proofs.YtephecognbbaoaaGreat.cut m' σ.length,hi.trans h1,fun b o hbo=>?_,h2.cut hs,h3.cut (.sl es hbd)⟩;have hlt:b<σ.length:=by
  rcases Nat.lt_or_ge b σ.length with h|h
  ·exact h
  ·rw[hs.dom b h] at hbo;cases hbo
 unfold Proofs.YtephecognbbaoaaGreat.cut;rw[if_pos hlt];exact ho _ _ hbo
theorem jR (op:Op) (hs:Sim K0 imm m w σ) (hev:∀x av,ev x=some av→Rep imm m (ρ x) av) {v:AV} (h:bk P op ev σ v)
  {dst:Option Tmp} {type:TypeId} {pos:String} {after:Array Edge} {guard:Option (Nat×Bool)} :
  Up P K0 imm m (fun v' σ'=>v'=v∧σ'=σ) ((execOp ρ { dst,op,type,pos,after,guard }).run P w):=by
 have key:∀ {k n c:Nat} {es:List (List AV)},AOp P op ev σ (fun v' σ'=>v' = .own σ.length k 0 n c∧σ'=σ++[.cells k es])→n=es.length→(∀imm m,(∀x av,ev x=some av→Rep imm m (ρ x) av)→(∀b,σ.length≤b→m b=none)→∀i (hi:i<es.length) j (hj:j<es[i].length),Bd σ.length es[i][j])→v = .sl es →
   Up P K0 imm m (fun v' σ'=>v'=v∧σ'=σ) ((execOp ρ { dst,op,type,pos,after,guard }).run P w):=by
  intro k n c es h hn hbd hv;have hup:=eL (P:=P) (dst:=dst) (type:=type) (pos:=pos) (after:=after) (guard:=guard) op hs hev h
  generalize (execOp ρ { dst,op,type,pos,after,guard }).run P w=r at hup
  have hb:=hbd imm m hev hs.dom
  cases r with
  | halt x w'=>exact hup.elim
  | ok nx w'=>
   cases nx with
   | value u=>
    obtain⟨i,m',av,σ',a1,a2,a3,a4,rfl,rfl⟩:=hup;obtain⟨i2,m2,b1,b2,b3,b4⟩:=mX hs a1 a2 a3 a4 hn hb;exact⟨i2,m2,_,σ,b1,b2,b3,b4,hv.symm,rfl⟩
   | skip=>
    obtain⟨i,m',av,σ',a1,a2,a3,a4,rfl,rfl⟩:=hup;obtain⟨i2,m2,b1,b2,b3,b4⟩:=mX hs a1 a2 a3 a4 hn hb;exact⟨i2,m2,_,σ,b1,b2,b3,b4,hv.symm,rfl⟩
   | enter f args=>
    refine Calls.mono hup ?_;rintro e w'' ⟨i,m',u,av,σ',rfl,a1,a2,a3,a4,rfl,rfl⟩;obtain⟨i2,m2,b1,b2,b3,b4⟩:=mX hs a1 a2 a3 a4 hn hb;exact⟨i2,m2,u,_,σ,rfl,b1,b2,b3,b4,hv.symm,rfl⟩
   | round l f tmps assign body=>
    refine RoundIn.mono hup ?_;rintro e w'' ⟨i,m',u,av,σ',rfl,a1,a2,a3,a4,rfl,rfl⟩;obtain⟨i2,m2,b1,b2,b3,b4⟩:=mX hs a1 a2 a3 a4 hn hb;exact⟨i2,m2,u,_,σ,rfl,b1,b2,b3,b4,hv.symm,rfl⟩
   | _=>exact hup.elim
 cases op with
 | buildSlice T n parts=>
  simp only[bk] at h
  replace h:=aj h;obtain⟨k,hk,h⟩:=h
  replace h:=aj h;obtain⟨ps,hps,h⟩:=h
  replace h:=aj h;obtain⟨es,hes,h⟩:=h
  obtain⟨h1,h2,h3,h4⟩:=h;refine key (k:=k) (n:=n) (c:=n) (es:=es) ?_ h1.symm (fun imm m hev hdom i hi j hj=>?_) h4
  ·simp only[AOp,hk,hps,hes,aX];exact⟨h1,h2,h3,by simp⟩
  ·have hp:=p7 hev _ _ hps;have hrow:∀(ps:List (Nat×AV)) (i0:Nat) (es:List (List AV)),ll k i0 ps=some es→(∀p∈ps,Bd σ.length p.2)→∀i (hi:i<es.length) j (hj:j<es[i].length),Bd σ.length es[i][j]:=by
    intro ps
    induction ps with
    | nil=>intro i0 es h;cases h;intro _ i hi;simp at hi
    | cons p r ih=>
     obtain⟨q,v⟩:=p;intro i0 es h hb i hi j hj;simp only[ll] at h
     split at h
     ·obtain⟨l,hl,rfl⟩:=Option.map_eq_some_iff.1 h
      cases i with
      | zero=>
       have hv:=hb (q,v) (by simp)
       simp only[List.getElem_cons_zero] at hj ⊢
       cases v with
       | agg l=>cases hv with|agg _ hv=>exact hv _ _
       | c u=>
        cases u with
        | agg cs=>
         simp only[cd,List.getElem_map];exact .c _
        | _=>
         simp only[cd,List.length_cons,List.length_nil] at hj;obtain rfl:j=0:=by omega
         exact .c _
       | _=>
        simp only[cd,List.length_cons,List.length_nil] at hj;obtain rfl:j=0:=by omega
        exact hv
      | succ i=>
       simp only[List.getElem_cons_succ] at hj ⊢;exact ih (i0+1) l hl (fun p hp=>hb p (by simp [hp])) i _ j _
     ·cases h
   refine hrow ps 0 es hes (fun p hpm=>?_) i hi j hj;obtain⟨y,hy,rfl⟩:=List.getElem_of_mem hpm;exact (hp.2 y (by have:=hp.1;omega) hy).2.bd hdom
 | makeSlice T l c=>
  simp only[bk] at h
  replace h:=aj h;obtain⟨nl,hl,h⟩:=h
  replace h:=aj h;obtain⟨nc,hc,h⟩:=h
  split at h
  ·rename_i e hT
   replace h:=aj h;obtain⟨z,hz,h⟩:=h
   obtain⟨h1,h2,rfl,h3,h4,h5⟩:=h;refine key (k:=P.cellsOf e) (n:=nl.toNat) (c:=nl.toNat) (es:=List.replicate nl.toNat z) ?_ (by simp) (fun imm m hev hdom i hi j hj=>?_) h5
   ·simp only[AOp,qk,hl,hc,aX,hT,hz];exact⟨h1,h2,by omega,h3,h4,by simp⟩
   ·obtain⟨v,_,_,rfl,_⟩:=fF (P:=P) (imm:=imm) (m:=m) (w:=w) hz;simp only[List.getElem_replicate,List.getElem_map];exact .c _
  ·exact h.elim
 | _=>
  simp only[bk] at h;exact eL _ hs hev h
end
def nm (P:Program) (N:Nat) (ops:List Oper) (σ:aa) (mk:Option (TypeId×List AV)) (K:AF→Prop):List Oper→AF→Prop
 | [],α=>K α
 | o::r,α=>dC ops o.guard α fun α=>dk ops o.guard α
   (fun α=>∃v,((∀τ,bk P o.op (evF α) (σ++τ) v)∨(o.guard=none∧∃T z,mk=some (T,z)∧o.op = .alloc T∧v = .ptr σ.length z.length 0 0))∧br N o.dst v α fun α'=>nm P N ops σ mk K r α')
   (fun α=>br N o.dst (.c undef) α fun α'=>nm P N ops σ mk K r α')
section
variable {rd:Option Nat} {P:Program} {N:Nat} {K0:World} {ops:List Oper} {σ:aa} {α0:AF}
def frL (ops:List Oper) (α0:AF) (vs:Nat→AV):Nat→AF
 | 0=>α0
 | j+1=>match (ops[j]?).bind (·.dst) with
  | some d=>(d,vs j)::frL ops α0 vs j
  | none=>frL ops α0 vs j
def pr (P:Program) (N:Nat) (ops:List Oper) (σ:aa) (mk:Option (TypeId×List AV)) (α:AF) (o:Oper) (b:Bool) (v:AV):Prop:=
  (∀d,o.dst=some d→d<N) ∧
  ((b=true∧((∀τ,bk P o.op (evF α) (σ++τ) v)∨(o.guard=none∧∃T z,mk=some (T,z)∧o.op = .alloc T∧v = .ptr σ.length z.length 0 0))∧(∀g want,o.guard=some (g,want)→∃d,(ops[g]?).bind (·.dst)=some d∧aB α d=some (.c (.bool want)))) ∨
   (b=false∧v = .c undef∧∃g want d,o.guard=some (g,want)∧(ops[g]?).bind (·.dst)=some d∧(aB α d=some (.c (.bool (!want)))∨∃t,aB α d=some (.c (.tuple t)))))
theorem nI {α β:AF} (h:∀t,aB β t=aB α t):evF β=evF α:=by
 funext x
 cases x with
 | tmp t=>exact h t
 | _=>rfl
theorem l0 {mk:Option (TypeId×List AV)} {K:AF→Prop} : ∀(l:List Oper) (k:Nat) (vs0:Nat→AV) (bs0:Nat→Bool) (β:AF),(∀t,aB β t=aB (frL ops α0 vs0 k) t)→(∀j,j<l.length→l[j]? = ops[k+j]?)→nm P N ops σ mk K l β →
  ∃(vs:Nat→AV) (bs:Nat→Bool),(∀j,j<k→vs j=vs0 j∧bs j=bs0 j)∧(∀j (h:j<l.length),pr P N ops σ mk (frL ops α0 vs (k+j)) l[j] (bs (k+j)) (vs (k+j)))∧∃γ,(∀t,aB γ t=aB (frL ops α0 vs (k+l.length)) t)∧K γ
 | [],k,vs0,bs0,β,hβ,_,h=>⟨vs0,bs0,fun _ _=>⟨rfl,rfl⟩,fun j h=>by simp at h,β,hβ,h⟩
 | o::r,k,vs0,bs0,β,hβ,hl,h=>by
  have frcongr:∀(k:Nat) (vs vs':Nat→AV),(∀j,j<k→vs j=vs' j)→frL ops α0 vs k=frL ops α0 vs' k:=by
   intro k
   induction k with
   | zero=>intro vs vs' _;rfl
   | succ k ih=>
    intro vs vs' he;simp only[frL,he k (by omega),ih vs vs' fun j hj=>he j (by omega)]
  have ho:ops[k]? = some o:=by have:=hl 0 (by simp);simpa using this.symm
  have go:∀(b:Bool) (v:AV) (β:AF),(∀t,aB β t=aB (frL ops α0 vs0 k) t)→pr P N ops σ mk (frL ops α0 vs0 k) o b v→br N o.dst v β (fun α'=>nm P N ops σ mk K r α') →
    ∃(vs:Nat→AV) (bs:Nat→Bool),(∀j,j<k→vs j=vs0 j∧bs j=bs0 j)∧(∀j (h:j<(o::r).length),pr P N ops σ mk (frL ops α0 vs (k+j)) (o::r)[j] (bs (k+j)) (vs (k+j)))∧∃γ,(∀t,aB γ t=aB (frL ops α0 vs (k+(o::r).length)) t)∧K γ:=by
   intro b v β hβ hst hput
   let vs1:Nat→AV:=fun j=>if j=k then v else vs0 j
   let bs1:Nat→Bool:=fun j=>if j=k then b else bs0 j
   have hfr:frL ops α0 vs1 k=frL ops α0 vs0 k:=frcongr k _ _ fun j hj=>by simp only[vs1];rw[if_neg (by omega)]
   obtain⟨β',hβ',hq⟩:∃β',(∀t,aB β' t=aB (frL ops α0 vs1 (k+1)) t)∧nm P N ops σ mk K r β':=by
    have hd:(ops[k]?).bind (·.dst)=o.dst:=by rw[ho];rfl
    unfold br at hput
    cases hdst:o.dst with
    | none=>
     rw[hdst] at hput hd;refine⟨β,fun t=>?_,hput⟩;simp only[frL,hd,hfr];exact hβ t
    | some d=>
     rw[hdst] at hput hd;refine⟨_,fun t=>?_,hput.2⟩;simp only[frL,hd,hfr,aB,vs1,if_true]
     split
     ·rfl
     ·exact hβ t
   obtain⟨vs,bs,h1,h2,γ,h3,h4⟩:=l0 r (k+1) vs1 bs1 β' hβ' (fun j hj=>by
    have:=hl (j+1) (by simp;omega)
    rw[show k+1+j=k+(j+1) by omega,←this]
    rfl) hq
   refine⟨vs,bs,fun j hj=>?_,fun j hj=>?_,γ,by rw[show k+(o::r).length=k+1+r.length by simp;omega];exact h3,h4⟩
   ·have:=h1 j (by omega)
    simp only[vs1,bs1,if_neg (show ¬j=k by omega)] at this
    exact this
   ·cases j with
    | zero=>
     have e1:=h1 k (by omega)
     simp only[vs1,bs1,if_true] at e1;simp only[Nat.add_zero,List.getElem_cons_zero,e1.1,e1.2];rw[frcongr k vs vs0 fun j hj=>by have:=h1 j (by omega);simp only[vs1,if_neg (show ¬j=k by omega)] at this;exact this.1]
     exact hst
    | succ j=>
     have:=h2 j (by simpa using hj)
     rw[show k+1+j=k+(j+1) by omega] at this
     exact this
  simp only[nm] at h;obtain⟨β1,hβ1,h⟩:=jo h;have hb:∀t,aB β1 t=aB (frL ops α0 vs0 k) t:=fun t=>(hβ1 t).trans (hβ t);clear hβ1 hβ;unfold dk at h
  cases hg:o.guard with
  | none=>
   rw[hg] at h;obtain⟨v,hv,hp⟩:=h;rw[nI hb] at hv;refine go true v β1 hb ⟨fun d hd=>?_,.inl ⟨rfl,(by rw[hg];exact hv),fun g want h=>by rw[hg] at h;cases h⟩⟩ hp
   rw[hd] at hp;exact hp.1
  | some g=>
   obtain⟨g,want⟩:=g;rw[hg] at h
   replace h:=aj h;obtain⟨d,hd,h⟩:=h
   replace h:=aj h;obtain⟨u,hu,h⟩:=h
   rw[hb] at hu;have skip:(aB (frL ops α0 vs0 k) d=some (.c (.bool (!want)))∨∃t,aB (frL ops α0 vs0 k) d=some (.c (.tuple t)))→br N o.dst (.c undef) β1 (fun α'=>nm P N ops σ mk K r α')→_:=fun hu hp=>
    go false (.c undef) β1 hb ⟨fun d hd=>by rw[hd] at hp;exact hp.1,.inr ⟨rfl,rfl,g,want,d,hg,hd,hu⟩⟩ hp
   have step:aB (frL ops α0 vs0 k) d=some (.c (.bool want))→(∃v,((∀τ,bk P o.op (evF β1) (σ++τ) v)∨(o.guard=none∧∃T z,mk=some (T,z)∧o.op = .alloc T∧v = .ptr σ.length z.length 0 0))∧br N o.dst v β1 fun α'=>nm P N ops σ mk K r α')→_:=fun hu ⟨v,hv,hp⟩=>
    go true v β1 hb ⟨fun d hd=>by rw[hd] at hp;exact hp.1,.inl ⟨rfl,by rw[nI hb] at hv;exact hv,fun g' want' h'=>by
     rw[hg] at h'
     cases h'
     exact⟨d,hd,hu⟩⟩⟩ hp
   split at h
   ·cases want
    ·exact skip (.inl hu) h
    ·exact step hu (by rw[hg];exact h)
   ·cases want
    ·exact step hu (by rw[hg];exact h)
    ·exact skip (.inl hu) h
   ·rename_i t
    exact skip (.inr ⟨t,hu⟩) h
   ·exact h.elim
def uX (ops:List Oper) (S:Nat→Prop) (t i:Nat):Prop:=
 S i∧(ops[i]?).bind (·.dst)=some t∧∀i',S i'→(ops[i']?).bind (·.dst)=some t→i'≤i
def NoW (ops:List Oper) (S:Nat→Prop) (t:Nat):Prop:=∀i,S i→(ops[i]?).bind (·.dst)≠some t
theorem qw (vs:Nat→AV):∀(j t:Nat) (av:AV),aB (frL ops α0 vs j) t=some av→(∃i,uX ops (· < j) t i∧av=vs i)∨(NoW ops (· < j) t∧aB α0 t=some av)
 | 0,t,av,h=>.inr ⟨fun i hi=>by omega,h⟩
 | j+1,t,av,h=>by
  simp only[frL] at h;have up:∀ {i},(ops[j]?).bind (·.dst)≠some t→uX ops (· < j) t i→uX ops (· < j+1) t i:=fun hne hi=>
   ⟨by have:=hi.1;omega,hi.2.1,fun i' hi' hd=>by
    rcases Nat.lt_or_ge i' j with h|h
    ·exact hi.2.2 i' h hd
    ·obtain rfl:i'=j:=by omega
     exact absurd hd hne⟩
  have up2:(ops[j]?).bind (·.dst)≠some t→NoW ops (· < j) t→NoW ops (· < j+1) t:=fun hne hn i hi=>by
   rcases Nat.lt_or_ge i j with h|h
   ·exact hn i h
   ·obtain rfl:i=j:=by omega
    exact hne
  split at h
  ·rename_i d hd
   simp only[aB] at h
   split at h
   ·rename_i e
    subst e
    cases h
    exact .inl ⟨j,⟨by omega,hd,fun i' hi' _=>by omega⟩,rfl⟩
   ·rename_i hne
    have hne':(ops[j]?).bind (·.dst)≠some t:=by rw[hd];intro e;cases e;exact hne rfl
    rcases qw vs j t av h with ⟨i,hi,e⟩|⟨hn,e⟩
    ·exact .inl ⟨i,up hne' hi,e⟩
    ·exact .inr ⟨up2 hne' hn,e⟩
  ·rename_i hd
   have hne':(ops[j]?).bind (·.dst)≠some t:=by rw[hd];simp
   rcases qw vs j t av h with ⟨i,hi,e⟩|⟨hn,e⟩
   ·exact .inl ⟨i,up hne' hi,e⟩
   ·exact .inr ⟨up2 hne' hn,e⟩
structure Inv (K0:World) (ops:List Oper) (N:Nat) (α0:AF) (vs:Nat→AV) (S:Nat→Prop) (imm:Imm) (m:Own) (a:Act):Prop where
 defers:lu K0 imm a.defers
 size:a.tmps.size=N
 last:∀t i,uX ops S t i→∃v,a.tmps[t]? = some v∧Rep imm m v (vs i)
 none:∀t av,NoW ops S t→aB α0 t=some av→∃v,a.tmps[t]? = some v∧Rep imm m v av
def o9 (ops:List Oper) (p:Nat):Prop:=∀i j x y,i<j→ops[i]? = some x→ops[j]? = some y →
 ((∃d,x.dst=some d∧d∈bN ops y)∨(∃d,y.dst=some d∧d∈bN ops x)∨p≤j)→Anc ops i j
def nO (ops:List Oper) (S:Nat→Prop):Prop:=∀i,S i→i<ops.length∧∀x,Anc ops x i→S x
theorem Cv {o:Oper} {d:Nat} (h:o.dst=some d):d∈bN ops o:=by simp [bN,h]
theorem tP {i d:Nat} (h:(ops[i]?).bind (·.dst)=some d):∃x,ops[i]? = some x∧x.dst=some d:=by
 cases hx:ops[i]? with
 | none=>rw[hx] at h;cases h
 | some x=>rw[hx] at h;exact⟨x,rfl,h⟩
theorem Inv.names {p j:Nat} {o:Oper} {vs:Nat→AV} {S:Nat→Prop} {imm:Imm} {m:Own} {a:Act} (hI:Inv K0 ops N α0 vs S imm m a) (hc:o9 ops p) (hS:nO ops S)
  (ho:ops[j]? = some o) (hj:¬S j) (hanc:∀x,Anc ops x j→S x):FOk K0 imm m N a (gM (bN ops o) (frL ops α0 vs j)):=by
 refine⟨hI.defers,hI.size,fun t av ht=>?_⟩;rw[dL] at ht
 split at ht
 ·rename_i hmem
  have hmem:t∈bN ops o:=by simpa using hmem
  have later:∀i',S i'→(ops[i']?).bind (·.dst)=some t→i'<j:=fun i' hi' hd=>by
   rcases Nat.lt_or_ge i' j with h|h
   ·exact h
   ·exfalso
    rcases Nat.lt_or_ge j i' with h'|h'
    ·obtain⟨x,hx,hxd⟩:=tP hd;exact hj ((hS i' hi').2 j (hc j i' o x h' ho hx (.inr (.inl ⟨t,hxd,hmem⟩))))
    ·obtain rfl:i'=j:=by omega
     exact hj hi'
  rcases qw vs j t av ht with ⟨i,hi,rfl⟩|⟨hn,h0⟩
  ·obtain⟨x,hx,hxd⟩:=tP hi.2.1;exact hI.last t i ⟨hanc i (hc i j x o hi.1 hx ho (.inl ⟨t,hxd,hmem⟩)),hi.2.1,fun i' hi' hd=>hi.2.2 i' (later i' hi' hd) hd⟩
  ·exact hI.none t av (fun i hi hd=>hn i (later i hi hd) hd) h0
 ·cases ht
theorem Inv.mono {vs:Nat→AV} {S:Nat→Prop} {imm imm':Imm} {m m':Own} {a:Act} (hI:Inv K0 ops N α0 vs S imm m a) (hi:ILe imm imm') (ho:OLe m m'):Inv K0 ops N α0 vs S imm' m' a:=
 ⟨hI.defers.mono hi,hI.size,fun t i h=>let ⟨v,e,r⟩:=hI.last t i h;⟨v,e,r.mono hi ho⟩,fun t av h h'=>let ⟨v,e,r⟩:=hI.none t av h h';⟨v,e,r.mono hi ho⟩⟩
theorem Inv.step {p j:Nat} {o:Oper} {vs:Nat→AV} {S:Nat→Prop} {imm:Imm} {m:Own} {a:Act} {v:Value} (hI:Inv K0 ops N α0 vs S imm m a) (hc:o9 ops p) (hS:nO ops S)
  (ho:ops[j]? = some o) (hj:¬S j) (hd:∀d,o.dst=some d→d<N) (hr:Rep imm m v (vs j)):Inv K0 ops N α0 vs (fun i=>S i∨i=j) imm m (a.put o.dst v):=by
 have hb:(ops[j]?).bind (·.dst)=o.dst:=by rw[ho];rfl
 have hsz:=hI.size;refine⟨by cases o.dst<;>exact hI.defers,?_,fun t i h=>?_,fun t av hn h0=>?_⟩
 ·cases o.dst<;>simp [Act.put,hsz]
 ·by_cases htj:o.dst=some t
  ·have hij:i=j:=by
    rcases h.1 with hi|hi
    ·exfalso
     obtain⟨x,hx,hxd⟩:=tP h.2.1;have h1:=h.2.2 j (.inr rfl) (by rw[hb,htj])
     have h2:j≠i:=fun e=>hj (e▸hi);exact hj ((hS i hi).2 j (hc j i o x (by omega) ho hx (.inl ⟨t,htj,Cv hxd⟩)))
    ·exact hi
   subst hij;have:=hd t htj;exact⟨v,by rw[htj];simp [Act.put,hsz,this],hr⟩
  ·have hne:i≠j:=fun e=>by
    subst e;exact htj (by rw[←hb];exact h.2.1)
   have hi:S i:=h.1.resolve_right hne;obtain⟨u,e,r⟩:=hI.last t i ⟨hi,h.2.1,fun i' hi' hd'=>h.2.2 i' (.inl hi') hd'⟩;refine⟨u,?_,r⟩
   cases hod:o.dst with
   | none=>simpa [Act.put] using e
   | some d=>
    have:d≠t:=fun e=>htj (by rw[hod,e])
    simp [Act.put,Array.getElem?_setIfInBounds,this,e]
 ·obtain⟨u,e,r⟩:=hI.none t av (fun i hi=>hn i (.inl hi)) h0;refine⟨u,?_,r⟩;have hjt:=hn j (.inr rfl);rw[hb] at hjt
  cases hod:o.dst with
  | none=>simpa [Act.put] using e
  | some d=>
   have:d≠t:=fun e=>hjt (by rw[hod,e])
   simp [Act.put,Array.getElem?_setIfInBounds,this,e]
theorem Inv.done {k:Nat} {vs:Nat→AV} {S:Nat→Prop} {imm:Imm} {m:Own} {a:Act} (hI:Inv K0 ops N α0 vs S imm m a) (hk:∀i,S i↔i<k):FOk K0 imm m N a (frL ops α0 vs k):=by
 refine⟨hI.defers,hI.size,fun t av ht=>?_⟩
 rcases qw vs k t av ht with ⟨i,hi,rfl⟩|⟨hn,h0⟩
 ·exact hI.last t i ⟨(hk i).2 hi.1,hi.2.1,fun i' hi' hd=>hi.2.2 i' ((hk i').1 hi') hd⟩
 ·exact hI.none t av (fun i hi=>hn i ((hk i).1 hi)) h0
theorem cN {o:Oper} {g:Nat} {want:Bool} {d:Nat} (hg:o.guard=some (g,want)) (hd:(ops[g]?).bind (·.dst)=some d):d∈bN ops o:=by
 simp [bN,hg,hd]
theorem gN {o:Oper} {t:Nat} (h:Operand.tmp t∈o.op.operands):t∈bN ops o:=by
 simp only[bN,List.mem_append,List.mem_filterMap];exact .inl (.inr ⟨.tmp t,by simpa using h,rfl⟩)
theorem jS {P:Program} {op:Op} {ev:Operand→Option AV} {v:AV} (h:bk P op ev σ v):∀c,op ≠ .defer c:=by
 rintro c rfl;exact h
theorem p5 {P:Program} {mk:Option (TypeId×List AV)} {τ:aa} {p j:Nat} {o:Oper} {vs:Nat→AV} {b:Bool} {S:Nat→Prop} {imm:Imm} {m:Own} {a:Act} {w:World} {next:Act→World→Prop} {Q:Exit→Act→World→Prop}
  (hs:Sim K0 imm m w (σ++τ)) (hI:Inv K0 ops N α0 vs S imm m a) (hc:o9 ops p) (hS:nO ops S) (ho:ops[j]? = some o) (hj:¬S j) (hanc:∀x,Anc ops x j→S x)
  (hsel:∀cs b,o.op ≠ .select cs b) (hnm:mk=none∨∀T,o.op ≠ .alloc T) (hok:pr P N ops σ mk (frL ops α0 vs j) o b (vs j))
  (hnext:∀imm' m' v w',ILe imm imm'→OLe m m'→Sim K0 imm' m' w' (σ++τ)→Inv K0 ops N α0 vs (fun i=>S i∨i=j) imm' m' (a.put o.dst v)→next (a.put o.dst v) w') :
  wpOpIn (Rnd rd) 0 P ops.toArray Q j next a w:=by
 have hf:=hI.names hc hS ho hj hanc;have hlk:∀d av,d∈bN ops o→aB (frL ops α0 vs j) d=some av→aB (gM (bN ops o) (frL ops α0 vs j)) d=some av:=fun d av hd h=>by
  rw[dL,if_pos (by simpa using hd)];exact h
 have hyield:∀(g d:Nat) (u:Value),(ops[g]?).bind (·.dst)=some d→aB (frL ops α0 vs j) d=some (.c u)→d∈bN ops o→((ops.toArray[g]?).bind (·.dst)).bind (a.tmps[·]?)=some u:=fun g d u hgd hu hm=>by
  obtain⟨x,hx,r⟩:=hf.slot d _ (hlk d _ hm hu);simp only[List.getElem?_toArray,hgd,Option.bind_some,hx,r.c_inv]
 have hoa:ops.toArray[j]? = some o:=by simpa using ho
 unfold wpOpIn;simp only[hoa];obtain⟨hdN,⟨rfl,hq,hg⟩|⟨rfl,hv,g,want,d,hg,hgd,hu⟩⟩:=hok
 ·have hw:Region.wanted o (yielded ops.toArray a.tmps)=true:=by
   cases hgo:o.guard with
   | none=>simp [Region.wanted,hgo]
   | some gw=>
    obtain⟨g,want⟩:=gw;obtain⟨d,hgd,hu⟩:=hg g want hgo;have hy:yielded ops.toArray a.tmps g=some want:=by simp only[yielded,hyield g d _ hgd hu (cN hgo hgd)]
    simp [Region.wanted,hgo,hy]
  rw[if_pos hw];have hq:∀τ,bk P o.op (evF (frL ops α0 vs j)) (σ++τ) (vs j):=by
   rcases hq with hq|⟨_,T,z,h1,h2,_⟩
   ·exact hq
   ·rcases hnm with h|h
    ·rw[h] at h1;cases h1
    ·exact absurd h2 (h T)
  have hq':bk P o.op (evF (gM (bN ops o) (frL ops α0 vs j))) (σ++τ) (vs j):=by
   rw[←m6 o.op hsel (fun x hx=>?_) (σ++τ) (vs j)]
   ·exact hq τ
   ·cases x with
    | tmp t=>simp only[evF];rw[dL,if_pos (by simpa using gN hx)]
    | _=>rfl
  have hup:=jR (dst:=o.dst) (type:=o.type) (pos:=o.pos) (after:=o.after) (guard:=o.guard) o.op hs (ff hf) hq';refine dc (jS hq') hup fun imm' m' v av σ' w' hi hoo hs' hr hk=>?_;obtain⟨rfl,rfl⟩:=hk;exact hnext imm' m' v w' hi hoo hs' ((hI.mono hi hoo).step hc hS ho hj hdN hr)
 ·have hw:Region.wanted o (yielded ops.toArray a.tmps)=false:=by
   rcases hu with hu|⟨t,hu⟩
   ·have hy:yielded ops.toArray a.tmps g=some (!want):=by simp only[yielded,hyield g d _ hgd hu (cN hg hgd)]
    simp [Region.wanted,hg,hy]
   ·have hy:yielded ops.toArray a.tmps g=none:=by simp only[yielded,hyield g d _ hgd hu (cN hg hgd)]
    simp [Region.wanted,hg,hy]
  rw[if_neg (by rw[hw];simp)]
  exact⟨fun _ _=>jQ _ _,hnext imm m undef w (.refl _) (.refl _) hs (hI.step hc hS ho hj hdN (by rw[hv];exact .c _))⟩
theorem rG {listed:Array Bool} {i:Nat} (h:i∈Region.ready .any ops.toArray listed) (hl:listed.size=ops.length) :
  ∃o,ops[i]? = some o∧listed.getD i true=false∧∀e∈o.after.toList,Region.binds .any e=true→listed.getD e.on false=true:=by
 simp only[Region.ready,List.mem_filter,List.mem_range,List.size_toArray,Bool.and_eq_true,Bool.not_eq_true'] at h;obtain⟨h1,h2,h3⟩:=h;have ho:ops[i]? = some ops[i]:=List.getElem?_eq_getElem h1;refine⟨ops[i],ho,h2,fun e he hb=>?_⟩;simp only[List.getElem?_toArray,ho,Option.map_some,Option.getD_some] at h3;have:=Array.all_eq_true_iff_forall_mem.1 h3 e (by simpa using he)
 simpa [hb] using this
theorem sm {S:Nat→Prop} {j:Nat} {o:Oper} (ho:ops[j]? = some o) (hS:nO ops S) (h:∀e∈o.after.toList,Region.binds .any e=true→S e.on):∀x,Anc ops x j→S x:=by
 have key:∀x y,Anc ops x y→y=j→S x:=by
  intro x y hy
  induction hy with
  | edge i y o' e hj he hb hi=>
   rintro rfl;rw[ho] at hj
   cases hj
   rw[←hi];exact h e he hb
  | trans i y k h1 h2 ih1 ih2=>
   rintro rfl;exact (hS y (ih2 rfl)).2 i h1
 intro x hx;exact key x j hx rfl
theorem sn (hb:bT ops=true) {i j:Nat} (h:Anc ops i j):i<j:=by
 induction h with
 | edge i j o e hj he hbb hi=>
  simp only[bT,List.all_eq_true] at hb;have hm:(o,j)∈ops.zipIdx:=by
   rw[List.mem_zipIdx_iff_getElem?];exact hj
  have:=hb (o,j) hm e he;rw[hbb] at this;simp at this;omega
 | trans i j k _ _ h1 h2=>omega
theorem yw (l:Array Bool) (i j:Nat) (d:Bool) (hi:i<l.size):(l.setIfInBounds i true).getD j d=if i=j then true else l.getD j d:=by
 simp only[Array.getD_eq_getD_getElem?,Array.getElem?_setIfInBounds]
 split
 ·rename_i h;subst h;simp [hi]
 ·rfl
def left (listed:Array Bool):Nat:=(listed.toList.filter (! ·)).length
theorem DR (l:Array Bool) (i:Nat) (hi:i<l.size) (h:l.getD i true=false):left (l.setIfInBounds i true)+1=left l:=by
 have key:∀(l:List Bool) (i:Nat) (hi:i<l.length),l[i]=false→((l.set i true).filter (! ·)).length+1=(l.filter (! ·)).length:=by
  intro l
  induction l with
  | nil=>intro i hi;simp at hi
  | cons b r ih=>
   intro i hi hb
   cases i with
   | zero=>simp at hb;simp [hb]
   | succ i=>
    have:=ih i (by simpa using hi) (by simpa using hb)
    cases b<;>simp [List.set_cons_succ]<;>omega
 have:=key l.toList i (by simpa using hi) (by simpa [Array.getD_eq_getD_getElem?,hi] using h)
 simpa [left] using this
theorem Cj (l:Array Bool) (h:left l=0) (i:Nat) (hi:i<l.size):l.getD i true=true:=by
 have:=List.eq_nil_of_length_eq_zero h;rw[List.filter_eq_nil_iff] at this;have:=this l[i] (by simp)
 simp [Array.getD_eq_getD_getElem?,hi]
 simpa using this
theorem gn {P:Program} {md:Region.Mode} {os:Array Oper} {Q Q':Exit→Act→World→Prop} (hq:∀e a w,Q e a w→Q' e a w):∀(fuel:Nat) (listed:Array Bool) (a:Act) (w:World),wpAnyIn (Rnd rd) 0 P md os Q fuel listed a w→wpAnyIn (Rnd rd) 0 P md os Q' fuel listed a w
 | 0,_,_,_,h=>⟨h.1,hq _ _ _ h.2⟩
 | fuel+1,listed,a,w,h=>⟨fun h0=>hq _ _ _ (h.1 h0),fun i hi=>by
  have h1:=h.2 i hi;unfold wpOpIn at h1 ⊢
  split
  ·rename_i ho
   simp only[ho] at h1;exact gn hq fuel _ _ _ h1
  ·rename_i o ho
   simp only[ho] at h1
   split
   ·rename_i hw
    rw[if_pos hw] at h1;exact⟨h1.1,sL (fun a w=>gn hq fuel _ a w) hq h1.2⟩
   ·rename_i hw
    rw[if_neg hw] at h1;exact⟨h1.1,gn hq fuel _ _ _ h1.2⟩⟩
theorem xh {P:Program} {Q:bV} {p:Nat} (hb:bT ops=true) (hc:o9 ops p):∀(fuel k:Nat) (listed:Array Bool) (a:Act) (w:World) (imm:Imm) (m:Own) (α:AF) (σ:aa),
  p≤k→listed.size=ops.length→(∀i,i<ops.length→(listed.getD i true=true↔i<k))→k+fuel=ops.length→Sim K0 imm m w σ→FOk K0 imm m N a α →
  dw P N ops (fun α σ=>Q .normal α σ) (ops.drop k) α σ→wpAnyIn (Rnd rd) 0 P .any ops.toArray (dS K0 N imm m Q) fuel listed a w:=by
 intro fuel
 induction fuel with
 | zero=>
  intro k listed a w imm m α σ hp hl hk hf hs hfo h;refine⟨?_,imm,m,α,σ,.refl _,.refl _,hs,hfo,?_⟩
  ·apply List.eq_nil_iff_forall_not_mem.2;intro i hi;obtain⟨o,ho,hli,_⟩:=rG hi hl;have hi':=(List.getElem?_eq_some_iff.1 ho).1;rw[(hk i hi').2 (by omega)] at hli
   cases hli
  ·rw[List.drop_eq_nil_of_le (by omega)] at h
   exact h
 | succ fuel ih=>
  intro k listed a w imm m α σ hp hl hk hf hs hfo h;have hklt:k<ops.length:=by omega
  have ho:ops[k]? = some ops[k]:=List.getElem?_eq_getElem hklt;have hdrop:ops.drop k=ops[k]::ops.drop (k+1):=List.drop_eq_getElem_cons hklt;rw[hdrop] at h;have hkf:listed.getD k true=false:=by
   cases hx:listed.getD k true with
   | false=>rfl
   | true=>have:=(hk k hklt).1 hx;omega
  have hfalse:∀i d,i<ops.length→listed.getD i d=listed.getD i true:=fun i d hi=>by simp [Array.getD_eq_getD_getElem?,hl,hi]
  have hready:k∈Region.ready .any ops.toArray listed:=by
   simp only[Region.ready,List.mem_filter,List.mem_range,List.size_toArray,Bool.and_eq_true,Bool.not_eq_true'];refine⟨hklt,hkf,?_⟩;simp only[List.getElem?_toArray,ho,Option.map_some,Option.getD_some];refine Array.all_eq_true_iff_forall_mem.2 fun e he=>?_
   cases hbb:Region.binds .any e with
   | false=>simp
   | true=>
    have hlt:=sn hb (.edge e.on k ops[k] e ho (by simpa using he) hbb rfl)
    simp only[Bool.not_true,Bool.false_or];rw[hfalse _ _ (by omega)]
    exact (hk e.on (by omega)).2 hlt
  refine⟨fun hnil=>(by rw[hnil] at hready;cases hready),fun i hi=>?_⟩
  obtain⟨o,hoi,hli,hedges⟩:=rG hi hl;have hi':=(List.getElem?_eq_some_iff.1 hoi).1;have hik:i=k:=by
   rcases Nat.lt_trichotomy i k with h1|h1|h1
   ·rw[(hk i hi').2 h1] at hli;cases hli
   ·exact h1
   ·exfalso
    have hanc:Anc ops k i:=hc k i ops[k] o h1 ho hoi (.inr (.inr (by omega)))
    have key:∀y,Anc ops k y→y=i→listed.getD k true=true:=by
     have hcl:nO ops (fun i=>i<k):=fun i hi=>⟨by omega,fun x hx=>by have:=sn hb hx;omega⟩
     intro y hy hyi;subst hyi;have:=sm hoi hcl (fun e he hbb=>by
      have:=hedges e he hbb;have hlt:=sn hb (.edge e.on y o e hoi he hbb rfl);rw[hfalse _ _ (by omega)] at this
      exact (hk e.on (by omega)).1 this) k hy
     omega
    rw[key i hanc rfl] at hkf
    cases hkf
  subst hik;rw[ho] at hoi
  cases hoi
  have hoa:ops.toArray[i]? = some ops[i]:=by simp
  unfold wpOpIn;simp only[hoa];have hset:∀j,j<ops.length→((listed.setIfInBounds i true).getD j true=true↔j<i+1):=fun j hj=>by
   rw[yw _ _ _ _ (by omega)]
   split
   ·rename_i e;subst e;simp
   ·rename_i e;rw[hk j hj];omega
  have mono:∀(imm':Imm) (m':Own),ILe imm imm'→OLe m m'→∀a' w',wpAnyIn (Rnd rd) 0 P .any ops.toArray (dS K0 N imm' m' Q) fuel (listed.setIfInBounds i true) a' w'→wpAnyIn (Rnd rd) 0 P .any ops.toArray (dS K0 N imm m Q) fuel (listed.setIfInBounds i true) a' w':=by
   intro imm' m' h1 h2;exact gn (fun e a w h=>cK h1 h2 h) fuel _
  simp only[dw] at h
  rcases jK hfo h with ⟨hw,β,hfb,h⟩|⟨hw,β,hfb,h⟩
  ·rw[if_pos hw];have hup:=eL (dst:=ops[i].dst) (type:=ops[i].type) (pos:=ops[i].pos) (after:=ops[i].after) (guard:=ops[i].guard) ops[i].op hs (ff hfb) h;refine dc (gK h) hup fun imm' m' v av σ' w' h1 h2 hs' hr hk'=>?_;obtain⟨α',hf',hk''⟩:=eE (hfb.mono h1 h2) hr hk';exact mono imm' m' h1 h2 _ _ (ih (i+1) _ _ _ imm' m' α' σ' (by omega) (by simp [hl]) hset (by omega) hs' hf' hk'')
  ·rw[if_neg (by rw[hw];simp)]
   obtain⟨α',hf',hk''⟩:=eE hfb (.c undef) h;refine⟨fun _ _=>jQ _ _,?_⟩;exact ih (i+1) _ _ _ imm m α' σ (by omega) (by simp [hl]) hset (by omega) hs hf' hk''
theorem lM {P:Program} {Q:bV} {p:Nat} {vs:Nat→AV} (sg:(Nat→Prop)→aa) (hb:bT ops=true) (hc:o9 ops p) (hsel:cy ops=true) (hp:p≤ops.length) (hfin:∀S:Nat→Prop,(∀i,i<p→S i)→sg S=σ)
  (hstep:∀(j:Nat) (o:Oper) (S:Nat→Prop) (imm:Imm) (m:Own) (a:Act) (w:World) (next:Act→World→Prop) (Q:Exit→Act→World→Prop),j<p→ops[j]? = some o→(∀cs b,o.op ≠ .select cs b)→Sim K0 imm m w (sg S)→Inv K0 ops N α0 vs S imm m a→nO ops S→¬S j→(∀x,Anc ops x j→S x) →
   (∀imm' m' v w',ILe imm imm'→OLe m m'→Sim K0 imm' m' w' (sg fun i=>S i∨i=j)→Inv K0 ops N α0 vs (fun i=>S i∨i=j) imm' m' (a.put o.dst v)→next (a.put o.dst v) w')→wpOpIn (Rnd rd) 0 P ops.toArray Q j next a w) {γ:AF} (hγ:∀t,aB γ t=aB (frL ops α0 vs p) t) (htail:dw P N ops (fun α σ=>Q .normal α σ) (ops.drop p) γ σ) :
  ∀(fuel:Nat) (listed:Array Bool) (a:Act) (w:World) (imm:Imm) (m:Own),left listed=fuel→listed.size=ops.length→nO ops (fun i=>i<ops.length∧listed.getD i true=true) →
  (∀i,i<ops.length→listed.getD i true=true→i<p)→Sim K0 imm m w (sg fun i=>i<ops.length∧listed.getD i true=true)→Inv K0 ops N α0 vs (fun i=>i<ops.length∧listed.getD i true=true) imm m a →
  wpAnyIn (Rnd rd) 0 P .any ops.toArray (dS K0 N imm m Q) fuel listed a w:=by
 intro fuel
 induction fuel with
 | zero=>
  intro listed a w imm m hl hsz hcl hlp hs hI;have hall:=Cj listed hl;have hpe:p=ops.length:=by
   rcases Nat.lt_or_ge p ops.length with h|h
   ·have:=hlp p h (hall p (by omega));omega
   ·omega
  rw[hfin _ (fun i hi=>⟨by omega,hall i (by omega)⟩)] at hs
  refine xh hb hc 0 p listed a w imm m _ σ (Nat.le_refl _) hsz (fun i hi=>⟨fun _=>by omega,fun _=>hall i (by omega)⟩) (by omega) hs ((hI.done fun i=>⟨fun h=>by have:=h.1;omega,fun h=>⟨by omega,hall i (by omega)⟩⟩).same hγ) htail
 | succ fuel ih=>
  intro listed a w imm m hl hsz hcl hlp hs hI
  by_cases hdone:∀i,i<p→listed.getD i true=true
  ·
   have hiff:∀i,i<ops.length→(listed.getD i true=true↔i<p):=fun i hi=>⟨hlp i hi,hdone i⟩;have hleft:p+(fuel+1)=ops.length:=by
    have key:∀(l:List Bool) (q:Nat),(∀i (h:i<l.length),l[i]=true↔i<q)→q≤l.length→(l.filter (! ·)).length=l.length-q:=by
     intro l
     induction l with
     | nil=>intro q _ _;simp
     | cons b r ihl=>
      intro q h hq
      cases q with
      | zero=>
       have h0:=h 0 (by simp)
       simp at h0;have:=ihl 0 (fun i hi=>by have:=h (i+1) (by simpa using hi);simpa using this) (by omega)
       simp [h0,this]
      | succ q=>
       have h0:=h 0 (by simp)
       simp at h0;have:=ihl q (fun i hi=>by have:=h (i+1) (by simpa using hi);simpa using this) (by simpa using hq)
       simp [h0,this]
    have:=key listed.toList p (fun i hi=>by
     have:=hiff i (by rw[←hsz];simpa using hi)
     simpa [Array.getD_eq_getD_getElem?,show i<listed.size by simpa using hi] using this) (by simp;omega)
    unfold left at hl;rw[this] at hl;simp at hl;omega
   rw[hfin _ (fun i hi=>⟨by omega,(hiff i (by omega)).2 hi⟩)] at hs
   exact xh hb hc (fuel+1) p listed a w imm m _ σ (Nat.le_refl _) hsz hiff hleft hs ((hI.done fun i=>⟨fun h=>(hiff i h.1).1 h.2,fun h=>⟨by omega,(hiff i (by omega)).2 h⟩⟩).same hγ) htail
  ·
   have hfalse:∀i d,i<ops.length→listed.getD i d=listed.getD i true:=fun i d hi=>by simp [Array.getD_eq_getD_getElem?,hsz,hi]
   obtain⟨k,⟨hk1,hk2⟩,hmin⟩:∃n,(n<p∧listed.getD n true=false)∧∀k,(k<p∧listed.getD k true=false)→n≤k:=by
    have:∃i,i<p∧listed.getD i true=false:=by
     by_cases h:∃i,i<p∧listed.getD i true=false
     ·exact h
     ·exact absurd (fun i hi=>by
       cases hx:listed.getD i true with
       | true=>rfl
       | false=>exact absurd ⟨i,hi,hx⟩ h) hdone
    obtain⟨n,hn⟩:=this;exact qp (p:=fun n=>n<p∧listed.getD n true=false) n hn
   have hklt:k<ops.length:=by omega
   have hkr:k∈Region.ready .any ops.toArray listed:=by
    simp only[Region.ready,List.mem_filter,List.mem_range,List.size_toArray,Bool.and_eq_true,Bool.not_eq_true'];have ho:ops[k]? = some ops[k]:=List.getElem?_eq_getElem hklt;refine⟨hklt,hk2,?_⟩;simp only[List.getElem?_toArray,ho,Option.map_some,Option.getD_some];refine Array.all_eq_true_iff_forall_mem.2 fun e he=>?_
    cases hbb:Region.binds .any e with
    | false=>simp
    | true=>
     have hlt:=sn hb (.edge e.on k ops[k] e ho (by simpa using he) hbb rfl)
     simp only[Bool.not_true,Bool.false_or];rw[hfalse _ _ (by omega)]
     cases hx:listed.getD e.on true with
     | true=>rfl
     | false=>have:=hmin e.on ⟨by omega,hx⟩;omega
   refine⟨fun hnil=>(by rw[hnil] at hkr;cases hkr),fun i hi=>?_⟩
   obtain⟨o,ho,hli,hedges⟩:=rG hi hsz;have hi':=(List.getElem?_eq_some_iff.1 ho).1;have hanc:=sm ho hcl (fun e he hbb=>by
    have:=hedges e he hbb;have hlt:=sn hb (.edge e.on i o e ho he hbb rfl);exact⟨by omega,by rw[hfalse _ _ (by omega)] at this;exact this⟩)
   have hip:i<p:=by
    rcases Nat.lt_or_ge i p with h|h
    ·exact h
    ·exfalso
     have hak:Anc ops k i:=hc k i ops[k] o (by omega) (List.getElem?_eq_getElem hklt) ho (.inr (.inr h))
     have:=(hanc k hak).2;rw[hk2] at this
     cases this
   have hSeq:∀j,(j<ops.length∧(listed.setIfInBounds i true).getD j true=true)↔((j<ops.length∧listed.getD j true=true)∨j=i):=fun j=>by
    rw[yw _ _ _ _ (by omega)]
    split
    ·rename_i e;subst e;simp [hi']
    ·rename_i e
     constructor
     ·intro h;exact .inl h
     ·rintro (h|h)
      ·exact h
      ·exact absurd h.symm e
   have hSe:(fun j=>j<ops.length∧(listed.setIfInBounds i true).getD j true=true)=fun j=>(j<ops.length∧listed.getD j true=true)∨j=i:=funext fun j=>propext (hSeq j);have hnoS:¬(i<ops.length∧listed.getD i true=true):=fun h=>by rw[hli] at h;cases h.2
   refine hstep i o _ imm m a w _ _ hip ho (fun cs b e=>?_) hs hI hcl hnoS hanc fun imm' m' v w' h1 h2 hs' hI'=>?_
   ·have:=List.all_eq_true.1 hsel o (List.mem_of_getElem? ho);rw[e] at this
    cases this
   ·refine gn (fun e a w h=>cK h1 h2 h) fuel _ _ _ (ih _ _ _ imm' m' ?_ (by simp [hsz]) ?_ ?_ (by rw[hSe];exact hs') ?_)
    ·have:=DR listed i (by omega) hli
     omega
    ·rw[hSe];intro j hj
     rcases hj with hj|rfl
     ·exact⟨hj.1,fun x hx=>.inl ((hcl j hj).2 x hx)⟩
     ·exact⟨hi',fun x hx=>.inl (hanc x hx)⟩
    ·intro j hj hx
     rcases (hSeq j).1 ⟨hj,hx⟩ with h|rfl
     ·exact hlp j hj h.2
     ·exact hip
    ·rw[hSe];exact hI'
theorem Sim.unres {imm:Imm} {m:Own} {w:World} (hs:Sim K0 imm m w (σ++[.res])):Sim K0 imm m w σ where
 os:=hs.os
 tape:=hs.tape
 output:=hs.output
 size:=hs.size
 imm_ok:=hs.imm_ok
 dom:=fun id h=>by
  rcases Nat.lt_or_ge σ.length id with h'|h'
  ·exact hs.dom id (by simp;omega)
  ·obtain rfl:id=σ.length:=by omega
   have:=hs.obs σ.length (by simp)
   simpa [qG] using this
 obs:=fun id h=>by
  have:=hs.obs id (by simp;omega)
  rw[List.getElem_append_left h] at this;exact this
 inj:=fun i j hi hj li lj e=>hs.inj i j (by simp;omega) (by simp;omega) (by rw[List.getElem_append_left hi];exact li) (by rw[List.getElem_append_left hj];exact lj) e
theorem Sim.res {imm:Imm} {m:Own} {w:World} (hs:Sim K0 imm m w σ):Sim K0 imm m w (σ++[.res]) where
 os:=hs.os
 tape:=hs.tape
 output:=hs.output
 size:=hs.size
 imm_ok:=hs.imm_ok
 dom:=fun id h=>hs.dom id (by simp at h;omega)
 obs:=fun id h=>by
  rcases Nat.lt_or_ge id σ.length with h'|h'
  ·rw[List.getElem_append_left h'];exact hs.obs id h'
  ·simp only[List.length_append,List.length_cons,List.length_nil] at h;rw[List.getElem_append_right h'];simp only[show id-σ.length=0 by omega,List.getElem_cons_zero]
   exact hs.dom id h'
 inj:=fun i j hi hj li lj e=>by
  simp only[List.length_append,List.length_cons,List.length_nil] at hi hj
  rcases Nat.lt_or_ge i σ.length with hi'|hi'
  ·rcases Nat.lt_or_ge j σ.length with hj'|hj'
   ·rw[List.getElem_append_left hi'] at li;rw[List.getElem_append_left hj'] at lj;exact hs.inj i j hi' hj' li lj e
   ·rw[List.getElem_append_right hj'] at lj;simp only[show j-σ.length=0 by omega,List.getElem_cons_zero] at lj
    cases lj
  ·rw[List.getElem_append_right hi'] at li;simp only[show i-σ.length=0 by omega,List.getElem_cons_zero] at li
   cases li
theorem Sim.drew {imm:Imm} {m:Own} {w:World} (hs:Sim K0 imm m w σ):Sim K0 imm m { w with drawn:=w.drawn+1 } σ:=
 hs.keep ⟨rfl,rfl,rfl,Nat.le_refl _⟩ fun _ _=>rfl
theorem El {P:Program} {Q:bV} {id:Nat} (p:Nat) (hm:P.follows .mixedOrders=true) (hB:(dQ ops p&&bT ops&&cy ops&&decide (p≤ops.length))=true)
  (h:nm P N ops σ none (fun α=>dw P N ops (fun α σ=>Q .normal α σ) (ops.drop p) α σ) (ops.take p) α0):aK rd P N (.region id ops.toArray true) Q α0 σ:=by
 intro K imm m w a hs hf;simp only[Bool.and_eq_true,decide_eq_true_eq] at hB;obtain⟨⟨⟨hB1,hB2⟩,hB3⟩,hB4⟩:=hB;have hc:o9 ops p:=fun i j x y hij hx hy h=>jM hB1 hij hx hy h;obtain⟨vs,bs,_,h2,γ,hγ,h3⟩:=l0 (ops:=ops) (α0:=α0) (ops.take p) 0 (fun _=>.emp) (fun _=>true) α0 (fun _=>rfl) (fun j hj=>by
  simp only[List.length_take] at hj;rw[List.getElem?_take_of_lt (by omega),Nat.zero_add]) h
 simp only[Nat.zero_add,List.length_take,Nat.min_eq_left hB4] at h2 hγ;refine wpIn_region_any hm ?_;have hst:∀j,j<p→∀o,ops[j]? = some o→pr P N ops σ none (frL ops α0 vs j) o (bs j) (vs j):=fun j hj o ho=>by
  have:=h2 j hj;rw[List.getElem_take] at this;obtain⟨hj',rfl⟩:=List.getElem?_eq_some_iff.1 ho;exact this
 have hrep:∀i,(Array.replicate ops.toArray.size false).getD i true=true→¬i<ops.length:=fun i h hi=>by
  simp [Array.getD_eq_getD_getElem?,hi] at h
 refine lM (fun _=>σ) hB2 hc hB3 hB4 (fun _ _=>rfl) (fun j o S imm m a w next Q' hj ho hsl hs hI hcl hnS hanc hn=>p5 (τ:=[]) (by rw[List.append_nil];exact hs) hI hc hcl ho hnS hanc hsl (.inl rfl) (hst j hj o ho) (fun imm' m' v w' h1 h2 h3 h4=>hn imm' m' v w' h1 h2 (by rw[List.append_nil] at h3;exact h3) h4)) hγ h3 _ _ a _ imm m ?_ (by simp) (fun i hi=>absurd hi.1 (hrep i hi.2)) (fun i hi h=>absurd hi (hrep i h)) hs.drew
  ⟨hf.defers,hf.size,fun t i h=>absurd h.1.1 (hrep i h.1.2),fun t av _ h=>hf.slot t av h⟩
 ·simp [left]
end
def fK {β:Type} (x:β):β:=x
@[simp] theorem aW {β:Type} (x:β):fK x=x:=by
 have h:∀y,y=x→fK y=x:=fun y h=>by subst h;rfl
 exact h x rfl
def ot (w:Bool) (v:AV) (d:Nat) (α:AF) (s t:AF→Prop):Prop:=
 match v with
 | .c (.bool b)=>eW b (match w with|true=>s ((d,.c (.bool true))::α)|false=>t ((d,.c (.bool true))::α)) (match w with|true=>t ((d,.c (.bool false))::α)|false=>s ((d,.c (.bool false))::α))
 | .c (.tuple _)=>t α
 | _=>False
def fB (ops:List Oper) (g:Option (Nat×Bool)) (α:AF) (s t:AF→Prop):Prop:=dC ops g α fun α=>dk ops g α s t
section
variable {ops:List Oper} {α:AF} {s t:AF→Prop} {j d:Nat} {b:Bool}
theorem ET:ot true (.c (.bool b)) d α s t=eW b (s ((d,.c (.bool true))::α)) (t ((d,.c (.bool false))::α)):=rfl
theorem EU:ot false (.c (.bool b)) d α s t=eW b (t ((d,.c (.bool true))::α)) (s ((d,.c (.bool false))::α)):=rfl
theorem ES {w:Bool} {x:Array Value} : ot w (.c (.tuple x)) d α s t=t α:=rfl
theorem Bc:fB ops none α s t=s α:=rfl
theorem Bb {w:Bool} : fB ops (some (j,w)) α s t=on ((ops[j]?).bind (·.dst)) fun d=>on (aB α d) fun v=>ot w v d α s t:=by
 have look0:∀d (u:AV),aB ((d,u)::α) d=some u:=fun d u=>by simp [aB]
 cases h:(ops[j]?).bind (·.dst) with
 | none=>simp only[fB,dC,h,on]
 | some d=>
  cases h2:aB α d with
  | none=>simp only[fB,dC,h,h2,on]
  | some v=>
   simp only[fB,dC,h,h2,aX];unfold ot
   split
   ·simp only[dk,h,aX,look0]
    cases w<;>rfl
   ·rename_i x
    simp only[dk,h,h2,aX]
    cases v with
    | c v=>cases v<;>first|rfl|exact (x _ rfl).elim
    | _=>rfl
theorem Ed {P:Program} {N:Nat} {K:AF→aa→Prop} {σ:aa} : dw P N ops K [] α σ=K α σ:=rfl
theorem CJ {P:Program} {N:Nat} {K:AF→aa→Prop} {σ:aa} {r:List Oper} {dst:Option Tmp} {op:Op} {ty:TypeId} {pos:String} {after:Array Edge} {g:Option (Nat×Bool)} :
  dw P N ops K ({ dst:=dst,op:=op,type:=ty,pos:=pos,after:=after,guard:=g } :: r) α σ=fB ops g α
   (fun α=>AOp P op (evF α) σ fun av σ'=>br N dst av α fun α'=>dw P N ops K r α' σ') (fun α=>br N dst (.c undef) α fun α'=>dw P N ops K r α' σ):=rfl
theorem B5 {N:Nat} {v:AV} {K:AF→Prop} : br N (some d) v α K=(d<N∧K ((d,v)::α)):=rfl
theorem B6 {N:Nat} {v:AV} {K:AF→Prop} : br N none v α K=K α:=rfl
end
section
variable {P:Program} {N:Nat}
@[congr] theorem FB {ops:List Oper} {g:Option (Nat×Bool)} {α α':AF} {s t:AF→Prop} (h:fK α=α'):fB ops g α s t=fB ops g α' s t:=by rw[←h,aW]
@[congr] theorem FA {w:Bool} {v v':AV} {d:Nat} {α:AF} {s t:AF→Prop} (h:fK v=v'):ot w v d α s t=ot w v' d α s t:=by rw[←h,aW]
@[congr] theorem on_cg {β:Type} {o o':Option β} {k:β→Prop} (h:fK o=o'):on o k=on o' k:=by rw[←h,aW]
@[congr] theorem Fw {b b':Bool} {p q:Prop} (h:fK b=b'):eW b p q=eW b' p q:=by rw[←h,aW]
@[congr] theorem Fv {d d':Option TypeDesc} {s x:AV} {σ:aa} {K:AV→aa→Prop} (h0:fK d=d'):na P d s x σ K=na P d' s x σ K:=by rw[←h0,aW]
@[congr] theorem Fz {d d':Option TypeDesc} {l c:Int} {σ:aa} {K:AV→aa→Prop} (h0:fK d=d'):qk P d l c σ K=qk P d' l c σ K:=by rw[←h0,aW]
@[congr] theorem FE {d d' e e':Option TypeDesc} {x:AV} {σ:aa} {K:AV→aa→Prop} (h0:fK d=d') (h:fK e=e'):fD P d e x σ K=fD P d' e' x σ K:=by rw[←h0,←h,aW,aW]
@[congr] theorem FD {d d' e e':Option TypeDesc} {x:AV} {K:AV→Prop} (h0:fK d=d') (h:fK e=e'):uN d e x K=uN d' e' x K:=by rw[←h0,←h,aW,aW]
@[congr] theorem Fx {d d':Option TypeDesc} {x:AV} {mx:Option Operand} {hi:Bool} {l h:Int} {n:Nat} {mz:Int} {K:AV→Prop} (h0:fK d=d'):fI P d x mx hi l h n mz K=fI P d' x mx hi l h n mz K:=by rw[←h0,aW]
theorem Bs {e:TypeId} {s x:AV} {σ:aa} {K:AV→aa→Prop} : na P (some (.slice e)) s x σ K=iG P e s x σ K:=rfl
theorem DO {e:TypeId} {l c:Int} {σ:aa} {K:AV→aa→Prop} : qk P (some (.slice e)) l c σ K=on (bY P e) fun z=>z.length=P.cellsOf e∧0≤l∧l≤c∧(P.bytesOf e:Int)*c≤140737488355328∧c≤9223372036854775807 ∧
   K (.own σ.length (P.cellsOf e) 0 l.toNat c.toNat) (σ++[.cells (P.cellsOf e) (List.replicate c.toNat z)]):=rfl
theorem CA {k k':IntKind} {n:Int} {σ:aa} {K:AV→aa→Prop} : fD P (some (.int k)) (some (.int .i64)) (.c (.int k' n)) σ K=(I64 n∧K (.c (.int .i64 n)) σ):=rfl
theorem D1 {k k':IntKind} {n:Int} {σ:aa} {K:AV→aa→Prop} : fD P (some (.int k)) (some (.int .u8)) (.c (.int k' n)) σ K=K (.c (.int .u8 (IntKind.u8.wrap n))) σ:=rfl
theorem D2 {e:TypeId} {s:ByteArray} {σ:aa} {K:AV→aa→Prop} : fD P (some .string) (some (.slice e)) (.c (.string s)) σ K=(P.underlying e=some (.int .u8)∧K (.own σ.length 1 0 s.size s.size) (σ++[.cells 1 (s.data.toList.map fun b=>[.c (.int .u8 b.toNat)])])):=rfl
theorem D4 {e:TypeId} {x:AV} {σ:aa} {K:AV→aa→Prop} : fD P (some (.slice e)) (some .string) x σ K=(P.underlying e=some (.int .u8)∧on (bO σ x) fun es=>on (dZ es) fun ns=>K (.c (.string (strOfNums ns))) σ):=rfl
theorem AD {s:ByteArray} {hi:Bool} {l h mz:Int} {n:Nat} {K:AV→Prop} : fI P (some .string) (.c (.string s)) none hi l h n mz K=(0≤l∧l≤h∧h≤n∧K (.c (.string (s.extract l.toNat h.toNat)))):=rfl
theorem BR {e:TypeId} {es:List (List AV)} {hi:Bool} {l h mz:Int} {n:Nat} {K:AV→Prop} : fI P (some (.slice e)) (.sl es) none hi l h n mz K=((P.info? e).isSome=true∧(∀x,x∈es→x.length=P.cellsOf e)∧0≤l∧l≤h∧h≤n∧K (.sl ((es.drop l.toNat).take (h.toNat-l.toNat)))):=rfl
theorem AE {e:TypeId} {b k s m c:Nat} {hi:Bool} {l h mz:Int} {n:Nat} {K:AV→Prop} : fI P (some (.slice e)) (.own b k s m c) none hi l h n mz K=((P.info? e).isSome=true∧P.cellsOf e=k∧0≤l∧l≤h∧h≤n∧(l=0∨l<n→K (.own b k (s+l.toNat) (h.toNat-l.toNat) (c-l.toNat)))∧(l≠0→l=n→K (.sl []))):=rfl
theorem Cy {k k' l:IntKind} {n:Int} {K:AV→Prop} : uN (some (.int k)) (some (.int l)) (.c (.int k' n)) K=K (.c (.int l (l.wrap n))):=rfl
end
end Go.Proofs.YtephecognbbaoaaGreat
namespace Go.Proofs.YtephecognbbaoaaGreat
open Go
set_option linter.all false
def Bh:List Oper→List Nat
 | []=>[]
 | o::r=>match o.dst with|some d=>d::Bh r|none=>Bh r
def dq:Code→List Nat
 | .region _ ops _=>Bh ops.toList
 | .seq a b=>dq a++dq b
 | .cond _ a b=>dq a++dq b
 | .block _ b=>dq b
 | .loop b=>dq b
 | .rangeFunc _ ps a b=>ps.toList++dq a++dq b
 | .scope b=>dq b
 | _=>[]
def keep:List Nat→AF→AF
 | _,[]=>[]
 | W,(k,v)::r=>match W.elem k with
  | true=>keep W r
  | false=>(k,v)::keep (k::W) r
theorem Ch:∀(α:AF) (W:List Nat) (t:Nat) (av:AV),aB (keep W α) t=some av→aB α t=some av∧t∉W:=by
 intro α
 induction α with
 | nil=>intro W t av h;cases h
 | cons p r ih=>
  intro W t av h;obtain⟨k,v⟩:=p;simp only[keep] at h
  cases hk:W.elem k with
  | true=>
   rw[hk] at h;obtain⟨h1,h2⟩:=ih W t av h;refine⟨?_,h2⟩;simp only[aB];rw[if_neg]
   ·exact h1
   ·rintro rfl;exact h2 (by simpa using hk)
  | false=>
   rw[hk] at h;simp only[aB] at h ⊢;have hn:k∉W:=by simpa using hk
   split at h
   ·rename_i e
    rw[if_pos e];exact⟨h,by rw[←e];exact hn⟩
   ·rename_i e
    rw[if_neg e];obtain⟨h1,h2⟩:=ih (k::W) t av h;exact⟨h1,fun hh=>h2 (by simp [hh])⟩
theorem yj:∀(α β:AF) (t:Nat) (av:AV),aB (α++β) t=some av→aB α t=some av∨aB β t=some av
 | [],β,t,av,h=>.inr h
 | (k,v)::r,β,t,av,h=>by
  simp only[List.cons_append,aB] at h ⊢
  split at h
  ·rename_i e;rw[if_pos e];exact .inl h
  ·rename_i e;rw[if_neg e];exact yj r β t av h
theorem ALe.app {α β γ:AF} (h1:ALe α β) (h2:ALe α γ):ALe α (β++γ):=fun t av h=>
 (yj β γ t av h).elim (h1 t av) (h2 t av)
theorem Eo (W:List Nat) (α:AF):ALe α (keep W α):=fun t av h=>(Ch α W t av h).1
section
variable {rd:Option Nat} {P:Program} {N:Nat} {Q:bV} {α:AF} {σ:aa}
theorem CW {c:Code} {ι:Type} (H:ι→Prop) (B:ι→aa→AF) (S:ι→aa→aa) (μ:ι→Nat) (x:ι) (τ:aa) (h0:H x) (hs:S x τ=σ) (ha:ALe α (B x τ))
  (round:∀x τ,H x→∀K:AF→aa→Prop,(∀y τ' α' σ',H y→μ y<μ x→ALe α' (B y τ'++keep (dq c) α)→S y τ'=σ'→K α' σ') →
   aK rd P N c (ah K Q) (B x τ++keep (dq c) α) (S x τ)):aK rd P N (.loop c) Q α σ:=by
 refine Ej (ι:=ι×aa) (fun p=>H p.1) (fun p=>B p.1 p.2++keep (dq c) α) (fun p=>S p.1 p.2) (fun p=>μ p.1) (x,τ) h0 ?_ hs ?_
 ·exact ha.app (Eo _ _)
 ·rintro ⟨x,τ⟩ hx;refine round x τ hx _ ?_;intro y τ' α' σ' hy hlt hal hst;exact⟨(y,τ'),hy,hlt,hal,hst⟩
theorem b8 {c:Code} {ST:Type} (n:Int) (H:Int→ST→Prop) (B:Int→ST→aa→AF) (S:Int→ST→aa→aa) (s:ST) (τ:aa) (hn:0≤n) (h0:H 0 s) (hs:S 0 s τ=σ) (ha:ALe α (B 0 s τ))
  (round:∀k s τ,0≤k→k≤n→H k s→∀L:AF→aa→Prop,(k<n→∀s' τ' α' σ',H (k+1) s'→ALe α' (B (k+1) s' τ'++keep (dq c) α)→S (k+1) s' τ'=σ'→L α' σ') →
   aK rd P N c (ah L Q) (B k s τ++keep (dq c) α) (S k s τ)):aK rd P N (.loop c) Q α σ:=by
 refine CW (ι:=Int×ST) (fun p=>0≤p.1∧p.1≤n∧H p.1 p.2) (fun p τ=>B p.1 p.2 τ) (fun p τ=>S p.1 p.2 τ) (fun p=>(n-p.1).toNat) (0,s) τ ⟨Int.le_refl _,hn,h0⟩ hs ha ?_;rintro ⟨k,s⟩ τ ⟨h1,h2,h3⟩ K hK;refine round k s τ h1 h2 h3 K ?_;intro hlt s' τ' α' σ' h' hal hst;exact hK (k+1,s') τ' α' σ' ⟨by simp only;omega,by simp only;omega,h'⟩ (by simp only;omega) hal hst
def vJ (rd:Option Nat) (P:Program) (N:Nat) (c:Code) (Q:bV):Nat→AF→aa→Prop
 | 0,_,_=>False
 | m+1,α,σ=>aK rd P N c (ah (vJ rd P N c Q m) Q) α σ
theorem tm {c:Code} {K:World} : ∀(n:Nat) (imm:Imm) (m:Own) (α:AF) (σ:aa) (a:Act) (w:World),vJ rd P N c Q n α σ→Sim K imm m w σ→FOk K imm m N a α→Code.roundsIn (Rnd rd) 0 P c (dS K N imm m Q) n a w
 | 0,_,_,_,_,_,_,h,_,_=>h.elim
 | n+1,imm,m,α,σ,a,w,h,hs,hf=>by
  have key:∀(n:Nat) (imm imm':Imm) (m m':Own) (a:Act) (w:World),ILe imm imm'→OLe m m'→Code.roundsIn (Rnd rd) 0 P c (dS K N imm' m' Q) n a w→Code.roundsIn (Rnd rd) 0 P c (dS K N imm m Q) n a w:=by
   intro n
   induction n with
   | zero=>intro imm imm' m m' a w _ _ h;exact h
   | succ n ih=>
    intro imm imm' m m' a w h1 h2 h;refine Code.wpIn_mono (fun e a w hq=>?_) h
    cases e with
    | normal=>exact ih imm imm' m m' a w h1 h2 hq
    | _=>exact cK h1 h2 hq
  refine Code.wpIn_mono ?_ (h K imm m w a hs hf);rintro e a' w' ⟨i,o,α',σ',hi,ho,hs',hf',hq⟩
  cases e with
  | normal=>exact key n imm i m o a' w' hi ho (tm n i o α' σ' a' w' hq hs' hf')
  | _=>exact⟨i,o,α',σ',hi,ho,hs',hf',hq⟩
theorem dx {c:Code} (n:Nat) (h:vJ rd P N c Q n α σ):aK rd P N (.loop c) Q α σ:=fun K imm m w a hs hf=>
 wpIn_loop_rounds n (tm n imm m α σ a w h hs hf)
def at0 {X:Type} [Inhabited X] (l:List X) (k:Int):X:=l.getD k.toNat default
theorem vw {X:Type} [Inhabited X] (l:List X) {k:Int} (h0:0≤k) (h:k<l.length):l.drop k.toNat=at0 l k::l.drop (k+1).toNat:=by
 have e:(k+1).toNat=k.toNat+1:=by omega
 have hk:k.toNat<l.length:=by omega
 rw[List.drop_eq_getElem_cons hk,e,at0,List.getD_eq_getElem?_getD,List.getElem?_eq_getElem hk];rfl
theorem aA {X:Type} [Inhabited X] (l:List X) {k:Int} (h0:0≤k) (h:k<l.length):at0 l k∈l:=by
 have hk:k.toNat<l.length:=by omega
 rw[at0,List.getD_eq_getElem?_getD,List.getElem?_eq_getElem hk];exact List.getElem_mem _
theorem yf {X:Type} [Inhabited X] (f:X→List AV) (l:List X) (k:Int) (K:List AV→Prop):on (l.map f)[k.toNat]? K=(k.toNat<l.length∧K (f (at0 l k))):=by
 simp only[List.getElem?_map,at0,List.getD_eq_getElem?_getD]
 rcases Nat.lt_or_ge k.toNat l.length with h|h
 ·rw[List.getElem?_eq_getElem h];simp [on,h]
 ·rw[List.getElem?_eq_none h];exact propext ⟨fun h'=>h'.elim,fun h'=>absurd h'.1 (Nat.not_lt.2 h)⟩
theorem ay {c:Code} {X ST:Type} [Inhabited X] (l:List X) (H:Int→List X→ST→Prop) (B:Int→ST→aa→AF) (S:Int→ST→aa→aa) (s:ST) (τ:aa) (h0:H 0 l s) (hs:S 0 s τ=σ) (ha:ALe α (B 0 s τ))
  (round:∀(k:Int) r s τ,0≤k→k<l.length→H k (at0 l k::r) s→∀L:AF→aa→Prop,(∀s' τ' α' σ',H (k+1) r s'→ALe α' (B (k+1) s' τ'++keep (dq c) α)→S (k+1) s' τ'=σ'→L α' σ') →
   aK rd P N c (ah L Q) (B k s τ++keep (dq c) α) (S k s τ))
  (last:∀(k:Int) s τ,k=(l.length:Int)→H k [] s→∀L:AF→aa→Prop,aK rd P N c (ah L Q) (B k s τ++keep (dq c) α) (S k s τ)):aK rd P N (.loop c) Q α σ:=by
 refine b8 (l.length:Int) (fun k s=>H k (l.drop k.toNat) s) B S s τ (by omega) (by simpa using h0) hs ha ?_
 intro k s τ h1 h2 h3 K hK
 by_cases hlt:k<l.length
 ·rw[vw l h1 hlt] at h3;exact round k _ s τ h1 hlt h3 K (hK hlt)
 ·have e:k=(l.length:Int):=by omega
  rw[List.drop_of_length_le (by omega)] at h3
  exact last k s τ e h3 K
end
def Wk (a b:AV):Prop:=∀imm m v,Rep imm m v a→Rep imm m v b
def WkL (l l':List AV):Prop:=∀imm m vs,bK imm m vs l→bK imm m vs l'
theorem Wk.refl (a:AV):Wk a a:=fun _ _ _ h=>h
theorem Wk.eq {a b:AV} (h:a=b):Wk a b:=h▸Wk.refl a
theorem Wk.nil:Wk (.c (.slice none 0 0)) (.sl []):=fun imm m v h=>by
 rw[h.c_inv];exact .sl none 0 0 [] 0 (fun _ _=>undef) rfl (Nat.le_refl _) (fun i hi=>by simp at hi) (fun h=>by simp at h) (fun i hi=>by simp at hi)
theorem Wk.emp:Wk .emp (.sl []):=fun imm m v h=>by
 cases h
 exact .sl _ _ _ [] 0 (fun _ _=>undef) rfl (Nat.le_refl _) (fun i hi=>by simp at hi) (fun h=>by simp at h) (fun i hi=>by simp at hi)
theorem WkL.nil:WkL [] []:=fun _ _ _ h=>h
theorem WkL.refl (l:List AV):WkL l l:=fun _ _ _ h=>h
theorem WkL.cons {a b:AV} {l l':List AV} (h:Wk a b) (h':WkL l l'):WkL (a::l) (b::l'):=fun imm m vs hr=>by
 obtain⟨h1,h2⟩:=hr
 match vs,h1 with
 | v::vs,h1=>
  have ht:=h' imm m vs ⟨by simpa using h1,fun i hi1 hi2=>h2 (i+1) (by simp;omega) (by simp;omega)⟩
  refine⟨by simp [ht.1],fun i hi1 hi2=>?_⟩
  cases i with
  | zero=>exact h _ _ _ (h2 0 (by simp) (by simp))
  | succ i=>exact ht.2 i (by simpa using hi1) (by simpa using hi2)
theorem Wk.agg {l l':List AV} (h:WkL l l'):Wk (.agg l) (.agg l'):=fun imm m v hr=>by
 cases hr with
 | agg cs _ hl hh=>
  obtain⟨h1,h2⟩:=h imm m cs ⟨hl,hh⟩;exact .agg cs l' h1 h2
theorem Wk.tup {l l':List AV} (h:WkL l l'):Wk (.tup l) (.tup l'):=fun imm m v hr=>by
 cases hr with
 | tup cs _ hl hh=>
  obtain⟨h1,h2⟩:=h imm m cs ⟨hl,hh⟩;exact .tup cs l' h1 h2
theorem af.wk {P:Program} {f:FuncId} {args:List AV} {σ:aa} {R R':AV→aa→Prop} (h:af P f args σ R) (hr:∀r σ',R r σ'→∃r',Wk r r'∧R' r' σ'):af P f args σ R':=
 fun K imm m w vs hs hv=>(h K imm m w vs hs hv).mono fun _ _ ⟨i,m',v,r,s,a,b,c,d,e,f⟩=>let ⟨r',hw,hR⟩:=hr _ _ f;⟨i,m',v,r',s,a,b,c,d,hw _ _ _ e,hR⟩
def Bz (σ:aa) (X r:AV) (σ':aa):Prop:=(∃τ,σ'=σ++τ)∧Bd σ.length r∧Wk r X
theorem af.cutX {P:Program} {f:FuncId} {args:List AV} {σ:aa} {X:AV} (h:af P f args σ (Bz σ X)):af P f args σ fun r σ'=>σ'=σ∧r=X:=
 (af.cut h).wk fun _ _ ⟨h1,h2⟩=>⟨X,h2,h1,rfl⟩
theorem pK {σ σ' τ:aa} {X r:AV} (hs:σ'=σ++τ) (hb:Bd σ.length r) (hx:r=X):Bz σ X r σ':=⟨⟨τ,hs⟩,hb,.eq hx⟩
theorem bM {σ σ' τ:aa} {X r:AV} (hs:σ'=σ++τ) (hb:Bd σ.length r) (hx:Wk r X):Bz σ X r σ':=⟨⟨τ,hs⟩,hb,hx⟩
theorem ax {σ σ' τ:aa} {v v':Value} (hs:σ'=σ++τ) (hx:v=v'):Bz σ (.c v') (.c v) σ':=⟨⟨τ,hs⟩,.c _,by rw[hx];exact .refl _⟩
def BdL (n:Nat) (l:List AV):Prop:=∀i (h:i<l.length),Bd n l[i]
theorem BdL.nil {n:Nat} : BdL n []:=fun i h=>by simp at h
theorem BdL.cons {n:Nat} {a:AV} {l:List AV} (h:Bd n a) (h':BdL n l):BdL n (a::l):=fun i hi=>by
 cases i with
 | zero=>exact h
 | succ i=>exact h' i (by simpa using hi)
theorem Bd.aggL {n:Nat} {l:List AV} (h:BdL n l):Bd n (.agg l):=.agg l h
theorem Bd.tupL {n:Nat} {l:List AV} (h:BdL n l):Bd n (.tup l):=.tup l h
theorem Bd.slL {n:Nat} {X:Type} {f:X→List AV} (hf:∀x,BdL n (f x)) (l:List X):Bd n (.sl (l.map f)):=.sl _ fun i hi j hj=>by
 simp only[List.getElem_map] at hj ⊢;exact hf _ j hj
def aq {X:Type} (k b:Nat):List X→AV
 | []=>.c (.slice none 0 0)
 | x::r=>.own b k 0 (r.length+1) (r.length+1)
def ap {X:Type} (f:X→List AV) (k:Nat):List X→Ob
 | []=>.dead
 | x::r=>.cells k ((x::r).map f)
theorem CM {X:Type} (k b:Nat) (l:List X) (x:X):aq k b (l++[x]) = .own b k 0 (l.length+1) (l.length+1):=by
 cases l<;>simp [aq]
theorem CN {X:Type} (f:X→List AV) (k:Nat) (l:List X) (x:X):ap f k (l++[x]) = .cells k (l.map f++[f x]):=by
 cases l<;>simp [ap]
theorem Sim.pad {K0:World} {imm:Imm} {m:Own} {w:World} {σ:aa} (hs:Sim K0 imm m w σ):Sim K0 imm m w (σ++[.dead]) where
 os:=hs.os
 tape:=hs.tape
 output:=hs.output
 size:=hs.size
 imm_ok:=hs.imm_ok
 dom:=fun id h=>hs.dom id (by simp at h;omega)
 obs:=fun id h=>by
  rcases Nat.lt_or_ge id σ.length with hlt|hge
  ·rw[List.getElem_append_left hlt];exact hs.obs id hlt
  ·rw[List.getElem_append_right hge];simp only[List.length_append,List.length_cons,List.length_nil] at h;simp only[show id-σ.length=0 by omega,List.getElem_cons_zero]
   trivial
 inj:=fun i j hi hj li lj e=>by
  simp only[List.length_append,List.length_cons,List.length_nil] at hi hj
  rcases Nat.lt_or_ge i σ.length with hi'|hi'
  ·rcases Nat.lt_or_ge j σ.length with hj'|hj'
   ·rw[List.getElem_append_left hi'] at li;rw[List.getElem_append_left hj'] at lj;exact hs.inj i j hi' hj' li lj e
   ·rw[List.getElem_append_right hj'] at lj;simp only[show j-σ.length=0 by omega,List.getElem_cons_zero] at lj
    cases lj
  ·rw[List.getElem_append_right hi'] at li;simp only[show i-σ.length=0 by omega,List.getElem_cons_zero] at li
   cases li
theorem bn {rd:Option Nat} {P:Program} {N:Nat} {Q:bV} {α:AF} {σ:aa} {c:Code} (h:aK rd P N c Q α (σ++[.dead])):aK rd P N c Q α σ:=
 fun K imm m w a hs hf=>h K imm m w a hs.pad hf
def ey (σ:aa):AV→aa
 | .own b _ _ _ _=>σ.set b .dead
 | _=>σ
theorem Sim.freezeA {K0:World} {imm:Imm} {m:Own} {w:World} {σ:aa} (hs:Sim K0 imm m w σ) {a:AV} {es:List (List AV)} (he:bO σ a=some es) :
  ∃imm',ILe imm imm'∧Sim K0 imm' m w (ey σ a)∧∀v,Rep imm m v a→Rep imm' m v (.sl es):=by
 have he0:=he;rw[ee] at he;unfold dl at he
 split at he
 ·cases he
  exact⟨imm,.refl _,hs,fun v h=>h⟩
 ·cases he
  refine⟨imm,.refl _,hs,fun v h=>?_⟩
  cases h
  exact .sl _ _ _ [] 0 (fun _ _=>undef) rfl (Nat.le_refl _) (fun i hi=>by simp at hi) (fun h=>by simp at h) (fun i hi=>by simp at hi)
 ·cases he
  refine⟨imm,.refl _,hs,fun v h=>?_⟩;rw[h.c_inv];exact .sl _ _ _ [] 0 (fun _ _=>undef) rfl (Nat.le_refl _) (fun i hi=>by simp at hi) (fun h=>by simp at h) (fun i hi=>by simp at hi)
 ·exact hs.freeze_reps he0
 ·cases he
theorem fu {rd:Option Nat} {P:Program} {N:Nat} {Q:bV} {α:AF} {σ:aa} {c:Code} (t:Nat) {a:AV} {es:List (List AV)} (hl:aB α t=some a) (he:bO σ a=some es)
  (h:aK rd P N c Q ((t,.sl es)::α) (ey σ a)):aK rd P N c Q α σ:=by
 intro K imm m w a' hs hf;obtain⟨v,hv,hr⟩:=hf.slot t _ hl;obtain⟨imm',hi,hs',hr'⟩:=hs.freezeA he;refine Code.wpIn_mono (fun _ _ _ hq=>cK hi (.refl _) hq) (h K imm' m w a' hs' ⟨hf.defers.mono (by assumption),hf.size,fun t' av ht=>?_⟩)
 simp only[aB] at ht
 split at ht
 ·rename_i e
  subst e
  cases ht
  exact⟨v,hv,hr' v hr⟩
 ·obtain⟨u,hu,r⟩:=hf.slot t' av ht;exact⟨u,hu,r.mono hi (.refl _)⟩
theorem uK {X:Type} (f:X→List AV) (k:Nat) (l:List X) (σ τ ρ:aa):bO (σ++(τ++ap f k l::ρ)) (aq k (σ.length+τ.length) l)=some (l.map f):=by
 cases l with
 | nil=>rfl
 | cons x r=>
  have e:(σ++(τ++ap f k (x::r)::ρ))[σ.length+τ.length]? = some (.cells k ((x::r).map f)):=by rw[st1,st0];rfl
  rw[ee];simp only[aq,dl,e];simp [List.take_of_length_le]
theorem v7 {X:Type} (f:X→List AV) (k:Nat) (l:List X) (σ τ ρ:aa):ey (σ++(τ++ap f k l::ρ)) (aq k (σ.length+τ.length) l)=σ++(τ++.dead::ρ):=by
 cases l with
 | nil=>rfl
 | cons x r=>simp only[aq,ey,ss1,ss0,List.set_cons_zero]
theorem cC {rd:Option Nat} {P:Program} {N:Nat} {Q:bV} {α:AF} {c:Code} {X:Type} (t:Nat) (f:X→List AV) (k:Nat) (l:List X) (σ τ ρ:aa) (hl:aB α t=some (aq k (σ.length+τ.length) l))
  (h:aK rd P N c Q ((t,.sl (l.map f))::α) (σ++(τ++.dead::ρ))):aK rd P N c Q α (σ++(τ++ap f k l::ρ)):=
 fu t hl (uK f k l σ τ ρ) (by rw[v7];exact h)
theorem th {rd:Option Nat} {P:Program} {N:Nat} {Q:bV} {α:AF} {σ:aa} {c:Code} (b i j:Nat) {k:Nat} {rows:List (List AV)} {e:List AV} {a:AV} {es:List (List AV)} (hb:(ey σ a)[b]? = some (.cells k rows)) (hi:rows[i]? = some e) (hj:e[j]? = some a)
  (he:bO σ a=some es) (h:aK rd P N c Q α ((ey σ a).set b (.cells k (rows.set i (e.set j (.sl es)))))) (hb0:σ[b]? = some (.cells k rows)):aK rd P N c Q α σ:=by
 intro K imm m w a' hs hf;obtain⟨imm',hil,hs',hr'⟩:=hs.freezeA he;obtain⟨hlt0,hob0⟩:=List.getElem?_eq_some_iff.1 hb0;have h0:=hs.obs b hlt0;rw[hob0] at h0;obtain⟨hlt,hob⟩:=List.getElem?_eq_some_iff.1 hb;have h9:=hs'.obs b hlt;rw[hob] at h9;obtain⟨blk,sz,h1,h2,cs,T,fr,h3,h4,h5,h6,h7⟩:=h9;obtain⟨blk',sz',g1,g2,cs',T',fr',g3,g4,g5,g6,g7⟩:=h0;rw[h1] at g1
 cases g1
 rw[h3] at g3
 cases g3
 have hs2:Sim K imm' m w ((ey σ a).set b (.cells k (rows.set i (e.set j (.sl es))))):=by
  refine hs'.setO ⟨rfl,rfl,rfl,Nat.le_refl _⟩ hlt h1 (by rw[hob];rfl) (fun _ _=>rfl) _ ⟨blk,sz,h1,h2,cs,T,fr,h3,h4,h5,by simpa using h6,fun i' hi'=>?_⟩
  simp only[List.length_set] at hi';obtain⟨hi1,hi2⟩:=List.getElem?_eq_some_iff.1 hi;obtain⟨hj1,hj2⟩:=List.getElem?_eq_some_iff.1 hj;simp only[List.getElem_set]
  split
  ·rename_i e1
   subst e1;refine⟨by rw[List.length_set,←hi2];exact (h7 i _).1,fun j' hj'=>?_⟩
   simp only[List.length_set] at hj';simp only[List.getElem_set]
   split
   ·rename_i e2
    subst e2;obtain⟨v,e3,r⟩:=(g7 i hi1).2 j (by rw[hi2];exact hj1)
    refine⟨v,e3,hr' v ?_⟩;rw[←hj2]
    simpa only[hi2] using r
   ·obtain⟨v,e3,r⟩:=(h7 i hi1).2 j' (by rw[hi2];exact hj')
    refine⟨v,e3,?_⟩
    simpa only[hi2] using r
  ·exact h7 i' hi'
 exact Code.wpIn_mono (fun _ _ _ hq=>cK hil (.refl _) hq) (h K imm' m w a' hs2 (hf.mono hil (.refl _)))
theorem fw {rd:Option Nat} {P:Program} {N:Nat} {Q:bV} {α:AF} {st:aa} {c:Code} {X:Type} (σ p q ρ:aa) {k kk b:Nat} {rows:List (List AV)} {e:List AV} (i j:Nat) (f:X→List AV) (l:List X)
  (hst:st=σ++(p++.cells k rows::(q++ap f kk l::ρ))) (hi:rows[i]? = some e) (hj:e[j]? = some (aq kk b l)) (hb:b=σ.length+(p.length+1+q.length))
  (h:aK rd P N c Q α (σ++(p++.cells k (rows.set i (e.set j (.sl (l.map f))))::(q++.dead::ρ)))):aK rd P N c Q α st:=by
 subst hst;subst hb;have hk:ey (σ++(p++.cells k rows::(q++ap f kk l::ρ))) (aq kk (σ.length+(p.length+1+q.length)) l)=σ++(p++.cells k rows::(q++.dead::ρ)):=by
  have:=v7 f kk l σ (p++.cells k rows::q) ρ;simp only[List.append_assoc,List.cons_append,List.length_append,List.length_cons] at this;rw[←this]
  congr 2
  omega
 have he:bO (σ++(p++.cells k rows::(q++ap f kk l::ρ))) (aq kk (σ.length+(p.length+1+q.length)) l)=some (l.map f):=by
  have:=uK f kk l σ (p++.cells k rows::q) ρ;simp only[List.append_assoc,List.cons_append,List.length_append,List.length_cons] at this;rw[←this]
  congr 2
  omega
 refine th (σ.length+p.length) i j (k:=k) (rows:=rows) ?_ hi hj he ?_ ?_
 ·rw[hk,st1,st0];rfl
 ·rw[hk,ss1,ss0];exact h
 ·rw[st1,st0];rfl
theorem af.use {P:Program} {f:FuncId} {args:List AV} {σ:aa} {X:AV} {R:AV→aa→Prop} (h:af P f args σ fun r σ'=>σ'=σ∧r=X) (hr:R X σ):af P f args σ R:=
 h.mono fun _ _ ⟨h1,h2⟩=>by subst h1;subst h2;exact hr
def WkF (imm:Imm) (m:Own) (imm':Imm) (a b:AV):Prop:=∀v,Rep imm m v a→Rep imm' m v b
def vH (imm:Imm) (m:Own) (imm':Imm) (l l':List AV):Prop:=∀vs,bK imm m vs l→bK imm' m vs l'
theorem WkF.same {imm imm':Imm} {m:Own} (hi:ILe imm imm') (a:AV):WkF imm m imm' a a:=fun _ h=>h.mono hi (.refl _)
theorem vH.nil {imm imm':Imm} {m:Own} : vH imm m imm' [] []:=fun vs h=>⟨h.1,fun i h1 h2=>by simp at h2⟩
theorem vH.cons {imm imm':Imm} {m:Own} {a b:AV} {l l':List AV} (h:WkF imm m imm' a b) (h':vH imm m imm' l l'):vH imm m imm' (a::l) (b::l'):=fun vs hr=>by
 obtain⟨h1,h2⟩:=hr
 match vs,h1 with
 | v::vs,h1=>
  have ht:=h' vs ⟨by simpa using h1,fun i hi1 hi2=>h2 (i+1) (by simp;omega) (by simp;omega)⟩
  refine⟨by simp [ht.1],fun i hi1 hi2=>?_⟩
  cases i with
  | zero=>exact h _ (h2 0 (by simp) (by simp))
  | succ i=>exact ht.2 i (by simpa using hi1) (by simpa using hi2)
theorem WkF.agg {imm imm':Imm} {m:Own} {l l':List AV} (h:vH imm m imm' l l'):WkF imm m imm' (.agg l) (.agg l'):=fun v hr=>by
 cases hr with
 | agg cs _ hl hh=>
  obtain⟨h1,h2⟩:=h cs ⟨hl,hh⟩;exact .agg cs l' h1 h2
theorem yT:∀(β γ α:AF),qE α (β++γ)=(qE α β∧qE α γ)
 | [],γ,α=>by simp [qE]
 | (k,v)::r,γ,α=>by simp [qE,yT r γ α,and_assoc]
end Go.Proofs.YtephecognbbaoaaGreat
