/- Regions that draw their order and make objects meanwhile. -/
import Derived.Test.YtephecognbbaoaaGreatZLo
namespace Go.Proofs.YtephecognbbaoaaGreat
open Go
set_option linter.all false
def uT (P:Program) (f:FuncId) (args:List AV) (σ:aa) (K:AV→Prop):Prop:=∃v,(∀τ,af P f args (σ++τ) fun r σ'=>σ'=σ++τ∧r=v)∧K v
theorem we {P:Program} {f:FuncId} {args:List AV} {σ:aa} {X:AV} {K:AV→Prop} (h:∀τ,af P f args (σ++τ) fun r σ'=>σ'=σ++τ∧r=X) (hk:K X):uT P f args σ K:=⟨X,h,hk⟩
@[congr] theorem FG {P:Program} {f:FuncId} {args args':List AV} {σ:aa} {K:AV→Prop} (h:fK args=args'):uT P f args σ K=uT P f args' σ K:=by rw[←h,aW]
def jT (P:Program) (op:Op) (ev:Operand→Option AV) (σ:aa) (K:AV→Prop):Prop:=
 match op with
 | .buildSlice T n parts=>on (b6 P T) fun k=>on (eY ev parts.toList) fun ps=>on (ll k 0 ps) fun es=>
  es.length=n∧n*k≤16777216∧(match P.underlying T with|some (.slice e)=>(bY P e).map (·.length)=some k|_=>False)∧K (.sl es)
 | .load T a=>on (ev a) fun p=>on (ln P σ T p) K
 | .build T parts=>on (bY P T) fun z=>on (dy P T) fun pl=>on (eY ev parts.toList) fun ps=>on (jL (fun i=>pl[i]?) z ps) fun l=>K (.agg l)
 | .move x=>on (ev x) K
 | .assign x=>on (ev x) K
 | .pick c a b=>on (ev c) fun c=>on (ev a) fun a=>on (ev b) fun b=>match c with
  | .c (.bool t)=>eW t (K a) (K b)
  | _=>False
 | .binOp op T x y _=>on (ev x) fun a=>on (ev y) fun b=>o6 P T op a b fun v=>K (.c v)
 | .unOp op T x=>cH P (.unOp op T x) ev K
 | .extract t ix=>cH P (.extract t ix) ev K
 | .nilCheck x=>cH P (.nilCheck x) ev K
 | .fieldAddr T x f=>cH P (.fieldAddr T x f) ev K
 | .indexAddr T x i=>cH P (.indexAddr T x i) ev K
 | .index T x i=>cH P (.index T x i) ev K
 | .field T x f=>cH P (.field T x f) ev K
 | .convert s d x=>on (ev x) fun x=>fD P (P.underlying s) (P.underlying d) x σ fun v σ'=>σ'=σ∧K v
 | .makeFunc fn first captured=>cH P (.makeFunc fn first captured) ev K
 | .slice T x lo hi mx=>on (ev x) fun x=>on (c7 ev lo 0) fun l=>on (jG x) fun len=>on (c7 ev hi len) fun h=>on (c7 ev mx 0) fun mz=>fI P (P.underlying T) x mx hi.isSome l h len mz K
 | .lookup T m k ok=>on (ev m) fun m=>on (ev k) fun k=>fa P T m k ok σ K
 | .call { callee:=.builtin .len,args:=args,argTypes:=ts } => on (evL ev args.toList) fun l=>match l,ts.toList with
  | [x],t::_=>on (jG x) fun n=>w6 P t x=true∧K (.c (.int .i64 n))
  | _,_=>False
 | .call { callee:=.builtin .max,args:=args,argTypes:=ts } => cH P (.call { callee:=.builtin .max,args:=args,argTypes:=ts }) ev K
 | .call { callee:=.builtin .min,args:=args,argTypes:=ts } => cH P (.call { callee:=.builtin .min,args:=args,argTypes:=ts }) ev K
 | .call { callee:=.value f,args:=args,argTypes:=_ } => on (ev f) fun f=>on (evL ev args.toList) fun as'=>match f with
  | .fn g first cap=>aw P g=true∧uT P g (first++as'++cap) σ K
  | _=>False
 | _=>False
theorem ch {α:Type} {o:Option α} {a:α} {k:α→Prop} (h:o=some a):on o k=k a:=by rw[h];rfl
theorem EX {op:BinOp} {k:IntKind} {x y:Int} {K:Value→Prop} (h:vC op k x y K):∃v,vC op k x y (fun u=>u=v)∧K v:=by
 unfold vC at h ⊢
 split at h<;>(try (split at h))<;>first|exact h.elim|exact⟨_,rfl,h⟩|exact⟨_,⟨h.1,h.2.1,rfl⟩,h.2.2⟩|exact⟨_,⟨h.1,rfl⟩,h.2⟩
theorem EY {op:BinOp} {a b:AV} {K:Value→Prop} (h:sh op a b K):∃v,sh op a b (fun u=>u=v)∧K v:=by
 unfold sh at h ⊢
 split at h
 ·split at h
  ·exact⟨_,⟨h.1,rfl⟩,h.2⟩
  ·exact⟨_,⟨h.1,rfl⟩,h.2⟩
  ·obtain⟨v,h1,h2⟩:=EX h.2;exact⟨v,⟨h.1,h1⟩,h2⟩
 ·split at h
  ·exact⟨_,⟨h.1,rfl⟩,h.2⟩
  ·exact⟨_,rfl,h⟩
  ·exact⟨_,rfl,h⟩
  ·exact h.elim
 ·exact h.elim
theorem EV {P:Program} {T:TypeId} {op:BinOp} {a b:AV} {K:Value→Prop} (h:o6 P T op a b K):∃v,o6 P T op a b (fun u=>u=v)∧K v:=by
 unfold o6 at h ⊢
 split at h
 ·obtain⟨pl,hpl,h⟩:=aj h;obtain⟨r,hr,h⟩:=aj h;simp only[hpl,hr,aX,aW]
  split at h
  ·exact⟨_,rfl,h⟩
  ·exact⟨_,rfl,h⟩
  ·exact h.elim
 ·obtain⟨hT,h⟩:=h
  split at h
  ·exact⟨_,⟨hT,rfl⟩,h⟩
  ·exact⟨_,⟨hT,rfl⟩,h⟩
  ·exact h.elim
 ·exact EY h
theorem EW {P:Program} {T:TypeId} {op:BinOp} {a b:AV} {K:Value→Prop} (h:o6 P T op a b K):vB P T op a b K:=by
 unfold vB
 split
 ·exfalso
  unfold o6 at h
  split at h
  ·simp_all
  ·simp_all
  ·unfold sh at h
   split at h
   ·simp_all
   ·simp_all
   ·exact h
 ·exact h
theorem iH {P:Program} {ev:Operand→Option AV} {K:AV→Prop} : ∀(op:Op),(match op with | .unOp .. => True | .extract .. => True | .nilCheck .. => True | .fieldAddr .. => True | .indexAddr .. => True | .index .. => True | .field .. => True | .makeFunc .. => True|_=>False) →
  cH P op ev K→∃v,cH P op ev (fun u=>u=v)∧K v:=by
 intro op hop h
 cases op<;>(try exact hop.elim)
 case unOp op T x=>
  obtain⟨a,ha,h⟩:=aj h;simp only[cH,ha,aX,aW]
  split at h
  ·exact⟨_,rfl,h⟩
  ·exact⟨_,⟨h.1,rfl⟩,h.2⟩
  ·exact h.elim
 case extract t ix=>
  obtain⟨a,ha,h⟩:=aj h;simp only[cH,ha,aX,aW]
  split at h
  ·obtain⟨b,hb,h⟩:=aj h;simp only[hb,aX,aW];exact⟨_,rfl,h⟩
  ·exact h.elim
 case nilCheck x=>
  obtain⟨a,ha,h⟩:=aj h;simp only[cH,ha,aX,aW]
  split at h
  ·exact⟨_,rfl,h⟩
  ·exact⟨_,rfl,h⟩
  ·exact⟨_,rfl,h⟩
  ·exact h.elim
 case fieldAddr T x f=>
  obtain⟨a,ha,h⟩:=aj h;obtain⟨d,hd,h⟩:=aj h;simp only[cH,ha,hd,aX,aW]
  split at h
  ·exact⟨_,rfl,h⟩
  ·exact⟨_,rfl,h⟩
  ·exact h.elim
 case indexAddr T x i=>
  obtain⟨a,ha,h⟩:=aj h;obtain⟨b,hb,h⟩:=aj h;simp only[cH,ha,hb,aX,aW]
  split at h
  ·obtain⟨k,hk,h⟩:=aj h;simp only[hk,aX,aW]
   split at h
   ·exact⟨_,⟨h.1,h.2.1,rfl⟩,h.2.2⟩
   ·exact h.elim
  obtain⟨k,hk,h⟩:=aj h;simp only[hk,aX,aW]
  split at h
  ·obtain⟨h0,h⟩:=h;obtain⟨e,he,h1,h2⟩:=aj h;simp only[he,aX,aW];exact⟨_,⟨h0,h1,rfl⟩,h2⟩
  ·exact⟨_,⟨h.1,h.2.1,h.2.2.1,rfl⟩,h.2.2.2⟩
  ·exact h.elim
 case index T x i=>
  obtain⟨a,ha,h⟩:=aj h;obtain⟨b,hb,h⟩:=aj h;simp only[cH,ha,hb,aX,aW]
  split at h
  ·obtain⟨h0,h1,h⟩:=h;obtain⟨e,he,h2⟩:=aj h;simp only[he,aX,aW];exact⟨_,⟨h0,h1,rfl⟩,h2⟩
  ·exact h.elim
 case field T x f=>
  obtain⟨a,ha,h⟩:=aj h;obtain⟨d,hd,h⟩:=aj h;simp only[cH,ha,hd,aX,aW]
  split at h
  ·obtain⟨e,he,h⟩:=aj h;simp only[he,aX,aW];exact⟨_,rfl,h⟩
  ·exact h.elim
 case makeFunc fn first captured=>
  obtain⟨a,ha,h⟩:=aj h;obtain⟨b,hb,h⟩:=aj h;simp only[cH,ha,hb,aX,aW]
  split at h
  ·exact⟨_,rfl,h⟩
  ·exact h.elim
theorem D3 {P:Program} {d d':Option TypeDesc} {x:AV} {σ:aa} {K:AV→Prop} (h:fD P d d' x σ fun v σ'=>σ'=σ∧K v):∃v,(fD P d d' x σ fun v' σ'=>v'=v∧σ'=σ)∧K v:=by
 unfold fD at h ⊢
 split at h
 ·exact⟨_,⟨h.1,rfl,rfl⟩,h.2.2⟩
 ·exact⟨_,⟨rfl,rfl⟩,h.2⟩
 ·exact absurd h.2.1 (by simp)
 ·obtain⟨he,h⟩:=h;obtain⟨es,hes,h⟩:=aj h;obtain⟨ns,hns,h⟩:=aj h;simp only[hes,hns,aX,aW];exact⟨_,⟨he,rfl,trivial⟩,h.2⟩
 ·exact h.elim
theorem BS {P:Program} {d:Option TypeDesc} {x:AV} {mx:Option Operand} {hi:Bool} {l h:Int} {len:Nat} {mz:Int} {K:AV→Prop} (hk:fI P d x mx hi l h len mz K):∃v,(fI P d x mx hi l h len mz fun u=>u=v)∧K v:=by
 unfold fI at hk ⊢
 split at hk
 ·exact⟨_,⟨hk.1,hk.2.1,hk.2.2.1,rfl⟩,hk.2.2.2⟩
 ·exact⟨_,⟨hk.1,hk.2.1,hk.2.2.1,hk.2.2.2.1,hk.2.2.2.2.1,rfl⟩,hk.2.2.2.2.2⟩
 ·obtain⟨h1,h2,h3,h4,h5,h6,h7⟩:=hk
  by_cases hc:l=0∨l<len
  ·exact⟨_,⟨h1,h2,h3,h4,h5,fun _=>rfl,fun ha hb=>absurd hc (by omega)⟩,h6 hc⟩
  ·exact⟨_,⟨h1,h2,h3,h4,h5,fun ha=>absurd ha hc,fun ha hb=>rfl⟩,h7 (by omega) (by omega)⟩
 ·exact⟨_,⟨hk.1,hk.2.1,hk.2.2.1,hk.2.2.2.1,hk.2.2.2.2.1,hk.2.2.2.2.2.1,rfl⟩,hk.2.2.2.2.2.2⟩
 ·exact hk.elim
theorem A5 {P:Program} {T:TypeId} {m k:AV} {ok:Bool} {σ:aa} {K:AV→Prop} (h:fa P T m k ok σ K):∃v,(fa P T m k ok σ fun u=>u=v)∧K v:=by
 unfold fa at h ⊢;obtain⟨t,ht,h⟩:=aj h;obtain⟨kv,hk,h⟩:=aj h;obtain⟨z,hz,h⟩:=aj h;obtain⟨es,hes,h⟩:=aj h;refine⟨_,?_,h.2.2.2.2⟩;rw[ch ht,ch hk,ch hz,ch hes];exact⟨h.1,h.2.1,h.2.2.1,h.2.2.2.1,rfl⟩
theorem DN {σ:aa} {m:AV} {es:List (Value×AV)} (τ:aa) (h:vn σ m=some es):vn (σ++τ) m=some es:=by
 unfold vn at h ⊢
 split at h
 ·rename_i b
  obtain⟨hlt,hob⟩:=v9 h;have:(σ++τ)[b]? = some (.map es):=by rw[List.getElem?_append_left hlt,List.getElem?_eq_getElem hlt,hob]
  rw[this];rfl
 ·exact h
 ·cases h
theorem zG {P:Program} {T:TypeId} {m k:AV} {ok:Bool} {σ:aa} {K:AV→Prop} (τ:aa) (h:fa P T m k ok σ K):fa P T m k ok (σ++τ) K:=by
 unfold fa at h ⊢;obtain⟨t,ht,h⟩:=aj h;obtain⟨kv,hk,h⟩:=aj h;obtain⟨z,hz,h⟩:=aj h;obtain⟨es,hes,h⟩:=aj h;rw[ch ht,ch hk,ch hz,ch (DN τ hes)];exact h
theorem vL {P:Program} {ev:Operand→Option AV} {σ:aa} {K:AV→Prop} (op:Op) (h:jT P op ev σ K):∃v,bk P op ev σ v∧K v:=by
 cases op<;>(try exact h.elim)
 case buildSlice T n parts=>
  obtain⟨k,hk,h⟩:=aj h;obtain⟨ps,hps,h⟩:=aj h;obtain⟨es,hes,h⟩:=aj h;simp only[bk,hk,hps,hes,aX,aW,and_true];exact⟨_,⟨h.1,h.2.1,h.2.2.1,rfl⟩,h.2.2.2⟩
 case load T a=>
  obtain⟨p,hp,h⟩:=aj h;obtain⟨v,hv,h⟩:=aj h;simp only[bk,AOp,hp,hv,aX,aW,and_true];exact⟨_,rfl,h⟩
 case build T parts=>
  obtain⟨z,hz,h⟩:=aj h;obtain⟨pl,hpl,h⟩:=aj h;obtain⟨ps,hps,h⟩:=aj h;obtain⟨l,hl,h⟩:=aj h;simp only[bk,AOp,hz,hpl,hps,hl,aX,aW,and_true];exact⟨_,rfl,h⟩
 case move x=>
  obtain⟨a,ha,h⟩:=aj h;simp only[bk,AOp,cH,ha,aX,aW,and_true];exact⟨_,rfl,h⟩
 case assign x=>
  obtain⟨a,ha,h⟩:=aj h;simp only[bk,AOp,cH,ha,aX,aW,and_true];exact⟨_,rfl,h⟩
 case pick c a b=>
  obtain⟨cv,hc,h⟩:=aj h;obtain⟨av,ha,h⟩:=aj h;obtain⟨bv,hb,h⟩:=aj h;simp only[bk,AOp,cH,hc,ha,hb,aX,aW,and_true]
  split at h
  ·rename_i t _ _
   cases t
   ·exact⟨_,⟨(fun h=>by cases h),(fun _=>⟨rfl,rfl⟩)⟩,h.2 rfl⟩
   ·exact⟨_,⟨(fun _=>⟨rfl,rfl⟩),(fun h=>by cases h)⟩,h.1 rfl⟩
  ·exact h.elim
 case binOp op T x y U=>
  obtain⟨a,ha,h⟩:=aj h;obtain⟨b,hb,h⟩:=aj h;simp only[bk,AOp,cH,ha,hb,aX,aW,and_true];obtain⟨v,h1,h2⟩:=EV h;refine⟨.c v,?_,h2⟩;have h1:=EW h1
  simpa using h1
 case unOp op T x=>
  obtain⟨v,h1,h2⟩:=iH (P:=P) (ev:=ev) (K:=K) (.unOp op T x) trivial h;exact⟨v,by simp only[bk,AOp];simpa using h1,h2⟩
 case extract t ix=>
  obtain⟨v,h1,h2⟩:=iH (P:=P) (ev:=ev) (K:=K) (.extract t ix) trivial h;exact⟨v,by simp only[bk,AOp];simpa using h1,h2⟩
 case nilCheck x=>
  obtain⟨v,h1,h2⟩:=iH (P:=P) (ev:=ev) (K:=K) (.nilCheck x) trivial h;exact⟨v,by simp only[bk,AOp];simpa using h1,h2⟩
 case fieldAddr T x f=>
  obtain⟨v,h1,h2⟩:=iH (P:=P) (ev:=ev) (K:=K) (.fieldAddr T x f) trivial h;exact⟨v,by simp only[bk,AOp];simpa using h1,h2⟩
 case indexAddr T x i=>
  obtain⟨v,h1,h2⟩:=iH (P:=P) (ev:=ev) (K:=K) (.indexAddr T x i) trivial h;exact⟨v,by simp only[bk,AOp];simpa using h1,h2⟩
 case index T x i=>
  obtain⟨v,h1,h2⟩:=iH (P:=P) (ev:=ev) (K:=K) (.index T x i) trivial h;exact⟨v,by simp only[bk,AOp];simpa using h1,h2⟩
 case field T x f=>
  obtain⟨v,h1,h2⟩:=iH (P:=P) (ev:=ev) (K:=K) (.field T x f) trivial h;exact⟨v,by simp only[bk,AOp];simpa using h1,h2⟩
 case makeFunc fn first captured=>
  obtain⟨v,h1,h2⟩:=iH (P:=P) (ev:=ev) (K:=K) (.makeFunc fn first captured) trivial h
  exact⟨v,by simp only[bk,AOp];simpa using h1,h2⟩
 case convert s d x=>
  obtain⟨a,ha,h⟩:=aj h;simp only[bk,AOp,ha,aX,aW];exact D3 h
 case slice T x lo hi mx=>
  obtain⟨a,ha,h⟩:=aj h;obtain⟨l,hl,h⟩:=aj h;obtain⟨len,hlen,h⟩:=aj h;obtain⟨hh,hhh,h⟩:=aj h;obtain⟨mz,hmz,h⟩:=aj h;simp only[bk,AOp,cH,ha,hl,hlen,hhh,hmz,aX,aW,and_true];obtain⟨v,h1,h2⟩:=BS h;refine⟨v,?_,h2⟩;have e:(fun u=>u=v)=(fun u=>u=v∧σ=σ):=by funext u;simp
  exact e▸h1
 case lookup T m k ok=>
  obtain⟨a,ha,h⟩:=aj h;obtain⟨b,hb,h⟩:=aj h;obtain⟨v,h1,h2⟩:=A5 h;refine⟨v,?_,h2⟩;simp only[bk,AOp,ha,hb,aX,aW,and_true];exact h1
 case call c=>
  obtain⟨callee,args,ts⟩:=c
  cases callee with
  | value f=>
   obtain⟨fv,hf,h⟩:=aj h;obtain⟨as',has,h⟩:=aj h;simp only[bk,AOp,hf,has,aX,aW,and_true]
   split at h
   ·obtain⟨hok,v,hc,hk⟩:=h;have hc:=hc [];simp only[List.append_nil] at hc;exact⟨v,⟨hok,hc.mono fun _ _ ⟨h1,h2⟩=>⟨h2,h1⟩⟩,hk⟩
   ·exact h.elim
  | builtin b=>
   cases b<;>(try exact h.elim)
   case len=>
    obtain⟨as',has,h⟩:=aj h
    split at h
    ·rename_i x t tr hts
     obtain⟨n,hn,h1,h2⟩:=aj h;refine⟨_,?_,h2⟩;simp only[bk,AOp,has,aX,aW,and_true]
     cases x<;>first|(cases hn;done)|(simp only[cH,has,hts,aX,aW,and_true];first|(rw[ch hn];exact⟨h1,rfl⟩)|(cases hn;exact⟨h1,rfl⟩))
    ·exact h.elim
   case max=>
    obtain⟨as',has,h⟩:=aj h
    split at h
    ·refine⟨_,?_,h⟩;simp only[bk,AOp,cH,has,aX,aW,and_true]
    ·exact h.elim
   case min=>
    obtain⟨as',has,h⟩:=aj h
    split at h
    ·refine⟨_,?_,h⟩;simp only[bk,AOp,cH,has,aX,aW,and_true]
    ·exact h.elim
  | _=>exact h.elim
theorem uJ {σ:aa} {x:AV} {es:List (List AV)} (τ:aa) (h:bO σ x=some es):bO (σ++τ) x=some es:=by
 rw[ee] at h ⊢;unfold dl at *
 split at h
 ·exact h
 ·exact h
 ·exact h
 ·rename_i b k s n c
  cases hb:σ[b]? with
  | none=>rw[hb] at h;cases h
  | some ob=>
   rw[hb] at h;obtain⟨hlt,e⟩:=List.getElem?_eq_some_iff.1 hb;have:(σ++τ)[b]? = some ob:=by rw[List.getElem?_append_left hlt];exact hb
   rw[this];exact h
 ·cases h
theorem Ci {P:Program} {σ:aa} {T:TypeId} {p v:AV} (τ:aa) (h:ln P σ T p=some v):ln P (σ++τ) T p=some v:=by
 unfold ln at *
 split at h
 ·rename_i b k i off
  obtain⟨e,he,h2⟩:=Option.bind_eq_some_iff.1 h;refine Option.bind_eq_some_iff.2 ⟨e,?_,h2⟩;unfold m9 at *
  cases hb:σ[b]? with
  | none=>rw[hb] at he;cases he
  | some ob=>
   rw[hb] at he;obtain⟨hlt,e⟩:=List.getElem?_eq_some_iff.1 hb;have:(σ++τ)[b]? = some ob:=by rw[List.getElem?_append_left hlt];exact hb
   rw[this];exact he
 ·exact h
 ·cases h
theorem qK {P:Program} {ev:Operand→Option AV} {σ:aa} {K:AV→Prop} (op:Op) (h:jT P op ev σ K):∃v,(∀τ,bk P op ev (σ++τ) v)∧K v:=by
 by_cases hcall:∃f args ts,op = .call { callee:=.value f,args:=args,argTypes:=ts }
 ·obtain⟨f,args,ts,rfl⟩:=hcall;obtain⟨fv,hf,h⟩:=aj h;obtain⟨as',has,h⟩:=aj h
  split at h
  ·obtain⟨hok,v,hc,hk⟩:=h;refine⟨v,fun τ=>?_,hk⟩;simp only[bk,AOp,hf,has,aX,aW,and_true];exact⟨hok,(hc τ).mono fun _ _ ⟨h1,h2⟩=>⟨h2,h1⟩⟩
  ·exact h.elim
 ·obtain⟨v,hq,hk⟩:=vL op h;refine⟨v,fun τ=>?_,hk⟩;clear hk
  cases op<;>(try exact h.elim)
  case buildSlice T n parts=>exact hq
  case load T a=>
   obtain⟨p,hp,hq⟩:=aj hq;obtain⟨x,hx,hq⟩:=aj hq;simp only[bk,AOp,hp,Ci τ hx,aX,aW,and_true];exact hq.1
  case lookup T m k ok=>
   simp only[bk,AOp,and_true] at hq ⊢;obtain⟨a,ha,hq⟩:=aj hq;obtain⟨b,hb,hq⟩:=aj hq;rw[ch ha,ch hb];exact zG τ hq
  case convert s d x=>
   obtain⟨a,ha,hq⟩:=aj hq;simp only[bk,AOp,ha,aX,aW];unfold fD at hq ⊢
   split at hq
   ·exact⟨hq.1,hq.2.1,rfl⟩
   ·exact⟨hq.1,rfl⟩
   ·exact absurd hq.2.2 (by simp)
   ·obtain⟨he,hq⟩:=hq;obtain⟨es,hes,hq⟩:=aj hq;obtain⟨ns,hns,hq⟩:=aj hq;simp only[uJ τ hes,hns,aX,aW];exact⟨he,hq.1,trivial⟩
   ·exact hq.elim
  case call c=>
   obtain⟨callee,args,ts⟩:=c
   cases callee with
   | value f=>exact absurd ⟨f,args,ts,rfl⟩ hcall
   | builtin b=>
    cases b<;>(try exact h.elim)
    case max=>simp only[bk,AOp,and_true] at hq ⊢;exact hq
    case min=>simp only[bk,AOp,and_true] at hq ⊢;exact hq
    simp only[bk,AOp,and_true] at hq ⊢;obtain⟨l,hl,hq⟩:=aj hq;rw[ch hl];obtain⟨l2,hl2,h⟩:=aj h;rw[hl] at hl2
    cases hl2
    split at h
    ·rename_i x t tr hts
     obtain⟨n,hn,h1,h2⟩:=aj h
     cases x<;>first|(cases hn;done)|exact hq|(
      obtain⟨es,hes,hq⟩:=aj hq;rw[ch (uJ τ hes)];exact hq)
    ·exact h.elim
   | _=>exact h.elim
  all_goals (simp only[bk,AOp,and_true] at hq ⊢;exact hq)
def oW (P:Program) (N:Nat) (ops:List Oper) (σ:aa) (K:AF→Prop):List Oper→AF→Prop
 | [],α=>K α
 | o::r,α=>dC ops o.guard α fun α=>dk ops o.guard α
   (fun α=>jT P o.op (evF α) σ fun v=>br N o.dst v α fun α'=>oW P N ops σ K r α')
   (fun α=>br N o.dst (.c undef) α fun α'=>oW P N ops σ K r α')
def y5 (P:Program) (o:Oper) (ev:Operand→Option AV) (σ:aa) (z:List AV) (K:AV→Prop):Prop:=
 match o.op with
 | .alloc _=>o.guard=none∧K (.ptr σ.length z.length 0 0)
 | op=>jT P op ev σ K
def oU (P:Program) (N:Nat) (ops:List Oper) (σ:aa) (z:List AV) (K:AF→Prop):List Oper→AF→Prop
 | [],α=>K α
 | o::r,α=>dC ops o.guard α fun α=>dk ops o.guard α
   (fun α=>y5 P o (evF α) σ z fun v=>br N o.dst v α fun α'=>oU P N ops σ z K r α')
   (fun α=>br N o.dst (.c undef) α fun α'=>oU P N ops σ z K r α')
section
variable {P:Program} {N:Nat} {ops:List Oper} {σ:aa} {z:List AV} {K:AF→Prop} {α:AF} {r:List Oper} {dst:Option Tmp} {op:Op} {ty:TypeId} {pos:String} {after:Array Edge} {g:Option (Nat×Bool)}
theorem DL:oU P N ops σ z K [] α=K α:=rfl
theorem Cc:oU P N ops σ z K ({ dst:=dst,op:=op,type:=ty,pos:=pos,after:=after,guard:=g } :: r) α=fB ops g α
   (fun α=>y5 P { dst:=dst,op:=op,type:=ty,pos:=pos,after:=after,guard:=g } (evF α) σ z fun av=>br N dst av α fun α'=>oU P N ops σ z K r α') (fun α=>br N dst (.c undef) α fun α'=>oU P N ops σ z K r α'):=rfl
end
theorem DT {P:Program} {N:Nat} {ops:List Oper} {σ:aa} {K:AF→Prop} {α:AF} : oW P N ops σ K [] α=K α:=rfl
theorem Cl {P:Program} {N:Nat} {ops:List Oper} {σ:aa} {K:AF→Prop} {α:AF} {r:List Oper} {dst:Option Tmp} {op:Op} {ty:TypeId} {pos:String} {after:Array Edge} {g:Option (Nat×Bool)} :
  oW P N ops σ K ({ dst:=dst,op:=op,type:=ty,pos:=pos,after:=after,guard:=g } :: r) α=fB ops g α
   (fun α=>jT P op (evF α) σ fun av=>br N dst av α fun α'=>oW P N ops σ K r α') (fun α=>br N dst (.c undef) α fun α'=>oW P N ops σ K r α'):=rfl
theorem sN {ops:List Oper} {g:Option (Nat×Bool)} {α:AF} {K K':AF→Prop} (hk:∀α,K α→K' α) (h:dC ops g α K):dC ops g α K':=by
 unfold dC at h ⊢
 split at h
 ·exact hk _ h
 ·obtain⟨d,hd,h⟩:=aj h;obtain⟨v,hv,h⟩:=aj h;simp only[hd,hv,aX,aW]
  split at h
  ·exact⟨fun hb=>hk _ (h.1 hb),fun hb=>hk _ (h.2 hb)⟩
  ·exact hk _ h
theorem sZ {ops:List Oper} {g:Option (Nat×Bool)} {α:AF} {s t s' t':AF→Prop} (hs:∀α,s α→s' α) (ht:∀α,t α→t' α) (h:dk ops g α s t):dk ops g α s' t':=by
 unfold dk at h ⊢
 split at h
 ·exact hs _ h
 ·rename_i j want
  obtain⟨d,hd,h⟩:=aj h;obtain⟨v,hv,h⟩:=aj h;simp only[hd,hv,aX,aW]
  split at h
  ·cases want
   ·exact ht _ h
   ·exact hs _ h
  ·cases want
   ·exact hs _ h
   ·exact ht _ h
  ·exact ht _ h
  ·exact h.elim
theorem lN {N:Nat} {d:Option Tmp} {v:AV} {α:AF} {K K':AF→Prop} (hk:∀α,K α→K' α) (h:br N d v α K):br N d v α K':=by
 unfold br at h ⊢
 split at h
 ·exact⟨h.1,hk _ h.2⟩
 ·exact hk _ h
theorem xZ {P:Program} {N:Nat} {ops:List Oper} {σ:aa} {mk:Option (TypeId×List AV)} {K:AF→Prop} : ∀(l:List Oper) (α:AF),oW P N ops σ K l α→nm P N ops σ mk K l α:=by
 intro l
 induction l with
 | nil=>intro α h;exact h
 | cons o r ih=>
  intro α h;refine sN (fun α h=>sZ (fun α h=>?_) (fun α h=>lN (fun α h=>ih α h) h) h) h;obtain⟨v,h1,h2⟩:=qK _ h;exact⟨v,.inl h1,lN (fun α h=>ih α h) h2⟩
def DP:Op→Bool
 | .store .. => true
 | .alloc .. => true
 | .box .. => true
 | .insert .. => true
 | .mapUpdate .. => true
 | .makeMap .. => true
 | .makeSlice .. => true
 | .call { callee:=.builtin .append,args:=_,argTypes:=_ } => true
 | .call { callee:=.builtin .copy,args:=_,argTypes:=_ } => true
 | _=>false
def oC:List Oper→Nat
 | []=>0
 | o::r=>match DP o.op with
  | true=>0
  | false=>oC r+1
theorem fT {rd:Option Nat} {P:Program} {N:Nat} {ops:List Oper} {α0:AF} {σ:aa} {Q:bV} {id:Nat} (p:Nat) (hm:P.follows .mixedOrders=true) (hB:(dQ ops p&&bT ops&&cy ops&&decide (p≤ops.length))=true)
  (h:oW P N ops σ (fun α=>dw P N ops (fun α σ=>Q .normal α σ) (ops.drop p) α σ) (ops.take p) α0):aK rd P N (.region id ops.toArray true) Q α0 σ:=
 El p hm hB (xZ _ _ h)
theorem CY {rd:Option Nat} {P:Program} {N:Nat} {ops:List Oper} {α0:AF} {σ:aa} {Q:bV} {id:Nat} (hm:P.follows .mixedOrders=true) (hB:(dQ ops (oC ops)&&bT ops&&cy ops&&decide (oC ops≤ops.length))=true)
  (h:oW P N ops σ (fun α=>dw P N ops (fun α σ=>Q .normal α σ) (ops.drop (oC ops)) α σ) (ops.take (oC ops)) α0):aK rd P N (.region id ops.toArray true) Q α0 σ:=
 fT _ hm hB h
def iz:Op→Bool
 | .alloc _=>true
 | _=>false
def fz:List Oper→Bool→Nat
 | [],_=>0
 | o::r,b=>match iz o.op&&b with
  | true=>fz r false+1
  | false=>match DP o.op with
   | true=>0
   | false=>fz r b+1
def pJ:List Oper→Option TypeId
 | []=>none
 | o::r=>match o.op with
  | .alloc T=>some T
  | _=>pJ r
def ye (ops:List Oper) (p:Nat):Bool:=(List.range p).any fun q=>(List.range p).all fun j=>match ops[j]? with|some o=>(iz o.op==(j==q))&&(!iz o.op||o.guard.isNone)|none=>false
theorem tf:∀(ops:List Oper) (q p:Nat) (o:Oper),q<p→ops[q]? = some o→(∀j,j<p→∀o,ops[j]? = some o→(iz o.op=true↔j=q))→∀T,pJ ops=some T→o.op = .alloc T
 | [],q,p,o,_,h,_,T,_=>by simp at h
 | x::r,0,p,o,hp,h,hj,T,hT=>by
  simp only[List.getElem?_cons_zero,Option.some.injEq] at h;subst h;have:=(hj 0 hp x rfl).2 rfl;unfold pJ at hT
  cases hx:x.op<;>rw[hx] at this hT<;>first|(cases this;done)|(cases hT;rfl)
 | x::r,q+1,p,o,hp,h,hj,T,hT=>by
  have hx:iz x.op=false:=by
   cases hb:iz x.op with
   | false=>rfl
   | true=>have:=(hj 0 (by omega) x rfl).1 hb;omega
  refine tf r q (p-1) o (by omega) (by simpa using h) (fun j hj' o' ho'=>?_) T ?_
  ·have:=hj (j+1) (by omega) o' (by simpa using ho')
   rw[this];omega
  ·unfold pJ at hT
   cases hxo:x.op<;>rw[hxo] at hT hx<;>first|(cases hx;done)|exact hT
theorem xY {P:Program} {N:Nat} {ops:List Oper} {σ:aa} {T:TypeId} {z:List AV} {K:AF→Prop} : ∀(l:List Oper) (α:AF),(∀o∈l,∀T',o.op = .alloc T'→T'=T)→oU P N ops σ z K l α→nm P N ops σ (some (T,z)) K l α:=by
 intro l
 induction l with
 | nil=>intro α _ h;exact h
 | cons o r ih=>
  intro α hl h;have ih':=fun α h=>ih α (fun o ho=>hl o (by simp [ho])) h
  refine sN (fun α h=>sZ (fun α h=>?_) (fun α h=>lN (fun α h=>ih' α h) h) h) h
  by_cases ha:∃T',o.op = .alloc T'
  ·obtain⟨T',ha⟩:=ha;have hT:=hl o (by simp) T' ha
   subst hT;unfold y5 at h;rw[ha] at h;exact⟨_,.inr ⟨h.1,T',z,rfl,ha,rfl⟩,lN (fun α h=>ih' α h) h.2⟩
  ·have h':jT P o.op (evF α) σ fun v=>br N o.dst v α fun α'=>oU P N ops σ z K r α':=by
    unfold y5 at h
    cases ho:o.op<;>rw[ho] at h<;>first|exact h|exact absurd ⟨_,ho⟩ ha
   obtain⟨v,h1,h2⟩:=qK _ h';exact⟨v,.inl h1,lN (fun α h=>ih' α h) h2⟩
theorem wq {rd:Option Nat} {P:Program} {N:Nat} {ops:List Oper} {α0:AF} {σ:aa} {Q:bV} {id:Nat} {T:TypeId} (hm:P.follows .mixedOrders=true) (hB:(dQ ops (fz ops true)&&bT ops&&cy ops&&decide (fz ops true≤ops.length)&&ye ops (fz ops true))=true) (hT:pJ ops=some T)
  (h:on (bY P T) fun z=>oU P N ops σ z (fun α=>dw P N ops (fun α σ=>Q .normal α σ) (ops.drop (fz ops true)) α (σ++[.cells z.length [z]])) (ops.take (fz ops true)) α0):aK rd P N (.region id ops.toArray true) Q α0 σ:=by
 generalize hp:fz ops true=p at hB h
 obtain⟨z,hz,h⟩:=aj h;intro K imm m w a hs hf;simp only[Bool.and_eq_true,decide_eq_true_eq] at hB;obtain⟨⟨⟨⟨hB1,hB2⟩,hB3⟩,hB4⟩,hB5⟩:=hB;obtain⟨q,hq⟩:=List.any_eq_true.1 hB5;simp only[List.mem_range,List.all_eq_true] at hq;obtain⟨hqp,hone⟩:=hq;have hone':∀j,j<p→∀o,ops[j]? = some o→(iz o.op=true↔j=q):=fun j hj o ho=>by
  have:=hone j hj;rw[ho] at this;simp only[Bool.and_eq_true,beq_iff_eq] at this;rw[this.1];simp
 have hqo:ops[q]? = some ops[q]:=List.getElem?_eq_getElem (by omega)
 have hqT:=tf ops q p _ hqp hqo hone' T hT;have hqg:ops[q].guard=none:=by
  have:=hone q hqp;rw[hqo] at this;simp only[Bool.and_eq_true,beq_iff_eq,(hone' q hqp _ hqo).2 rfl,Bool.not_true,Bool.false_or,Option.isNone_iff_eq_none] at this;exact this.2
 have hall:∀j,j<p→∀o,ops[j]? = some o→∀T',o.op = .alloc T'→j=q:=fun j hj o ho T' e=>(hone' j hj o ho).1 (by rw[e];rfl)
 have hc:o9 ops p:=fun i j x y hij hx hy h=>jM hB1 hij hx hy h;have h':=xY (T:=T) _ _ (fun o ho T' e=>by
  obtain⟨j,hj,rfl⟩:=List.getElem_of_mem ho;simp only[List.length_take] at hj;have hjo:ops[j]? = some (ops.take p)[j]:=by rw[List.getElem_take];exact List.getElem?_eq_getElem (by omega)
  have:=hall j (by omega) _ hjo T' e
  subst this;have e2:=Option.some.inj (hqo.symm.trans hjo);rw[←e2,hqT] at e
  cases e
  rfl) h
 obtain⟨vs,bs,_,h2,γ,hγ,h3⟩:=l0 (ops:=ops) (α0:=α0) (ops.take p) 0 (fun _=>.emp) (fun _=>true) α0 (fun _=>rfl) (fun j hj=>by
  simp only[List.length_take] at hj;rw[List.getElem?_take_of_lt (by omega),Nat.zero_add]) h'
 simp only[Nat.zero_add,List.length_take,Nat.min_eq_left hB4] at h2 hγ;refine wpIn_region_any hm ?_;have hst:∀j,j<p→∀o,ops[j]? = some o→pr P N ops σ (some (T,z)) (frL ops α0 vs j) o (bs j) (vs j):=fun j hj o ho=>by
  have:=h2 j hj;rw[List.getElem_take] at this;obtain⟨hj',rfl⟩:=List.getElem?_eq_some_iff.1 ho;exact this
 have hrep:∀i,(Array.replicate ops.toArray.size false).getD i true=true→¬i<ops.length:=fun i h hi=>by
  simp [Array.getD_eq_getD_getElem?,hi] at h
 obtain⟨sg,sg1,sg0⟩:∃sg:(Nat→Prop)→aa,(∀S,S q→sg S=σ++[.cells z.length [z]])∧(∀S,¬S q→sg S=σ++[.res]):=by
  classical
  exact⟨fun S=>if S q then σ++[.cells z.length [z]] else σ++[.res],fun S h=>if_pos h,fun S h=>if_neg h⟩
 refine lM (σ:=σ++[.cells z.length [z]]) sg hB2 hc hB3 hB4 (fun S h=>sg1 S (h q hqp)) (fun j o S imm m a w next Q' hj ho hsl hs hI hcl hnS hanc hn=>?_) hγ h3 _ _ a _ imm m ?_ (by simp) (fun i hi=>absurd hi.1 (hrep i hi.2)) (fun i hi h=>absurd hi (hrep i h)) ?_
  ⟨hf.defers,hf.size,fun t i h=>absurd h.1.1 (hrep i h.1.2),fun t av _ h=>hf.slot t av h⟩
 ·by_cases hjq:j=q
  ·subst hjq;rw[hqo] at ho
   cases ho
   rw[sg0 S hnS] at hs;have hs0:=hs.unres;obtain⟨hdN,hk⟩:=hst j hj _ hqo;have hv:vs j = .ptr σ.length z.length 0 0:=by
    rcases hk with ⟨_,hk,_⟩|⟨_,_,g,want,d,hg,_⟩
    ·rcases hk with hk|⟨hg,T',z',e1,_,e3⟩
     ·have:=hk [];rw[hqT] at this;simp only[bk,AOp,hz,aX,List.append_nil] at this;have h9:=congrArg List.length this.2;simp at h9
     ·cases e1
      exact e3
    ·rw[hqg] at hg
     cases hg
   have hup:=eL (P:=P) (dst:=ops[j].dst) (type:=ops[j].type) (pos:=ops[j].pos) (after:=ops[j].after) (guard:=ops[j].guard) ops[j].op hs0 (ev:=fun _=>none) (ρ:=a.eval) (fun x av h=>by cases h)
    (Kont:=fun v' σ'=>v' = .ptr σ.length z.length 0 0∧σ'=σ++[.cells z.length [z]]) (by rw[hqT];simp only[AOp,hz,aX];exact⟨rfl,rfl⟩)
   have hoa:ops.toArray[j]? = some ops[j]:=by simpa using hqo
   unfold wpOpIn;simp only[hoa];rw[if_pos (by simp [Region.wanted,hqg])]
   refine dc (fun c e=>by rw[hqT] at e;cases e) hup fun imm' m' v av σ' w' h1 h2 hs' hr hk'=>?_
   obtain⟨rfl,rfl⟩:=hk';exact hn imm' m' v w' h1 h2 (by rw[sg1 _ (.inr rfl)];exact hs') ((hI.mono h1 h2).step hc hcl hqo hnS hdN (by rw[hv];exact hr))
  ·have hnm:∀T',o.op ≠ .alloc T':=fun T' e=>hjq (hall j hj o ho T' e)
   by_cases hSq:S q
   ·rw[sg1 S hSq] at hs;exact p5 hs hI hc hcl ho hnS hanc hsl (.inr hnm) (hst j hj o ho) fun imm' m' v w' h1 h2 h3 h4=>hn imm' m' v w' h1 h2 (by rw[sg1 _ (.inl hSq)];exact h3) h4
   ·rw[sg0 S hSq] at hs;exact p5 hs hI hc hcl ho hnS hanc hsl (.inr hnm) (hst j hj o ho) fun imm' m' v w' h1 h2 h3 h4=>hn imm' m' v w' h1 h2 (by rw[sg0 _ (by rintro (h|h);exact hSq h;exact hjq h.symm)];exact h3) h4
 ·simp [left]
 ·rw[sg0 _ (fun h=>hrep q h.2 h.1)];exact hs.drew.res
end Go.Proofs.YtephecognbbaoaaGreat
namespace Go.Proofs.YtephecognbbaoaaGreat
open Go
set_option linter.all false
section
variable {rd:Option Nat} {P:Program} {N:Nat} {K0:World} {imm:Imm} {m:Own} {w:World} {α:AF} {σ:aa} {a:Act} {Q:bV}
theorem Sim.loopAt (hs:Sim K0 imm m w σ) {b l n:Nat} {al:AF} {r:Loop} (hb:σ[b]? = some (.lp l al n r)) :
  ∃(hlt:b<σ.length) (sz:Nat),σ[b] = .lp l al n r∧m b=some (l,sz)∧imm l=none∧w.heap[l]? = some (.loop r)∧r.tmps.size=n ∧
   (∀t av,aB al t=some av→∃v,r.tmps[t]? = some v∧Rep imm m v av)∧∀t av,aB al t=some av→Bd b av:=by
 obtain⟨hlt,hob⟩:=List.getElem?_eq_some_iff.1 hb;have h0:=hs.obs b hlt;rw[hob] at h0;obtain⟨blk,sz,h1,h2,rfl,h4,h5,h6,h7⟩:=h0;exact⟨hlt,sz,hob,h1,h2,h4,h5,h6,h7⟩
theorem Bp (l:Nat) (o:Obj):eI w (w.putObj l o):=⟨rfl,rfl,rfl,by simp⟩
theorem Sim.loopSet (hs:Sim K0 imm m w σ) {b l n:Nat} {al:AF} {r:Loop} (hb:σ[b]? = some (.lp l al n r)) (st:LoopState) (pe:Option Code) :
  Sim K0 imm m (w.putObj l (.loop { r with state:=st,pending:=pe })) (σ.set b (.lp l al n { r with state:=st,pending:=pe })):=by
 obtain⟨hlt,sz,hob,h1,h2,h4,h5,h6,h7⟩:=hs.loopAt hb;have hl:l<w.heap.size:=(Array.getElem?_eq_some_iff.1 h4).1;exact hs.setO (Bp _ _) hlt h1 (by rw[hob];rfl) (fun c hc=>World.putObj_heap_other hc) _ ⟨l,sz,h1,h2,rfl,World.putObj_heap_same hl,h5,h6,h7⟩
def un (l b:Nat) (al:AF) (n:Nat) (r:Loop) (R:AV→aa→Prop):bV:=fun e _ σ=>
 match e with
 | .normal=>σ[b]? = some (.lp l al n { r with state:=.busy })∧R (.c (.bool true)) (σ.set b (.lp l al n { r with state:=.ready,pending:=none }))
 | .ret=>σ[b]? = some (.lp l al n { r with state:=.busy })∧R (.c (.bool false)) (σ.set b (.lp l al n { r with state:=.done,pending:=some .ret }))
 | .exit id=>σ[b]? = some (.lp l al n { r with state:=.busy })∧R (.c (.bool false)) (σ.set b (.lp l al n { r with state:=.done,pending:=some (.exit id) }))
 | _=>False
theorem CO {l b p:Nat} {al:AF} {r:Loop} {x:AV} {R:AV→aa→Prop} (hb:σ[b]? = some (.lp l al N r)) (hst:r.state = .ready) (hp:r.params = #[p]) (hpN:p<N)
  (h:aK (some l) P N r.assign (ah (fun α σ=>σ[b]? = some (.lp l al N r)∧aK (some l) P N r.body (un l b al N r R) α (σ.set b (.lp l al N { r with state:=.busy }))) (fun _ _ _=>False)) ((p,x)::al) σ) :
  jP P l [x] σ R:=by
 intro K imm m w vs hs hv;obtain⟨hlt,sz,hob,h1,h2,h4,h5,h6,h7⟩:=hs.loopAt hb;obtain⟨v,rfl⟩:∃v,vs=[v]:=by
  have:=hv.1
  match vs,this with
  | [v],_=>exact⟨v,rfl⟩
 have hx:Rep imm m v x:=hv.2 0 (by simp) (by simp)
 refine⟨r,h4,by rw[hp];rfl,roundIn_of_wpIn (F:=Fence.wide) (n:=0) trivial ?_⟩
 have hf:FOk K imm m N { tmps:=(r.params.zip [v].toArray).foldl (fun tmps (t,a)=>tmps.setIfInBounds t a) r.tmps,defers:=[] } ((p,x)::al):=by
  have e:(r.params.zip [v].toArray).foldl (fun tmps (t,a)=>tmps.setIfInBounds t a) r.tmps=r.tmps.setIfInBounds p v:=by rw[hp];simp
  rw[e];refine⟨lu.nil _ _,by simp [h5],fun t av ht=>?_⟩
  simp only[aB] at ht
  split at ht
  ·rename_i e
   subst e
   cases ht
   exact⟨v,by simp [h5,hpN],hx⟩
  ·rename_i e
   obtain⟨u,hu,q⟩:=h6 t av ht;exact⟨u,by simp [Array.getElem?_setIfInBounds,e,hu],q⟩
 refine Code.wpIn_mono ?_ (h K imm m w _ hs hf);rintro e a1 w1 ⟨i1,o1,α1,σ1,hi1,ho1,hs1,hf1,hq1⟩
 cases e with
 | normal=>
  obtain⟨hb1,hbody⟩:=hq1;obtain⟨_,_,_,_,_,g4,_⟩:=hs1.loopAt hb1;refine⟨_,run_beginRound g4 hst,?_⟩;have hs2:=hs1.loopSet hb1 .busy r.pending;refine Code.wpIn_mono ?_ (hbody K i1 o1 _ a1 hs2 hf1);have fin:∀(jump:Option Code) (w2:World) (i2:Imm) (o2:Own) (σ2:aa) (st:LoopState),ILe i1 i2→OLe o1 o2→Sim K i2 o2 w2 σ2→σ2[b]? = some (.lp l al N { r with state:=.busy })→st=(if jump.isNone then .ready else .done) →
    R (.c (.bool jump.isNone)) (σ2.set b (.lp l al N { r with state:=st,pending:=jump })) →
    ∃v w',(Instr.endRound l jump).run P w2 = .ok v w'∧∃imm' m' v' r' σ',Ending.returned v = .returned v'∧ILe imm imm'∧OLe m m'∧Sim K imm' m' w' σ'∧Rep imm' m' v' r'∧R r' σ':=by
   intro jump w2 i2 o2 σ2 st hi ho hs2 hb2 hst2 hR;obtain⟨_,_,_,_,_,k4,_⟩:=hs2.loopAt hb2;subst hst2;exact⟨_,_,run_endRound jump k4,i2,o2,_,_,_,rfl,hi1.trans hi,ho1.trans ho,hs2.loopSet hb2 _ _,.c _,hR⟩
  rintro e a2 w2 ⟨i2,o2,α2,σ2,hi2,ho2,hs2,hf2,hq2⟩
  cases e with
  | normal=>exact fin none w2 i2 o2 σ2 _ hi2 ho2 hs2 hq2.1 rfl hq2.2
  | ret=>exact fin (some .ret) w2 i2 o2 σ2 _ hi2 ho2 hs2 hq2.1 rfl hq2.2
  | exit id=>exact fin (some (.exit id)) w2 i2 o2 σ2 _ hi2 ho2 hs2 hq2.1 rfl hq2.2
  | _=>exact hq2.elim
 | _=>exact hq1.elim
theorem qV (o:Obj) {b:Nat} (hb:b<w.heap.size):(w.alloc o).heap[b]? = w.heap[b]? := by
 show (w.heap.push o)[b]? = _;rw[Array.getElem?_push,if_neg (by omega)]
def Bu (imm:Imm) (n:Nat) (o:Obj):Imm:=fun b=>if b=n then some o else imm b
theorem vG {imm:Imm} {n b:Nat} {o:Obj} (h:b≠n):Bu imm n o b=imm b:=if_neg h
theorem wi {imm:Imm} {n:Nat} {o:Obj} : Bu imm n o n=some o:=if_pos rfl
theorem Sim.addImm (hs:Sim K0 imm m w σ) (o:Obj):∃imm',ILe imm imm'∧imm' w.heap.size=some o∧Sim K0 imm' m (w.alloc o) σ:=by
 have hk:=hs.keep (fh o) (fun b hb=>qV o hb);have hnew:imm w.heap.size=none:=by
  cases h:imm w.heap.size with
  | none=>rfl
  | some o'=>have:=dI (hs.imm_ok _ _ h);omega
 have hle:ILe imm (Bu imm w.heap.size o):=fun b o' h=>by
  rw[vG (fun e=>by rw[e,hnew] at h;cases h)]
  exact h
 refine⟨Bu imm w.heap.size o,hle,wi,hk.os,hk.tape,hk.output,hk.size,fun b o' h=>?_,hk.dom,fun id h=>?_,hk.inj⟩
 ·by_cases e:b=w.heap.size
  ·subst e;rw[wi] at h
   cases h
   exact World.alloc_heap_new _ _
  ·rw[vG e] at h;exact hk.imm_ok b o' h
 ·refine (hs.obs id h).keep hle (.refl _) (fun h=>h) (fun b h hlt=>?_) (fun hl blk sz e=>?_)
  ·rw[vG (by omega)]
   exact h
  ·obtain⟨blk',sz',e',hb,_⟩:=(hs.obs id h).lt hl;rw[e] at e'
   cases e'
   exact qV o hb
theorem CV {t g:Nat} {cap:List AV} {ps:Array Tmp} {assign body:Code} (hl:aB α t=some (.fn g [] cap)) (hok:aw P g=true)
  (h:∀(l:Nat) (r:Loop),r.state = .ready→r.pending=none→r.params=ps→r.assign=assign→r.body=body →
   af P g (.c (.func (.yield l) #[] #[])::cap) (σ++[.lp l α N r]) fun _ σ'=>∃r',σ'[σ.length]? = some (.lp l α N r')∧r'.state ≠ .busy ∧
    (match r'.pending with|none=>Q .normal α (σ'.set σ.length .dead)|some c=>AWP P N c Q α (σ'.set σ.length .dead))) :
  AWP P N (.rangeFunc (.tmp t) ps assign body) Q α σ:=by
 intro K imm m w a hs hf;obtain⟨v,hv,hr⟩:=hf.eval hl
 cases hr with
 | fn f' fs cs _ _ hfl hcl q1 q2=>
  obtain rfl:fs=[]:=List.eq_nil_of_length_eq_zero (by simpa using hfl)
  refine wpIn_rangeFunc fun fn _=>?_;obtain⟨imm1,hi1,hd1,hs1⟩:=hs.addImm (.deferred (some []));obtain⟨rc,hrc⟩:∃rc:Loop,rc = { state:=.ready,pending:=none,fn,tmps:=a.tmps,params:=ps,assign,body,defers:=w.heap.size } := ⟨_,rfl⟩;have hs2:Sim K imm1 (upd m σ.length ((w.alloc (.deferred (some []))).heap.size,0)) ((w.alloc (.deferred (some []))).alloc (.loop rc)) (σ++[.lp (w.heap.size+1) α N rc]):=by
   refine hs1.pushO (fh _) (.loop rc) rfl _ 0 ⟨(w.alloc (.deferred (some []))).heap.size,0,by simp [upd],?_,by simp,?_,by rw[hrc];exact hf.size,fun t av ht=>?_,fun t av ht=>?_⟩
   ·cases hx:imm1 ((w.alloc (.deferred (some []))).heap.size) with
    | none=>rfl
    | some o'=>have:=dI (hs1.imm_ok _ _ hx);omega
   ·exact World.alloc_heap_new _ _
   ·obtain⟨u,hu,q⟩:=hf.slot t av ht;exact⟨u,by rw[hrc];exact hu,q.mono hi1 (.upd (hs1.dom _ (Nat.le_refl _)) _)⟩
   ·obtain⟨u,hu,q⟩:=hf.slot t av ht;exact q.bd hs.dom
  have hlt:(w.alloc (.deferred (some []))).heap.size=w.heap.size+1:=by simp
  have hom:OLe m (upd m σ.length ((w.alloc (.deferred (some []))).heap.size,0)):=.upd (hs.dom _ (Nat.le_refl _)) _;have hcall:=h (w.heap.size+1) rc (by rw[hrc]) (by rw[hrc]) (by rw[hrc]) (by rw[hrc]) (by rw[hrc]) K imm1 _ _ (.func (.yield (w.heap.size+1)) #[] #[]::cs) hs2
   ⟨by simp [hcl],fun i h1 h2=>by
    cases i with
    | zero=>exact .c _
    | succ i=>exact (q2 i (by simpa using h1) (by simpa using h2)).mono hi1 hom⟩
  refine⟨w.heap.size+1,[AZ w.heap.size],(w.alloc (.deferred (some []))).alloc (.loop rc),{ target:=.fn (.func g) cs.toArray,args := #[.func (.yield (w.heap.size+1)) #[] #[]] },(w.alloc (.deferred (some []))).alloc (.loop rc),g,
   (Value.func (.yield (w.heap.size+1)) #[] #[]::cs).toArray,(w.alloc (.deferred (some []))).alloc (.loop rc),?_,?_,fun _ _=>trivial,?_,fun h=>(by cases h),?_⟩
  ·rw[hrc];exact run_enterLoop_outer _ _ _ _ _
  ·simp only[resolve,hv];simp [go_sem]
  ·have hce:∀args w,(callFunc g args).run P w = .ok (.enter g args) w:=by
    intro args w;unfold aw at hok
    split at hok
    ·rename_i fn hfn
     simp only[Bool.and_eq_true,Bool.not_eq_true'] at hok;have hbody:fn.body≠none:=by
      have:=hok.1;intro hb;simp [hb] at this
     have hname:fn.name ≠ "runtime.NumGoroutine" := by simpa using hok.2
     simp only[callFunc,program,Sem.run_bind];simp [hfn,hname,hbody,Sem.run]
    ·cases hok
   have e:(Value.func (.yield (w.heap.size+1)) #[] #[]::cs).toArray = #[Value.func (.yield (w.heap.size+1)) #[] #[]]++cs.toArray:=by simp
   simp only[invoke,e];exact hce _ _
  ·refine CallsIn.mono (callsIn_wide.2 hcall) ?_;rintro e w3 ⟨i3,o3,v3,r3,σ3,rfl,hi3,ho3,hs3,_,r',hb3,hbusy,hq⟩;obtain⟨_,_,_,_,_,g4,_⟩:=hs3.loopAt hb3;refine⟨_,_,run_endLoop g4 hbusy,?_⟩;have hs4:=(hs3.loopSet hb3 .exhausted r'.pending).kill σ.length;rw[List.set_set] at hs4;have hf4:FOk K i3 o3 N { a with defers:=[AZ w.heap.size]++a.defers } α:=by
    obtain⟨rs,n1,n2,n3⟩:=hf.defers;refine⟨⟨w.heap.size::rs,List.nodup_cons.2 ⟨fun hm=>?_,n1⟩,by simp [n2],fun r hr=>?_⟩,hf.size,fun t av ht=>?_⟩
    ·have:=dI (hs.imm_ok _ _ (n3 _ hm).2);omega
    ·rcases List.mem_cons.1 hr with rfl|hr
     ·exact⟨hs.size,hi3 _ _ hd1⟩
     ·exact⟨(n3 r hr).1,hi3 _ _ (hi1 _ _ (n3 r hr).2)⟩
    ·obtain⟨u,hu,q⟩:=hf.slot t av ht;exact⟨u,hu,q.mono (hi1.trans hi3) (hom.trans ho3)⟩
   cases hp:r'.pending with
   | none=>
    rw[hp] at hq hs4;exact⟨i3,o3,α,_,hi1.trans hi3,hom.trans ho3,hs4,hf4,hq⟩
   | some c=>
    rw[hp] at hq hs4;exact Code.wpIn_mono (fun _ _ _ hh=>cK (hi1.trans hi3) (hom.trans ho3) hh) (hq K i3 o3 _ _ hs4 hf4)
end
end Go.Proofs.YtephecognbbaoaaGreat
namespace Go.Proofs.YtephecognbbaoaaGreat
open Go
set_option linter.all false
def cD (bs:Bool×Bool):Op→Bool
 | .store .. => true
 | .alloc .. => true
 | .box .. => true
 | .insert .. => true
 | .mapUpdate .. => true
 | .makeMap _ none=>true
 | .makeSlice .. => true
 | .buildSlice _ n _=>bs.1||n==0
 | .call { callee:=.builtin .append,args:=_,argTypes:=_ } => true
 | .call { callee:=.builtin .copy,args:=_,argTypes:=_ } => true
 | .call { callee:=.value (.func _),args:=_,argTypes:=_ } => bs.2
 | _=>false
def eX:Op→Bool
 | .move .. => true
 | .assign .. => true
 | .pick .. => true
 | .binOp .. => true
 | .unOp .. => true
 | .extract .. => true
 | .nilCheck .. => true
 | .fieldAddr .. => true
 | .indexAddr .. => true
 | .index .. => true
 | .field .. => true
 | .makeFunc .. => true
 | .build .. => true
 | .slice .. => true
 | _=>false
def f9 (bs:Bool×Bool) (ops:List Oper):Bool:=ops.all fun o=>cD bs o.op||eX o.op
def Pre (a b:aa):Prop:=∃τ,b=a++τ
def cI (pu:Bool) (σ0 σ:aa):Prop:=pu=true∨∃τ,σ=σ0++τ
theorem z8 {P:Program} {e:TypeId} {s x:AV} {σ:aa} {K:AV→aa→Prop} (h:iG P e s x σ K):∃v σ',iG P e s x σ (fun v' σ''=>v'=v∧σ''=σ')∧K v σ':=by
 unfold iG at h;obtain⟨h1,h2,h3,h⟩:=h;obtain⟨olds,ho,h⟩:=aj h;obtain⟨news,hn,h4,h⟩:=aj h;unfold iG
 cases s with
 | own b k i n c=>
  obtain⟨h5,h6,h7⟩:=h
  by_cases hc:n+news.length≤c∧n≠c
  ·obtain⟨h8,h9⟩:=h6 hc;obtain⟨ob,hob,h9⟩:=aj h9
   cases ob with
   | cells k' es=>exact⟨_,_,⟨h1,h2,h3,by rw[ho,hn];exact⟨h4,h5,fun _=>⟨h8,by rw[hob];exact⟨rfl,rfl⟩⟩,fun h=>by omega⟩⟩,h9⟩
   | _=>exact h9.elim
  ·obtain⟨a1,a2,a3,a4,a5⟩:=h7 (by omega)
   exact⟨_,_,⟨h1,h2,h3,by rw[ho,hn];exact⟨h4,h5,fun h=>absurd h hc,fun _=>⟨a1,a2,a3,a4,rfl,rfl⟩⟩⟩,a5⟩
 | emp=>
  by_cases hc:news.length=0
  ·exact⟨_,_,⟨h1,h2,h3,by rw[ho,hn];exact⟨h4,fun _=>⟨rfl,rfl⟩,fun h=>by omega⟩⟩,h.1 hc⟩
  ·obtain⟨a1,a2,a3⟩:=h.2 (by omega)
   exact⟨_,_,⟨h1,h2,h3,by rw[ho,hn];exact⟨h4,fun h=>absurd h hc,fun _=>⟨a1,a2,rfl,rfl⟩⟩⟩,a3⟩
 | c v=>
  by_cases hc:news.length=0
  ·exact⟨_,_,⟨h1,h2,h3,by rw[ho,hn];exact⟨h4,fun _=>⟨rfl,rfl⟩,fun h=>by omega⟩⟩,h.1 hc⟩
  ·obtain⟨a1,a2,a3⟩:=h.2 (by omega)
   exact⟨_,_,⟨h1,h2,h3,by rw[ho,hn];exact⟨h4,fun h=>absurd h hc,fun _=>⟨a1,a2,rfl,rfl⟩⟩⟩,a3⟩
 | _=>exact h.elim
theorem sW {P:Program} {T:TypeId} {m k x:AV} {σ:aa} {K:aa→Prop} (h:iA P T m k x σ K):∃σ',iA P T m k x σ (fun σ''=>σ''=σ')∧K σ':=by
 unfold iA at h ⊢;obtain⟨t,ht,h⟩:=aj h;obtain⟨kv,hk,h⟩:=aj h;simp only[ht,hk,aX]
 split at h
 ·obtain⟨es,hes,h⟩:=aj h;simp only[hes,aX];exact⟨_,⟨h.1,h.2.1,h.2.2.1,h.2.2.2.1,rfl⟩,h.2.2.2.2⟩
 ·exact h.elim
def uS (P:Program) (f:FuncId) (args:List AV) (σ:aa) (K:AV→aa→Prop):Prop:=∃v S,af P f args σ (fun r σ'=>r=v∧σ'=S)∧K v S
theorem eG {P:Program} {f:FuncId} {args:List AV} {σ S:aa} {X:AV} {K:AV→aa→Prop} (h:af P f args σ fun r σ'=>σ'=S∧r=X) (hk:K X S):uS P f args σ K:=⟨X,S,h.mono fun _ _ ⟨h1,h2⟩=>⟨h2,h1⟩,hk⟩
theorem CC {P:Program} {f:FuncId} {args:List AV} {σ:aa} {X:AV} {K:AV→aa→Prop} (h:af P f args σ fun r σ'=>σ'=σ∧r=X) (hk:K X σ):uS P f args σ K:=eG h hk
@[congr] theorem FF {P:Program} {f:FuncId} {args args':List AV} {σ:aa} {K:AV→aa→Prop} (h:fK args=args'):uS P f args σ K=uS P f args' σ K:=by rw[←h,aW]
def nP (P:Program) (op:Op) (ev:Operand→Option AV) (σ:aa) (K:AV→aa→Prop):Prop:=
 match op with
 | .call { callee:=.value f,args:=args,argTypes:=_ } => on (ev f) fun f=>on (evL ev args.toList) fun as'=>match f with
  | .fn g first cap=>aw P g=true∧uS P g (first++as'++cap) σ K
  | _=>False
 | op=>AOp P op ev σ K
theorem vK {bs:Bool×Bool} {P:Program} {op:Op} {ev:Operand→Option AV} {σ:aa} {K:AV→aa→Prop} (hl:cD bs op=true) (h:nP P op ev σ K):∃v σ',AOp P op ev σ (fun v' σ''=>v'=v∧σ''=σ')∧K v σ':=by
 cases op<;>(try (cases hl;done))
 case alloc T=>
  obtain⟨z,hz,h⟩:=aj h;simp only[AOp,hz,aX];exact⟨_,_,⟨rfl,rfl⟩,h⟩
 case box T x=>
  obtain⟨a,ha,h⟩:=aj h;simp only[AOp,ha,aX];exact⟨_,_,⟨rfl,rfl⟩,h⟩
 case buildSlice T n ps=>
  obtain⟨k,hk,h⟩:=aj h;obtain⟨qs,hqs,h⟩:=aj h;obtain⟨es,hes,h⟩:=aj h;refine⟨_,_,?_,h.2.2.2⟩;simp only[AOp];rw[ch hk,ch hqs,ch hes];exact⟨h.1,h.2.1,h.2.2.1,rfl,rfl⟩
 case store T a x=>
  obtain⟨p,hp,h⟩:=aj h;obtain⟨v,hv,h⟩:=aj h;obtain⟨σ',hσ,h⟩:=aj h;refine⟨_,_,?_,h⟩;simp only[AOp];rw[ch hp,ch hv,ch hσ];exact⟨trivial,rfl⟩
 case makeSlice T l c=>
  obtain⟨nl,hl,h⟩:=aj h;obtain⟨nc,hc,h⟩:=aj h;simp only[AOp,hl,hc,aX];unfold qk at h ⊢
  split at h
  ·obtain⟨z,hz,h⟩:=aj h;simp only[hz,aX];exact⟨_,_,⟨h.1,h.2.1,h.2.2.1,h.2.2.2.1,h.2.2.2.2.1,rfl,rfl⟩,h.2.2.2.2.2⟩
  ·exact h.elim
 case makeMap T r=>
  cases r with
  | none=>exact⟨_,_,⟨rfl,rfl⟩,h⟩
  | some r=>cases hl
 case insert T m k x=>
  obtain⟨a,ha,h⟩:=aj h;obtain⟨b,hb,h⟩:=aj h;obtain⟨c,hc,h⟩:=aj h;obtain⟨σ',h1,h2⟩:=sW h;refine⟨_,σ',?_,h2⟩;simp only[AOp];rw[ch ha,ch hb,ch hc]
  simpa only[true_and] using h1
 case mapUpdate T m k x=>
  obtain⟨a,ha,h⟩:=aj h;obtain⟨b,hb,h⟩:=aj h;obtain⟨c,hc,h⟩:=aj h;obtain⟨σ',h1,h2⟩:=sW h;refine⟨_,σ',?_,h2⟩;simp only[AOp];rw[ch ha,ch hb,ch hc]
  simpa only[true_and] using h1
 case call c=>
  obtain⟨callee,args,ts⟩:=c
  cases callee with
  | value f=>
   obtain⟨fv,hf,h⟩:=aj h;obtain⟨as',has,h⟩:=aj h
   split at h
   ·obtain⟨h1,v,S2,h2,h3⟩:=h;refine⟨v,S2,?_,h3⟩;simp only[AOp];rw[ch hf,ch has];exact⟨h1,h2⟩
   ·exact h.elim
  | builtin b=>
   cases b<;>(try (cases hl;done))
   case copy=>
    obtain⟨as',has,h⟩:=aj h
    split at h
    ·rename_i x s t t' hts
     unfold sD at h
     split at h
     ·rename_i e hT
      obtain⟨h1,h2,h⟩:=h;obtain⟨news,hn,h3,h4,h⟩:=aj h
      split at h
      ·rename_i b k i n c
       obtain⟨h5,h⟩:=h;obtain⟨ob,hob,h⟩:=aj h
       split at h
       ·rename_i k' es
        obtain⟨h6,h7,h8⟩:=h;refine⟨_,_,?_,h8⟩;simp only[AOp];rw[ch has];simp only[hts,sD,hT];refine⟨h1,h2,?_⟩;rw[ch hn];refine⟨h3,h4,h5,?_⟩;rw[ch hob];exact⟨h6,h7,rfl,rfl⟩
       ·exact h.elim
      ·exact h.elim
     ·exact h.elim
    ·exact h.elim
   obtain⟨as',has,h⟩:=aj h
   split at h
   ·rename_i s x t t' hts
    obtain⟨rfl,h⟩:=h;unfold nf na at h
    split at h
    ·rename_i e hT
     obtain⟨v,σ',h1,h2⟩:=z8 h;refine⟨v,σ',?_,h2⟩;simp only[AOp];rw[ch has];simp only[hts,nf,hT];exact⟨trivial,h1⟩
    ·exact h.elim
   ·exact h.elim
  | _=>cases hl
theorem su {P:Program} {ev:Operand→Option AV} {σ:aa} {K:AV→Prop} (op:Op) (hp:eX op=true) (h:jT P op ev σ K):∃v,(∀σ',bk P op ev σ' v)∧K v:=by
 obtain⟨v,hq,hk⟩:=vL op h;refine⟨v,fun σ'=>?_,hk⟩
 cases op<;>(try (cases hp;done))<;>(simp only[bk,AOp,and_true] at hq ⊢;exact hq)
def cW (P:Program) (N:Nat) (ops:List Oper) (bs:Bool×Bool) (pu:Bool) (σ0:aa) (K:AF→aa→Prop):List Oper→AF→aa→Prop
 | [],α,σ=>K α σ
 | o::r,α,σ=>dC ops o.guard α fun α=>dk ops o.guard α
   (fun α=>match cD bs o.op with
    | true=>nP P o.op (evF α) σ fun v σ'=>cI pu σ0 σ'∧br N o.dst v α fun α'=>cW P N ops bs pu σ0 K r α' σ'
    | false=>jT P o.op (evF α) σ0 fun v=>br N o.dst v α fun α'=>cW P N ops bs pu σ0 K r α' σ)
   (fun α=>br N o.dst (.c undef) α fun α'=>cW P N ops bs pu σ0 K r α' σ)
section
variable {rd:Option Nat} {P:Program} {N:Nat} {K0:World} {ops:List Oper} {bs:Bool×Bool} {pu:Bool} {σ0:aa} {α0:AF}
def w5 (P:Program) (N:Nat) (ops:List Oper) (bs:Bool×Bool) (pu:Bool) (σ0:aa) (α:AF) (σ:aa) (o:Oper) (b:Bool) (v:AV) (σ':aa):Prop:=
  (∀d,o.dst=some d→d<N) ∧
  ((b=true∧((cD bs o.op=true∧AOp P o.op (evF α) σ (fun v' σ''=>v'=v∧σ''=σ')∧cI pu σ0 σ')∨(cD bs o.op=false∧σ'=σ∧∀σ1,cI pu σ0 σ1→bk P o.op (evF α) σ1 v))∧(∀g want,o.guard=some (g,want)→∃d,(ops[g]?).bind (·.dst)=some d∧aB α d=some (.c (.bool want)))) ∨
   (b=false∧v = .c undef∧σ'=σ∧∃g want d,o.guard=some (g,want)∧(ops[g]?).bind (·.dst)=some d∧(aB α d=some (.c (.bool (!want)))∨∃t,aB α d=some (.c (.tuple t)))))
theorem iC:∀(k:Nat) (vs vs':Nat→AV),(∀j,j<k→vs j=vs' j)→frL ops α0 vs k=frL ops α0 vs' k:=by
 intro k
 induction k with
 | zero=>intro vs vs' _;rfl
 | succ k ih=>
  intro vs vs' he;simp only[frL,he k (by omega),ih vs vs' fun j hj=>he j (by omega)]
theorem qP {K:AF→aa→Prop} (hpu:pu=true→f9 bs ops=true):∀(l:List Oper) (k:Nat) (vs0:Nat→AV) (bs0:Nat→Bool) (ss0:Nat→aa) (β:AF),(∀t,aB β t=aB (frL ops α0 vs0 k) t)→(∀j,j<l.length→l[j]? = ops[k+j]?)→cW P N ops bs pu σ0 K l β (ss0 k) →
  ∃(vs:Nat→AV) (bl:Nat→Bool) (ss:Nat→aa),(∀j,j<k→vs j=vs0 j∧bl j=bs0 j)∧(∀j,j≤k→ss j=ss0 j)∧(∀j (h:j<l.length),w5 P N ops bs pu σ0 (frL ops α0 vs (k+j)) (ss (k+j)) l[j] (bl (k+j)) (vs (k+j)) (ss (k+j+1)))∧∃γ,(∀t,aB γ t=aB (frL ops α0 vs (k+l.length)) t)∧K γ (ss (k+l.length))
 | [],k,vs0,bs0,ss0,β,hβ,_,h=>⟨vs0,bs0,ss0,fun _ _=>⟨rfl,rfl⟩,fun _ _=>rfl,fun j h=>by simp at h,β,hβ,h⟩
 | o::r,k,vs0,bs0,ss0,β,hβ,hl,h=>by
  have ho:ops[k]? = some o:=by have:=hl 0 (by simp);simpa using this.symm
  have go:∀(b:Bool) (v:AV) (σ':aa) (β:AF),(∀t,aB β t=aB (frL ops α0 vs0 k) t)→w5 P N ops bs pu σ0 (frL ops α0 vs0 k) (ss0 k) o b v σ'→br N o.dst v β (fun α'=>cW P N ops bs pu σ0 K r α' σ') →
    ∃(vs:Nat→AV) (bl:Nat→Bool) (ss:Nat→aa),(∀j,j<k→vs j=vs0 j∧bl j=bs0 j)∧(∀j,j≤k→ss j=ss0 j)∧(∀j (h:j<(o::r).length),w5 P N ops bs pu σ0 (frL ops α0 vs (k+j)) (ss (k+j)) (o::r)[j] (bl (k+j)) (vs (k+j)) (ss (k+j+1)))∧∃γ,(∀t,aB γ t=aB (frL ops α0 vs (k+(o::r).length)) t)∧K γ (ss (k+(o::r).length)):=by
   intro b v σ' β hβ hst hput
   let vs1:Nat→AV:=fun j=>if j=k then v else vs0 j
   let bs1:Nat→Bool:=fun j=>if j=k then b else bs0 j
   let ss1:Nat→aa:=fun j=>if j=k+1 then σ' else ss0 j
   have hfr:frL ops α0 vs1 k=frL ops α0 vs0 k:=iC k _ _ fun j hj=>by simp only[vs1];rw[if_neg (by omega)]
   obtain⟨β',hβ',hq⟩:∃β',(∀t,aB β' t=aB (frL ops α0 vs1 (k+1)) t)∧cW P N ops bs pu σ0 K r β' σ':=by
    have hd:(ops[k]?).bind (·.dst)=o.dst:=by rw[ho];rfl
    unfold br at hput
    cases hdst:o.dst with
    | none=>
     rw[hdst] at hput hd;refine⟨β,fun t=>?_,hput⟩;simp only[frL,hd,hfr];exact hβ t
    | some d=>
     rw[hdst] at hput hd;refine⟨_,fun t=>?_,hput.2⟩;simp only[frL,hd,hfr,aB,vs1,if_true]
     split
     ·rfl
     ·exact hβ t
   obtain⟨vs,bl,ss,h1,h1s,h2,γ,h3,h4⟩:=qP hpu r (k+1) vs1 bs1 ss1 β' hβ' (fun j hj=>by
    have:=hl (j+1) (by simp;omega)
    rw[show k+1+j=k+(j+1) by omega,←this]
    rfl) (by simp only[ss1,if_true];exact hq)
   refine⟨vs,bl,ss,fun j hj=>?_,fun j hj=>?_,fun j hj=>?_,γ,by rw[show k+(o::r).length=k+1+r.length by simp;omega];exact h3,by rw[show k+(o::r).length=k+1+r.length by simp;omega];exact h4⟩
   ·have:=h1 j (by omega)
    simp only[vs1,bs1,if_neg (show ¬j=k by omega)] at this
    exact this
   ·have:=h1s j (by omega)
    simp only[ss1,if_neg (show ¬j=k+1 by omega)] at this
    exact this
   ·cases j with
    | zero=>
     have e1:=h1 k (by omega)
     have e2:=h1s k (by omega)
     have e3:=h1s (k+1) (by omega)
     simp only[vs1,bs1,if_true] at e1;simp only[ss1,if_true] at e3;simp only[ss1,if_neg (show ¬k=k+1 by omega)] at e2
     simp only[Nat.add_zero,List.getElem_cons_zero,e1.1,e1.2,e2,e3];rw[iC k vs vs0 fun j hj=>by have:=h1 j (by omega);simp only[vs1,if_neg (show ¬j=k by omega)] at this;exact this.1]
     exact hst
    | succ j=>
     have:=h2 j (by simpa using hj)
     rw[show k+1+j=k+(j+1) by omega] at this
     exact this
  simp only[cW] at h;obtain⟨β1,hβ1,h⟩:=jo h;have hb:∀t,aB β1 t=aB (frL ops α0 vs0 k) t:=fun t=>(hβ1 t).trans (hβ t);clear hβ1 hβ;have act:(match cD bs o.op with
    | true=>nP P o.op (evF β1) (ss0 k) fun v σ'=>cI pu σ0 σ'∧br N o.dst v β1 fun α'=>cW P N ops bs pu σ0 K r α' σ'
    | false=>jT P o.op (evF β1) σ0 fun v=>br N o.dst v β1 fun α'=>cW P N ops bs pu σ0 K r α' (ss0 k)) →
    ∃v σ',((cD bs o.op=true∧AOp P o.op (evF (frL ops α0 vs0 k)) (ss0 k) (fun v' σ''=>v'=v∧σ''=σ')∧cI pu σ0 σ')∨(cD bs o.op=false∧σ'=ss0 k∧∀σ1,cI pu σ0 σ1→bk P o.op (evF (frL ops α0 vs0 k)) σ1 v))∧br N o.dst v β1 fun α'=>cW P N ops bs pu σ0 K r α' σ':=by
   intro h;rw[nI hb] at h
   cases hlo:cD bs o.op with
   | true=>
    rw[hlo] at h;obtain⟨v,σ',h1,h2,h3⟩:=vK hlo h;exact⟨v,σ',.inl ⟨rfl,h1,h2⟩,h3⟩
   | false=>
    rw[hlo] at h
    cases hp:pu with
    | true=>
     have hpo:eX o.op=true:=by
      have:=List.all_eq_true.1 (hpu hp) o (List.mem_of_getElem? ho);rw[hlo] at this
      simpa using this
     obtain⟨v,h1,h2⟩:=su o.op hpo h;exact⟨v,_,.inr ⟨rfl,rfl,fun σ1 _=>h1 σ1⟩,hp▸h2⟩
    | false=>
     obtain⟨v,h1,h2⟩:=qK o.op h;refine⟨v,_,.inr ⟨rfl,rfl,fun σ1 hg=>?_⟩,hp▸h2⟩
     rcases hg with hg|⟨τ,rfl⟩
     ·cases hg
     ·exact h1 τ
  unfold dk at h
  cases hg:o.guard with
  | none=>
   rw[hg] at h;obtain⟨v,σ',hv,hp⟩:=act h;refine go true v σ' β1 hb ⟨fun d hd=>?_,.inl ⟨rfl,hv,fun g want h=>by rw[hg] at h;cases h⟩⟩ hp
   rw[hd] at hp;exact hp.1
  | some g=>
   obtain⟨g,want⟩:=g;rw[hg] at h
   replace h:=aj h;obtain⟨d,hd,h⟩:=h
   replace h:=aj h;obtain⟨u,hu,h⟩:=h
   rw[hb] at hu;have skip:(aB (frL ops α0 vs0 k) d=some (.c (.bool (!want)))∨∃t,aB (frL ops α0 vs0 k) d=some (.c (.tuple t)))→br N o.dst (.c undef) β1 (fun α'=>cW P N ops bs pu σ0 K r α' (ss0 k))→_:=fun hu hp=>
    go false (.c undef) (ss0 k) β1 hb ⟨fun d hd=>by rw[hd] at hp;exact hp.1,.inr ⟨rfl,rfl,rfl,g,want,d,hg,hd,hu⟩⟩ hp
   split at h
   ·cases want
    ·exact skip (.inl hu) h
    ·obtain⟨v,σ',hv,hp⟩:=act h;exact go true v σ' β1 hb ⟨fun d hd=>by rw[hd] at hp;exact hp.1,.inl ⟨rfl,hv,fun g' want' h'=>by
      rw[hg] at h'
      cases h'
      exact⟨d,hd,hu⟩⟩⟩ hp
   ·cases want
    ·obtain⟨v,σ',hv,hp⟩:=act h;exact go true v σ' β1 hb ⟨fun d hd=>by rw[hd] at hp;exact hp.1,.inl ⟨rfl,hv,fun g' want' h'=>by
      rw[hg] at h'
      cases h'
      exact⟨d,hd,hu⟩⟩⟩ hp
    ·exact skip (.inl hu) h
   ·rename_i t
    exact skip (.inr ⟨t,hu⟩) h
   ·exact h.elim
theorem C7 {rd:Option Nat} {P:Program} {N:Nat} {Q:bV} {α:AF} {σ:aa} {b:Bool} {x y:Code} (h1:b=true→aK rd P N x Q α σ) (h2:b=false→aK rd P N y Q α σ):aK rd P N (.cond (.const (.bool b)) x y) Q α σ:=by
 intro K imm m w a hs hf;exact wpIn_cond_split (show a.eval (.const (.bool b)) = .bool b from rfl) (fun hb=>h1 hb K imm m w a hs hf) (fun hb=>h2 hb K imm m w a hs hf)
def eB (bs:Bool×Bool) (ops:List Oper) (p:Nat):Bool:=
 let b:=vD ops []
 let l:=(List.range p).filter fun j=>match ops[j]? with|some o=>cD bs o.op|none=>true
 l.all fun j=>l.all fun i => !decide (i<j)||(b.getD j 0).testBit i
theorem jF {p i j:Nat} {x y:Oper} (h:eB bs ops p=true) (hij:i<j) (hj:j<p) (hx:ops[i]? = some x) (hy:ops[j]? = some y) (h1:cD bs x.op=true) (h2:cD bs y.op=true):Anc ops i j:=by
 simp only[eB,List.all_eq_true,List.mem_filter,List.mem_range] at h;have:=h j ⟨hj,by rw[hy];exact h2⟩ i ⟨by omega,by rw[hx];exact h1⟩
 simp only[hij,decide_true,Bool.not_true,Bool.false_or] at this;exact lY ops ops [] (fun j=>by simp) (fun j i h=>by simp at h) j i this
theorem qI {Q:bV} {id:Nat} {σ:aa} (σ0:aa) (bs:Bool×Bool) (pu:Bool) (p:Nat) (h0:cI pu σ0 σ) (hm:P.follows .mixedOrders=true) (hB:(dQ ops p&&bT ops&&cy ops&&decide (p≤ops.length)&&eB bs ops p&&(!pu||f9 bs ops))=true)
  (h:cW P N ops bs pu σ0 (fun α σ=>dw P N ops (fun α σ=>Q .normal α σ) (ops.drop p) α σ) (ops.take p) α0 σ):aK rd P N (.region id ops.toArray true) Q α0 σ:=by
 intro K imm m w a hs hf;simp only[Bool.and_eq_true,decide_eq_true_eq] at hB;obtain⟨⟨⟨⟨⟨hB1,hB2⟩,hB3⟩,hB4⟩,hB5⟩,hB6⟩:=hB;have hpu:pu=true→f9 bs ops=true:=fun h=>by simpa [h] using hB6
 have hc:o9 ops p:=fun i j x y hij hx hy h=>jM hB1 hij hx hy h;obtain⟨vs,bl,ss,_,hss0,h2,γ,hγ,h3⟩:=qP (ops:=ops) (α0:=α0) hpu (ops.take p) 0 (fun _=>.emp) (fun _=>true) (fun _=>σ) α0 (fun _=>rfl) (fun j hj=>by
  simp only[List.length_take] at hj;rw[List.getElem?_take_of_lt (by omega),Nat.zero_add]) h
 simp only[Nat.zero_add,List.length_take,Nat.min_eq_left hB4] at h2 hγ h3;have hss0:ss 0=σ:=hss0 0 (Nat.le_refl _);refine wpIn_region_any hm ?_;have hst:∀j,j<p→∀o,ops[j]? = some o→w5 P N ops bs pu σ0 (frL ops α0 vs j) (ss j) o (bl j) (vs j) (ss (j+1)):=fun j hj o ho=>by
  have:=h2 j hj;rw[List.getElem_take] at this;obtain⟨hj',rfl⟩:=List.getElem?_eq_some_iff.1 ho;exact this
 have hrep:∀i,(Array.replicate ops.toArray.size false).getD i true=true→¬i<ops.length:=fun i h hi=>by
  simp [Array.getD_eq_getD_getElem?,hi] at h
 let lo:Nat→Prop:=fun j=>∃o,ops[j]? = some o∧cD bs o.op=true
 have same1:∀j,j<p→¬lo j→ss (j+1)=ss j:=fun j hj hn=>by
  have ho:ops[j]? = some ops[j]:=List.getElem?_eq_getElem (by omega)
  rcases (hst j hj _ ho).2 with ⟨_,hk,_⟩|⟨_,_,hk,_⟩
  ·rcases hk with ⟨hk,_⟩|⟨_,hk,_⟩
   ·exact absurd ⟨_,ho,hk⟩ hn
   ·exact hk
  ·exact hk
 have same:∀d k,k+d≤p→(∀i,k≤i→i<k+d→¬lo i)→ss (k+d)=ss k:=by
  intro d
  induction d with
  | zero=>intro k _ _;rfl
  | succ d ih=>
   intro k hk hn;rw[←Nat.add_assoc,same1 (k+d) (by omega) (hn _ (by omega) (by omega))]
   exact ih k (by omega) fun i h1 h2=>hn i h1 (by omega)
 have hG:∀j,j≤p→cI pu σ0 (ss j):=by
  intro j
  induction j with
  | zero=>intro _;rw[hss0];exact h0
  | succ j ih=>
   intro hj;have ho:ops[j]? = some ops[j]:=List.getElem?_eq_getElem (by omega)
   rcases (hst j (by omega) _ ho).2 with ⟨_,hk,_⟩|⟨_,_,hk,_⟩
   ·rcases hk with ⟨_,_,hk⟩|⟨_,hk,_⟩
    ·exact hk
    ·rw[hk];exact ih (by omega)
   ·rw[hk];exact ih (by omega)
 obtain⟨top,htop⟩:∃top:(Nat→Prop)→Nat,∀S,(∀j,j<p→S j→lo j→j<top S)∧∀k,(∀j,j<p→S j→lo j→j<k)→top S≤k:=by
  have hex:∀S:Nat→Prop,∃n,(∀j,j<p→S j→lo j→j<n)∧∀k,(∀j,j<p→S j→lo j→j<k)→n≤k:=fun S=>
   qp (p:=fun n=>∀j,j<p→S j→lo j→j<n) p fun j hj _ _=>hj
  exact⟨fun S=>Classical.choose (hex S),fun S=>Classical.choose_spec (hex S)⟩
 have topP:∀S,top S≤p:=fun S=>(htop S).2 p fun j hj _ _=>hj;refine lM (σ:=ss p) (fun S=>ss (top S)) hB2 hc hB3 hB4 (fun S h=>?_) (fun j o S imm m a w next Q' hj ho hsl hs hI hcl hnS hanc hn=>?_) hγ h3 _ _ a _ imm m ?_ (by simp) (fun i hi=>absurd hi.1 (hrep i hi.2)) (fun i hi h=>absurd hi (hrep i h)) ?_
  ⟨hf.defers,hf.size,fun t i h=>absurd h.1.1 (hrep i h.1.2),fun t av _ h=>hf.slot t av h⟩
 ·have:=same (p-top S) (top S) (by have:=topP S;omega) fun i h1 h2 hl=>by
   have:=(htop S).1 i (by have:=topP S;omega) (h i (by have:=topP S;omega)) hl
   omega
  rw[show top S+(p-top S)=p by have:=topP S;omega] at this
  exact this.symm
 ·
  have hf:=hI.names hc hcl ho hnS hanc;have hlk:∀d av,d∈bN ops o→aB (frL ops α0 vs j) d=some av→aB (gM (bN ops o) (frL ops α0 vs j)) d=some av:=fun d av hd h=>by
   rw[dL,if_pos (by simpa using hd)];exact h
  have hyield:∀(g d:Nat) (u:Value),(ops[g]?).bind (·.dst)=some d→aB (frL ops α0 vs j) d=some (.c u)→d∈bN ops o→((ops.toArray[g]?).bind (·.dst)).bind (a.tmps[·]?)=some u:=fun g d u hgd hu hm=>by
   obtain⟨x,hx,r⟩:=hf.slot d _ (hlk d _ hm hu);simp only[List.getElem?_toArray,hgd,Option.bind_some,hx,r.c_inv]
  have hoa:ops.toArray[j]? = some o:=by simpa using ho
  have hkeep:¬lo j→ss (top fun i=>S i∨i=j)=ss (top S):=fun hn=>by
   have h1:top (fun i=>S i∨i=j)≤top S:=(htop _).2 _ fun i hi hS hl=>by
    rcases hS with hS|rfl
    ·exact (htop S).1 i hi hS hl
    ·exact absurd hl hn
   have h2:top S≤top (fun i=>S i∨i=j):=(htop _).2 _ fun i hi hS hl=>(htop _).1 i hi (.inl hS) hl;rw[Nat.le_antisymm h1 h2]
  have hloud:lo j→ss (top S)=ss j∧ss (top fun i=>S i∨i=j)=ss (j+1):=fun hl=>by
   obtain⟨o',ho',hl'⟩:=hl;rw[ho] at ho'
   cases ho'
   have hS:∀i,i<p→S i→lo i→i<j:=fun i hi hS ⟨x,hx,hxl⟩=>by
    rcases Nat.lt_trichotomy i j with h|h|h
    ·exact h
    ·subst h;exact absurd hS hnS
    ·exact absurd ((hcl i hS).2 j (jF hB5 h hi ho hx hl' hxl)) hnS
   have h1:top S≤j:=(htop S).2 j hS;have h2:=same (j-top S) (top S) (by omega) fun i h1 h2 ⟨x,hx,hxl⟩=>by
    have hi:S i:=hanc i (jF hB5 (by omega) hj hx ho hxl hl')
    have:=(htop S).1 i (by omega) hi ⟨x,hx,hxl⟩
    omega
   rw[show top S+(j-top S)=j by omega] at h2
   refine⟨h2.symm,?_⟩;have h3:top (fun i=>S i∨i=j)=j+1:=Nat.le_antisymm ((htop _).2 _ fun i hi h9 hl=>by
    rcases h9 with h9|rfl
    ·have:=hS i hi h9 hl;omega
    ·omega) ((htop _).1 j hj (.inr rfl) ⟨o,ho,hl'⟩)
   rw[h3]
  have hnolo:cD bs o.op=false→¬lo j:=fun h ⟨o',ho',hl'⟩=>by
   rw[ho] at ho'
   cases ho'
   rw[h] at hl'
   cases hl'
  have hcg:∀x∈o.op.operands,evF (frL ops α0 vs j) x=evF (gM (bN ops o) (frL ops α0 vs j)) x:=fun x hx=>by
   cases x with
   | tmp t=>simp only[evF];rw[dL,if_pos (by simpa using gN hx)]
   | _=>rfl
  unfold wpOpIn;simp only[hoa];obtain⟨hdN,⟨hbt,hq,hg⟩|⟨hbf,hv,hσ,g,want,d,hg,hgd,hu⟩⟩:=hst j hj o ho
  ·have hw:Region.wanted o (yielded ops.toArray a.tmps)=true:=by
    cases hgo:o.guard with
    | none=>simp [Region.wanted,hgo]
    | some gw=>
     obtain⟨g,want⟩:=gw;obtain⟨d,hgd,hu⟩:=hg g want hgo;have hy:yielded ops.toArray a.tmps g=some want:=by simp only[yielded,hyield g d _ hgd hu (cN hgo hgd)]
     simp [Region.wanted,hgo,hy]
   rw[if_pos hw]
   rcases hq with ⟨hlo,hq,_⟩|⟨hlo,_,hq⟩
   ·obtain⟨e1,e2⟩:=hloud ⟨o,ho,hlo⟩;rw[e1] at hs;rw[oA o.op hsl hcg] at hq;have hup:=eL (dst:=o.dst) (type:=o.type) (pos:=o.pos) (after:=o.after) (guard:=o.guard) o.op hs (ff hf) hq;refine dc (gK hq) hup fun imm' m' v av σ' w' hi hoo hs' hr hk=>?_;obtain⟨rfl,rfl⟩:=hk;exact hn imm' m' v w' hi hoo (by rw[e2];exact hs') ((hI.mono hi hoo).step hc hcl ho hnS hdN hr)
   ·have e2:=hkeep (hnolo hlo);have hq':=hq _ (hG _ (topP S));rw[m6 o.op hsl hcg] at hq';have hup:=jR (dst:=o.dst) (type:=o.type) (pos:=o.pos) (after:=o.after) (guard:=o.guard) o.op hs (ff hf) hq';refine dc (jS hq') hup fun imm' m' v av σ' w' hi hoo hs' hr hk=>?_;obtain⟨rfl,rfl⟩:=hk;exact hn imm' m' v w' hi hoo (by rw[e2];exact hs') ((hI.mono hi hoo).step hc hcl ho hnS hdN hr)
  ·have hw:Region.wanted o (yielded ops.toArray a.tmps)=false:=by
    rcases hu with hu|⟨t,hu⟩
    ·have hy:yielded ops.toArray a.tmps g=some (!want):=by simp only[yielded,hyield g d _ hgd hu (cN hg hgd)]
     simp [Region.wanted,hg,hy]
    ·have hy:yielded ops.toArray a.tmps g=none:=by simp only[yielded,hyield g d _ hgd hu (cN hg hgd)]
     simp [Region.wanted,hg,hy]
   rw[if_neg (by rw[hw];simp)]
   refine⟨fun _ _=>jQ _ _,hn imm m undef w (.refl _) (.refl _) ?_ (hI.step hc hcl ho hnS hdN (by rw[hv];exact .c _))⟩
   by_cases hl:lo j
   ·obtain⟨e1,e2⟩:=hloud hl;rw[e2,hσ,←e1];exact hs
   ·rw[hkeep hl];exact hs
 ·simp [left]
 ·have h0:top (fun i=>i<ops.length∧(Array.replicate ops.toArray.size false).getD i true=true)=0:=Nat.le_antisymm ((htop _).2 0 fun j _ h=>absurd h.1 (hrep j h.2)) (Nat.zero_le _);show Sim K imm m { w with drawn:=w.drawn+1 } (ss (top _))
  rw[h0,hss0];exact hs.drew
theorem wp {Q:bV} {id:Nat} {σ:aa} (bs:Bool×Bool) (pu:Bool) (p:Nat) (hm:P.follows .mixedOrders=true) (hB:(dQ ops p&&bT ops&&cy ops&&decide (p≤ops.length)&&eB bs ops p&&(!pu||f9 bs ops))=true)
  (h:cW P N ops bs pu σ (fun α σ=>dw P N ops (fun α σ=>Q .normal α σ) (ops.drop p) α σ) (ops.take p) α0 σ):aK rd P N (.region id ops.toArray true) Q α0 σ:=
 qI σ bs pu p (.inr ⟨[],by simp⟩) hm hB h
end
def isWr:Op→Bool
 | .store .. => true
 | .insert .. => true
 | .mapUpdate .. => true
 | _=>false
def cO:List Oper→Nat
 | []=>0
 | o::r=>match isWr o.op with
  | true=>0
  | false=>cO r+1
theorem sq {rd:Option Nat} {P:Program} {N:Nat} {ops:List Oper} {α0:AF} {σ:aa} {Q:bV} {id:Nat} (bs:Bool) (hm:P.follows .mixedOrders=true) (hB:(dQ ops (cO ops)&&bT ops&&cy ops&&decide (cO ops≤ops.length)&&eB (bs,false) ops (cO ops)&&(!false||f9 (bs,false) ops))=true)
  (h:cW P N ops (bs,false) false σ (fun α σ=>dw P N ops (fun α σ=>Q .normal α σ) (ops.drop (cO ops)) α σ) (ops.take (cO ops)) α0 σ):aK rd P N (.region id ops.toArray true) Q α0 σ:=
 wp (bs,false) false _ hm hB h
def gop (P:Program) (lo pu:Bool) (op:Op) (ev:Operand→Option AV) (σ0 σ:aa) (K:AV→aa→Prop):Prop:=
 match lo with
 | true=>nP P op ev σ fun v σ'=>cI pu σ0 σ'∧K v σ'
 | false=>jT P op ev σ0 fun v=>K v σ
section
variable {P:Program} {N:Nat} {ops:List Oper} {bs:Bool×Bool} {pu:Bool} {σ0 σ:aa} {K:AF→aa→Prop} {α:AF} {r:List Oper} {dst:Option Tmp} {op:Op} {ty:TypeId} {pos:String} {after:Array Edge} {g:Option (Nat×Bool)}
theorem DX:cW P N ops bs pu σ0 K [] α σ=K α σ:=rfl
theorem Cq:cW P N ops bs pu σ0 K ({ dst:=dst,op:=op,type:=ty,pos:=pos,after:=after,guard:=g } :: r) α σ=fB ops g α
   (fun α=>gop P (cD bs op) pu op (evF α) σ0 σ fun av σ'=>br N dst av α fun α'=>cW P N ops bs pu σ0 K r α' σ')
   (fun α=>br N dst (.c undef) α fun α'=>cW P N ops bs pu σ0 K r α' σ):=rfl
theorem Fs {ev:Operand→Option AV} {K:AV→aa→Prop} : gop P true pu op ev σ0 σ K=nP P op ev σ fun v σ'=>cI pu σ0 σ'∧K v σ':=rfl
theorem Ft {ev:Operand→Option AV} {K:AV→aa→Prop} : gop P false pu op ev σ0 σ K=jT P op ev σ0 fun v=>K v σ:=rfl
@[congr] theorem gop_cg {lo lo':Bool} {ev:Operand→Option AV} {K:AV→aa→Prop} (h:fK lo=lo'):gop P lo pu op ev σ0 σ K=gop P lo' pu op ev σ0 σ K:=by rw[←h,aW]
theorem Bx:cI pu σ0 σ0=True:=by simp only[cI,eq_iff_iff,iff_true];exact .inr ⟨[],by simp⟩
theorem Eh:cI true σ0 σ=True:=by simp [cI]
theorem E6:cI false σ0 σ=Pre σ0 σ:=by simp [cI,Pre]
theorem E5 {l l':aa} : Pre (σ++l) (σ++l')=Pre l l':=by simp [Pre]
theorem Eg {x y:Ob} {l l':aa} : Pre (x::l) (y::l')=(y=x∧Pre l l'):=by simp [Pre]
theorem E4 {l:aa} : Pre [] l=True:=by simp [Pre]
theorem CQ {l:aa} : Pre σ (σ++l)=True:=by simp [Pre]
end
def qL (P:Program) (op:Op) (ev:Operand→Option AV) (σ:aa) (K:AV→aa→Prop):Prop:=
 match op with
 | .buildSlice T n parts=>on (b6 P T) fun k=>on (eY ev parts.toList) fun ps=>on (ll k 0 ps) fun es=>
  es.length=n∧n*k≤16777216∧(match P.underlying T with|some (.slice e)=>(bY P e).map (·.length)=some k|_=>False)∧K (.sl es) σ
 | op=>AOp P op ev σ K
theorem uY {P:Program} {K0:World} {imm:Imm} {m:Own} {w:World} {σ:aa} {ev:Operand→Option AV} {ρ:Operand→Value} (op:Op) (hs:Sim K0 imm m w σ) (hev:∀x av,ev x=some av→Rep imm m (ρ x) av) {Kont:AV→aa→Prop} (h:qL P op ev σ Kont)
  {dst:Option Tmp} {type:TypeId} {pos:String} {after:Array Edge} {guard:Option (Nat×Bool)} :
  Up P K0 imm m Kont ((execOp ρ { dst,op,type,pos,after,guard }).run P w):=by
 by_cases hb:∃T n parts,op = .buildSlice T n parts
 ·obtain⟨T,n,parts,rfl⟩:=hb;obtain⟨k,hk,h⟩:=aj h;obtain⟨ps,hps,h⟩:=aj h;obtain⟨es,hes,h1,h2,h3,h4⟩:=aj h;have hq:bk P (.buildSlice T n parts) ev σ (.sl es):=by
   simp only[bk];rw[ch hk,ch hps,ch hes];exact⟨h1,h2,h3,rfl⟩
  have hup:=jR (dst:=dst) (type:=type) (pos:=pos) (after:=after) (guard:=guard) _ hs hev hq
  generalize (execOp ρ { dst,op:=.buildSlice T n parts,type,pos,after,guard }).run P w=r at hup
  cases r with
  | halt x w'=>exact hup.elim
  | ok nx w'=>
   cases nx with
   | value u=>obtain⟨i,m',av,σ',a1,a2,a3,a4,rfl,rfl⟩:=hup;exact⟨i,m',_,_,a1,a2,a3,a4,h4⟩
   | skip=>obtain⟨i,m',av,σ',a1,a2,a3,a4,rfl,rfl⟩:=hup;exact⟨i,m',_,_,a1,a2,a3,a4,h4⟩
   | enter f args=>exact Calls.mono hup fun e w'' ⟨i,m',u,av,σ',he,a1,a2,a3,a4,e1,e2⟩=>⟨i,m',u,av,σ',he,a1,a2,a3,a4,by rw[e1,e2];exact h4⟩
   | round l f tmps assign body=>exact RoundIn.mono hup fun e w'' ⟨i,m',u,av,σ',he,a1,a2,a3,a4,e1,e2⟩=>⟨i,m',u,av,σ',he,a1,a2,a3,a4,by rw[e1,e2];exact h4⟩
   | _=>exact hup.elim
 ·have h':AOp P op ev σ Kont:=by
   unfold qL at h
   split at h
   ·exact absurd ⟨_,_,_,rfl⟩ hb
   ·exact h
  exact eL op hs hev h'
theorem sv {P:Program} {op:Op} {σ:aa} {ev:Operand→Option AV} {K:AV→aa→Prop} (h:qL P op ev σ K):∀c,op ≠ .defer c:=by
 rintro c rfl;exact h
def o0 (P:Program) (N:Nat) (ops:List Oper) (K:AF→aa→Prop):List Oper→AF→aa→Prop
 | [],α,σ=>K α σ
 | o::r,α,σ=>dC ops o.guard α fun α=>dk ops o.guard α
   (fun α=>qL P o.op (evF α) σ fun av σ'=>br N o.dst av α fun α'=>o0 P N ops K r α' σ')
   (fun α=>br N o.dst (.c undef) α fun α'=>o0 P N ops K r α' σ)
theorem Bk {rd:Option Nat} {P:Program} {N:Nat} {K0:World} {ops:List Oper} {Q:bV} : ∀(l:List Oper) (α:AF) (σ:aa) (imm:Imm) (m:Own) (w:World) (a:Act),Sim K0 imm m w σ→FOk K0 imm m N a α →
  o0 P N ops (fun α σ=>Q .normal α σ) l α σ→wpListIn (Rnd rd) 0 P ops.toArray (dS K0 N imm m Q) l a w:=by
 intro l
 induction l with
 | nil=>intro α σ imm m w a hs hf h;exact⟨imm,m,α,σ,.refl _,.refl _,hs,hf,h⟩
 | cons o r ih=>
  intro α σ imm m w a hs hf h;have mono:∀(imm':Imm) (m':Own),ILe imm imm'→OLe m m'→∀a' w',wpListIn (Rnd rd) 0 P ops.toArray (dS K0 N imm' m' Q) r a' w'→wpListIn (Rnd rd) 0 P ops.toArray (dS K0 N imm m Q) r a' w':=by
   intro imm' m' hi ho;have hq:∀e a w,dS K0 N imm' m' Q e a w→dS K0 N imm m Q e a w:=fun e a w h=>cK hi ho h;exact lZ hq r
  simp only[o0] at h;unfold wpListIn
  rcases jK hf h with ⟨hw,β,hfb,h⟩|⟨hw,β,hfb,h⟩
  ·rw[if_pos hw];have hup:=uY (dst:=o.dst) (type:=o.type) (pos:=o.pos) (after:=o.after) (guard:=o.guard) o.op hs (ff hfb) h;refine dc (sv h) hup fun imm' m' v av σ' w' hi ho hs' hr hk=>?_;obtain⟨α',hf',hk'⟩:=eE (hfb.mono hi ho) hr hk;exact mono imm' m' hi ho _ _ (ih α' σ' imm' m' w' _ hs' hf' hk')
  ·rw[if_neg (by rw[hw];simp)]
   obtain⟨α',hf',hk'⟩:=eE hfb (.c undef) h;exact⟨fun f _=>jQ _ _,ih α' σ imm m w _ hs hf' hk'⟩
theorem Aa {rd:Option Nat} {P:Program} {N:Nat} {α:AF} {σ:aa} {id:Nat} {ops:List Oper} {Q:bV} (h:o0 P N ops (fun α σ=>Q .normal α σ) ops α σ):aK rd P N (.region id ops.toArray false) Q α σ:=
 fun _ imm m w a hs hf=>wpIn_region_lit (Bk ops α σ imm m w a hs hf h)
section
variable {P:Program} {N:Nat} {ops:List Oper} {σ:aa} {K:AF→aa→Prop} {α:AF} {r:List Oper} {dst:Option Tmp} {op:Op} {ty:TypeId} {pos:String} {after:Array Edge} {g:Option (Nat×Bool)}
theorem D5:o0 P N ops K [] α σ=K α σ:=rfl
theorem CE:o0 P N ops K ({ dst:=dst,op:=op,type:=ty,pos:=pos,after:=after,guard:=g } :: r) α σ=fB ops g α
   (fun α=>qL P op (evF α) σ fun av σ'=>br N dst av α fun α'=>o0 P N ops K r α' σ') (fun α=>br N dst (.c undef) α fun α'=>o0 P N ops K r α' σ):=rfl
end
end Go.Proofs.YtephecognbbaoaaGreat
