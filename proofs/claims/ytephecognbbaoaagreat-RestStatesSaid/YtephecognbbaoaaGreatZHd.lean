/- Mail twice, or spoilt; an event: what the machine has its own. -/
import Derived.Test.YtephecognbbaoaaGreatZGq
import Derived.Test.YtephecognbbaoaaGreatZBm
import Derived.Test.YtephecognbbaoaaGreatZSo
import Derived.Test.YtephecognbbaoaaGreatZSy
open Go
set_option linter.all false
set_option maxRecDepth 100000
set_option maxHeartbeats 4000000
namespace Go.Proofs.YtephecognbbaoaaGreat
open Go
set_option linter.all false
set_option maxRecDepth 100000
set_option maxHeartbeats 4000000
theorem xf (n:Net) (e:Eng) (he:a8 n e) (ρ S:aa) (b:Nat) (hS:bD ρ S b n e) (i:Int) (h0:0≤i) (h1:i<e.bag.length) :
  af Tryz.prog 83 [.ptr b 7 0 0,ab i] S fun r S'=>bD ρ S' b n (if e.bag.length=120 then e else ⟨e.routers,e.bag++[at0 e.bag i]⟩)∧r=ab (if e.bag.length=120 then 2 else 0):=by
 have hbag:=he.bag;obtain⟨R,bag⟩:=e;simp only at hbag h1 ⊢;obtain⟨hK0,rb,tb,gv,gi,M⟩:=hS
 rcases M.bag with ⟨h2,_,_⟩|⟨gb,rest,rfl,rfl,hb3,hb4,hb5⟩
 ·simp only at h2;rw[h2] at h1;simp at h1;omega
 simp only at M hb3 hb4 hb5;obtain⟨w,hw⟩:∃w,at0 bag i=w:=⟨_,rfl⟩;have hgw:(bag.map aJ++rest)[i.toNat]? = some (aJ w):=by
  rw[List.getElem?_append_left (by rw[List.length_map];omega)]
  have:=eQ aJ bag h0 h1;rw[hw] at this;exact this
 rw[hw];have hb:=M.hb;have hne:=M.ne;have hgb:gb≠b:=fun e=>hne.2.2.1 (by rw[e];simp)
 have hbG:∀o,(S.set gb o)[b]? = some (.cells 7 [aH n++[.own rb 2 0 R.length R.length,.own gb 3 0 bag.length (bag.length+rest.length)]]):=fun o=>aT hb hgb;have hbD:∀o τ,(S.set gb o++τ)[b]? = some (.cells 7 [aH n++[.own rb 2 0 R.length R.length,.own gb 3 0 bag.length (bag.length+rest.length)]]):=fun o τ=>az (hbG o);have hbE:∀o τ o',(S.set gb o++τ).set b o'=(S.set gb o).set b o'++τ:=fun o τ o'=>bt (hbG o)
 by_cases hc:bag.length=120
 ·have hci:((bag.length:Int)=120)=True:=eq_true (by omega)
  rw[if_pos hc,if_pos hc];refine g_n Tryz.func83 rfl Tryz.results83 Tryz.ntmps83 ?_
  (repeat' (first|(refine g_s fun K hK=>?_)|(refine g_C (fun h=>?_) (fun h=>?_)<;>(try exact g_f))|((first|refine g_t ?_|refine g_g ?_);(try simp -implicitDefEqProofs only[go_sem,hb,hci]))|(refine hK _ _ ?_;clear hK K)|fail))
  exact⟨hK0,rb,tb,_,_,M⟩
 ·have hci:((bag.length:Int)=120)=False:=eq_false (by omega)
  rw[if_neg hc,if_neg hc];refine g_n Tryz.func83 rfl Tryz.results83 Tryz.ntmps83 ?_
  rcases rest with _|⟨x,rest⟩
  ·rw[List.append_nil] at hb3 hgw
   (repeat' (first|(refine g_s fun K hK=>?_)|(refine g_k ?_;simp only[ah,ae])|(refine g_C (fun h=>?_) (fun h=>?_)<;>(try exact g_f))|((first|refine g_t ?_|refine g_G ?_|refine oz a9 (by decide +kernel) ?_);(try simp -implicitDefEqProofs only[go_sem,hb,hb3,hgw,hci,hbD,hbE]))|(refine hK _ _ ?_;clear hK K)|(with_reducible refine And.intro (fun h=>?_) (fun h=>?_)<;>(try simp only[go_sem] at h)<;>(try exact g_f))|(with_reducible refine And.intro ?_ ?_;· exact g_x)|fail))
   exact⟨((hK0.set (M.lo gb (by simp))).set (M.lo b (by simp))).app,rb,tb,_,_,M.push_own hK0.len w (by omega)⟩
  ·have htk:List.take bag.length (bag.map aJ++x::rest)=bag.map aJ:=List.take_left' (by simp)
   have hdr:List.drop (bag.length+1) (bag.map aJ++x::rest)=rest:=by
    rw[List.drop_append];simp
   have g1:(bag.length=bag.length+(rest.length+1))=False:=eq_false (by omega)
   have g2:(bag.length≤bag.length+(rest.length+1))=True:=eq_true (by omega)
   have g3:(bag.length+1≤bag.length+(rest.length+1))=True:=eq_true (by omega)
   have g4:(bag.length+(rest.length+1)<bag.length+1)=False:=eq_false (by omega)
   have hb5':bag.length+(rest.length+1)≤120:=hb5
   (repeat' (first|(refine g_s fun K hK=>?_)|(refine g_k ?_;simp only[ah,ae])|(refine g_C (fun h=>?_) (fun h=>?_)<;>(try exact g_f))|((first|refine g_t ?_|refine g_G ?_|refine oz a9 (by decide +kernel) ?_);(try simp -implicitDefEqProofs only[go_sem,hb,hb3,hgw,hci,hbG,htk,hdr,g1,g2,g3,g4]))|(refine hK _ _ ?_;clear hK K)|(with_reducible refine And.intro ?_ ?_;· exact g_x)|fail))
   exact⟨(hK0.set (M.lo gb (by simp))).set (M.lo b (by simp)),rb,tb,_,_,M.push_in w rest hb5' (fun e he=>hb4 e (List.mem_cons_of_mem _ he)) ⟨_,hb3⟩⟩
theorem xE (n:Net) (e:Eng) (he:a8 n e) (hby:cu e) (ρ S:aa) (b:Nat) (hS:bD ρ S b n e) (v:Evt) (h0:0≤v.at') (h1:v.at'<e.bag.length) :
  af Tryz.prog 85 [.ptr b 7 0 0,.agg (cl v)] S fun r S'=>bD ρ S' b n (fH e v).1∧r=ab (fH e v).2:=by
 have hbag:=he.bag;obtain⟨R,bag⟩:=e;simp only at hbag h1 ⊢;obtain⟨hK0,rb,tb,gv,gi,M⟩:=hS
 rcases M.bag with ⟨h2,_,_⟩|⟨gb,rest,rfl,rfl,hb3,hb4,hb5⟩
 ·simp only at h2;rw[h2] at h1;simp at h1;omega
 simp only at M hb3 hb4 hb5;obtain⟨w,hw⟩:∃w,at0 bag v.at'=w:=⟨_,rfl⟩;have hwm:w∈bag:=by rw[←hw];exact aA bag h0 h1
 have hwi:=he.mail w hwm;have hwl:=hwi.len;have hwb:=hby w hwm;have hgw:(bag.map aJ++rest)[v.at'.toNat]? = some (aJ w):=by
  rw[List.getElem?_append_left (by rw[List.length_map];omega)]
  have:=eQ aJ bag h0 h1;rw[hw] at this;exact this
 unfold fH;simp only[hw];have hb:=M.hb;have hbL:∀τ,(S++τ)[b]? = some (.cells 7 [aH n++[.own rb 2 0 R.length R.length,.own gb 3 0 bag.length (bag.length+rest.length)]]):=fun τ=>az hb;have hgL:∀τ,(S++τ)[gb]? = some (.cells 3 (bag.map aJ++rest)):=fun τ=>az hb3;have hgS:∀τ o,(S++τ).set gb o=S.set gb o++τ:=fun τ o=>bt hb3
 by_cases c1:0≤v.b∧v.b<w.bytes.length
 ·by_cases c2:1≤v.c∧v.c≤255
  ·have hN:((!inR v.b 0 (w.bytes.length-1)) || !inR v.c 1 255)=false:=by
    rw[Bool.or_eq_false_iff,Bool.not_eq_false',Bool.not_eq_false',aG,aG];omega
   rw[if_neg (by rw[hN];exact Bool.false_ne_true)]
   have hbyt:=rz hwb;have hwc:IntKind.u8.wrap v.c=v.c:=Ep (by omega) c2.2
   have hxo:IntKind.u8.wrap ((BitVec.ofInt 8 (at0 w.bytes v.b) ^^^ BitVec.ofInt 8 v.c).toNat:Int)=kr (at0 w.bytes v.b) v.c:=rfl;have hgby:(w.bytes.map fm)[v.b.toNat]? = some [.c (.int .u8 (at0 w.bytes v.b))]:=eQ fm w.bytes c1.1 c1.2;have hsby:∀x,(w.bytes.map fm).set v.b.toNat [.c (.int .u8 x)]=(w.bytes.set v.b.toNat x).map fm:=fun x=>by rw[List.map_set];rfl
   refine g_n Tryz.func85 rfl Tryz.results85 Tryz.ntmps85 ?_;refine g_s fun K hK=>?_;refine g_h ?_;refine hK _ _ ?_;clear hK K;refine g_0 3 rfl ?_
   (repeat' (first|(refine g_s fun K hK=>?_)|(refine g_k ?_;simp only[ah,ae])|(refine g_C (fun h=>?_) (fun h=>?_)<;>(try exact g_f))|((first|refine g_t ?_|refine g_g ?_|refine g_U ?_);(try simp -implicitDefEqProofs only[go_sem,hbL,hgL,hgw,hgS,hbyt,hgby,hsby,List.length_set,hwc,hxo]))|(refine hK _ _ ?_;clear hK K)|(with_reducible refine ak (fun h=>?_) (fun h=>?_)<;>(try simp only[go_sem] at h)<;>(try exact g_f)<;>(try simp -implicitDefEqProofs only[go_sem,hbL,hgL,hgw,hgS,hbyt,hgby,hsby,List.length_set,hwc,hxo]))|(with_reducible refine And.intro ?_ ?_;· exact g_x)|fail))
   exact⟨(hK0.set (M.lo gb (by simp))).app,rb,tb,_,_,(M.spoiled (w:=gt w v.b v.c) hb3 h0 h1 hb5 hb4).app⟩
  ·have hN:((!inR v.b 0 (w.bytes.length-1)) || !inR v.c 1 255)=true:=by
    rw[Bool.or_eq_true,ci,ci];omega
   rw[if_pos hN];refine g_n Tryz.func85 rfl Tryz.results85 Tryz.ntmps85 ?_;refine g_s fun K hK=>?_;refine g_h ?_;refine hK _ _ ?_;clear hK K;refine g_0 3 rfl ?_
   (repeat' (first|(refine g_s fun K hK=>?_)|(refine g_C (fun h=>?_) (fun h=>?_)<;>(try exact g_f))|((first|refine g_t ?_|refine g_g ?_|refine g_U ?_);(try simp -implicitDefEqProofs only[go_sem,hbL,hgL,hgw,hgS]))|(refine hK _ _ ?_;clear hK K)|(with_reducible refine ak (fun h=>?_) (fun h=>?_)<;>(try simp only[go_sem] at h)<;>(try exact g_f)<;>(try simp -implicitDefEqProofs only[go_sem,hbL,hgL,hgw,hgS]))|(with_reducible refine And.intro ?_ ?_;· exact g_x)|fail))
   all_goals exact⟨hK0.app,rb,tb,_,_,M.app⟩
 ·have hN:((!inR v.b 0 (w.bytes.length-1)) || !inR v.c 1 255)=true:=by
   rw[Bool.or_eq_true,ci,ci];omega
  rw[if_pos hN];refine g_n Tryz.func85 rfl Tryz.results85 Tryz.ntmps85 ?_;refine g_s fun K hK=>?_;refine g_h ?_;refine hK _ _ ?_;clear hK K;refine g_0 3 rfl ?_
  (repeat' (first|(refine g_s fun K hK=>?_)|(refine g_C (fun h=>?_) (fun h=>?_)<;>(try exact g_f))|((first|refine g_t ?_|refine g_g ?_|refine g_U ?_);(try simp -implicitDefEqProofs only[go_sem,hbL,hgL,hgw,hgS]))|(refine hK _ _ ?_;clear hK K)|(with_reducible refine ak (fun h=>?_) (fun h=>?_)<;>(try simp only[go_sem] at h)<;>(try exact g_f)<;>(try simp -implicitDefEqProofs only[go_sem,hbL,hgL,hgw,hgS]))|(with_reducible refine And.intro ?_ ?_;· exact g_x)|fail))
  all_goals exact⟨hK0.app,rb,tb,_,_,M.app⟩
theorem xD (n:Net) (e:Eng) (hc:aI n=0) (hl:n.links.length≤5864062014634) (he:a8 n e) (hby:cu e) (ρ S:aa) (b:Nat) (hS:bD ρ S b n e) (v:Evt) (hv:v.routes.length≤17592186044000) (hk:v.kind<1∨7<v.kind) :
  af Tryz.prog 40 [.ptr b 7 0 0,.agg (cl v)] S fun r S'=>bD ρ S' b n (aN n e v).1∧r=ab (aN n e v).2:=by
 have hS1:bD ρ (S++[.dead]) b n e:=hS.app;have hs:aN n e v=(e,7):=by
  unfold aN;rw[if_pos];rw[ci];omega
 rw[hs];refine g_n Tryz.func40 rfl Tryz.results40 Tryz.ntmps40 ?_;refine g_s fun K hK=>?_;refine g_h ?_;refine hK _ _ ?_;clear hK K;refine g_0 3 rfl ?_
 (repeat' (first|(refine g_s fun K hK=>?_)|(refine g_b ?_)|(refine g_C (fun h=>?_) (fun h=>?_)<;>(try exact g_f))|((first|refine g_t ?_|refine g_g ?_);(try refine g_y ?_))|(refine hK _ _ ?_;clear hK K)|(with_reducible refine ak (fun h=>?_) (fun h=>?_)<;>(try simp only[go_sem] at h)<;>(try exact g_f)<;>(try refine g_y ?_))|exact trivial|fail))
 all_goals exact hS1
theorem xC (n:Net) (e:Eng) (hc:aI n=0) (hl:n.links.length≤5864062014634) (he:a8 n e) (hby:cu e) (ρ S:aa) (b:Nat) (hS:bD ρ S b n e) (v:Evt) (hv:v.routes.length≤17592186044000) (hk:v.kind=1) :
  af Tryz.prog 40 [.ptr b 7 0 0,.agg (cl v)] S fun r S'=>bD ρ S' b n (aN n e v).1∧r=ab (aN n e v).2:=by
 have hS1:bD ρ (S++[.dead]) b n e:=hS.app;have hn:=aU hc;have n6:=hn.n6;obtain⟨hK0,rb,tb,gv,gi,M⟩:=hS;have hbL:∀τ,(S++τ)[b]? = some (.cells 7 [aH n++[.own rb 2 0 e.routers.length e.routers.length,gv]]):=fun τ=>az M.hb;have hN:=ft n v.at'
 by_cases hat:0≤v.at'∧v.at'<n.nodes
 ·have hT:inR v.at' 0 (n.nodes-1)=true:=aG.2 (by omega)
  have hs:aN n e v=gL n e v.at':=by
   unfold aN;rw[hk,hT];rfl
  rw[hT] at hN;rw[hs];refine g_n Tryz.func40 rfl Tryz.results40 Tryz.ntmps40 ?_;refine g_s fun K hK=>?_;refine g_h ?_;refine hK _ _ ?_;clear hK K;refine g_0 3 rfl ?_
  (repeat' (first|(refine g_s fun K hK=>?_)|(refine g_b ?_)|(refine g_k ?_;simp only[ah,ae])|(refine g_C (fun h=>?_) (fun h=>?_)<;>(try exact g_f))|((first|refine g_g ?_|refine g_U ?_|refine g_q (fun τ=>hN _) ?_);(try simp -implicitDefEqProofs only[go_sem,hbL,hk]))|(refine hK _ _ ?_;clear hK K)|fail))
  refine (y8 n e hc hl he ρ _ b hS1 v.at' hat.1 hat.2).mono ?_;rintro r S' ⟨h,rfl⟩
  (repeat' (first|(refine g_t ?_;(try refine g_y ?_))|(refine hK _ _ ?_;clear hK K)|exact trivial|fail))
  exact h
 ·have hT:inR v.at' 0 (n.nodes-1)=false:=by
   rw[←Bool.not_eq_true,aG];omega
  have hs:aN n e v=(e,5):=by
   unfold aN;rw[hk,hT];rfl
  rw[hT] at hN;rw[hs];refine g_n Tryz.func40 rfl Tryz.results40 Tryz.ntmps40 ?_;refine g_s fun K hK=>?_;refine g_h ?_;refine hK _ _ ?_;clear hK K;refine g_0 3 rfl ?_
  (repeat' (first|(refine g_s fun K hK=>?_)|(refine g_b ?_)|(refine g_C (fun h=>?_) (fun h=>?_)<;>(try exact g_f))|((first|refine g_t ?_|refine g_g ?_|refine g_U ?_|refine g_q (fun τ=>hN _) ?_);(try simp -implicitDefEqProofs only[go_sem,hbL,hk]))|(refine hK _ _ ?_;clear hK K)|fail))
  exact hS1
theorem xx (n:Net) (e:Eng) (hc:aI n=0) (hl:n.links.length≤5864062014634) (he:a8 n e) (hby:cu e) (ρ S:aa) (b:Nat) (hS:bD ρ S b n e) (v:Evt) (hv:v.routes.length≤17592186044000) (hk:v.kind=6) :
  af Tryz.prog 40 [.ptr b 7 0 0,.agg (cl v)] S fun r S'=>bD ρ S' b n (aN n e v).1∧r=ab (aN n e v).2:=by
 have hS1:bD ρ (S++[.dead]) b n e:=hS.app;have hn:=aU hc;have n6:=hn.n6;obtain⟨hK0,rb,tb,gv,gi,M⟩:=hS;have hbL:∀τ,(S++τ)[b]? = some (.cells 7 [aH n++[.own rb 2 0 e.routers.length e.routers.length,gv]]):=fun τ=>az M.hb;have hN:=ft n v.at'
 by_cases hat:0≤v.at'∧v.at'<n.nodes
 ·have hT:inR v.at' 0 (n.nodes-1)=true:=aG.2 (by omega)
  have hs:aN n e v=(if !inR v.b 0 (n.nodes-1) then e else bh n (aR e v.at' (cP (at0 e.routers v.at') v.b [])) v.at',if !inR v.b 0 (n.nodes-1) then 5 else 0):=by
   unfold aN;rw[hk,hT]
   cases inR v.b 0 (n.nodes-1)<;>rfl
  rw[hT] at hN;rw[hs];refine g_n Tryz.func40 rfl Tryz.results40 Tryz.ntmps40 ?_;refine g_s fun K hK=>?_;refine g_h ?_;refine hK _ _ ?_;clear hK K;refine g_0 3 rfl ?_
  (repeat' (first|(refine g_s fun K hK=>?_)|(refine g_b ?_)|(refine g_k ?_;simp only[ah,ae])|(refine g_C (fun h=>?_) (fun h=>?_)<;>(try exact g_f))|((first|refine g_g ?_|refine g_U ?_|refine g_q (fun τ=>hN _) ?_);(try simp -implicitDefEqProofs only[go_sem,hbL,hk]))|(refine hK _ _ ?_;clear hK K)|fail))
  have hX:=wQ n e hc hl he ρ _ b hS1 v hat.1 hat.2;simp only[cl,hk] at hX;refine hX.mono ?_;rintro r S' ⟨h,rfl⟩
  (repeat' (first|(refine g_t ?_;(try refine g_y ?_))|(refine hK _ _ ?_;clear hK K)|exact trivial|fail))
  simpa using h
 ·have hT:inR v.at' 0 (n.nodes-1)=false:=by
   rw[←Bool.not_eq_true,aG];omega
  have hs:aN n e v=(e,5):=by
   unfold aN;rw[hk,hT];rfl
  rw[hT] at hN;rw[hs];refine g_n Tryz.func40 rfl Tryz.results40 Tryz.ntmps40 ?_;refine g_s fun K hK=>?_;refine g_h ?_;refine hK _ _ ?_;clear hK K;refine g_0 3 rfl ?_
  (repeat' (first|(refine g_s fun K hK=>?_)|(refine g_b ?_)|(refine g_C (fun h=>?_) (fun h=>?_)<;>(try exact g_f))|((first|refine g_t ?_|refine g_g ?_|refine g_U ?_|refine g_q (fun τ=>hN _) ?_);(try simp -implicitDefEqProofs only[go_sem,hbL,hk]))|(refine hK _ _ ?_;clear hK K)|fail))
  exact hS1
theorem xB (n:Net) (e:Eng) (hc:aI n=0) (hl:n.links.length≤5864062014634) (he:a8 n e) (hby:cu e) (ρ S:aa) (b:Nat) (hS:bD ρ S b n e) (v:Evt) (hv:v.routes.length≤17592186044000) (hk:v.kind=2) :
  af Tryz.prog 40 [.ptr b 7 0 0,.agg (cl v)] S fun r S'=>bD ρ S' b n (aN n e v).1∧r=ab (aN n e v).2:=by
 have hS1:bD ρ (S++[.dead]) b n e:=hS.app;have hbag:=he.bag;obtain⟨hK0,rb,tb,gv,gi,M⟩:=hS;have hbL:∀τ,(S++τ)[b]? = some (.cells 7 [aH n++[.own rb 2 0 e.routers.length e.routers.length,gv]]):=fun τ=>az M.hb
 by_cases hat:0≤v.at'∧v.at'<e.bag.length
 ·have hT:inR v.at' 0 (e.bag.length-1)=true:=aG.2 (by omega)
  have hs:aN n e v=(eu n e v.at',0):=by
   unfold aN;rw[hk,hT];rfl
  rw[hs]
  rcases M.bag with ⟨h1,_,_⟩|⟨gb,rest,rfl,rfl,hb3,hb4,hb5⟩
  ·rw[h1] at hat;simp at hat;omega
  refine g_n Tryz.func40 rfl Tryz.results40 Tryz.ntmps40 ?_;refine g_s fun K hK=>?_;refine g_h ?_;refine hK _ _ ?_;clear hK K;refine g_0 3 rfl ?_
  (repeat' (first|(refine g_s fun K hK=>?_)|(refine g_b ?_)|(refine g_k ?_;simp only[ah,ae])|(refine g_C (fun h=>?_) (fun h=>?_)<;>(try exact g_f))|((first|refine g_g ?_|refine g_U ?_);(try simp -implicitDefEqProofs only[go_sem,hbL,hk]))|(refine hK _ _ ?_;clear hK K)|(with_reducible refine ak (fun h=>?_) (fun h=>?_)<;>(try simp only[go_sem] at h)<;>(try exact g_f)<;>(try simp -implicitDefEqProofs only[go_sem,hbL,hk]))|fail))
  refine (vz n e hc hl he hby ρ _ b hS1 v.at' hat.1 hat.2).mono ?_;rintro r S' ⟨h,rfl⟩
  (repeat' (first|(refine g_s fun K hK=>?_)|((first|refine g_t ?_|refine g_g ?_);(try refine g_y ?_))|(refine hK _ _ ?_;clear hK K)|exact trivial|fail))
  exact h
 ·have hT:inR v.at' 0 (e.bag.length-1)=false:=by
   rw[←Bool.not_eq_true,aG];omega
  have hs:aN n e v=(e,5):=by
   unfold aN;rw[hk,hT];rfl
  rw[hs]
  rcases M.bag with ⟨h1,_,rfl⟩|⟨gb,rest,_,rfl,hb3,hb4,hb5⟩
  ·have h2:e.bag.length=0:=by rw[h1];rfl
   rw[h2] at hat;refine g_n Tryz.func40 rfl Tryz.results40 Tryz.ntmps40 ?_;refine g_s fun K hK=>?_;refine g_h ?_;refine hK _ _ ?_;clear hK K;refine g_0 3 rfl ?_
   (repeat' (first|(refine g_s fun K hK=>?_)|(refine g_b ?_)|(refine g_C (fun h=>?_) (fun h=>?_)<;>(try exact g_f))|((first|refine g_t ?_|refine g_g ?_|refine g_U ?_);(try simp -implicitDefEqProofs only[go_sem,hbL,hk]))|(refine hK _ _ ?_;clear hK K)|(with_reducible refine ak (fun h=>?_) (fun h=>?_)<;>(try simp only[go_sem] at h)<;>(try exact g_f)<;>(try simp -implicitDefEqProofs only[go_sem,hbL,hk]))|fail))
   all_goals exact hS1
  ·refine g_n Tryz.func40 rfl Tryz.results40 Tryz.ntmps40 ?_;refine g_s fun K hK=>?_;refine g_h ?_;refine hK _ _ ?_;clear hK K;refine g_0 3 rfl ?_
   (repeat' (first|(refine g_s fun K hK=>?_)|(refine g_b ?_)|(refine g_C (fun h=>?_) (fun h=>?_)<;>(try exact g_f))|((first|refine g_t ?_|refine g_g ?_|refine g_U ?_);(try simp -implicitDefEqProofs only[go_sem,hbL,hk]))|(refine hK _ _ ?_;clear hK K)|(with_reducible refine ak (fun h=>?_) (fun h=>?_)<;>(try simp only[go_sem] at h)<;>(try exact g_f)<;>(try simp -implicitDefEqProofs only[go_sem,hbL,hk]))|fail))
   all_goals exact hS1
theorem xA (n:Net) (e:Eng) (hc:aI n=0) (hl:n.links.length≤5864062014634) (he:a8 n e) (hby:cu e) (ρ S:aa) (b:Nat) (hS:bD ρ S b n e) (v:Evt) (hv:v.routes.length≤17592186044000) (hk:v.kind=3) :
  af Tryz.prog 40 [.ptr b 7 0 0,.agg (cl v)] S fun r S'=>bD ρ S' b n (aN n e v).1∧r=ab (aN n e v).2:=by
 have hS1:bD ρ (S++[.dead]) b n e:=hS.app;have hbag:=he.bag;obtain⟨hK0,rb,tb,gv,gi,M⟩:=hS;have hbL:∀τ,(S++τ)[b]? = some (.cells 7 [aH n++[.own rb 2 0 e.routers.length e.routers.length,gv]]):=fun τ=>az M.hb
 by_cases hat:0≤v.at'∧v.at'<e.bag.length
 ·have hT:inR v.at' 0 (e.bag.length-1)=true:=aG.2 (by omega)
  have hs:aN n e v=(if e.bag.length=120 then e else ⟨e.routers,e.bag++[at0 e.bag v.at']⟩,if e.bag.length=120 then 2 else 0):=by
   unfold aN;rw[hk,hT];show (if e.bag.length=120 then (e,(2:Int)) else (⟨e.routers,e.bag++[at0 e.bag v.at']⟩,0))=_
   by_cases h:e.bag.length=120
   ·rw[if_pos h,if_pos h,if_pos h]
   ·rw[if_neg h,if_neg h,if_neg h]
  rw[hs]
  rcases M.bag with ⟨h1,_,_⟩|⟨gb,rest,rfl,rfl,hb3,hb4,hb5⟩
  ·rw[h1] at hat;simp at hat;omega
  refine g_n Tryz.func40 rfl Tryz.results40 Tryz.ntmps40 ?_;refine g_s fun K hK=>?_;refine g_h ?_;refine hK _ _ ?_;clear hK K;refine g_0 3 rfl ?_
  (repeat' (first|(refine g_s fun K hK=>?_)|(refine g_b ?_)|(refine g_k ?_;simp only[ah,ae])|(refine g_C (fun h=>?_) (fun h=>?_)<;>(try exact g_f))|((first|refine g_g ?_|refine g_U ?_);(try simp -implicitDefEqProofs only[go_sem,hbL,hk]))|(refine hK _ _ ?_;clear hK K)|(with_reducible refine ak (fun h=>?_) (fun h=>?_)<;>(try simp only[go_sem] at h)<;>(try exact g_f)<;>(try simp -implicitDefEqProofs only[go_sem,hbL,hk]))|fail))
  refine (xf n e he ρ _ b hS1 v.at' hat.1 hat.2).mono ?_;rintro r S' ⟨h,rfl⟩
  (repeat' (first|(refine g_t ?_;(try refine g_y ?_))|(refine hK _ _ ?_;clear hK K)|exact trivial|fail))
  exact h
 ·have hT:inR v.at' 0 (e.bag.length-1)=false:=by
   rw[←Bool.not_eq_true,aG];omega
  have hs:aN n e v=(e,5):=by
   unfold aN;rw[hk,hT];rfl
  rw[hs]
  rcases M.bag with ⟨h1,_,rfl⟩|⟨gb,rest,_,rfl,hb3,hb4,hb5⟩
  ·have h2:e.bag.length=0:=by rw[h1];rfl
   rw[h2] at hat;refine g_n Tryz.func40 rfl Tryz.results40 Tryz.ntmps40 ?_;refine g_s fun K hK=>?_;refine g_h ?_;refine hK _ _ ?_;clear hK K;refine g_0 3 rfl ?_
   (repeat' (first|(refine g_s fun K hK=>?_)|(refine g_b ?_)|(refine g_C (fun h=>?_) (fun h=>?_)<;>(try exact g_f))|((first|refine g_t ?_|refine g_g ?_|refine g_U ?_);(try simp -implicitDefEqProofs only[go_sem,hbL,hk]))|(refine hK _ _ ?_;clear hK K)|(with_reducible refine ak (fun h=>?_) (fun h=>?_)<;>(try simp only[go_sem] at h)<;>(try exact g_f)<;>(try simp -implicitDefEqProofs only[go_sem,hbL,hk]))|fail))
   all_goals exact hS1
  ·refine g_n Tryz.func40 rfl Tryz.results40 Tryz.ntmps40 ?_;refine g_s fun K hK=>?_;refine g_h ?_;refine hK _ _ ?_;clear hK K;refine g_0 3 rfl ?_
   (repeat' (first|(refine g_s fun K hK=>?_)|(refine g_b ?_)|(refine g_C (fun h=>?_) (fun h=>?_)<;>(try exact g_f))|((first|refine g_t ?_|refine g_g ?_|refine g_U ?_);(try simp -implicitDefEqProofs only[go_sem,hbL,hk]))|(refine hK _ _ ?_;clear hK K)|(with_reducible refine ak (fun h=>?_) (fun h=>?_)<;>(try simp only[go_sem] at h)<;>(try exact g_f)<;>(try simp -implicitDefEqProofs only[go_sem,hbL,hk]))|fail))
   all_goals exact hS1
theorem xy (n:Net) (e:Eng) (hc:aI n=0) (hl:n.links.length≤5864062014634) (he:a8 n e) (hby:cu e) (ρ S:aa) (b:Nat) (hS:bD ρ S b n e) (v:Evt) (hv:v.routes.length≤17592186044000) (hk:v.kind=5) :
  af Tryz.prog 40 [.ptr b 7 0 0,.agg (cl v)] S fun r S'=>bD ρ S' b n (aN n e v).1∧r=ab (aN n e v).2:=by
 have hS1:bD ρ (S++[.dead]) b n e:=hS.app;have hbag:=he.bag;obtain⟨hK0,rb,tb,gv,gi,M⟩:=hS;have hbL:∀τ,(S++τ)[b]? = some (.cells 7 [aH n++[.own rb 2 0 e.routers.length e.routers.length,gv]]):=fun τ=>az M.hb
 by_cases hat:0≤v.at'∧v.at'<e.bag.length
 ·have hT:inR v.at' 0 (e.bag.length-1)=true:=aG.2 (by omega)
  have hs:aN n e v=fH e v:=by
   unfold aN;rw[hk,hT];rfl
  rw[hs]
  rcases M.bag with ⟨h1,_,_⟩|⟨gb,rest,rfl,rfl,hb3,hb4,hb5⟩
  ·rw[h1] at hat;simp at hat;omega
  refine g_n Tryz.func40 rfl Tryz.results40 Tryz.ntmps40 ?_;refine g_s fun K hK=>?_;refine g_h ?_;refine hK _ _ ?_;clear hK K;refine g_0 3 rfl ?_
  (repeat' (first|(refine g_s fun K hK=>?_)|(refine g_b ?_)|(refine g_k ?_;simp only[ah,ae])|(refine g_C (fun h=>?_) (fun h=>?_)<;>(try exact g_f))|((first|refine g_g ?_|refine g_U ?_);(try simp -implicitDefEqProofs only[go_sem,hbL,hk]))|(refine hK _ _ ?_;clear hK K)|(with_reducible refine ak (fun h=>?_) (fun h=>?_)<;>(try simp only[go_sem] at h)<;>(try exact g_f)<;>(try simp -implicitDefEqProofs only[go_sem,hbL,hk]))|fail))
  have hX:=xE n e he hby ρ _ b hS1 v hat.1 hat.2;simp only[cl,hk] at hX;refine hX.mono ?_;rintro r S' ⟨h,rfl⟩
  (repeat' (first|(refine g_t ?_;(try refine g_y ?_))|(refine hK _ _ ?_;clear hK K)|exact trivial|fail))
  exact h
 ·have hT:inR v.at' 0 (e.bag.length-1)=false:=by
   rw[←Bool.not_eq_true,aG];omega
  have hs:aN n e v=(e,5):=by
   unfold aN;rw[hk,hT];rfl
  rw[hs]
  rcases M.bag with ⟨h1,_,rfl⟩|⟨gb,rest,_,rfl,hb3,hb4,hb5⟩
  ·have h2:e.bag.length=0:=by rw[h1];rfl
   rw[h2] at hat;refine g_n Tryz.func40 rfl Tryz.results40 Tryz.ntmps40 ?_;refine g_s fun K hK=>?_;refine g_h ?_;refine hK _ _ ?_;clear hK K;refine g_0 3 rfl ?_
   (repeat' (first|(refine g_s fun K hK=>?_)|(refine g_b ?_)|(refine g_C (fun h=>?_) (fun h=>?_)<;>(try exact g_f))|((first|refine g_t ?_|refine g_g ?_|refine g_U ?_);(try simp -implicitDefEqProofs only[go_sem,hbL,hk]))|(refine hK _ _ ?_;clear hK K)|(with_reducible refine ak (fun h=>?_) (fun h=>?_)<;>(try simp only[go_sem] at h)<;>(try exact g_f)<;>(try simp -implicitDefEqProofs only[go_sem,hbL,hk]))|fail))
   all_goals exact hS1
  ·refine g_n Tryz.func40 rfl Tryz.results40 Tryz.ntmps40 ?_;refine g_s fun K hK=>?_;refine g_h ?_;refine hK _ _ ?_;clear hK K;refine g_0 3 rfl ?_
   (repeat' (first|(refine g_s fun K hK=>?_)|(refine g_b ?_)|(refine g_C (fun h=>?_) (fun h=>?_)<;>(try exact g_f))|((first|refine g_t ?_|refine g_g ?_|refine g_U ?_);(try simp -implicitDefEqProofs only[go_sem,hbL,hk]))|(refine hK _ _ ?_;clear hK K)|(with_reducible refine ak (fun h=>?_) (fun h=>?_)<;>(try simp only[go_sem] at h)<;>(try exact g_f)<;>(try simp -implicitDefEqProofs only[go_sem,hbL,hk]))|fail))
   all_goals exact hS1
theorem xz (n:Net) (e:Eng) (hc:aI n=0) (hl:n.links.length≤5864062014634) (he:a8 n e) (hby:cu e) (ρ S:aa) (b:Nat) (hS:bD ρ S b n e) (v:Evt) (hv:v.routes.length≤17592186044000) (hk:v.kind=4) :
  af Tryz.prog 40 [.ptr b 7 0 0,.agg (cl v)] S fun r S'=>bD ρ S' b n (aN n e v).1∧r=ab (aN n e v).2:=by
 have hS1:bD ρ (S++[.dead]) b n e:=hS.app;have hbag:=he.bag;obtain⟨hK0,rb,tb,gv,gi,M⟩:=hS;have hbL:∀τ,(S++τ)[b]? = some (.cells 7 [aH n++[.own rb 2 0 e.routers.length e.routers.length,gv]]):=fun τ=>az M.hb
 by_cases hat:0≤v.at'∧v.at'<e.bag.length
 ·have hT:inR v.at' 0 (e.bag.length-1)=true:=aG.2 (by omega)
  have hs:aN n e v=(bZ e v.at',0):=by
   unfold aN;rw[hk,hT];rfl
  rw[hs]
  rcases M.bag with ⟨h1,_,_⟩|⟨gb,rest,rfl,rfl,hb3,hb4,hb5⟩
  ·rw[h1] at hat;simp at hat;omega
  obtain⟨R,bag⟩:=e;simp only at hat hb3 hb4 hb5 hbag hbL M;obtain⟨m,hm⟩:∃m:Nat,v.at'=m:=⟨v.at'.toNat,by omega⟩
  have h1':m<bag.length:=by omega
  have im:I64 ((m:Int)+1):=by unfold I64;omega
  have hne:=M.ne;have hgb:gb≠b:=fun e=>hne.2.2.1 (by rw[e];simp)
  have hgS:∀τ o,(S++τ).set gb o=S.set gb o++τ:=fun τ o=>bt hb3;have hbG:∀o,(S.set gb o)[b]? = some (.cells 7 [aH n++[.own rb 2 0 R.length R.length,.own gb 3 0 bag.length (bag.length+rest.length)]]):=fun o=>aT M.hb hgb;have hbD:∀o τ,(S.set gb o++τ)[b]? = some (.cells 7 [aH n++[.own rb 2 0 R.length R.length,.own gb 3 0 bag.length (bag.length+rest.length)]]):=fun o τ=>az (hbG o);have hbE:∀o τ o',(S.set gb o++τ).set b o'=(S.set gb o).set b o'++τ:=fun o τ o'=>bt (hbG o);have hde:=r6 (S++[.dead]) gb bag rest m h1' (az hb3) hb4 (by omega) (by omega)
  refine g_n Tryz.func40 rfl Tryz.results40 Tryz.ntmps40 ?_;refine g_s fun K hK=>?_;refine g_h ?_;refine hK _ _ ?_;clear hK K;refine g_0 3 rfl ?_
  (repeat' (first|(refine g_s fun K hK=>?_)|(refine g_b ?_)|(refine g_k ?_;simp only[ah,ae])|(refine g_C (fun h=>?_) (fun h=>?_)<;>(try exact g_f))|((first|refine g_t ?_|refine g_G ?_|refine CX a9 (by decide +kernel) ?_|refine eG (hde) ?_);(try simp -implicitDefEqProofs only[go_sem,hbL,hk,hm,hgS,hbD,hbE,im]))|(refine hK _ _ ?_;clear hK K)|(with_reducible refine ak (fun h=>?_) (fun h=>?_)<;>(try simp only[go_sem] at h)<;>(try exact g_f)<;>(try simp -implicitDefEqProofs only[go_sem,hbL,hk,hm,hgS,hbD,hbE,im]))|fail))
  exact⟨((hK0.set (M.lo gb (by simp))).set (M.lo b (by simp))).app,rb,tb,_,_,(M.drop m h1' hb5 hb4 ⟨_,hb3⟩).app⟩
 ·have hT:inR v.at' 0 (e.bag.length-1)=false:=by
   rw[←Bool.not_eq_true,aG];omega
  have hs:aN n e v=(e,5):=by
   unfold aN;rw[hk,hT];rfl
  rw[hs]
  rcases M.bag with ⟨h1,_,rfl⟩|⟨gb,rest,_,rfl,hb3,hb4,hb5⟩
  ·have h2:e.bag.length=0:=by rw[h1];rfl
   rw[h2] at hat;refine g_n Tryz.func40 rfl Tryz.results40 Tryz.ntmps40 ?_;refine g_s fun K hK=>?_;refine g_h ?_;refine hK _ _ ?_;clear hK K;refine g_0 3 rfl ?_
   (repeat' (first|(refine g_s fun K hK=>?_)|(refine g_b ?_)|(refine g_C (fun h=>?_) (fun h=>?_)<;>(try exact g_f))|((first|refine g_t ?_|refine g_g ?_|refine g_U ?_);(try simp -implicitDefEqProofs only[go_sem,hbL,hk]))|(refine hK _ _ ?_;clear hK K)|(with_reducible refine ak (fun h=>?_) (fun h=>?_)<;>(try simp only[go_sem] at h)<;>(try exact g_f)<;>(try simp -implicitDefEqProofs only[go_sem,hbL,hk]))|fail))
   all_goals exact hS1
  ·refine g_n Tryz.func40 rfl Tryz.results40 Tryz.ntmps40 ?_;refine g_s fun K hK=>?_;refine g_h ?_;refine hK _ _ ?_;clear hK K;refine g_0 3 rfl ?_
   (repeat' (first|(refine g_s fun K hK=>?_)|(refine g_b ?_)|(refine g_C (fun h=>?_) (fun h=>?_)<;>(try exact g_f))|((first|refine g_t ?_|refine g_g ?_|refine g_U ?_);(try simp -implicitDefEqProofs only[go_sem,hbL,hk]))|(refine hK _ _ ?_;clear hK K)|(with_reducible refine ak (fun h=>?_) (fun h=>?_)<;>(try simp only[go_sem] at h)<;>(try exact g_f)<;>(try simp -implicitDefEqProofs only[go_sem,hbL,hk]))|fail))
   all_goals exact hS1
end Go.Proofs.YtephecognbbaoaaGreat
namespace Go.Proofs.YtephecognbbaoaaGreat
variable {lb:Bool}
def eF (lb:Bool) (op:Op):Bool:=match op with
 | .makeSlice .. => false
 | op=>cD (false,lb) op
theorem ER {op:Op} (h:eF lb op=true):cD (false,lb) op=true:=by
 unfold eF at h
 split at h
 ·cases h
 ·exact h
def qJ (P:Program) (op:Op) (ev:Operand→Option AV) (σ:aa) (K:AV→Prop):Prop:=match op with
 | .makeSlice T l c=>on ((ev l).bind jI) fun l=>on ((ev c).bind jI) fun c=>match P.underlying T with
  | some (.slice e)=>on (bY P e) fun z=>z.length=P.cellsOf e∧0≤l∧l=c∧(P.bytesOf e:Int)*c≤140737488355328∧c≤9223372036854775807∧K (.sl (List.replicate c.toNat z))
  | _=>False
 | op=>jT P op ev σ K
theorem En {P:Program} {ev:Operand→Option AV} {σ:aa} {K:AV→Prop} (op:Op) (h:qJ P op ev σ K):∃v,(∀τ,bk P op ev (σ++τ) v)∧K v:=by
 unfold qJ at h
 split at h
 ·rename_i T l c
  replace h:=aj h
  obtain⟨x,hx,h⟩:=h
  replace h:=aj h
  obtain⟨y,hy,h⟩:=h
  split at h
  ·rename_i e he
   replace h:=aj h
   obtain⟨z,hz,h1,h2,h3,h4,h5,h6⟩:=h;refine⟨_,fun τ=>?_,h6⟩;unfold bk;simp only[hx,hy,he,hz,on];exact⟨h1,h2,h3,h4,h5,trivial⟩
  ·exact h.elim
 ·exact qK op h
theorem C9 {P:Program} {ev:Operand→Option AV} {σ:aa} {K:AV→Prop} (op:Op) (hp:eX op=true) (h:qJ P op ev σ K):∃v,(∀σ',bk P op ev σ' v)∧K v:=by
 unfold qJ at h
 split at h
 ·cases hp
 ·exact su op hp h
def qF (lb:Bool) (ops:List Oper):Bool:=ops.all fun o=>eF lb o.op||eX o.op
def fE (lb:Bool) (P:Program) (N:Nat) (ops:List Oper) (pu:Bool) (σ0:aa) (K:AF→aa→Prop):List Oper→AF→aa→Prop
 | [],α,σ=>K α σ
 | o::r,α,σ=>dC ops o.guard α fun α=>dk ops o.guard α
   (fun α=>match eF lb o.op with
    | true=>nP P o.op (evF α) σ fun v σ'=>cI pu σ0 σ'∧br N o.dst v α fun α'=>fE lb P N ops pu σ0 K r α' σ'
    | false=>qJ P o.op (evF α) σ0 fun v=>br N o.dst v α fun α'=>fE lb P N ops pu σ0 K r α' σ)
   (fun α=>br N o.dst (.c undef) α fun α'=>fE lb P N ops pu σ0 K r α' σ)
section
variable {rd:Option Nat} {P:Program} {N:Nat} {K0:World} {ops:List Oper} {pu:Bool} {σ0:aa} {α0:AF}
def wY (lb:Bool) (P:Program) (N:Nat) (ops:List Oper) (pu:Bool) (σ0:aa) (α:AF) (σ:aa) (o:Oper) (b:Bool) (v:AV) (σ':aa):Prop:=
  (∀d,o.dst=some d→d<N) ∧
  ((b=true∧((eF lb o.op=true∧AOp P o.op (evF α) σ (fun v' σ''=>v'=v∧σ''=σ')∧cI pu σ0 σ')∨(eF lb o.op=false∧σ'=σ∧∀σ1,cI pu σ0 σ1→bk P o.op (evF α) σ1 v))∧(∀g want,o.guard=some (g,want)→∃d,(ops[g]?).bind (·.dst)=some d∧aB α d=some (.c (.bool want)))) ∨
   (b=false∧v = .c undef∧σ'=σ∧∃g want d,o.guard=some (g,want)∧(ops[g]?).bind (·.dst)=some d∧(aB α d=some (.c (.bool (!want)))∨∃t,aB α d=some (.c (.tuple t)))))
theorem qO {K:AF→aa→Prop} (hpu:pu=true→qF lb ops=true):∀(l:List Oper) (k:Nat) (vs0:Nat→AV) (bs0:Nat→Bool) (ss0:Nat→aa) (β:AF),(∀t,aB β t=aB (frL ops α0 vs0 k) t)→(∀j,j<l.length→l[j]? = ops[k+j]?)→fE lb P N ops pu σ0 K l β (ss0 k) →
  ∃(vs:Nat→AV) (bl:Nat→Bool) (ss:Nat→aa),(∀j,j<k→vs j=vs0 j∧bl j=bs0 j)∧(∀j,j≤k→ss j=ss0 j)∧(∀j (h:j<l.length),wY lb P N ops pu σ0 (frL ops α0 vs (k+j)) (ss (k+j)) l[j] (bl (k+j)) (vs (k+j)) (ss (k+j+1)))∧∃γ,(∀t,aB γ t=aB (frL ops α0 vs (k+l.length)) t)∧K γ (ss (k+l.length))
 | [],k,vs0,bs0,ss0,β,hβ,_,h=>⟨vs0,bs0,ss0,fun _ _=>⟨rfl,rfl⟩,fun _ _=>rfl,fun j h=>by simp at h,β,hβ,h⟩
 | o::r,k,vs0,bs0,ss0,β,hβ,hl,h=>by
  have ho:ops[k]? = some o:=by have:=hl 0 (by simp);simpa using this.symm
  have go:∀(b:Bool) (v:AV) (σ':aa) (β:AF),(∀t,aB β t=aB (frL ops α0 vs0 k) t)→wY lb P N ops pu σ0 (frL ops α0 vs0 k) (ss0 k) o b v σ'→br N o.dst v β (fun α'=>fE lb P N ops pu σ0 K r α' σ') →
    ∃(vs:Nat→AV) (bl:Nat→Bool) (ss:Nat→aa),(∀j,j<k→vs j=vs0 j∧bl j=bs0 j)∧(∀j,j≤k→ss j=ss0 j)∧(∀j (h:j<(o::r).length),wY lb P N ops pu σ0 (frL ops α0 vs (k+j)) (ss (k+j)) (o::r)[j] (bl (k+j)) (vs (k+j)) (ss (k+j+1)))∧∃γ,(∀t,aB γ t=aB (frL ops α0 vs (k+(o::r).length)) t)∧K γ (ss (k+(o::r).length)):=by
   intro b v σ' β hβ hst hput
   let vs1:Nat→AV:=fun j=>if j=k then v else vs0 j
   let bs1:Nat→Bool:=fun j=>if j=k then b else bs0 j
   let ss1:Nat→aa:=fun j=>if j=k+1 then σ' else ss0 j
   have hfr:frL ops α0 vs1 k=frL ops α0 vs0 k:=iC k _ _ fun j hj=>by simp only[vs1];rw[if_neg (by omega)]
   obtain⟨β',hβ',hq⟩:∃β',(∀t,aB β' t=aB (frL ops α0 vs1 (k+1)) t)∧fE lb P N ops pu σ0 K r β' σ':=by
    have hd:(ops[k]?).bind (·.dst)=o.dst:=by rw[ho];rfl
    unfold br at hput
    cases hdst:o.dst with
    | none=>
     rw[hdst] at hput hd;refine⟨β,fun t=>?_,hput⟩;simp only[frL,hd,hfr];exact hβ t
    | some d=>
     rw[hdst] at hput hd;refine⟨_,fun t=>?_,hput.2⟩;simp only[frL,hd,hfr,aB,vs1,if_true]
     split
     ·rfl
     ·exact hβ t
   obtain⟨vs,bl,ss,h1,h1s,h2,γ,h3,h4⟩:=qO hpu r (k+1) vs1 bs1 ss1 β' hβ' (fun j hj=>by
    have:=hl (j+1) (by simp;omega)
    rw[show k+1+j=k+(j+1) by omega,←this]
    rfl) (by simp only[ss1,if_true];exact hq)
   refine⟨vs,bl,ss,fun j hj=>?_,fun j hj=>?_,fun j hj=>?_,γ,by rw[show k+(o::r).length=k+1+r.length by simp;omega];exact h3,by rw[show k+(o::r).length=k+1+r.length by simp;omega];exact h4⟩
   ·have:=h1 j (by omega)
    simp only[vs1,bs1,if_neg (show ¬j=k by omega)] at this
    exact this
   ·have:=h1s j (by omega)
    simp only[ss1,if_neg (show ¬j=k+1 by omega)] at this
    exact this
   ·cases j with
    | zero=>
     have e1:=h1 k (by omega)
     have e2:=h1s k (by omega)
     have e3:=h1s (k+1) (by omega)
     simp only[vs1,bs1,if_true] at e1;simp only[ss1,if_true] at e3;simp only[ss1,if_neg (show ¬k=k+1 by omega)] at e2
     simp only[Nat.add_zero,List.getElem_cons_zero,e1.1,e1.2,e2,e3];rw[iC k vs vs0 fun j hj=>by have:=h1 j (by omega);simp only[vs1,if_neg (show ¬j=k by omega)] at this;exact this.1]
     exact hst
    | succ j=>
     have:=h2 j (by simpa using hj)
     rw[show k+1+j=k+(j+1) by omega] at this
     exact this
  simp only[fE] at h;obtain⟨β1,hβ1,h⟩:=jo h;have hb:∀t,aB β1 t=aB (frL ops α0 vs0 k) t:=fun t=>(hβ1 t).trans (hβ t);clear hβ1 hβ;have act:(match eF lb o.op with
    | true=>nP P o.op (evF β1) (ss0 k) fun v σ'=>cI pu σ0 σ'∧br N o.dst v β1 fun α'=>fE lb P N ops pu σ0 K r α' σ'
    | false=>qJ P o.op (evF β1) σ0 fun v=>br N o.dst v β1 fun α'=>fE lb P N ops pu σ0 K r α' (ss0 k)) →
    ∃v σ',((eF lb o.op=true∧AOp P o.op (evF (frL ops α0 vs0 k)) (ss0 k) (fun v' σ''=>v'=v∧σ''=σ')∧cI pu σ0 σ')∨(eF lb o.op=false∧σ'=ss0 k∧∀σ1,cI pu σ0 σ1→bk P o.op (evF (frL ops α0 vs0 k)) σ1 v))∧br N o.dst v β1 fun α'=>fE lb P N ops pu σ0 K r α' σ':=by
   intro h;rw[nI hb] at h
   cases hlo:eF lb o.op with
   | true=>
    rw[hlo] at h;obtain⟨v,σ',h1,h2,h3⟩:=vK (ER hlo) h;exact⟨v,σ',.inl ⟨rfl,h1,h2⟩,h3⟩
   | false=>
    rw[hlo] at h
    cases hp:pu with
    | true=>
     have hpo:eX o.op=true:=by
      have:=List.all_eq_true.1 (hpu hp) o (List.mem_of_getElem? ho);rw[hlo] at this
      simpa using this
     obtain⟨v,h1,h2⟩:=C9 o.op hpo h;exact⟨v,_,.inr ⟨rfl,rfl,fun σ1 _=>h1 σ1⟩,hp▸h2⟩
    | false=>
     obtain⟨v,h1,h2⟩:=En o.op h;refine⟨v,_,.inr ⟨rfl,rfl,fun σ1 hg=>?_⟩,hp▸h2⟩
     rcases hg with hg|⟨τ,rfl⟩
     ·cases hg
     ·exact h1 τ
  unfold dk at h
  cases hg:o.guard with
  | none=>
   rw[hg] at h;obtain⟨v,σ',hv,hp⟩:=act h;refine go true v σ' β1 hb ⟨fun d hd=>?_,.inl ⟨rfl,hv,fun g want h=>by rw[hg] at h;cases h⟩⟩ hp
   rw[hd] at hp;exact hp.1
  | some g=>
   obtain⟨g,want⟩:=g;rw[hg] at h
   replace h:=aj h;obtain⟨d,hd,h⟩:=h
   replace h:=aj h;obtain⟨u,hu,h⟩:=h
   rw[hb] at hu;have skip:(aB (frL ops α0 vs0 k) d=some (.c (.bool (!want)))∨∃t,aB (frL ops α0 vs0 k) d=some (.c (.tuple t)))→br N o.dst (.c undef) β1 (fun α'=>fE lb P N ops pu σ0 K r α' (ss0 k))→_:=fun hu hp=>
    go false (.c undef) (ss0 k) β1 hb ⟨fun d hd=>by rw[hd] at hp;exact hp.1,.inr ⟨rfl,rfl,rfl,g,want,d,hg,hd,hu⟩⟩ hp
   split at h
   ·cases want
    ·exact skip (.inl hu) h
    ·obtain⟨v,σ',hv,hp⟩:=act h;exact go true v σ' β1 hb ⟨fun d hd=>by rw[hd] at hp;exact hp.1,.inl ⟨rfl,hv,fun g' want' h'=>by
      rw[hg] at h'
      cases h'
      exact⟨d,hd,hu⟩⟩⟩ hp
   ·cases want
    ·obtain⟨v,σ',hv,hp⟩:=act h;exact go true v σ' β1 hb ⟨fun d hd=>by rw[hd] at hp;exact hp.1,.inl ⟨rfl,hv,fun g' want' h'=>by
      rw[hg] at h'
      cases h'
      exact⟨d,hd,hu⟩⟩⟩ hp
    ·exact skip (.inl hu) h
   ·rename_i t
    exact skip (.inr ⟨t,hu⟩) h
   ·exact h.elim
def ql (lb:Bool) (ops:List Oper) (p:Nat):Bool:=
 let b:=vD ops []
 let l:=(List.range p).filter fun j=>match ops[j]? with|some o=>eF lb o.op|none=>true
 l.all fun j=>l.all fun i => !decide (i<j)||(b.getD j 0).testBit i
theorem qT {p i j:Nat} {x y:Oper} (h:ql lb ops p=true) (hij:i<j) (hj:j<p) (hx:ops[i]? = some x) (hy:ops[j]? = some y) (h1:eF lb x.op=true) (h2:eF lb y.op=true):Anc ops i j:=by
 simp only[ql,List.all_eq_true,List.mem_filter,List.mem_range] at h;have:=h j ⟨hj,by rw[hy];exact h2⟩ i ⟨by omega,by rw[hx];exact h1⟩
 simp only[hij,decide_true,Bool.not_true,Bool.false_or] at this;exact lY ops ops [] (fun j=>by simp) (fun j i h=>by simp at h) j i this
theorem CZ {Q:bV} {id:Nat} {σ:aa} (pu:Bool) (p:Nat) (hm:P.follows .mixedOrders=true) (hB:(dQ ops p&&bT ops&&cy ops&&decide (p≤ops.length)&&ql lb ops p&&(!pu||qF lb ops))=true)
  (h:fE lb P N ops pu σ (fun α σ=>dw P N ops (fun α σ=>Q .normal α σ) (ops.drop p) α σ) (ops.take p) α0 σ):aK rd P N (.region id ops.toArray true) Q α0 σ:=by
 intro K imm m w a hs hf;simp only[Bool.and_eq_true,decide_eq_true_eq] at hB;obtain⟨⟨⟨⟨⟨hB1,hB2⟩,hB3⟩,hB4⟩,hB5⟩,hB6⟩:=hB;have hpu:pu=true→qF lb ops=true:=fun h=>by simpa [h] using hB6
 have hc:o9 ops p:=fun i j x y hij hx hy h=>jM hB1 hij hx hy h;obtain⟨vs,bl,ss,_,hss0,h2,γ,hγ,h3⟩:=qO (ops:=ops) (α0:=α0) hpu (ops.take p) 0 (fun _=>.emp) (fun _=>true) (fun _=>σ) α0 (fun _=>rfl) (fun j hj=>by
  simp only[List.length_take] at hj;rw[List.getElem?_take_of_lt (by omega),Nat.zero_add]) h
 simp only[Nat.zero_add,List.length_take,Nat.min_eq_left hB4] at h2 hγ h3;have hss0:ss 0=σ:=hss0 0 (Nat.le_refl _);refine wpIn_region_any hm ?_;have hst:∀j,j<p→∀o,ops[j]? = some o→wY lb P N ops pu σ (frL ops α0 vs j) (ss j) o (bl j) (vs j) (ss (j+1)):=fun j hj o ho=>by
  have:=h2 j hj;rw[List.getElem_take] at this;obtain⟨hj',rfl⟩:=List.getElem?_eq_some_iff.1 ho;exact this
 have hrep:∀i,(Array.replicate ops.toArray.size false).getD i true=true→¬i<ops.length:=fun i h hi=>by
  simp [Array.getD_eq_getD_getElem?,hi] at h
 let lo:Nat→Prop:=fun j=>∃o,ops[j]? = some o∧eF lb o.op=true
 have same1:∀j,j<p→¬lo j→ss (j+1)=ss j:=fun j hj hn=>by
  have ho:ops[j]? = some ops[j]:=List.getElem?_eq_getElem (by omega)
  rcases (hst j hj _ ho).2 with ⟨_,hk,_⟩|⟨_,_,hk,_⟩
  ·rcases hk with ⟨hk,_⟩|⟨_,hk,_⟩
   ·exact absurd ⟨_,ho,hk⟩ hn
   ·exact hk
  ·exact hk
 have same:∀d k,k+d≤p→(∀i,k≤i→i<k+d→¬lo i)→ss (k+d)=ss k:=by
  intro d
  induction d with
  | zero=>intro k _ _;rfl
  | succ d ih=>
   intro k hk hn;rw[←Nat.add_assoc,same1 (k+d) (by omega) (hn _ (by omega) (by omega))]
   exact ih k (by omega) fun i h1 h2=>hn i h1 (by omega)
 have hG:∀j,j≤p→cI pu σ (ss j):=by
  intro j
  induction j with
  | zero=>intro _;rw[hss0];exact .inr ⟨[],by simp⟩
  | succ j ih=>
   intro hj;have ho:ops[j]? = some ops[j]:=List.getElem?_eq_getElem (by omega)
   rcases (hst j (by omega) _ ho).2 with ⟨_,hk,_⟩|⟨_,_,hk,_⟩
   ·rcases hk with ⟨_,_,hk⟩|⟨_,hk,_⟩
    ·exact hk
    ·rw[hk];exact ih (by omega)
   ·rw[hk];exact ih (by omega)
 obtain⟨top,htop⟩:∃top:(Nat→Prop)→Nat,∀S,(∀j,j<p→S j→lo j→j<top S)∧∀k,(∀j,j<p→S j→lo j→j<k)→top S≤k:=by
  have hex:∀S:Nat→Prop,∃n,(∀j,j<p→S j→lo j→j<n)∧∀k,(∀j,j<p→S j→lo j→j<k)→n≤k:=fun S=>
   qp (p:=fun n=>∀j,j<p→S j→lo j→j<n) p fun j hj _ _=>hj
  exact⟨fun S=>Classical.choose (hex S),fun S=>Classical.choose_spec (hex S)⟩
 have topP:∀S,top S≤p:=fun S=>(htop S).2 p fun j hj _ _=>hj;refine lM (σ:=ss p) (fun S=>ss (top S)) hB2 hc hB3 hB4 (fun S h=>?_) (fun j o S imm m a w next Q' hj ho hsl hs hI hcl hnS hanc hn=>?_) hγ h3 _ _ a _ imm m ?_ (by simp) (fun i hi=>absurd hi.1 (hrep i hi.2)) (fun i hi h=>absurd hi (hrep i h)) ?_
  ⟨hf.defers,hf.size,fun t i h=>absurd h.1.1 (hrep i h.1.2),fun t av _ h=>hf.slot t av h⟩
 ·have:=same (p-top S) (top S) (by have:=topP S;omega) fun i h1 h2 hl=>by
   have:=(htop S).1 i (by have:=topP S;omega) (h i (by have:=topP S;omega)) hl
   omega
  rw[show top S+(p-top S)=p by have:=topP S;omega] at this
  exact this.symm
 ·
  have hf:=hI.names hc hcl ho hnS hanc;have hlk:∀d av,d∈bN ops o→aB (frL ops α0 vs j) d=some av→aB (gM (bN ops o) (frL ops α0 vs j)) d=some av:=fun d av hd h=>by
   rw[dL,if_pos (by simpa using hd)];exact h
  have hyield:∀(g d:Nat) (u:Value),(ops[g]?).bind (·.dst)=some d→aB (frL ops α0 vs j) d=some (.c u)→d∈bN ops o→((ops.toArray[g]?).bind (·.dst)).bind (a.tmps[·]?)=some u:=fun g d u hgd hu hm=>by
   obtain⟨x,hx,r⟩:=hf.slot d _ (hlk d _ hm hu);simp only[List.getElem?_toArray,hgd,Option.bind_some,hx,r.c_inv]
  have hoa:ops.toArray[j]? = some o:=by simpa using ho
  have hkeep:¬lo j→ss (top fun i=>S i∨i=j)=ss (top S):=fun hn=>by
   have h1:top (fun i=>S i∨i=j)≤top S:=(htop _).2 _ fun i hi hS hl=>by
    rcases hS with hS|rfl
    ·exact (htop S).1 i hi hS hl
    ·exact absurd hl hn
   have h2:top S≤top (fun i=>S i∨i=j):=(htop _).2 _ fun i hi hS hl=>(htop _).1 i hi (.inl hS) hl;rw[Nat.le_antisymm h1 h2]
  have hloud:lo j→ss (top S)=ss j∧ss (top fun i=>S i∨i=j)=ss (j+1):=fun hl=>by
   obtain⟨o',ho',hl'⟩:=hl;rw[ho] at ho'
   cases ho'
   have hS:∀i,i<p→S i→lo i→i<j:=fun i hi hS ⟨x,hx,hxl⟩=>by
    rcases Nat.lt_trichotomy i j with h|h|h
    ·exact h
    ·subst h;exact absurd hS hnS
    ·exact absurd ((hcl i hS).2 j (qT hB5 h hi ho hx hl' hxl)) hnS
   have h1:top S≤j:=(htop S).2 j hS;have h2:=same (j-top S) (top S) (by omega) fun i h1 h2 ⟨x,hx,hxl⟩=>by
    have hi:S i:=hanc i (qT hB5 (by omega) hj hx ho hxl hl')
    have:=(htop S).1 i (by omega) hi ⟨x,hx,hxl⟩
    omega
   rw[show top S+(j-top S)=j by omega] at h2
   refine⟨h2.symm,?_⟩;have h3:top (fun i=>S i∨i=j)=j+1:=Nat.le_antisymm ((htop _).2 _ fun i hi h9 hl=>by
    rcases h9 with h9|rfl
    ·have:=hS i hi h9 hl;omega
    ·omega) ((htop _).1 j hj (.inr rfl) ⟨o,ho,hl'⟩)
   rw[h3]
  have hnolo:eF lb o.op=false→¬lo j:=fun h ⟨o',ho',hl'⟩=>by
   rw[ho] at ho'
   cases ho'
   rw[h] at hl'
   cases hl'
  have hcg:∀x∈o.op.operands,evF (frL ops α0 vs j) x=evF (gM (bN ops o) (frL ops α0 vs j)) x:=fun x hx=>by
   cases x with
   | tmp t=>simp only[evF];rw[dL,if_pos (by simpa using gN hx)]
   | _=>rfl
  unfold wpOpIn;simp only[hoa];obtain⟨hdN,⟨hbt,hq,hg⟩|⟨hbf,hv,hσ,g,want,d,hg,hgd,hu⟩⟩:=hst j hj o ho
  ·have hw:Region.wanted o (yielded ops.toArray a.tmps)=true:=by
    cases hgo:o.guard with
    | none=>simp [Region.wanted,hgo]
    | some gw=>
     obtain⟨g,want⟩:=gw;obtain⟨d,hgd,hu⟩:=hg g want hgo;have hy:yielded ops.toArray a.tmps g=some want:=by simp only[yielded,hyield g d _ hgd hu (cN hgo hgd)]
     simp [Region.wanted,hgo,hy]
   rw[if_pos hw]
   rcases hq with ⟨hlo,hq,_⟩|⟨hlo,_,hq⟩
   ·obtain⟨e1,e2⟩:=hloud ⟨o,ho,hlo⟩;rw[e1] at hs;rw[oA o.op hsl hcg] at hq;have hup:=eL (dst:=o.dst) (type:=o.type) (pos:=o.pos) (after:=o.after) (guard:=o.guard) o.op hs (ff hf) hq;refine dc (gK hq) hup fun imm' m' v av σ' w' hi hoo hs' hr hk=>?_;obtain⟨rfl,rfl⟩:=hk;exact hn imm' m' v w' hi hoo (by rw[e2];exact hs') ((hI.mono hi hoo).step hc hcl ho hnS hdN hr)
   ·have e2:=hkeep (hnolo hlo);have hq':=hq _ (hG _ (topP S));rw[m6 o.op hsl hcg] at hq';have hup:=jR (dst:=o.dst) (type:=o.type) (pos:=o.pos) (after:=o.after) (guard:=o.guard) o.op hs (ff hf) hq';refine dc (jS hq') hup fun imm' m' v av σ' w' hi hoo hs' hr hk=>?_;obtain⟨rfl,rfl⟩:=hk;exact hn imm' m' v w' hi hoo (by rw[e2];exact hs') ((hI.mono hi hoo).step hc hcl ho hnS hdN hr)
  ·have hw:Region.wanted o (yielded ops.toArray a.tmps)=false:=by
    rcases hu with hu|⟨t,hu⟩
    ·have hy:yielded ops.toArray a.tmps g=some (!want):=by simp only[yielded,hyield g d _ hgd hu (cN hg hgd)]
     simp [Region.wanted,hg,hy]
    ·have hy:yielded ops.toArray a.tmps g=none:=by simp only[yielded,hyield g d _ hgd hu (cN hg hgd)]
     simp [Region.wanted,hg,hy]
   rw[if_neg (by rw[hw];simp)]
   refine⟨fun _ _=>jQ _ _,hn imm m undef w (.refl _) (.refl _) ?_ (hI.step hc hcl ho hnS hdN (by rw[hv];exact .c _))⟩
   by_cases hl:lo j
   ·obtain⟨e1,e2⟩:=hloud hl;rw[e2,hσ,←e1];exact hs
   ·rw[hkeep hl];exact hs
 ·simp [left]
 ·have h0:top (fun i=>i<ops.length∧(Array.replicate ops.toArray.size false).getD i true=true)=0:=Nat.le_antisymm ((htop _).2 0 fun j _ h=>absurd h.1 (hrep j h.2)) (Nat.zero_le _);show Sim K imm m { w with drawn:=w.drawn+1 } (ss (top _))
  rw[h0,hss0];exact hs.drew
end
def zop (P:Program) (lo pu:Bool) (op:Op) (ev:Operand→Option AV) (σ0 σ:aa) (K:AV→aa→Prop):Prop:=
 match lo with
 | true=>nP P op ev σ fun v σ'=>cI pu σ0 σ'∧K v σ'
 | false=>qJ P op ev σ0 fun v=>K v σ
section
variable {P:Program} {N:Nat} {ops:List Oper} {pu:Bool} {σ0 σ:aa} {K:AF→aa→Prop} {α:AF} {r:List Oper} {dst:Option Tmp} {op:Op} {ty:TypeId} {pos:String} {after:Array Edge} {g:Option (Nat×Bool)}
theorem Da:fE lb P N ops pu σ0 K [] α σ=K α σ:=rfl
theorem BD:fE lb P N ops pu σ0 K ({ dst:=dst,op:=op,type:=ty,pos:=pos,after:=after,guard:=g } :: r) α σ=fB ops g α
   (fun α=>zop P (eF lb op) pu op (evF α) σ0 σ fun av σ'=>br N dst av α fun α'=>fE lb P N ops pu σ0 K r α' σ')
   (fun α=>br N dst (.c undef) α fun α'=>fE lb P N ops pu σ0 K r α' σ):=rfl
theorem Fj {ev:Operand→Option AV} {K:AV→aa→Prop} : zop P true pu op ev σ0 σ K=nP P op ev σ fun v σ'=>cI pu σ0 σ'∧K v σ':=rfl
theorem Fk {ev:Operand→Option AV} {K:AV→aa→Prop} : zop P false pu op ev σ0 σ K=qJ P op ev σ0 fun v=>K v σ:=rfl
@[congr] theorem zop_cg {lo lo':Bool} {ev:Operand→Option AV} {K:AV→aa→Prop} (h:fK lo=lo'):zop P lo pu op ev σ0 σ K=zop P lo' pu op ev σ0 σ K:=by rw[←h,aW]
end
attribute [go_sem ↓] Da BD
attribute [go_sem] Fj Fk eF qJ
theorem wm (lb:Bool) {rd:Option Nat} {P:Program} {N:Nat} {ops:List Oper} {α0:AF} {σ:aa} {Q:bV} {id:Nat} (hm:P.follows .mixedOrders=true) (hB:(dQ ops (cO ops)&&bT ops&&cy ops&&decide (cO ops≤ops.length)&&ql lb ops (cO ops)&&(!false||qF lb ops))=true)
  (h:fE lb P N ops false σ (fun α σ=>dw P N ops (fun α σ=>Q .normal α σ) (ops.drop (cO ops)) α σ) (ops.take (cO ops)) α0 σ):aK rd P N (.region id ops.toArray true) Q α0 σ:=
 CZ false _ hm hB h
end Go.Proofs.YtephecognbbaoaaGreat
namespace Go.Proofs.YtephecognbbaoaaGreat
structure RX where
 routes:List Int
 ro:Nat
 tv:AV
 told:List (List Int)
 ts:List Nat
 rows:List Nat
instance:Inhabited RX:=⟨⟨[],0,.emp,[],[],[]⟩⟩
def RX.ids (x:RX):List Nat:=x.ro::(x.ts++x.rows)
def rxC (x:RX):List AV:=[.own x.ro 1 0 x.routes.length x.routes.length,x.tv]
def RX.rtr (x:RX):Rtr:=⟨x.routes,x.told⟩
structure mA (S:aa) (x:RX):Prop where
 rl:∀y∈x.rows,y<S.length
 ro:S[x.ro]? = some (.cells 1 (x.routes.map au))
 tv:(x.tv = .sl (List.replicate x.told.length [.c (.slice none 0 0)])∧(∀l∈x.told,l=[])∧x.ts=[]∧x.rows=[]) ∨
  ∃(to:Nat) (tl:List (List Int×Option Nat)),x.ts=[to]∧x.tv = .own to 1 0 x.told.length x.told.length∧S[to]? = some (.cells 1 (tl.map ck))∧tl.map (·.1)=x.told∧(∀p∈tl,p.2=none→p.1=[])∧∀p∈tl,∀id,p.2=some id→id∈x.rows∧S[id]? = some (.cells 1 (p.1.map au))
theorem mA.congr {S S':aa} {x:RX} (h:mA S x) (hS:∀y∈x.ids,∀o,S[y]? = some o→S'[y]? = some o):mA S' x:=by
 refine⟨fun y hy=>?_,hS _ (by simp [RX.ids]) _ h.ro,?_⟩
 ·exact (List.getElem?_eq_some_iff.1 (hS y (by simp [RX.ids,hy]) _ (List.getElem?_eq_getElem (h.rl y hy)))).1
 rcases h.tv with h1|⟨to,tl,h1,h2,h3,h4,h5,h6⟩
 ·exact .inl h1
 ·refine .inr ⟨to,tl,h1,h2,hS _ (by simp [RX.ids,h1]) _ h3,h4,h5,fun p hp id hi=>⟨(h6 p hp id hi).1,hS _ (by simp [RX.ids,(h6 p hp id hi).1]) _ (h6 p hp id hi).2⟩⟩
structure ez (S:aa) (lo:Nat) (e:Eng) (rb:Nat) (rx:List RX) (gv:AV) (gi:List Nat):Prop where
 hrb:S[rb]? = some (.cells 2 (rx.map rxC))
 er:rx.map RX.rtr=e.routers
 ho:∀x∈rx,mA S x
 bag:eJ S gv e.bag gi
 nd:(rb::(rx.flatMap RX.ids++gi)).Nodup
 lo:∀x∈rb::(rx.flatMap RX.ids++gi),lo≤x
section
variable {S:aa} {lo b:Nat} {n:Net} {e:Eng} {rb:Nat} {rs:List RO} {rx:List RX} {gv:AV} {gi:List Nat}
theorem ez.len (h:ez S lo e rb rx gv gi):e.routers.length=rx.length:=by rw[←h.er,List.length_map]
theorem ez.lt (h:ez S lo e rb rx gv gi):∀y∈rb::(rx.flatMap RX.ids++gi),y<S.length:=fun y hy=>by
 rcases List.mem_cons.1 hy with rfl|hy
 ·exact (List.getElem?_eq_some_iff.1 h.hrb).1
 rcases List.mem_append.1 hy with hy|hy
 ·obtain⟨x,hx,hy⟩:=List.mem_flatMap.1 hy;have hA:=h.ho x hx
  rcases List.mem_cons.1 hy with rfl|hy
  ·exact (List.getElem?_eq_some_iff.1 hA.ro).1
  rcases List.mem_append.1 hy with hy|hy
  ·rcases hA.tv with ⟨_,_,h3,_⟩|⟨to,tl,h1,_,h3,_⟩
   ·rw[h3] at hy;cases hy
   ·rw[h1] at hy;rw[List.mem_singleton.1 hy];exact (List.getElem?_eq_some_iff.1 h3).1
  ·exact hA.rl y hy
 ·exact h.bag.lt y hy
theorem ez.app {τ:aa} (h:ez S lo e rb rx gv gi):ez (S++τ) lo e rb rx gv gi:=
 ⟨az h.hrb,h.er,fun x hx=>(h.ho x hx).congr fun y _ o ho=>az ho,h.bag.app,h.nd,h.lo⟩
theorem ez.set_lo (h:ez S lo e rb rx gv gi) {x:Nat} {o:Ob} (hx:x<lo):ez (S.set x o) lo e rb rx gv gi:=by
 have hne:∀y∈rb::(rx.flatMap RX.ids++gi),x≠y:=fun y hy e=>by
  have:=h.lo y hy;omega
 exact⟨aT h.hrb (hne rb (by simp)),h.er,fun q hq=>(h.ho q hq).congr fun y hy o ho=>aT ho (hne y (List.mem_cons_of_mem _ (List.mem_append_left _ (List.mem_flatMap.2 ⟨q,hq,hy⟩)))),h.bag.set fun hc=>hne x (by simp [hc]) rfl,h.nd,h.lo⟩
def xQ (r:RO):RX:=⟨r.routes,r.ro,.own r.to 1 0 r.told.length r.told.length,r.told.map (·.1),[r.to],r.told.filterMap (·.2)⟩
theorem tw (rs:List RO):(rs.map xQ).flatMap RX.ids=rs.flatMap RO.ids:=by
 rw[List.flatMap_map];rfl
theorem fR.toRX {r:RO} (h:fR S r):mA S (xQ r):=
 ⟨fun y hy=>h.lt y (List.mem_cons_of_mem _ (List.mem_cons_of_mem _ hy)),h.ro,.inr ⟨r.to,r.told,rfl,by simp [xQ],h.to,rfl,h.no,fun p hp id hi=>⟨List.mem_filterMap.2 ⟨p,hp,hi⟩,h.row p hp id hi⟩⟩⟩
theorem a6.engO (h:a6 S lo b n e rb rs gv gi):ez S lo e rb (rs.map xQ) gv gi:=by
 refine⟨?_,?_,fun x hx=>?_,h.bag,?_,?_⟩
 ·rw[List.map_map];exact h.hrb
 ·rw[List.map_map];exact h.er
 ·obtain⟨r,hr,rfl⟩:=List.mem_map.1 hx;obtain⟨i,hi,rfl⟩:=List.mem_iff_getElem.1 hr;exact (h.ho i hi).toRX
 ·rw[tw];exact (List.nodup_cons.1 h.nd).2
 ·intro x hx;rw[tw] at hx;exact h.lo x (List.mem_cons_of_mem _ hx)
theorem mA.deep {x:RX} (h:mA S x) {D:Nat→Prop} (hD:∀y∈x.ids,D y):cG S D (rxC x) (bF x.rtr):=by
 refine .cons (.ownW (hD _ (by simp [RX.ids])) h.ro (by simp) (.same _)) (.cons ?_ .nil)
 show bG S D x.tv (aL x.told)
 rcases h.tv with ⟨h1,h2,_⟩|⟨to,tl,h1,h2,h3,h4,h5,h6⟩
 ·rw[h1];have e:x.told=List.replicate x.told.length []:=List.eq_replicate_iff.2 ⟨rfl,h2⟩;have e2:aL x.told = .sl (List.replicate x.told.length [.sl []]):=by
   conv=>lhs;rw[e]
   simp [aL,aE,aF]
  rw[e2];exact .slR (bW.repl (.cons .nil .nil) _)
 ·rw[h2];refine .ownW (hD _ (by simp [RX.ids,h1])) h3 (by rw[List.length_map,←h4,List.length_map]) ?_
  have e:x.told.map aE=tl.map fun p=>aE p.1:=by rw[←h4,List.map_map];rfl
  rw[e];refine bW.map _ fun p hp=>?_;unfold ck
  cases hp2:p.2 with
  | none=>
   rw[h5 p hp hp2];exact .cons (.same _) .nil
  | some id=>exact .cons (.ownW (hD id (by simp [RX.ids,(h6 p hp id hp2).1])) (h6 p hp id hp2).2 (by simp) (.same _)) .nil
theorem ez.deep (h:ez S lo e rb rx gv gi) {D:Nat→Prop} (hD:∀x,lo≤x→D x):cG S D [.own rb 2 0 e.routers.length e.routers.length,gv] (ba e):=by
 have hD':∀x∈rb::(rx.flatMap RX.ids++gi),D x:=fun x hx=>hD x (h.lo x hx);refine .cons (.ownW (hD' rb (by simp)) h.hrb (by rw[h.len,List.length_map]) ?_) (.cons ?_ .nil)
 ·rw[←h.er,List.map_map];refine bW.map _ fun x hx=>?_;exact (h.ho x hx).deep fun y hy=>hD' y (List.mem_cons_of_mem _ (List.mem_append_left _ (List.mem_flatMap.2 ⟨_,hx,hy⟩)))
 ·rcases h.bag with ⟨h1,h2,h3⟩|⟨gb,rest,h1,h2,h3,h4,h5⟩
  ·rw[h3,h1];exact .nil
  ·rw[h2];refine .ownR (es:=e.bag.map aJ) (hD' gb (by rw[h1];simp)) ?_ (.same _)
   simp only[dl,h3];rw[if_pos (by simp)]
   simp [List.take_left']
end
def tS (ρ S:aa) (b:Nat) (n:Net) (e:Eng):Prop:=bX ρ S∧∃rb rx gv gi,S[b]? = some (.cells 7 [aH n++[.own rb 2 0 e.routers.length e.routers.length,gv]])∧ez S ρ.length e rb rx gv gi
theorem bD.eng {ρ S:aa} {b:Nat} {n:Net} {e:Eng} (h:bD ρ S b n e):tS ρ S b n e:=by
 obtain⟨hK,rb,rs,gv,gi,M⟩:=h;exact⟨hK,rb,_,gv,gi,M.hb,M.engO⟩
end Go.Proofs.YtephecognbbaoaaGreat
