/- Mail that is taken out of a bag. -/
import Derived.Test.YtephecognbbaoaaGreatZEa
import Derived.Test.YtephecognbbaoaaGreatZSy
import Derived.Test.YtephecognbbaoaaGreatZLo
import Derived.Test.YtephecognbbaoaaGreatZGr
open Go
set_option linter.all false
set_option maxRecDepth 100000
set_option maxHeartbeats 4000000
namespace Go.Proofs.YtephecognbbaoaaGreat
open Go
set_option linter.all false
set_option maxRecDepth 100000
set_option maxHeartbeats 4000000
attribute [go_sem ↓] DZ Cx
attribute [go_sem] vM uO
def pN:List AV:=aJ ⟨0,0,[]⟩
theorem r6 (S:aa) (gb:Nat) (bag:List bg) (rest:List (List AV)) (a:Nat) (h1:a<bag.length) (hb:S[gb]? = some (.cells 3 (bag.map aJ++rest))) (hr:∀e∈rest,e.length=3∧e.all cw=true) (hl:bag.length≤1000) (hl2:rest.length≤1000000) :
  af Tryz.prog 84 [.own gb 3 0 bag.length (bag.length+rest.length),ab a,ab (a+1)] S fun r S'=>S'=S.set gb (.cells 3 ((bag.eraseIdx a).map aJ++(pN::rest)))∧r = .own gb 3 0 (bag.length-1) (bag.length+rest.length):=by
 have i1:I64 ((a:Int)+1):=by unfold I64;omega
 have ta:((a:Int)+1).toNat=a+1:=by omega
 have hmL:=v5 bag;obtain⟨es,hes⟩:∃es,bag.map aJ++rest=es:=⟨_,rfl⟩;have hesl:es.length=bag.length+rest.length:=by rw[←hes];simp
 rw[hes] at hb;have he1:bO S (.own gb 3 0 a (bag.length+rest.length))=some (es.take a):=by
  rw[ee];simp only[dl,hb];rw[if_pos (by simp;omega),List.drop_zero]
 have he2:bO S (.own gb 3 (a+1) (bag.length-(a+1)) (bag.length+rest.length-(a+1)))=some ((es.drop (a+1)).take (bag.length-(a+1))):=by
  rw[ee];simp only[dl,hb];rw[if_pos (by simp;omega)]
 have hnew:(es.drop (a+1)).take (bag.length-(a+1))=(bag.drop (a+1)).map aJ:=by
  rw[←hes,List.drop_append_of_le_length (by rw[List.length_map];omega),List.take_append_of_le_length (by simp),←List.map_drop,List.take_of_length_le (by simp)]
 have hnl:((bag.drop (a+1)).map aJ).length=bag.length-(a+1):=by simp
 have hfin:es.take a++(bag.drop (a+1)).map aJ++es.drop (bag.length-1)=(bag.eraseIdx a).map aJ++es.drop (bag.length-1):=by
  rw[←hes,List.take_append_of_le_length (by rw[List.length_map];omega),←List.map_take,List.eraseIdx_eq_take_drop_succ,List.map_append]
 rw[hnew] at he2;refine g_n Tryz.func84 rfl Tryz.results84 Tryz.ntmps84 ?_;refine g_s fun K hK=>?_;refine g_h ?_;refine hK _ _ ?_;clear hK K;refine g_s fun K hK=>?_;refine tg ?_;simp -implicitDefEqProofs only[go_sem,hb,i1];refine⟨by omega,by omega,by omega,by omega,by omega,?_⟩
 refine hK _ _ ?_;clear hK K;refine g_s fun K hK=>?_;refine g_s fun K hK=>?_;refine g_h ?_;refine hK _ _ ?_;clear hK K;refine dg rfl (fun h=>?_) (fun h=>?_)
 ·simp only[go_sem] at h;omega
 refine g_k ?_;simp only[ah,ae];refine hK _ _ ?_;clear hK K;refine g_s fun K hK=>?_;refine g_h ?_;refine hK _ _ ?_;clear hK K;refine g_s fun K hK=>?_;have hfin2:∀α,ALe α [(0,.own gb 3 0 (bag.length-1) (bag.length+rest.length)),(7,ab bag.length)]→K α (S.set gb (.cells 3 ((bag.eraseIdx a).map aJ++es.drop (bag.length-1)))):=by
  intro α ha;refine hK _ _ (aK.weak ha ?_);clear ha hK;have hlt:gb<S.length:=(List.getElem?_eq_some_iff.1 hb).1;have hgS:∀o,(S.set gb o)[gb]? = some o:=fun o=>List.getElem?_set_self hlt;have hsS:∀o o',(S.set gb o).set gb o'=S.set gb o':=fun o o'=>List.set_set ..;refine g_s fun K hK=>?_;refine tg ?_;simp -implicitDefEqProofs only[go_sem,hgS,hsS];have hEl:((bag.eraseIdx a).map aJ).length=bag.length-1:=by rw[List.length_map,List.length_eraseIdx,if_pos h1]
  have hEl2:(bag.eraseIdx a).length=bag.length-1:=by rw[List.length_eraseIdx,if_pos h1]
  have hDl:(es.drop (bag.length-1)).length=rest.length+1:=by rw[List.length_drop];omega
  have hn1:bag.length-(bag.length-1)=1:=by omega
  have hn2:bag.length-1+1=bag.length:=by omega
  have hD:es.drop bag.length=rest:=by rw[←hes,List.drop_left' (by simp)]
  have heq:List.take (bag.length-1) ((bag.eraseIdx a).map aJ++es.drop (bag.length-1))++(List.replicate (bag.length-(bag.length-1)) [.c (.int .i64 0),.c (.int .i64 0),.c (.string (strOfNums []))] ++
    List.drop (bag.length-1+(bag.length-(bag.length-1))) ((bag.eraseIdx a).map aJ++es.drop (bag.length-1)))=(bag.eraseIdx a).map aJ++(pN::rest):=by
   rw[List.take_left' hEl,hn1,hn2,List.drop_append,hEl,hn1,List.drop_of_length_le (by omega),List.drop_drop,hn2,hD]
   rfl
  refine⟨by omega,by omega,by omega,by omega,by omega,by rw[hEl2,hDl];omega,?_⟩
  rw[heq];refine hK _ _ ?_;clear hK K
  (repeat' (first|(refine g_s fun K hK=>?_)|((first|refine g_t ?_|refine g_g ?_);(try refine g_y ?_))|(refine hK _ _ ?_;clear hK K)|exact trivial|fail))
 refine g_U ?_;simp -implicitDefEqProofs only[go_sem,ta];refine⟨by omega,by omega,by omega,by omega,by omega,fun hc=>?_,fun hc1 hc2=>?_⟩
 ·have g1:(a=es.length)=False:=eq_false (by omega)
  have g2:(a≤es.length)=True:=eq_true (by omega)
  have g3:(a+(1+(bag.length-(a+1)))≤es.length)=True:=eq_true (by omega)
  have g4:(a+(bag.length-(a+1))≤bag.length+rest.length)=True:=eq_true (by omega)
  have g5:(a=bag.length+rest.length)=False:=eq_false (by omega)
  have g6:(bag.length+rest.length<a+(bag.length-(a+1)))=False:=eq_false (by omega)
  simp -implicitDefEqProofs only[go_sem,hb,hnew,g1,g2,g3,g4,g5,g6,Nat.sub_zero,Nat.zero_add,List.length_drop,ta];have e9:a+(bag.length-(a+1))=bag.length-1:=by omega
  rw[e9,←List.append_assoc,hfin];refine hfin2 _ (ai ?_);simp -implicitDefEqProofs only[go_sem]
 ·have hba:bag.length=a+1:=by omega
  have g1:(a=es.length)=False:=eq_false (by omega)
  have g2:(a≤es.length)=True:=eq_true (by omega)
  have g4:(a≤bag.length+rest.length)=True:=eq_true (by omega)
  have g5:(a=bag.length+rest.length)=False:=eq_false (by omega)
  have g6:(bag.length+rest.length<a)=False:=eq_false (by omega)
  simp -implicitDefEqProofs only[go_sem,hb,hnew,g1,g2,g4,g5,g6,Nat.sub_zero,Nat.zero_add,Nat.add_zero,List.length_drop,ta];refine⟨fun _ h=>absurd h List.not_mem_nil,fun _ h=>absurd h List.not_mem_nil,?_⟩;have e9:bag.length-1=a:=by omega
  have e8:bag.drop (a+1)=[]:=List.drop_of_length_le (by omega)
  rw[e8,e9,List.map_nil,List.append_nil] at hfin;rw[e9,←hfin] at hfin2;refine hfin2 _ (ai ?_);simp -implicitDefEqProofs only[go_sem]
end Go.Proofs.YtephecognbbaoaaGreat
namespace Go.Proofs.YtephecognbbaoaaGreat
theorem sr {rd:Option Nat} {P:Program} {N:Nat} {ops:List Oper} {α0:AF} {σ:aa} {Q:bV} {id:Nat} (σ0:aa) (h0:Pre σ0 σ) (hm:P.follows .mixedOrders=true) (hB:(dQ ops (cO ops)&&bT ops&&cy ops&&decide (cO ops≤ops.length)&&eB (false,false) ops (cO ops)&&(!false||f9 (false,false) ops))=true)
  (h:cW P N ops (false,false) false σ0 (fun α σ=>dw P N ops (fun α σ=>Q .normal α σ) (ops.drop (cO ops)) α σ) (ops.take (cO ops)) α0 σ):aK rd P N (.region id ops.toArray true) Q α0 σ:=
 qI σ0 (false,false) false _ (.inr h0) hm hB h
end Go.Proofs.YtephecognbbaoaaGreat
namespace Go.Proofs.YtephecognbbaoaaGreat
theorem Sim.moveO {K0:World} {imm:Imm} {m:Own} {w:World} {σ:aa} (hs:Sim K0 imm m w σ) {b k:Nat} {es:List (List AV)} (ho:σ[b]? = some (.cells k es)) :
  ∃m',OLe m m'∧m' σ.length=m b∧Sim K0 imm m' w (σ.set b .dead++[.cells k es]):=by
 obtain⟨hlt,ho⟩:=List.getElem?_eq_some_iff.1 ho;have hb:=hs.obs b hlt;rw[ho] at hb;obtain⟨blk,sz,h1,h2,h3⟩:=hb;have hd:m σ.length=none:=hs.dom _ (Nat.le_refl _);have hle:OLe m (upd m σ.length (blk,sz)):=.upd hd _;have hne:∀id,id≠σ.length→upd m σ.length (blk,sz) id=m id:=fun id h=>by unfold upd;rw[if_neg h]
 have hat:upd m σ.length (blk,sz) σ.length=some (blk,sz):=by unfold upd;rw[if_pos rfl]
 refine⟨upd m σ.length (blk,sz),hle,by rw[hat,h1],hs.os,hs.tape,hs.output,hs.size,hs.imm_ok,fun id h=>?_,fun id h=>?_,fun i j hi hj li lj e=>?_⟩
 ·simp only[List.length_append,List.length_set,List.length_cons,List.length_nil] at h;rw[hne _ (by omega)]
  exact hs.dom id (by omega)
 ·simp only[List.length_append,List.length_set,List.length_cons,List.length_nil] at h
  rcases Nat.lt_or_ge id σ.length with hl|hl
  ·rw[List.getElem_append_left (by rw[List.length_set];exact hl),List.getElem_set]
   split
   ·trivial
   ·exact (hs.obs id hl).keep (.refl _) hle (fun h=>by rw[hne _ (by omega)];exact h) (fun _ h _=>h) (fun _ _ _ _=>rfl)
  ·obtain rfl:id=σ.length:=by omega
   rw[List.getElem_append_right (by rw[List.length_set];exact Nat.le_refl _)]
   simp only[List.length_set,Nat.sub_self,List.getElem_cons_zero];obtain⟨cs,T,fr,g1,g2,g3,g4,g5⟩:=h3;refine⟨blk,sz,hat,h2,cs,T,fr,g1,g2,g3,g4,fun i hi=>⟨(g5 i hi).1,fun j hj=>?_⟩⟩;obtain⟨v,e,r⟩:=(g5 i hi).2 j hj;exact⟨v,e,r.mono (.refl _) hle⟩
 ·simp only[List.length_append,List.length_set,List.length_cons,List.length_nil] at hi hj;have key:∀(i:Nat) (hi:i<σ.length),Ob.live ((σ.set b .dead)[i]'(by rw[List.length_set];exact hi))=true→i≠b∧Ob.live σ[i]=true:=fun i hi h=>by
   rw[List.getElem_set] at h
   split at h
   ·cases h
   ·exact⟨by omega,h⟩
  have hbl:σ[b].live=true:=by rw[ho];rfl
  rcases Nat.lt_or_ge i σ.length with hi'|hi'
  ·rw[List.getElem_append_left (by rw[List.length_set];exact hi')] at li
   have ki:=key i hi' li
   rcases Nat.lt_or_ge j σ.length with hj'|hj'
   ·rw[List.getElem_append_left (by rw[List.length_set];exact hj')] at lj
    rw[hne _ (by omega),hne _ (by omega)] at e
    exact hs.inj i j hi' hj' ki.2 (key j hj' lj).2 e
   ·obtain rfl:j=σ.length:=by omega
    rw[hne _ (by omega),hat,←h1] at e
    exact absurd (hs.inj i b hi' hlt ki.2 hbl e) ki.1
  ·obtain rfl:i=σ.length:=by omega
   rcases Nat.lt_or_ge j σ.length with hj'|hj'
   ·rw[List.getElem_append_left (by rw[List.length_set];exact hj')] at lj
    have kj:=key j hj' lj;rw[hne j (by omega),hat,←h1] at e
    exact absurd (hs.inj j b hj' hlt kj.2 hbl e.symm) kj.1
   ·omega
theorem DM {imm:Imm} {m m':Own} {b b' k s n c:Nat} (hb:m' b'=m b) {v:Value} (h:Rep imm m v (.own b k s n c)):Rep imm m' v (.own b' k s n c):=by
 cases h with
 | own _ _ _ _ _ cap blk sz x hm hn hcc hx hc=>exact .own _ _ _ _ _ cap blk sz x (by rw[hb,hm]) hn hcc hx hc
theorem wl {rd:Option Nat} {P:Program} {N:Nat} {Q:bV} {α:AF} {σ:aa} {c:Code} (p i j:Nat) {b k s n cc k' kk:Nat} {es rows:List (List AV)} {e:List AV} (hne:p≠b) (hp:σ[p]? = some (.cells kk rows)) (hi:rows[i]? = some e) (hj:e[j]? = some (.own b k s n cc)) (ho:σ[b]? = some (.cells k' es))
  (h:aK rd P N c Q α ((σ.set b .dead).set p (.cells kk (rows.set i (e.set j (.own σ.length k s n cc))))++[.cells k' es])):aK rd P N c Q α σ:=by
 intro K imm m w a hs hf;obtain⟨m',hle,he,hs'⟩:=hs.moveO ho;obtain⟨hplt,hp⟩:=List.getElem?_eq_some_iff.1 hp;have hplt':p<(σ.set b .dead++[Ob.cells k' es]).length:=by simp;omega
 have hob:(σ.set b .dead++[Ob.cells k' es])[p] = .cells kk rows:=by
  rw[List.getElem_append_left (by rw[List.length_set];exact hplt),List.getElem_set,if_neg (Ne.symm hne),hp]
 have h9:=hs'.obs p hplt';rw[hob] at h9;obtain⟨blk,sz,h1,h2,cs,T,fr,h3,h4,h5,h6,h7⟩:=h9;have h0:=hs.obs p hplt;rw[hp] at h0;obtain⟨blk',sz',g1,g2,cs',T',fr',g3,g4,g5,g6,g7⟩:=h0;have e1:=hle _ _ g1;rw[h1] at e1
 cases e1
 rw[h3] at g3
 cases g3
 have hs2:Sim K imm m' w ((σ.set b .dead).set p (.cells kk (rows.set i (e.set j (.own σ.length k s n cc))))++[.cells k' es]):=by
  rw[←List.set_append_left _ _ (by rw[List.length_set];exact hplt)]
  refine hs'.setO ⟨rfl,rfl,rfl,Nat.le_refl _⟩ hplt' h1 (by rw[hob];rfl) (fun _ _=>rfl) _ ⟨blk,sz,h1,h2,cs,T,fr,h3,h4,h5,by simpa using h6,fun i' hi'=>?_⟩
  simp only[List.length_set] at hi';obtain⟨hi1,hi2⟩:=List.getElem?_eq_some_iff.1 hi;obtain⟨hj1,hj2⟩:=List.getElem?_eq_some_iff.1 hj;simp only[List.getElem_set]
  split
  ·rename_i e1
   subst e1;refine⟨by rw[List.length_set,←hi2];exact (h7 i _).1,fun j' hj'=>?_⟩
   simp only[List.length_set] at hj';simp only[List.getElem_set]
   split
   ·rename_i e2
    subst e2;obtain⟨v,e3,r⟩:=(g7 i hi1).2 j (by rw[hi2];exact hj1)
    refine⟨v,e3,DM he (b:=b) ?_⟩;rw[←hj2]
    simpa only[hi2] using r
   ·obtain⟨v,e3,r⟩:=(h7 i hi1).2 j' (by rw[hi2];exact hj')
    refine⟨v,e3,?_⟩
    simpa only[hi2] using r
  ·exact h7 i' hi'
 exact Code.wpIn_mono (fun _ _ _ hq=>cK (.refl _) hle hq) (h K imm m' w a hs2 (hf.mono (.refl _) hle))
theorem af.useX {P:Program} {f:FuncId} {args:List AV} {σ:aa} {T:aa→AV→Prop} {R:AV→aa→Prop} (h:af P f args σ fun r σ'=>∃τ,σ'=σ++τ∧T τ r) (hr:∀τ r,T τ r→R r (σ++τ)):af P f args σ R:=
 h.mono fun r σ' ⟨τ,h1,h2⟩=>by subst h1;exact hr τ r h2
end Go.Proofs.YtephecognbbaoaaGreat
namespace Go.Proofs.YtephecognbbaoaaGreat
theorem af.cutO {P:Program} {f:FuncId} {args:List AV} {σ:aa} {k n c:Nat} {es:List (List AV)} (hbd:∀i (hi:i<es.length) j (hj:j<es[i].length),Bd σ.length es[i][j])
  (h:af P f args σ fun r σ'=>∃b τ,σ'=σ++τ∧σ.length≤b∧σ'[b]? = some (.cells k es)∧r = .own b k 0 n c):af P f args σ fun r σ'=>σ'=σ++[.cells k es]∧r = .own σ.length k 0 n c:=by
 intro K imm m w vs hs hv;refine (h K imm m w vs hs hv).mono ?_;rintro e w' ⟨imm',m',v,r,σ',he,hi,ho,hs',hr,b,τ,rfl,hbl,hbo,rfl⟩;obtain⟨hlt,hob⟩:=List.getElem?_eq_some_iff.1 hbo;have hB:=hs'.obs b hlt;rw[hob] at hB;obtain⟨blk,sz,h1,h2,cs,T,fr,h3,h4,h5,h6,h7⟩:=hB;have hs0:=hs'.cut hs;have hd:Proofs.YtephecognbbaoaaGreat.cut m' σ.length σ.length=none:=hs0.dom _ (Nat.le_refl _);have hle:OLe (Proofs.YtephecognbbaoaaGreat.cut m' σ.length) (upd (Proofs.YtephecognbbaoaaGreat.cut m' σ.length) σ.length (blk,sz)):=.upd hd _;have hne:∀id,id≠σ.length→upd (Proofs.YtephecognbbaoaaGreat.cut m' σ.length) σ.length (blk,sz) id=Proofs.YtephecognbbaoaaGreat.cut m' σ.length id:=fun id h=>by unfold upd;rw[if_neg h]
 have hat:upd (Proofs.YtephecognbbaoaaGreat.cut m' σ.length) σ.length (blk,sz) σ.length=some (blk,sz):=by unfold upd;rw[if_pos rfl]
 have hcut:∀i,i<σ.length→Proofs.YtephecognbbaoaaGreat.cut m' σ.length i=m' i:=fun i h=>by unfold Proofs.YtephecognbbaoaaGreat.cut;rw[if_pos h]
 have hlive:(σ++τ)[b].live=true:=by rw[hob];rfl
 refine⟨imm',upd (Proofs.YtephecognbbaoaaGreat.cut m' σ.length) σ.length (blk,sz),v,.own σ.length k 0 n c,σ++[.cells k es],he,hi,fun b' o hbo'=>?_,?_,?_,rfl,rfl⟩
 ·have hlt2:b'<σ.length:=by
   rcases Nat.lt_or_ge b' σ.length with h|h
   ·exact h
   ·rw[hs.dom b' h] at hbo';cases hbo'
  rw[hne _ (by omega),hcut _ hlt2]
  exact ho _ _ hbo'
 ·refine⟨hs'.os,hs'.tape,hs'.output,hs'.size,hs'.imm_ok,fun id h=>?_,fun id h=>?_,fun i j hi hj li lj e=>?_⟩
  ·simp only[List.length_append,List.length_cons,List.length_nil] at h;rw[hne _ (by omega)]
   exact hs0.dom id (by omega)
  ·simp only[List.length_append,List.length_cons,List.length_nil] at h
   rcases Nat.lt_or_ge id σ.length with hl|hl
   ·rw[List.getElem_append_left hl];exact (hs0.obs id hl).keep (.refl _) hle (fun h=>by rw[hne _ (by omega)];exact h) (fun _ h _=>h) (fun _ _ _ _=>rfl)
   ·obtain rfl:id=σ.length:=by omega
    rw[List.getElem_append_right (Nat.le_refl _)];simp only[Nat.sub_self,List.getElem_cons_zero];refine⟨blk,sz,hat,h2,cs,T,fr,h3,h4,h5,h6,fun i hi=>⟨(h7 i hi).1,fun j hj=>?_⟩⟩;obtain⟨u,e,r⟩:=(h7 i hi).2 j hj;exact⟨u,e,(r.cut (hbd i hi j hj)).mono (.refl _) hle⟩
  ·simp only[List.length_append,List.length_cons,List.length_nil] at hi hj;have key:∀i (hi:i<σ.length),Ob.live σ[i]=true→(m' i).map (·.1)=some blk→False:=fun i hi li e=>by
    have:=hs'.inj i b (by simp;omega) hlt (by rw[List.getElem_append_left hi];exact li) hlive (by rw[e,h1];rfl)
    omega
   rcases Nat.lt_or_ge i σ.length with hi'|hi'
   ·rw[List.getElem_append_left hi'] at li
    rcases Nat.lt_or_ge j σ.length with hj'|hj'
    ·rw[List.getElem_append_left hj'] at lj;rw[hne _ (by omega),hne _ (by omega)] at e
     exact hs0.inj i j hi' hj' li lj e
    ·obtain rfl:j=σ.length:=by omega
     rw[hne _ (by omega),hat,hcut _ hi'] at e
     exact (key i hi' li e).elim
   ·obtain rfl:i=σ.length:=by omega
    rcases Nat.lt_or_ge j σ.length with hj'|hj'
    ·rw[List.getElem_append_left hj'] at lj;rw[hne j (by omega),hat,hcut _ hj'] at e
     exact (key j hj' lj e.symm).elim
    ·omega
 ·cases hr with
  | own _ _ _ _ _ cap blk' sz' x hm hn hcc hx hc=>
   rw[h1] at hm
   cases hm
   exact .own σ.length k 0 n c cap blk sz x hat hn hcc hx hc
theorem eK {rd:Option Nat} {P:Program} {N:Nat} {ops:List Oper} {α0:AF} {σ:aa} {Q:bV} {id:Nat} (σ0:aa) (h0:Pre σ0 σ) (hm:P.follows .mixedOrders=true) (hB:(dQ ops (cO ops)&&bT ops&&cy ops&&decide (cO ops≤ops.length)&&eB (false,true) ops (cO ops)&&(!false||f9 (false,true) ops))=true)
  (h:cW P N ops (false,true) false σ0 (fun α σ=>dw P N ops (fun α σ=>Q .normal α σ) (ops.drop (cO ops)) α σ) (ops.take (cO ops)) α0 σ):aK rd P N (.region id ops.toArray true) Q α0 σ:=
 qI σ0 (false,true) false _ (.inr h0) hm hB h
end Go.Proofs.YtephecognbbaoaaGreat
namespace Go.Proofs.YtephecognbbaoaaGreat
theorem yD (bag:List bg) (hl:bag.length≤120) (σ:aa):af Tryz.prog 81 [.sl (bag.map aJ)] σ fun r σ'=>(bag=[]∧σ'=σ∧r = .c (.slice none 0 0))∨(σ'=σ++[.dead,.cells 3 (bag.map aJ)]∧r = .own (σ.length+1) 3 0 bag.length bag.length):=by
 refine g_n Tryz.func81 rfl Tryz.results81 Tryz.ntmps81 ?_
 (repeat' (first|(refine g_s fun K hK=>?_)|(refine g_g ?_;(try refine g_y ?_))|(refine hK _ _ ?_;clear hK K)|exact trivial|fail))
 refine⟨fun h=>?_,?_⟩
 ·have e:bag=[]:=List.eq_nil_of_length_eq_zero h;subst e;refine hK _ _ ?_;clear hK K
  (repeat' (first|(refine g_s fun K hK=>?_)|(refine g_C (fun h=>?_) (fun h=>?_)<;>(try exact g_f))|((first|refine g_t ?_|refine g_g ?_);(try refine g_y ?_))|(refine hK _ _ ?_;clear hK K)|exact trivial|fail))
 ·refine hK _ _ ?_;clear hK K
  (repeat' (first|(refine g_s fun K hK=>?_)|(refine g_k ?_;simp only[ah,ae])|(refine g_C (fun h=>?_) (fun h=>?_)<;>(try exact g_f))|((first|refine g_t ?_|refine g_g ?_);(try refine g_y ?_))|(refine hK _ _ ?_;clear hK K)|(with_reducible refine And.intro ?_ ?_;· exact g_x)|exact trivial|fail))
def kX (r:Rtr) (t:Nat):List AV:=[aF r.routes,.own t 1 0 r.told.length r.told.length]
def eJ (S:aa) (gv:AV) (bag:List bg) (gi:List Nat):Prop:=
 (bag=[]∧gi=[]∧gv = .c (.slice none 0 0)) ∨
 ∃gb rest,gi=[gb]∧gv = .own gb 3 0 bag.length (bag.length+rest.length)∧S[gb]? = some (.cells 3 (bag.map aJ++rest))∧(∀e∈rest,e.length=3∧e.all cw=true)∧bag.length+rest.length≤120
structure bC (S:aa) (lo b:Nat) (n:Net) (e:Eng) (rb:Nat) (tb:List Nat) (gv:AV) (gi:List Nat):Prop where
 hb:S[b]? = some (.cells 7 [aH n++[.own rb 2 0 e.routers.length e.routers.length,gv]])
 hrb:S[rb]? = some (.cells 2 (List.zipWith kX e.routers tb))
 tl:tb.length=e.routers.length
 ht:∀i (h:i<tb.length) (h2:i<e.routers.length),S[tb[i]]? = some (.cells 1 (e.routers[i].told.map aE))
 bag:eJ S gv e.bag gi
 nd:(b::rb::(tb++gi)).Nodup
 lo:∀i∈b::rb::(tb++gi),lo≤i
def Mach (S:aa) (lo b:Nat) (n:Net) (e:Eng):Prop:=∃rb tb gv gi,bC S lo b n e rb tb gv gi
end Go.Proofs.YtephecognbbaoaaGreat
namespace Go.Proofs.YtephecognbbaoaaGreat
def yu (bs:Bool×Bool) (ops:List Oper) (p:Nat):Bool:=
 let b:=vD ops []
 (List.range p).all fun j=>(List.range p).all fun i=>match ops[j]?,ops[i]? with
  | some x,some y=>cD bs x.op||eX x.op || !cD bs y.op||(b.getD i 0).testBit j
  | _,_=>true
theorem DW {bs:Bool×Bool} {ops:List Oper} {p i j:Nat} {x y:Oper} (h:yu bs ops p=true) (hj:j<p) (hi:i<p) (hx:ops[j]? = some x) (hy:ops[i]? = some y) (h1:cD bs x.op=false) (h2:¬eX x.op=true) (h3:cD bs y.op=true):Anc ops j i:=by
 simp only[yu,List.all_eq_true,List.mem_range] at h;have:=h j hj i hi;rw[hx,hy] at this;simp only[h1,h3,Bool.false_or,Bool.not_true] at this;have h2':eX x.op=false:=by simpa using h2
 rw[h2',Bool.false_or,Bool.false_or] at this;exact lY ops ops [] (fun j=>by simp) (fun j i h=>by simp at h) i j this
section
variable {rd:Option Nat} {P:Program} {N:Nat} {K0:World} {ops:List Oper} {bs:Bool×Bool} {pu:Bool} {σ0:aa} {α0:AF}
def wZ (P:Program) (N:Nat) (ops:List Oper) (bs:Bool×Bool) (pu:Bool) (σ0:aa) (α:AF) (σ:aa) (o:Oper) (b:Bool) (v:AV) (σ':aa):Prop:=
  (∀d,o.dst=some d→d<N) ∧
  ((b=true∧((cD bs o.op=true∧AOp P o.op (evF α) σ (fun v' σ''=>v'=v∧σ''=σ')∧cI pu σ0 σ')∨(cD bs o.op=false∧σ'=σ∧(eX o.op=true→∀σ1,bk P o.op (evF α) σ1 v)∧bk P o.op (evF α) σ0 v))∧(∀g want,o.guard=some (g,want)→∃d,(ops[g]?).bind (·.dst)=some d∧aB α d=some (.c (.bool want)))) ∨
   (b=false∧v = .c undef∧σ'=σ∧∃g want d,o.guard=some (g,want)∧(ops[g]?).bind (·.dst)=some d∧(aB α d=some (.c (.bool (!want)))∨∃t,aB α d=some (.c (.tuple t)))))
theorem pg {K:AF→aa→Prop} : ∀(l:List Oper) (k:Nat) (vs0:Nat→AV) (bs0:Nat→Bool) (ss0:Nat→aa) (β:AF),(∀t,aB β t=aB (frL ops α0 vs0 k) t)→(∀j,j<l.length→l[j]? = ops[k+j]?)→cW P N ops bs pu σ0 K l β (ss0 k) →
  ∃(vs:Nat→AV) (bl:Nat→Bool) (ss:Nat→aa),(∀j,j<k→vs j=vs0 j∧bl j=bs0 j)∧(∀j,j≤k→ss j=ss0 j)∧(∀j (h:j<l.length),wZ P N ops bs pu σ0 (frL ops α0 vs (k+j)) (ss (k+j)) l[j] (bl (k+j)) (vs (k+j)) (ss (k+j+1)))∧∃γ,(∀t,aB γ t=aB (frL ops α0 vs (k+l.length)) t)∧K γ (ss (k+l.length))
 | [],k,vs0,bs0,ss0,β,hβ,_,h=>⟨vs0,bs0,ss0,fun _ _=>⟨rfl,rfl⟩,fun _ _=>rfl,fun j h=>by simp at h,β,hβ,h⟩
 | o::r,k,vs0,bs0,ss0,β,hβ,hl,h=>by
  have ho:ops[k]? = some o:=by have:=hl 0 (by simp);simpa using this.symm
  have go:∀(b:Bool) (v:AV) (σ':aa) (β:AF),(∀t,aB β t=aB (frL ops α0 vs0 k) t)→wZ P N ops bs pu σ0 (frL ops α0 vs0 k) (ss0 k) o b v σ'→br N o.dst v β (fun α'=>cW P N ops bs pu σ0 K r α' σ') →
    ∃(vs:Nat→AV) (bl:Nat→Bool) (ss:Nat→aa),(∀j,j<k→vs j=vs0 j∧bl j=bs0 j)∧(∀j,j≤k→ss j=ss0 j)∧(∀j (h:j<(o::r).length),wZ P N ops bs pu σ0 (frL ops α0 vs (k+j)) (ss (k+j)) (o::r)[j] (bl (k+j)) (vs (k+j)) (ss (k+j+1)))∧∃γ,(∀t,aB γ t=aB (frL ops α0 vs (k+(o::r).length)) t)∧K γ (ss (k+(o::r).length)):=by
   intro b v σ' β hβ hst hput
   let vs1:Nat→AV:=fun j=>if j=k then v else vs0 j
   let bs1:Nat→Bool:=fun j=>if j=k then b else bs0 j
   let ss1:Nat→aa:=fun j=>if j=k+1 then σ' else ss0 j
   have hfr:frL ops α0 vs1 k=frL ops α0 vs0 k:=iC k _ _ fun j hj=>by simp only[vs1];rw[if_neg (by omega)]
   obtain⟨β',hβ',hq⟩:∃β',(∀t,aB β' t=aB (frL ops α0 vs1 (k+1)) t)∧cW P N ops bs pu σ0 K r β' σ':=by
    have hd:(ops[k]?).bind (·.dst)=o.dst:=by rw[ho];rfl
    unfold br at hput
    cases hdst:o.dst with
    | none=>
     rw[hdst] at hput hd;refine⟨β,fun t=>?_,hput⟩;simp only[frL,hd,hfr];exact hβ t
    | some d=>
     rw[hdst] at hput hd;refine⟨_,fun t=>?_,hput.2⟩;simp only[frL,hd,hfr,aB,vs1,if_true]
     split
     ·rfl
     ·exact hβ t
   obtain⟨vs,bl,ss,h1,h1s,h2,γ,h3,h4⟩:=pg r (k+1) vs1 bs1 ss1 β' hβ' (fun j hj=>by
    have:=hl (j+1) (by simp;omega)
    rw[show k+1+j=k+(j+1) by omega,←this]
    rfl) (by simp only[ss1,if_true];exact hq)
   refine⟨vs,bl,ss,fun j hj=>?_,fun j hj=>?_,fun j hj=>?_,γ,by rw[show k+(o::r).length=k+1+r.length by simp;omega];exact h3,by rw[show k+(o::r).length=k+1+r.length by simp;omega];exact h4⟩
   ·have:=h1 j (by omega)
    simp only[vs1,bs1,if_neg (show ¬j=k by omega)] at this
    exact this
   ·have:=h1s j (by omega)
    simp only[ss1,if_neg (show ¬j=k+1 by omega)] at this
    exact this
   ·cases j with
    | zero=>
     have e1:=h1 k (by omega)
     have e2:=h1s k (by omega)
     have e3:=h1s (k+1) (by omega)
     simp only[vs1,bs1,if_true] at e1;simp only[ss1,if_true] at e3;simp only[ss1,if_neg (show ¬k=k+1 by omega)] at e2
     simp only[Nat.add_zero,List.getElem_cons_zero,e1.1,e1.2,e2,e3];rw[iC k vs vs0 fun j hj=>by have:=h1 j (by omega);simp only[vs1,if_neg (show ¬j=k by omega)] at this;exact this.1]
     exact hst
    | succ j=>
     have:=h2 j (by simpa using hj)
     rw[show k+1+j=k+(j+1) by omega] at this
     exact this
  simp only[cW] at h;obtain⟨β1,hβ1,h⟩:=jo h;have hb:∀t,aB β1 t=aB (frL ops α0 vs0 k) t:=fun t=>(hβ1 t).trans (hβ t);clear hβ1 hβ;have act:(match cD bs o.op with
    | true=>nP P o.op (evF β1) (ss0 k) fun v σ'=>cI pu σ0 σ'∧br N o.dst v β1 fun α'=>cW P N ops bs pu σ0 K r α' σ'
    | false=>jT P o.op (evF β1) σ0 fun v=>br N o.dst v β1 fun α'=>cW P N ops bs pu σ0 K r α' (ss0 k)) →
    ∃v σ',((cD bs o.op=true∧AOp P o.op (evF (frL ops α0 vs0 k)) (ss0 k) (fun v' σ''=>v'=v∧σ''=σ')∧cI pu σ0 σ')∨(cD bs o.op=false∧σ'=ss0 k∧(eX o.op=true→∀σ1,bk P o.op (evF (frL ops α0 vs0 k)) σ1 v)∧bk P o.op (evF (frL ops α0 vs0 k)) σ0 v))∧br N o.dst v β1 fun α'=>cW P N ops bs pu σ0 K r α' σ':=by
   intro h;rw[nI hb] at h
   cases hlo:cD bs o.op with
   | true=>
    rw[hlo] at h;obtain⟨v,σ',h1,h2,h3⟩:=vK hlo h;exact⟨v,σ',.inl ⟨rfl,h1,h2⟩,h3⟩
   | false=>
    rw[hlo] at h
    by_cases hp:eX o.op=true
    ·obtain⟨v,h1,h2⟩:=su o.op hp h;exact⟨v,_,.inr ⟨rfl,rfl,fun _=>h1,h1 σ0⟩,h2⟩
    ·obtain⟨v,h1,h2⟩:=vL o.op h;exact⟨v,_,.inr ⟨rfl,rfl,fun h=>absurd h hp,h1⟩,h2⟩
  unfold dk at h
  cases hg:o.guard with
  | none=>
   rw[hg] at h;obtain⟨v,σ',hv,hp⟩:=act h;refine go true v σ' β1 hb ⟨fun d hd=>?_,.inl ⟨rfl,hv,fun g want h=>by rw[hg] at h;cases h⟩⟩ hp
   rw[hd] at hp;exact hp.1
  | some g=>
   obtain⟨g,want⟩:=g;rw[hg] at h
   replace h:=aj h;obtain⟨d,hd,h⟩:=h
   replace h:=aj h;obtain⟨u,hu,h⟩:=h
   rw[hb] at hu;have skip:(aB (frL ops α0 vs0 k) d=some (.c (.bool (!want)))∨∃t,aB (frL ops α0 vs0 k) d=some (.c (.tuple t)))→br N o.dst (.c undef) β1 (fun α'=>cW P N ops bs pu σ0 K r α' (ss0 k))→_:=fun hu hp=>
    go false (.c undef) (ss0 k) β1 hb ⟨fun d hd=>by rw[hd] at hp;exact hp.1,.inr ⟨rfl,rfl,rfl,g,want,d,hg,hd,hu⟩⟩ hp
   split at h
   ·cases want
    ·exact skip (.inl hu) h
    ·obtain⟨v,σ',hv,hp⟩:=act h;exact go true v σ' β1 hb ⟨fun d hd=>by rw[hd] at hp;exact hp.1,.inl ⟨rfl,hv,fun g' want' h'=>by
      rw[hg] at h'
      cases h'
      exact⟨d,hd,hu⟩⟩⟩ hp
   ·cases want
    ·obtain⟨v,σ',hv,hp⟩:=act h;exact go true v σ' β1 hb ⟨fun d hd=>by rw[hd] at hp;exact hp.1,.inl ⟨rfl,hv,fun g' want' h'=>by
      rw[hg] at h'
      cases h'
      exact⟨d,hd,hu⟩⟩⟩ hp
    ·exact skip (.inl hu) h
   ·rename_i t
    exact skip (.inr ⟨t,hu⟩) h
   ·exact h.elim
theorem wo {Q:bV} {id:Nat} {σ:aa} (bs:Bool×Bool) (p:Nat) (hm:P.follows .mixedOrders=true) (hB:(dQ ops p&&bT ops&&cy ops&&decide (p≤ops.length)&&eB bs ops p&&yu bs ops p)=true)
  (h:cW P N ops bs true σ (fun α σ=>dw P N ops (fun α σ=>Q .normal α σ) (ops.drop p) α σ) (ops.take p) α0 σ):aK rd P N (.region id ops.toArray true) Q α0 σ:=by
 intro K imm m w a hs hf;simp only[Bool.and_eq_true,decide_eq_true_eq] at hB;obtain⟨⟨⟨⟨⟨hB1,hB2⟩,hB3⟩,hB4⟩,hB5⟩,hB6⟩:=hB;have hc:o9 ops p:=fun i j x y hij hx hy h=>jM hB1 hij hx hy h;obtain⟨vs,bl,ss,_,hss0,h2,γ,hγ,h3⟩:=pg (ops:=ops) (α0:=α0) (pu:=true) (ops.take p) 0 (fun _=>.emp) (fun _=>true) (fun _=>σ) α0 (fun _=>rfl) (fun j hj=>by
  simp only[List.length_take] at hj;rw[List.getElem?_take_of_lt (by omega),Nat.zero_add]) h
 simp only[Nat.zero_add,List.length_take,Nat.min_eq_left hB4] at h2 hγ h3;have hss0:ss 0=σ:=hss0 0 (Nat.le_refl _);refine wpIn_region_any hm ?_;have hst:∀j,j<p→∀o,ops[j]? = some o→wZ P N ops bs true σ (frL ops α0 vs j) (ss j) o (bl j) (vs j) (ss (j+1)):=fun j hj o ho=>by
  have:=h2 j hj;rw[List.getElem_take] at this;obtain⟨hj',rfl⟩:=List.getElem?_eq_some_iff.1 ho;exact this
 have hrep:∀i,(Array.replicate ops.toArray.size false).getD i true=true→¬i<ops.length:=fun i h hi=>by
  simp [Array.getD_eq_getD_getElem?,hi] at h
 let lo:Nat→Prop:=fun j=>∃o,ops[j]? = some o∧cD bs o.op=true
 have same1:∀j,j<p→¬lo j→ss (j+1)=ss j:=fun j hj hn=>by
  have ho:ops[j]? = some ops[j]:=List.getElem?_eq_getElem (by omega)
  rcases (hst j hj _ ho).2 with ⟨_,hk,_⟩|⟨_,_,hk,_⟩
  ·rcases hk with ⟨hk,_⟩|⟨_,hk,_⟩
   ·exact absurd ⟨_,ho,hk⟩ hn
   ·exact hk
  ·exact hk
 have same:∀d k,k+d≤p→(∀i,k≤i→i<k+d→¬lo i)→ss (k+d)=ss k:=by
  intro d
  induction d with
  | zero=>intro k _ _;rfl
  | succ d ih=>
   intro k hk hn;rw[←Nat.add_assoc,same1 (k+d) (by omega) (hn _ (by omega) (by omega))]
   exact ih k (by omega) fun i h1 h2=>hn i h1 (by omega)
 obtain⟨top,htop⟩:∃top:(Nat→Prop)→Nat,∀S,(∀j,j<p→S j→lo j→j<top S)∧∀k,(∀j,j<p→S j→lo j→j<k)→top S≤k:=by
  have hex:∀S:Nat→Prop,∃n,(∀j,j<p→S j→lo j→j<n)∧∀k,(∀j,j<p→S j→lo j→j<k)→n≤k:=fun S=>
   qp (p:=fun n=>∀j,j<p→S j→lo j→j<n) p fun j hj _ _=>hj
  exact⟨fun S=>Classical.choose (hex S),fun S=>Classical.choose_spec (hex S)⟩
 have topP:∀S,top S≤p:=fun S=>(htop S).2 p fun j hj _ _=>hj;refine lM (σ:=ss p) (fun S=>ss (top S)) hB2 hc hB3 hB4 (fun S h=>?_) (fun j o S imm m a w next Q' hj ho hsl hs hI hcl hnS hanc hn=>?_) hγ h3 _ _ a _ imm m ?_ (by simp) (fun i hi=>absurd hi.1 (hrep i hi.2)) (fun i hi h=>absurd hi (hrep i h)) ?_
  ⟨hf.defers,hf.size,fun t i h=>absurd h.1.1 (hrep i h.1.2),fun t av _ h=>hf.slot t av h⟩
 ·have:=same (p-top S) (top S) (by have:=topP S;omega) fun i h1 h2 hl=>by
   have:=(htop S).1 i (by have:=topP S;omega) (h i (by have:=topP S;omega)) hl
   omega
  rw[show top S+(p-top S)=p by have:=topP S;omega] at this
  exact this.symm
 ·
  have hf:=hI.names hc hcl ho hnS hanc;have hlk:∀d av,d∈bN ops o→aB (frL ops α0 vs j) d=some av→aB (gM (bN ops o) (frL ops α0 vs j)) d=some av:=fun d av hd h=>by
   rw[dL,if_pos (by simpa using hd)];exact h
  have hyield:∀(g d:Nat) (u:Value),(ops[g]?).bind (·.dst)=some d→aB (frL ops α0 vs j) d=some (.c u)→d∈bN ops o→((ops.toArray[g]?).bind (·.dst)).bind (a.tmps[·]?)=some u:=fun g d u hgd hu hm=>by
   obtain⟨x,hx,r⟩:=hf.slot d _ (hlk d _ hm hu);simp only[List.getElem?_toArray,hgd,Option.bind_some,hx,r.c_inv]
  have hoa:ops.toArray[j]? = some o:=by simpa using ho
  have hkeep:¬lo j→ss (top fun i=>S i∨i=j)=ss (top S):=fun hn=>by
   have h1:top (fun i=>S i∨i=j)≤top S:=(htop _).2 _ fun i hi hS hl=>by
    rcases hS with hS|rfl
    ·exact (htop S).1 i hi hS hl
    ·exact absurd hl hn
   have h2:top S≤top (fun i=>S i∨i=j):=(htop _).2 _ fun i hi hS hl=>(htop _).1 i hi (.inl hS) hl;rw[Nat.le_antisymm h1 h2]
  have hloud:lo j→ss (top S)=ss j∧ss (top fun i=>S i∨i=j)=ss (j+1):=fun hl=>by
   obtain⟨o',ho',hl'⟩:=hl;rw[ho] at ho'
   cases ho'
   have hS:∀i,i<p→S i→lo i→i<j:=fun i hi hS ⟨x,hx,hxl⟩=>by
    rcases Nat.lt_trichotomy i j with h|h|h
    ·exact h
    ·subst h;exact absurd hS hnS
    ·exact absurd ((hcl i hS).2 j (jF hB5 h hi ho hx hl' hxl)) hnS
   have h1:top S≤j:=(htop S).2 j hS;have h2:=same (j-top S) (top S) (by omega) fun i h1 h2 ⟨x,hx,hxl⟩=>by
    have hi:S i:=hanc i (jF hB5 (by omega) hj hx ho hxl hl')
    have:=(htop S).1 i (by omega) hi ⟨x,hx,hxl⟩
    omega
   rw[show top S+(j-top S)=j by omega] at h2
   refine⟨h2.symm,?_⟩;have h3:top (fun i=>S i∨i=j)=j+1:=Nat.le_antisymm ((htop _).2 _ fun i hi h9 hl=>by
    rcases h9 with h9|rfl
    ·have:=hS i hi h9 hl;omega
    ·omega) ((htop _).1 j hj (.inr rfl) ⟨o,ho,hl'⟩)
   rw[h3]
  have hnolo:cD bs o.op=false→¬lo j:=fun h ⟨o',ho',hl'⟩=>by
   rw[ho] at ho'
   cases ho'
   rw[h] at hl'
   cases hl'
  have hcg:∀x∈o.op.operands,evF (frL ops α0 vs j) x=evF (gM (bN ops o) (frL ops α0 vs j)) x:=fun x hx=>by
   cases x with
   | tmp t=>simp only[evF];rw[dL,if_pos (by simpa using gN hx)]
   | _=>rfl
  unfold wpOpIn;simp only[hoa];obtain⟨hdN,⟨hbt,hq,hg⟩|⟨hbf,hv,hσ,g,want,d,hg,hgd,hu⟩⟩:=hst j hj o ho
  ·have hw:Region.wanted o (yielded ops.toArray a.tmps)=true:=by
    cases hgo:o.guard with
    | none=>simp [Region.wanted,hgo]
    | some gw=>
     obtain⟨g,want⟩:=gw;obtain⟨d,hgd,hu⟩:=hg g want hgo;have hy:yielded ops.toArray a.tmps g=some want:=by simp only[yielded,hyield g d _ hgd hu (cN hgo hgd)]
     simp [Region.wanted,hgo,hy]
   rw[if_pos hw]
   rcases hq with ⟨hlo,hq,_⟩|⟨hlo,_,hq⟩
   ·obtain⟨e1,e2⟩:=hloud ⟨o,ho,hlo⟩;rw[e1] at hs;rw[oA o.op hsl hcg] at hq;have hup:=eL (dst:=o.dst) (type:=o.type) (pos:=o.pos) (after:=o.after) (guard:=o.guard) o.op hs (ff hf) hq;refine dc (gK hq) hup fun imm' m' v av σ' w' hi hoo hs' hr hk=>?_;obtain⟨rfl,rfl⟩:=hk;exact hn imm' m' v w' hi hoo (by rw[e2];exact hs') ((hI.mono hi hoo).step hc hcl ho hnS hdN hr)
   ·have e2:=hkeep (hnolo hlo);have hq':bk P o.op (evF (frL ops α0 vs j)) (ss (top S)) (vs j):=by
     by_cases hp:eX o.op=true
     ·exact hq.1 hp _
     ·have h0:top S=0:=Nat.le_antisymm ((htop S).2 0 fun i hi hS ⟨x,hx,hxl⟩=>absurd ((hcl i hS).2 j (DW hB6 hj hi ho hx hlo hp hxl)) hnS) (Nat.zero_le _);rw[h0,hss0];exact hq.2
    rw[m6 o.op hsl hcg] at hq';have hup:=jR (dst:=o.dst) (type:=o.type) (pos:=o.pos) (after:=o.after) (guard:=o.guard) o.op hs (ff hf) hq';refine dc (jS hq') hup fun imm' m' v av σ' w' hi hoo hs' hr hk=>?_;obtain⟨rfl,rfl⟩:=hk;exact hn imm' m' v w' hi hoo (by rw[e2];exact hs') ((hI.mono hi hoo).step hc hcl ho hnS hdN hr)
  ·have hw:Region.wanted o (yielded ops.toArray a.tmps)=false:=by
    rcases hu with hu|⟨t,hu⟩
    ·have hy:yielded ops.toArray a.tmps g=some (!want):=by simp only[yielded,hyield g d _ hgd hu (cN hg hgd)]
     simp [Region.wanted,hg,hy]
    ·have hy:yielded ops.toArray a.tmps g=none:=by simp only[yielded,hyield g d _ hgd hu (cN hg hgd)]
     simp [Region.wanted,hg,hy]
   rw[if_neg (by rw[hw];simp)]
   refine⟨fun _ _=>jQ _ _,hn imm m undef w (.refl _) (.refl _) ?_ (hI.step hc hcl ho hnS hdN (by rw[hv];exact .c _))⟩
   by_cases hl:lo j
   ·obtain⟨e1,e2⟩:=hloud hl;rw[e2,hσ,←e1];exact hs
   ·rw[hkeep hl];exact hs
 ·simp [left]
 ·have h0:top (fun i=>i<ops.length∧(Array.replicate ops.toArray.size false).getD i true=true)=0:=Nat.le_antisymm ((htop _).2 0 fun j _ h=>absurd h.1 (hrep j h.2)) (Nat.zero_le _);show Sim K imm m { w with drawn:=w.drawn+1 } (ss (top _))
  rw[h0,hss0];exact hs.drew
end
theorem oz {rd:Option Nat} {P:Program} {N:Nat} {ops:List Oper} {α0:AF} {σ:aa} {Q:bV} {id:Nat} (hm:P.follows .mixedOrders=true) (hB:(dQ ops ops.length&&bT ops&&cy ops&&decide (ops.length≤ops.length)&&eB (false,false) ops ops.length&&yu (false,false) ops ops.length)=true)
  (h:cW P N ops (false,false) true σ (fun α σ=>Q .normal α σ) ops α0 σ):aK rd P N (.region id ops.toArray true) Q α0 σ:=
 wo (false,false) ops.length hm hB (by rw[List.take_length,List.drop_length];exact h)
end Go.Proofs.YtephecognbbaoaaGreat
namespace Go.Proofs.YtephecognbbaoaaGreat
def Ax (st:List Int) (j:Nat) (v:Int):List Int:=(st.set (j+1) (st.getD j 0)).set j v
def swp (st:List Int) (j:Nat):List Int:=Ax st j (st.getD (j+1) 0)
def mw:Nat→List Int→List Int
 | 0,st=>st
 | j+1,st=>if st.getD (j+1) 0<st.getD j 0 then mw j (swp st j) else st
def qq:Nat→Nat→List Int→List Int
 | 0,_,st=>st
 | f+1,i,st=>qq f (i+1) (mw i st)
def eD (l:List Int):List Int:=qq (l.length-1) 1 l
theorem Ad (st:List Int) (j:Nat):(swp st j).length=st.length:=by simp [swp,Ax]
theorem yq:∀(j:Nat) (st:List Int),(mw j st).length=st.length
 | 0,_=>rfl
 | j+1,st=>by
  rw[mw]
  split
  ·rw[yq j,Ad]
  ·rfl
theorem yp:∀(f i:Nat) (st:List Int),(qq f i st).length=st.length
 | 0,_,_=>rfl
 | f+1,i,st=>by rw[qq,yp f,yq]
theorem vP (l:List Int):(eD l).length=l.length:=yp _ _ _
def k7 (x:Int):List Int→List Int
 | []=>[x]
 | y::r=>if x<y then y::k7 x r else x::y::r
theorem yt (x:Int):∀r,(k7 x r).length=r.length+1
 | []=>rfl
 | y::r=>by
  rw[k7]
  split
  ·rw[List.length_cons,yt x r,List.length_cons]
  ·rfl
theorem qr (x v:Int):∀r,v∈k7 x r↔v=x∨v∈r
 | []=>by simp [k7]
 | y::r=>by
  rw[k7]
  split
  ·rw[List.mem_cons,qr x v r,List.mem_cons]
   constructor
   ·rintro (h|h|h)
    ·exact .inr (.inl h)
    ·exact .inl h
    ·exact .inr (.inr h)
   ·rintro (h|h|h)
    ·exact .inr (.inl h)
    ·exact .inl h
    ·exact .inr (.inr h)
  ·rw[List.mem_cons]
theorem sY (x:Int):∀r,x∉r→r.Pairwise (fun a b=>b<a)→(k7 x r).Pairwise (fun a b=>b<a)
 | [],_,_=>List.pairwise_singleton _ _
 | y::r,hx,h=>by
  rw[List.pairwise_cons] at h;rw[List.mem_cons,not_or] at hx;rw[k7]
  split
  ·rename_i hlt
   rw[List.pairwise_cons];refine⟨fun v hv=>?_,sY x r hx.2 h.2⟩
   rcases (qr x v r).1 hv with rfl|hv
   ·exact hlt
   ·exact h.1 v hv
  ·rename_i hlt
   rw[List.pairwise_cons,List.pairwise_cons];refine⟨fun v hv=>?_,h.1,h.2⟩;have h1:=hx.1
   rcases List.mem_cons.1 hv with rfl|hv
   ·omega
   ·have:=h.1 v hv;omega
theorem yx (l r:List Int) (x:Int):(l++x::r).getD l.length 0=x:=by
 simp [List.getD_eq_getElem?_getD]
theorem Ak (x:Int):∀(r l2:List Int),mw r.length (r.reverse++x::l2)=(k7 x r).reverse++l2
 | [],l2=>by simp [mw,k7]
 | y::r,l2=>by
  have e:(y::r).reverse++x::l2=r.reverse++y::x::l2:=by simp
  have e2:r.reverse++y::x::l2=(r.reverse++[y])++x::l2:=by simp
  have hl:(r.reverse++[y]).length=r.length+1:=by simp
  have g1:((y::r).reverse++x::l2).getD (r.length+1) 0=x:=by
   rw[e,e2,←hl];exact yx _ _ _
  have g2:((y::r).reverse++x::l2).getD r.length 0=y:=by
   rw[e];have:=yx r.reverse (x::l2) y;rw[List.length_reverse] at this;exact this
  rw[List.length_cons,mw,g1,g2,k7]
  split
  ·have hs:swp ((y::r).reverse++x::l2) r.length=r.reverse++x::(y::l2):=by
    rw[swp,Ax,g1,g2,e];rw[List.set_append_right _ _ (by simp),List.set_append_right _ _ (by simp)]
    simp
   rw[hs,Ak x r (y::l2)];simp
  ·simp
def oX (r:List Int):List Int→List Int
 | []=>r
 | x::l=>oX (k7 x r) l
theorem Aj:∀(l r:List Int),qq l.length r.length (r.reverse++l)=(oX r l).reverse
 | [],r=>by simp [qq,oX]
 | x::l,r=>by
  rw[List.length_cons,qq,Ak];have:=Aj l (k7 x r);rw[yt] at this;rw[this,oX]
theorem yr (v:Int):∀(l r:List Int),v∈oX r l↔v∈r∨v∈l
 | [],r=>by simp [oX]
 | x::l,r=>by
  rw[oX,yr v l,qr,List.mem_cons]
  constructor
  ·rintro ((h|h)|h)
   ·exact .inr (.inl h)
   ·exact .inl h
   ·exact .inr (.inr h)
  ·rintro (h|h|h)
   ·exact .inl (.inr h)
   ·exact .inl (.inl h)
   ·exact .inr h
theorem sX:∀(l r:List Int),l.Nodup→(∀v∈l,v∉r)→r.Pairwise (fun a b=>b<a)→(oX r l).Pairwise (fun a b=>b<a)
 | [],r,_,_,h=>h
 | x::l,r,hn,hd,h=>by
  rw[List.nodup_cons] at hn;rw[oX];refine sX l _ hn.2 (fun v hv h2=>?_) (sY x r (hd x (List.mem_cons_self ..)) h)
  rcases (qr x v r).1 h2 with rfl|h3
  ·exact hn.1 hv
  ·exact hd v (List.mem_cons_of_mem _ hv) h3
theorem xJ (l:List Int):eD l=(oX [] l).reverse:=by
 cases l with
 | nil=>rfl
 | cons x l=>
  have:=Aj l [x];rw[eD,List.length_cons,Nat.add_sub_cancel];exact this
theorem BQ (l:List Int) (v:Int):v∈eD l↔v∈l:=by
 rw[xJ,List.mem_reverse,yr];simp
theorem xI {l:List Int} (h:l.Nodup):(eD l).Pairwise (· < ·):=by
 rw[xJ,List.pairwise_reverse];exact sX l [] h (fun v _ h=>by cases h) List.Pairwise.nil
theorem ui:∀(l l':List Int),l.Pairwise (· < ·)→l'.Pairwise (· < ·)→(∀v,v∈l↔v∈l')→l=l'
 | [],[],_,_,_=>rfl
 | [],y::_,_,_,h=>absurd ((h y).2 (List.mem_cons_self ..)) List.not_mem_nil
 | x::_,[],_,_,h=>absurd ((h x).1 (List.mem_cons_self ..)) List.not_mem_nil
 | x::l,y::l',h1,h2,h=>by
  rw[List.pairwise_cons] at h1 h2;have hxy:x=y:=by
   rcases List.mem_cons.1 ((h x).1 (List.mem_cons_self ..)) with e|hx
   ·exact e
   ·rcases List.mem_cons.1 ((h y).2 (List.mem_cons_self ..)) with e|hy
    ·exact e.symm
    ·have:=h1.1 y hy;have:=h2.1 x hx;omega
  subst hxy;rw[ui l l' h1.2 h2.2 fun v=>?_]
  constructor
  ·intro hv
   rcases List.mem_cons.1 ((h v).1 (List.mem_cons_of_mem _ hv)) with e|h3
   ·have:=h1.1 v hv;omega
   ·exact h3
  ·intro hv
   rcases List.mem_cons.1 ((h v).2 (List.mem_cons_of_mem _ hv)) with e|h3
   ·have:=h2.1 v hv;omega
   ·exact h3
theorem zI (m:Int):(ints m).Pairwise (· < ·):=by
 unfold ints;rw[List.pairwise_map];exact List.pairwise_lt_range.imp fun h=>by omega
theorem sT {n:Net} : ∀(r pre:List Lnk),cz n pre r=0→r.Pairwise (fun a b=>¬(a.fr=b.fr∧a.dst=b.dst))∧∀a∈pre,∀b∈r,¬(a.fr=b.fr∧a.dst=b.dst)
 | [],_,_=>⟨List.Pairwise.nil,fun _ _ _ h=>by cases h⟩
 | x::r,pre,h=>by
  rw[cz] at h
  split at h
  ·rename_i h1;exact absurd h h1
  ·rename_i h1
   obtain⟨h2,h3⟩:=sT r _ h;have h4:=(qn (Decidable.not_not.1 h1)).2;refine⟨List.pairwise_cons.2 ⟨fun b hb=>h3 x (by simp) b hb,h2⟩,fun a ha b hb=>?_⟩
   rcases List.mem_cons.1 hb with rfl|hb
   ·have:=List.any_eq_false.1 h4 a ha
    simpa [Lnk.like] using this
   ·exact h3 a (List.mem_append_left _ ha) b hb
theorem DQ {n:Net} (hc:aI n=0):n.links.Pairwise (fun a b=>¬(a.fr=b.fr∧a.dst=b.dst)):=by
 unfold aI at hc
 split at hc
 ·rename_i h1;exact absurd hc h1
 ·split at hc
  ·cases hc
  ·split at hc
   ·cases hc
   ·exact (sT _ _ hc).1
theorem uz {n:Net} (hn:bI n) (x y:Int):(n.links.any fun k=>decide (k.fr=x)&&decide (k.dst=y))=decide (0≤aM n x y):=by
 unfold aM
 cases h:n.links.find? fun l=>decide (l.fr=x)&&decide (l.dst=y) with
 | none=>
  rw[List.find?_eq_none] at h;rw[Option.map_none,Option.getD_none,decide_eq_false (by decide),List.any_eq_false]
  exact h
 | some l=>
  have h1:=List.mem_of_find?_eq_some h;have h2:=List.find?_some h;rw[Option.map_some,Option.getD_some,decide_eq_true (hn.lnk l h1).e0,List.any_eq_true];exact⟨l,h1,h2⟩
def qv (n:Net) (i:Int):List Int:=(n.links.filter fun k=>decide (k.dst=i)).map (·.fr)
theorem zM {n:Net} (hc:aI n=0) (i:Int):(qv n i).Nodup:=by
 unfold qv List.Nodup;rw[List.pairwise_map];have h:=(DQ hc).filter fun k=>decide (k.dst=i);refine List.Pairwise.imp_of_mem ?_ h;intro a b ha hb h e;exact h ⟨e,by have:=(List.mem_filter.1 ha).2;have h3:=(List.mem_filter.1 hb).2;simp at this h3;rw[this,h3]⟩
theorem Cr {n:Net} (hn:bI n) {i v:Int} : v∈qv n i↔v∈dj n i:=by
 rw[iB];have hL:=uz hn v i;unfold qv;simp only[List.mem_map,List.mem_filter,decide_eq_true_eq]
 constructor
 ·rintro ⟨k,⟨h1,h2⟩,rfl⟩;have h3:=hn.lnk k h1;have:(n.links.any fun l=>decide (l.fr=k.fr)&&decide (l.dst=i))=true:=List.any_eq_true.2 ⟨k,h1,by simp [h2]⟩
  rw[hL,decide_eq_true_eq] at this;exact⟨⟨h3.f0,h3.f1⟩,this⟩
 ·rintro ⟨_,h2⟩;rw[decide_eq_true h2,List.any_eq_true] at hL;obtain⟨k,h3,h4⟩:=hL;simp at h4;exact⟨k,⟨h3,h4.2⟩,h4.1⟩
theorem yv (n:Net) (i:Int):(dj n i).Pairwise (· < ·):=(zI _).filter _
theorem uj {n:Net} (hc:aI n=0) (i:Int):eD (qv n i)=dj n i:=
 ui _ _ (xI (zM hc i)) (yv n i) fun v=>by rw[BQ,Cr (aU hc)]
theorem DY {n:Net} (hc:aI n=0) (i:Int):(qv n i).length≤6:=by
 rw[←vP,uj hc];exact oq (aU hc) i
end Go.Proofs.YtephecognbbaoaaGreat
