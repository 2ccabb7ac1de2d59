/- Few numbers, sorted in place. -/
import Derived.Test.YtephecognbbaoaaGreatZSr
import Derived.Test.YtephecognbbaoaaGreatZSo
open Go
set_option linter.all false
set_option maxRecDepth 100000
set_option maxHeartbeats 4000000
namespace Go.Proofs.YtephecognbbaoaaGreat
open Go
set_option linter.all false
set_option maxRecDepth 100000
set_option maxHeartbeats 4000000
theorem yo (x:Int) (σ:aa):af Tryz.prog 175 [ab x] σ fun r' σ'=>σ'=σ∧r' = .c (.bool false):=by
 refine g_n Tryz.func175 rfl Tryz.results175 Tryz.ntmps175 ?_
 (repeat' (first|(refine g_s fun K hK=>?_)|((first|refine g_t ?_|refine g_g ?_);(try refine g_y ?_))|(refine hK _ _ ?_;clear hK K)|exact trivial|fail))
 all_goals simp
theorem EM:aw Tryz.prog 165=true:=by kernel_rfl
theorem EL:aw Tryz.prog 175=true:=by kernel_rfl
theorem Fc:aw Tryz.prog 148=true:=by kernel_rfl
theorem DH:aw Tryz.prog 169=true:=by kernel_rfl
attribute [go_sem] EM EL Fc DH
theorem A7 (a b:Int) (σ:aa):af Tryz.prog 165 [ab a,ab b] σ fun r' σ'=>σ'=σ∧r' = .c (.bool (decide (a<b))):=by
 have h:=yo;refine g_n Tryz.func165 rfl Tryz.results165 Tryz.ntmps165 ?_
 (repeat' (first|(refine g_s fun K hK=>?_)|((first|refine g_t ?_|refine g_g ?_|refine (h _ _).use ?_);(try refine g_y ?_))|(refine hK _ _ ?_;clear hK K)|exact trivial|fail))
theorem tI (l:List Int) {k:Nat} (h:k<l.length):(l.map au)[k]? = some [.c (.int .i64 (l.getD k 0))]:=by
 simp [List.getD_eq_getElem?_getD,h,au]
theorem uA (S:aa) (b c:Nat) (l:List Int) (hb:S[b]? = some (.cells 1 (l.map au))) (hl:l.length≤12) (hl1:1≤l.length) :
  af Tryz.prog 159 [.own b 1 0 l.length c,ab 0,ab l.length] S fun r S'=>S'=S.set b (.cells 1 ((eD l).map au))∧r = .tup []:=by
 have hlt:b<S.length:=(List.getElem?_eq_some_iff.1 hb).1;have hgS:∀o,(S.set b o)[b]? = some o:=fun o=>List.getElem?_set_self hlt;have hsS:∀o o',(S.set b o).set b o'=S.set b o':=fun o o'=>List.set_set ..;have hS0:S=S.set b (.cells 1 (l.map au)):=by
  obtain⟨h1,h2⟩:=List.getElem?_eq_some_iff.1 hb;rw[←h2,List.set_getElem_self]
 refine g_n Tryz.func159 rfl Tryz.results159 Tryz.ntmps159 ?_
 (repeat' (first|(refine g_s fun K hK=>?_)|(refine g_b ?_)|(refine g_g ?_;(try refine g_y ?_))|(refine hK _ _ ?_;clear hK K)|(with_reducible refine And.intro ?_ ?_;· exact g_x)|exact trivial|fail))
 refine b8 ((l.length:Int)-1) (fun k (st:List Int)=>st.length=l.length∧eD l=qq (l.length-1-k.toNat) (k.toNat+1) st) (fun k _ _=>[(6,ab (k+1))]) (fun _ st _=>S.set b (.cells 1 (st.map au))) l [] (by omega) ⟨rfl,rfl⟩ hS0.symm (ai ?_) ?_
 ·exact g_w
 ·rintro k st τ hk0 hk1 ⟨h3,h4⟩ L hL
  by_cases hk2:k<(l.length:Int)-1
  ·have ef:l.length-1-k.toNat=(l.length-1-(k+1).toNat)+1:=by omega
   have ek:(k+1).toNat=k.toNat+1:=by omega
   rw[ef,qq] at h4;have i1:I64 (k+1):=by unfold I64;omega
   have i2:I64 (k+1+1):=by unfold I64;omega
   simp -implicitDefEqProofs only[go_sem]
   (repeat' (first|(refine g_s fun K hK=>?_)|(refine g_b ?_)|(refine g_k ?_;simp only[ah,ae])|(refine g_C (fun h=>?_) (fun h=>?_)<;>(try exact g_f))|(refine g_g ?_;(try simp -implicitDefEqProofs only[go_sem,i1,i2]))|(refine hK _ _ ?_;clear hK K)|fail))
   have hJ2:=hK;clear hK;refine b8 (k+1) (fun q (s2:List Int)=>s2.length=l.length∧mw (k.toNat+1) st=mw (k.toNat+1-q.toNat) s2) (fun q _ _=>[(7,ab (k+1-q))]) (fun _ s2 _=>S.set b (.cells 1 (s2.map au))) st [] (by omega) ⟨h3,rfl⟩ rfl (ai ?_) ?_
   ·simp -implicitDefEqProofs only[go_sem];simp
   ·rintro q s2 τ2 hq0 hq1 ⟨h5,h6⟩ L2 hL2
    by_cases hq2:q<k+1
    ·obtain⟨j,hj⟩:∃j:Nat,k+1-q=(j:Int)+1:=⟨(k-q).toNat,by omega⟩
     have ej:k.toNat+1-q.toNat=j+1:=by omega
     have ej2:k.toNat+1-(q+1).toNat=j:=by omega
     have tj:((j:Int)+1).toNat=j+1:=by omega
     have hjl:j+1<s2.length:=by omega
     have e1:(j:Int)+1-1=j:=by omega
     have g1:=tI s2 (k:=j+1) hjl;have g2:=tI s2 (k:=j) (by omega)
     have g3:=tI (s2.set (j+1) (s2.getD j 0)) (k:=j) (by rw[List.length_set];omega)
     have hc:=A7 (s2.getD (j+1) 0) (s2.getD j 0);have j1:I64 (j:Int):=by unfold I64;omega
     have m1:∀v,(s2.map au).set (j+1) [.c (.int .i64 v)]=(s2.set (j+1) v).map au:=fun v=>iv s2 (j+1) v;have m2:∀v,((s2.set (j+1) (s2.getD j 0)).map au).set j [.c (.int .i64 v)]=(Ax s2 j v).map au:=fun v=>iv _ j v;have hins:mw (j+1) s2=if s2.getD (j+1) 0<s2.getD j 0 then mw j (swp s2 j) else s2:=rfl
     have hj':k+1-(q+1)=j:=by omega
     rw[ej,hins] at h6;simp -implicitDefEqProofs only[go_sem,hj]
     by_cases hlt2:s2.getD (j+1) 0<s2.getD j 0
     ·rw[if_pos hlt2] at h6;rw[decide_eq_true hlt2] at hc
      (repeat' (first|(refine g_s fun K hK=>?_)|(refine g_b ?_)|(refine g_k ?_;simp only[ah,ae])|(refine g_C (fun h=>?_) (fun h=>?_)<;>(try exact g_f))|((first|refine g_G ?_|refine oz a9 (by decide +kernel) ?_|refine g_q (fun τ=>hc _) ?_);(try simp -implicitDefEqProofs only[go_sem,hgS,hsS,g1,g2,g3,tj,e1,j1,m1,m2]))|(refine hK _ _ ?_;clear hK K)|(with_reducible refine ak (fun h=>?_) (fun h=>?_)<;>(try simp only[go_sem] at h)<;>(try exact g_f)<;>(try simp -implicitDefEqProofs only[go_sem,hgS,hsS,g1,g2,g3,tj,e1,j1,m1,m2]))|(with_reducible refine And.intro ?_ ?_;· exact g_x)|fail))
      refine hL2 (by omega) (swp s2 j) τ2 _ _ ⟨by rw[Ad];exact h5,by rw[h6,ej2]⟩ (ai ?_) rfl
      simp -implicitDefEqProofs only[go_sem,hj']
     ·rw[if_neg hlt2] at h6;rw[decide_eq_false hlt2] at hc
      (repeat' (first|(refine g_s fun K hK=>?_)|(refine g_e ?_;simp only[ah,ae,↓reduceIte,Nat.reduceEqDiff])|(refine g_C (fun h=>?_) (fun h=>?_)<;>(try exact g_f))|((first|refine g_U ?_|refine g_q (fun τ=>hc _) ?_);(try simp -implicitDefEqProofs only[go_sem,hgS,hsS,g1,g2,tj,e1,j1]))|(refine hK _ _ ?_;clear hK K)|(with_reducible refine ak (fun h=>?_) (fun h=>?_)<;>(try simp only[go_sem] at h)<;>(try exact g_f)<;>(try simp -implicitDefEqProofs only[go_sem,hgS,hsS,g1,g2,tj,e1,j1]))|(with_reducible refine And.intro ?_ ?_;· exact g_x)|fail))
      refine hJ2 _ _ ?_;clear hJ2
      (repeat' (first|(refine g_g ?_;(try simp -implicitDefEqProofs only[go_sem,i2]))|fail))
      refine hL hk2 s2 τ _ _ ⟨h5,by rw[h4,h6,ek]⟩ (ai ?_) rfl
      simp -implicitDefEqProofs only[go_sem]
    ·have hqk:q=k+1:=by omega
     have e0:k+1-q=0:=by omega
     have ej:k.toNat+1-q.toNat=0:=by omega
     have hins:mw 0 s2=s2:=rfl;rw[ej,hins] at h6;simp -implicitDefEqProofs only[go_sem,e0]
     (repeat' (first|(refine g_s fun K hK=>?_)|(refine g_e ?_;simp only[ah,ae,↓reduceIte,Nat.reduceEqDiff])|(refine g_C (fun h=>?_) (fun h=>?_)<;>(try exact g_f))|(refine g_U ?_;(try simp -implicitDefEqProofs only[go_sem,hgS]))|(refine hK _ _ ?_;clear hK K)|fail))
     refine hJ2 _ _ ?_;clear hJ2
     (repeat' (first|(refine g_g ?_;(try simp -implicitDefEqProofs only[go_sem,i2]))|fail))
     refine hL hk2 s2 τ _ _ ⟨h5,by rw[h4,h6,ek]⟩ (ai ?_) rfl
     simp -implicitDefEqProofs only[go_sem]
  ·have hkl:l.length-1-k.toNat=0:=by omega
   rw[hkl] at h4;have h4:eD l=st:=h4;simp -implicitDefEqProofs only[go_sem]
   (repeat' (first|(refine g_s fun K hK=>?_)|(refine g_e ?_;simp only[ah,ae,↓reduceIte,Nat.reduceEqDiff])|(refine g_C (fun h=>?_) (fun h=>?_)<;>(try exact g_f))|(refine g_g ?_;(try refine g_y ?_))|(refine hK _ _ ?_;clear hK K)|exact trivial|fail))
   rw[h4];exact⟨rfl,rfl⟩
theorem B7 (S:aa) (b c:Nat) (l:List Int) (v:Int) (hb:S[b]? = some (.cells 1 (l.map au))) (hl:l.length≤12) (hl1:1≤l.length) :
  af Tryz.prog 147 [.own b 1 0 l.length c,ab 0,ab l.length,ab v] S fun r S'=>S'=S.set b (.cells 1 ((eD l).map au))∧r = .tup []:=by
 have hI:=uA S b c l hb hl hl1;have i0:I64 ((l.length:Int)-0):=by unfold I64;omega
 have e0:(l.length:Int)-0=l.length:=Int.sub_zero _;refine g_n Tryz.func147 rfl Tryz.results147 Tryz.ntmps147 ?_
 (repeat' (first|(refine g_s fun K hK=>?_)|(refine g_b ?_)|(refine g_g ?_;(try refine g_y ?_))|(refine hK _ _ ?_;clear hK K)|exact trivial|fail))
 refine dx 1 ?_
 (repeat' (first|(refine g_s fun K hK=>?_)|(refine g_b ?_)|(refine g_C (fun h=>?_) (fun h=>?_)<;>(try exact g_f))|((first|refine g_t ?_|refine g_g ?_|refine af.useA (hI) ?_);(try simp -implicitDefEqProofs only[go_sem,i0,e0]))|(refine hK _ _ ?_;clear hK K)|(with_reducible refine And.intro ?_ ?_;· exact g_x)|fail))
theorem qa {α:Type} {x:Option α} {Q:α→Prop} (v:α) (h:x=some v) (hq:Q v):on x Q:=by rw[h];exact hq
theorem Bl (n:Int) (h:n=0∨n=1∨n=2∨n=3∨n=4∨n=5∨n=6) (σ:aa):af Tryz.prog 169 [.c (.int .u64 n)] σ fun r σ'=>σ'=σ∧r=ab (if n=0 then 0 else if n<2 then 1 else if n<4 then 2 else 3):=by
 rcases h with rfl|rfl|rfl|rfl|rfl|rfl|rfl
 all_goals refine g_n Tryz.func169 rfl Tryz.results169 Tryz.ntmps169 ?_
 all_goals (repeat' (first|(refine g_s fun K hK=>?_)|(refine g_k ?_;simp only[ah,ae])|(refine g_C (fun h=>?_) (fun h=>?_)<;>(try exact g_f))|(refine g_g ?_;(try refine g_y ?_))|(refine hK _ _ ?_;clear hK K)|exact trivial|fail))
 ·have u:((UInt8.toNat 0:Nat):Int)=0:=rfl;refine qa 0 (by kernel_rfl) ?_
  simp -implicitDefEqProofs only[go_sem,u]
  (repeat' (first|(refine g_t ?_;(try refine g_y ?_))|(refine hK _ _ ?_;clear hK K)|(with_reducible refine And.intro ?_ ?_;· exact g_x)|exact trivial|fail))
 ·have u:((UInt8.toNat 1:Nat):Int)=1:=rfl;refine qa 1 (by kernel_rfl) ?_
  simp -implicitDefEqProofs only[go_sem,u]
  (repeat' (first|(refine g_t ?_;(try refine g_y ?_))|(refine hK _ _ ?_;clear hK K)|(with_reducible refine And.intro ?_ ?_;· exact g_x)|exact trivial|fail))
 ·have u:((UInt8.toNat 2:Nat):Int)=2:=rfl;refine qa 2 (by kernel_rfl) ?_
  simp -implicitDefEqProofs only[go_sem,u]
  (repeat' (first|(refine g_t ?_;(try refine g_y ?_))|(refine hK _ _ ?_;clear hK K)|(with_reducible refine And.intro ?_ ?_;· exact g_x)|exact trivial|fail))
 ·have u:((UInt8.toNat 2:Nat):Int)=2:=rfl;refine qa 2 (by kernel_rfl) ?_
  simp -implicitDefEqProofs only[go_sem,u]
  (repeat' (first|(refine g_t ?_;(try refine g_y ?_))|(refine hK _ _ ?_;clear hK K)|(with_reducible refine And.intro ?_ ?_;· exact g_x)|exact trivial|fail))
 ·have u:((UInt8.toNat 3:Nat):Int)=3:=rfl;refine qa 3 (by kernel_rfl) ?_
  simp -implicitDefEqProofs only[go_sem,u]
  (repeat' (first|(refine g_t ?_;(try refine g_y ?_))|(refine hK _ _ ?_;clear hK K)|(with_reducible refine And.intro ?_ ?_;· exact g_x)|exact trivial|fail))
 ·have u:((UInt8.toNat 3:Nat):Int)=3:=rfl;refine qa 3 (by kernel_rfl) ?_
  simp -implicitDefEqProofs only[go_sem,u]
  (repeat' (first|(refine g_t ?_;(try refine g_y ?_))|(refine hK _ _ ?_;clear hK K)|(with_reducible refine And.intro ?_ ?_;· exact g_x)|exact trivial|fail))
 ·have u:((UInt8.toNat 3:Nat):Int)=3:=rfl;refine qa 3 (by kernel_rfl) ?_
  simp -implicitDefEqProofs only[go_sem,u]
  (repeat' (first|(refine g_t ?_;(try refine g_y ?_))|(refine hK _ _ ?_;clear hK K)|(with_reducible refine And.intro ?_ ?_;· exact g_x)|exact trivial|fail))
theorem C6 {rd:Option Nat} {P:Program} {N:Nat} {x y:Code} {Q:bV} {α:AF} {σ:aa} (h:aK rd P N y Q α σ):aK rd P N (.cond (.const (.bool false)) x y) Q α σ:=by
 intro K imm m w a hs hf;exact wpIn_cond_split (t:=false) rfl (fun h=>by cases h) (fun _=>h K imm m w a hs hf)
theorem te (n:Int) (h:n=0∨n=1∨n=2∨n=3∨n=4∨n=5∨n=6) (σ:aa):af Tryz.prog 148 [.c (.int .u64 n)] σ fun r σ'=>σ'=σ∧r=ab (if n=0 then 0 else if n<2 then 1 else if n<4 then 2 else 3):=by
 have hB:=Bl n h;have w:IntKind.u64.wrap n=n:=by rcases h with rfl|rfl|rfl|rfl|rfl|rfl|rfl<;>rfl
 refine g_n Tryz.func148 rfl Tryz.results148 Tryz.ntmps148 ?_
 (repeat' (first|(refine g_s fun K hK=>?_)|(refine g_g ?_;(try simp -implicitDefEqProofs only[go_sem,w]))|(refine hK _ _ ?_;clear hK K)|fail))
 refine C6 ?_
 (repeat' (first|(refine g_s fun K hK=>?_)|(refine g_k ?_;simp only[ah,ae])|((first|refine g_t ?_|refine g_g ?_|refine (hB _).use ?_);(try simp -implicitDefEqProofs only[go_sem,w]))|(refine hK _ _ ?_;clear hK K)|fail))
theorem AB (S:aa) (b c:Nat) (l:List Int) (hb:S[b]? = some (.cells 1 (l.map au))) (hl:l.length≤6) (hl1:1≤l.length) :
  af Tryz.prog 121 [.own b 1 0 l.length c] S fun r S'=>S'=S.set b (.cells 1 ((eD l).map au))∧r = .tup []:=by
 have hB:=te (l.length:Int) (by omega)
 have hP:=fun v=>B7 S b c l v hb (by omega) hl1
 have w:IntKind.u64.wrap (l.length:Int)=l.length:=by
  have:l.length=1∨l.length=2∨l.length=3∨l.length=4∨l.length=5∨l.length=6:=by omega
  rcases this with h|h|h|h|h|h<;>rw[h]<;>rfl
 refine g_n Tryz.func121 rfl Tryz.results121 Tryz.ntmps121 ?_
 (repeat' (first|(refine g_s fun K hK=>?_)|((first|refine g_g ?_|refine (hB _).use ?_|refine af.useA (hP _) ?_);(try simp -implicitDefEqProofs only[go_sem,w]))|(refine hK _ _ ?_;clear hK K)|fail))
theorem tH (S:aa):af Tryz.prog 159 [.c (.slice none 0 0),ab 0,ab 0] S fun r S'=>S'=S∧r = .tup []:=by
 refine g_n Tryz.func159 rfl Tryz.results159 Tryz.ntmps159 ?_
 (repeat' (first|(refine g_s fun K hK=>?_)|(refine g_b ?_)|(refine g_g ?_;(try refine g_y ?_))|(refine hK _ _ ?_;clear hK K)|(with_reducible refine And.intro ?_ ?_;· exact g_x)|exact trivial|fail))
 refine dx 1 ?_
 (repeat' (first|(refine g_s fun K hK=>?_)|(refine g_e ?_;simp only[ah,ae,↓reduceIte,Nat.reduceEqDiff])|(refine g_C (fun h=>?_) (fun h=>?_)<;>(try exact g_f))|(refine g_g ?_;(try refine g_y ?_))|(refine hK _ _ ?_;clear hK K)|exact trivial|fail))
 exact⟨rfl,rfl⟩
theorem AQ (S:aa) (v:Int):af Tryz.prog 147 [.c (.slice none 0 0),ab 0,ab 0,ab v] S fun r S'=>S'=S∧r = .tup []:=by
 have hI:=tH;refine g_n Tryz.func147 rfl Tryz.results147 Tryz.ntmps147 ?_
 (repeat' (first|(refine g_s fun K hK=>?_)|(refine g_b ?_)|(refine g_g ?_;(try refine g_y ?_))|(refine hK _ _ ?_;clear hK K)|exact trivial|fail))
 refine dx 1 ?_
 (repeat' (first|(refine g_s fun K hK=>?_)|(refine g_b ?_)|(refine g_C (fun h=>?_) (fun h=>?_)<;>(try exact g_f))|((first|refine g_t ?_|refine g_g ?_|refine (hI _).use ?_);(try refine g_y ?_))|(refine hK _ _ ?_;clear hK K)|(with_reducible refine And.intro ?_ ?_;· exact g_x)|exact trivial|fail))
theorem zn (S:aa):af Tryz.prog 121 [.c (.slice none 0 0)] S fun r S'=>S'=S∧r = .tup []:=by
 have hB:=te 0 (by omega)
 have hP:=AQ;have w:IntKind.u64.wrap 0=0:=rfl;refine g_n Tryz.func121 rfl Tryz.results121 Tryz.ntmps121 ?_
 (repeat' (first|(refine g_s fun K hK=>?_)|((first|refine g_g ?_|refine (hB _).use ?_|refine (hP _ _).use ?_);(try simp -implicitDefEqProofs only[go_sem,w]))|(refine hK _ _ ?_;clear hK K)|fail))
end Go.Proofs.YtephecognbbaoaaGreat
namespace Go.Proofs.YtephecognbbaoaaGreat
theorem eQ {X:Type} [Inhabited X] (f:X→List AV) (l:List X) {k:Int} (h0:0≤k) (h:k<l.length):(l.map f)[k.toNat]? = some (f (at0 l k)):=by
 have:k.toNat<l.length:=by omega
 simp [at0,List.getD_eq_getElem?_getD,this]
theorem wL (k:Lnk) (x y:Int) (σ:aa):af Tryz.prog 144 [.agg (df k),.cp [ab x] 0,.cp [ab y] 0] σ fun r σ'=>σ'=σ∧r = .c (.bool (decide (k.fr=x)&&decide (k.dst=y))):=by
 refine af.cutX ?_;refine g_n Tryz.func144 rfl Tryz.results144 Tryz.ntmps144 ?_;refine g_s fun K hK=>?_;refine g_h ?_;refine hK _ _ ?_;clear hK K;refine g_0 3 rfl ?_
 (repeat' (first|(refine g_s fun K hK=>?_)|((first|refine g_t ?_|refine g_g ?_);(try refine g_y ?_))|(refine hK _ _ ?_;clear hK K)|(with_reducible refine ak (fun h=>?_) (fun h=>?_)<;>(try simp only[go_sem] at h)<;>(try exact g_f)<;>(try refine g_y ?_))|exact trivial|fail))
 all_goals (refine ax rfl ?_;simp [*];try rfl)
theorem wN (l:List Lnk) (p:Lnk→Bool) (f:FuncId) (first cap:List AV) (σ:aa) (hl:l.length≤1000000000000000000) (hok:aw Tryz.prog f=true)
  (hf:∀x∈l,∀S,af Tryz.prog f (first++.agg (df x)::cap) S fun r σ'=>σ'=S∧r = .c (.bool (p x))) :
  af Tryz.prog 158 [.sl (l.map df),.fn f first cap] σ fun r σ'=>σ'=σ∧r=ab (bU p 0 l):=by
 refine g_n Tryz.func158 rfl Tryz.results158 Tryz.ntmps158 ?_
 (repeat' (first|(refine g_s fun K hK=>?_)|(refine g_b ?_)|(refine g_g ?_;(try refine g_y ?_))|(refine hK _ _ ?_;clear hK K)|exact trivial|fail))
 refine ay l (fun k r _=>bU p 0 l=bU p k r) (fun k _ _=>[(8,ab k)]) (fun _ _ _=>σ) () [] rfl rfl (ai ?_) ?_ ?_
 ·exact g_w
 ·rintro k r s τ hk0 hk1 h1 L hL;obtain⟨u,hu⟩:∃u,at0 l k=u:=⟨_,rfl⟩;have hm:=aA l hk0 hk1;rw[hu] at h1 hm;have hc:=hf _ hm;simp -implicitDefEqProofs only[go_sem]
  (repeat' (first|(refine g_s fun K hK=>?_)|(refine g_b ?_)|(refine g_k ?_;simp only[ah,ae])|(refine g_C (fun h=>?_) (fun h=>?_)<;>(try exact g_f))|((first|refine g_t ?_|refine g_g ?_|refine (hc _).use ?_);(try simp -implicitDefEqProofs only[go_sem,hu]))|(refine hK _ _ ?_;clear hK K)|(with_reducible refine And.intro ?_ ?_;· exact g_x)|fail))
  ·rw[h1,bU,if_pos (by assumption)]
  ·refine hL () [] _ _ ?_ (ai ?_) rfl
   ·rw[h1,bU,if_neg (by simp [*])]
   ·exact g_w
 ·intro k s τ hk h1 L;simp -implicitDefEqProofs only[go_sem]
  (repeat' (first|(refine g_s fun K hK=>?_)|(refine g_e ?_;simp only[ah,ae,↓reduceIte,Nat.reduceEqDiff])|(refine g_C (fun h=>?_) (fun h=>?_)<;>(try exact g_f))|((first|refine g_t ?_|refine g_g ?_);(try refine g_y ?_))|(refine hK _ _ ?_;clear hK K)|(clear hK K;first|(refine hK _ _ ?_;clear hK K)|(clear hK K;with_reducible refine hK _ _ ?_;clear hK K)|(clear hK K;clear hK K;with_reducible refine hK _ _ ?_;clear hK K))|exact trivial|fail))
  rw[h1,bU]
theorem tO (l:List Lnk) (p:Lnk→Bool) (f:FuncId) (first cap:List AV) (σ:aa) (hl:l.length≤1000000000000000000) (hok:aw Tryz.prog f=true)
  (hf:∀x∈l,∀S,af Tryz.prog f (first++.agg (df x)::cap) S fun r σ'=>σ'=S∧r = .c (.bool (p x))) :
  af Tryz.prog 143 [.sl (l.map df),.fn f first cap] σ fun r σ'=>σ'=σ∧r = .c (.bool (l.any p)):=by
 have hc:=wN l p f first cap σ hl hok hf
 refine g_n Tryz.func143 rfl Tryz.results143 Tryz.ntmps143 ?_
 (repeat' (first|(refine g_s fun K hK=>?_)|((first|refine g_t ?_|refine g_g ?_|refine (hc).use ?_);(try refine g_y ?_))|(refine hK _ _ ?_;clear hK K)|exact trivial|fail))
 rw[←iE p l 0 (Int.le_refl _)]
theorem rN (n:Net) (hn:bI n) (x y:Int) (S:aa) (b:Nat) (rv gv:AV) (hl:n.links.length≤1000000000000000000) (hb:S[b]? = some (.cells 7 [aH n++[rv,gv]])) :
  af Tryz.prog 119 [.ptr b 7 0 0,ab x,ab y] S fun r σ'=>σ'=S∧r = .c (.bool (decide (0≤aM n x y))):=by
 have hbL:∀τ,(S++τ)[b]? = some (.cells 7 [aH n++[rv,gv]]):=fun τ=>by rw[List.getElem?_append_left (List.getElem?_eq_some_iff.1 hb).1];exact hb
 have hC:=fun S=>tO n.links (fun k=>decide (k.fr=x)&&decide (k.dst=y)) 144 [] [.cp [ab x] 0,.cp [ab y] 0] S hl (by kernel_rfl) (fun k _ S=>wL k x y S)
 rw[uz hn x y] at hC;refine af.cutX ?_;refine g_n Tryz.func119 rfl Tryz.results119 Tryz.ntmps119 ?_;refine g_s fun K hK=>?_;refine g_h ?_;refine hK _ _ ?_;clear hK K;refine g_0 4 rfl ?_;refine g_0 5 rfl ?_
 (repeat' (first|(refine g_s fun K hK=>?_)|((first|refine g_t ?_|refine g_g ?_|refine (hC _).use ?_);(try simp -implicitDefEqProofs only[go_sem,hbL]))|(refine hK _ _ ?_;clear hK K)|fail))
 exact ax rfl rfl
theorem zK (n:Net) (i:Int) (S:aa) (b:Nat) (rv gv:AV) (hc:aI n=0) (hl:n.links.length≤5864062014634) (hb:S[b]? = some (.cells 7 [aH n++[rv,gv]])) :
  af Tryz.prog 89 [.ptr b 7 0 0,ab i] S fun r σ'=>σ'=S∧r=aF (dj n i):=by
 have hbL:∀τ,(S++τ)[b]? = some (.cells 7 [aH n++[rv,gv]]):=fun τ=>by rw[List.getElem?_append_left (List.getElem?_eq_some_iff.1 hb).1];exact hb
 obtain⟨Z,hZ⟩:∃Z,qv n i=Z:=⟨_,rfl⟩;have hZl:Z.length≤6:=by rw[←hZ];exact DY hc i
 have hZs:eD Z=dj n i:=by rw[←hZ];exact uj hc i
 refine af.cutX ?_;refine g_n Tryz.func89 rfl Tryz.results89 Tryz.ntmps89 ?_
 (repeat' (first|(refine g_s fun K hK=>?_)|(refine g_b ?_)|(refine g_g ?_;(try simp -implicitDefEqProofs only[go_sem,hb]))|(refine hK _ _ ?_;clear hK K)|fail))
 refine bn ?_;have hJ:=hK;clear hK;refine ay n.links (fun _ r (s:List Int×aa)=>s.1++(r.filter fun k=>decide (k.dst=i)).map (·.fr)=Z) (fun k s τ=>[(14,ab k),(5,aq 1 (S.length+τ.length) s.1)]) (fun _ s τ=>S++(τ++(ap au 1 s.1::s.2))) ([],[]) [] hZ ?_ (ai ?_) ?_ ?_
 ·simp [ap]
 ·simp -implicitDefEqProofs only[go_sem,aq,ap]
 ·rintro k r ⟨acc,ζ⟩ τ hk0 hk1 h3 L hL;obtain⟨w,hw⟩:∃w,at0 n.links k=w:=⟨_,rfl⟩;rw[hw] at h3;simp only at h3;have hal:acc.length≤6:=by have:=congrArg List.length h3;rw[List.length_append] at this;omega
  by_cases he:w.dst=i
  ·rw[List.filter_cons_of_pos (by simpa using he),List.map_cons] at h3
   have hal:acc.length+1≤6:=by have:=congrArg List.length h3;rw[List.length_append,List.length_cons] at this;omega
   rcases acc with _|⟨y,acc⟩<;>simp only[List.length_cons,List.length_nil] at hal<;>simp -implicitDefEqProofs only[go_sem,aq,ap]
   all_goals (repeat' (first|(refine g_s fun K hK=>?_)|(refine g_b ?_)|(refine g_k ?_;simp only[ah,ae])|(refine g_C (fun h=>?_) (fun h=>?_)<;>(try exact g_f))|(refine g_G ?_;(try simp -implicitDefEqProofs only[go_sem,hw,he]))|(refine hK _ _ ?_;clear hK K)|(with_reducible refine And.intro ?_ ?_;· exact g_x)|fail))
   ·refine hL ([w.fr],[]) (τ++(.dead::(ζ++[.cells 3 [df w]]))) _ _ (by simpa using h3) (ai ?_) ?_
    ·simp -implicitDefEqProofs only[go_sem,aq]
    ·simp [ap,au,df,ab,he]
   ·refine hL (y::acc++[w.fr],[]) (τ++(.dead::(ζ++[.cells 3 [df w]]))) _ _ (by simpa using h3) (ai ?_) ?_
    ·simp -implicitDefEqProofs only[go_sem,aq]
    ·simp [ap,au,df,ab,he]
  ·rw[List.filter_cons_of_neg (by simpa using he)] at h3
   rcases acc with _|⟨y,acc⟩<;>simp -implicitDefEqProofs only[go_sem,aq,ap]
   all_goals (repeat' (first|(refine g_s fun K hK=>?_)|(refine g_b ?_)|(refine g_k ?_;simp only[ah,ae])|(refine g_C (fun h=>?_) (fun h=>?_)<;>(try exact g_f))|(refine g_g ?_;(try simp -implicitDefEqProofs only[go_sem,hw,he]))|(refine hK _ _ ?_;clear hK K)|(with_reducible refine And.intro ?_ ?_;· exact g_x)|fail))
   ·refine hL ([],ζ++[.cells 3 [df w]]) τ _ _ (by simpa using h3) (ai ?_) ?_
    ·simp -implicitDefEqProofs only[go_sem,aq]
    ·simp [ap,au,df,ab,he]
   ·refine hL (y::acc,ζ++[.cells 3 [df w]]) τ _ _ (by simpa using h3) (ai ?_) ?_
    ·simp -implicitDefEqProofs only[go_sem,aq]
    ·simp [ap,au,df,ab,he]
 ·rintro k ⟨acc,ζ⟩ τ hk h3 L;simp only[List.filter_nil,List.map_nil,List.append_nil] at h3;subst h3
  rcases acc with _|⟨y,acc⟩<;>simp -implicitDefEqProofs only[go_sem,aq,ap]
  ·(repeat' (first|(refine g_s fun K hK=>?_)|(refine g_e ?_;simp only[ah,ae,↓reduceIte,Nat.reduceEqDiff])|(refine g_C (fun h=>?_) (fun h=>?_)<;>(try exact g_f))|(refine g_g ?_;(try refine g_y ?_))|(refine hK _ _ ?_;clear hK K)|exact trivial|fail))
   refine hJ _ _ ?_;clear hJ
   (repeat' (first|(refine g_s fun K hK=>?_)|((first|refine g_t ?_|refine g_g ?_|refine (zn _).use ?_);(try refine g_y ?_))|(refine hK _ _ ?_;clear hK K)|exact trivial|fail))
   refine bM (τ:=τ++(.dead::ζ)) rfl (.c _) ?_;rw[←hZs];exact .nil
  ·(repeat' (first|(refine g_s fun K hK=>?_)|(refine g_e ?_;simp only[ah,ae,↓reduceIte,Nat.reduceEqDiff])|(refine g_C (fun h=>?_) (fun h=>?_)<;>(try exact g_f))|(refine g_g ?_;(try refine g_y ?_))|(refine hK _ _ ?_;clear hK K)|exact trivial|fail))
   refine hJ _ _ ?_;clear hJ;have hg:(S++(τ++(.cells 1 ((y::acc).map au)::ζ)))[S.length+τ.length]? = some (.cells 1 ((y::acc).map au)):=by
    simp -implicitDefEqProofs only[go_sem]
   have hsl:(eD (y::acc)).length=acc.length+1:=vP _
   (repeat' (first|(refine g_s fun K hK=>?_)|((first|refine g_g ?_|refine af.useA (AB _ (S.length+τ.length) (acc.length+1) (y::acc) hg hZl (by simp)) ?_);(try refine g_y ?_))|(refine hK _ _ ?_;clear hK K)|exact trivial|fail))
   have hel:bO (S++(τ++(.cells 1 ((eD (y::acc)).map au)::ζ))) (.own (S.length+τ.length) 1 0 (acc.length+1) (acc.length+1))=some ((eD (y::acc)).map au):=by
    simp [bO,hsl,List.take_of_length_le]
   refine fu 4 (a:=.own (S.length+τ.length) 1 0 (acc.length+1) (acc.length+1)) (es:=(eD (y::acc)).map au) (by first|rfl|(simp -implicitDefEqProofs only[go_sem];done)|(simp -implicitDefEqProofs only[go_sem];rfl)) hel ?_
   have hkil:ey (S++(τ++Ob.cells 1 ((eD (y::acc)).map au)::ζ)) (.own (S.length+τ.length) 1 0 (acc.length+1) (acc.length+1))=S++(τ++.dead::ζ):=by simp [ey]
   rw[hkil]
   (repeat' (first|(refine g_t ?_;(try refine g_y ?_))|exact trivial|fail))
   rw[hZs];exact bM rfl (Bd.ints _) (.eq rfl)
end Go.Proofs.YtephecognbbaoaaGreat
namespace Go.Proofs.YtephecognbbaoaaGreat
def bX (ρ S:aa):Prop:=∃T,S=ρ++T
theorem bX.app {ρ S τ:aa} (h:bX ρ S):bX ρ (S++τ):=by
 obtain⟨T,rfl⟩:=h;exact⟨T++τ,List.append_assoc ..⟩
theorem bX.set {ρ S:aa} {x:Nat} {o:Ob} (h:bX ρ S) (hx:ρ.length≤x):bX ρ (S.set x o):=by
 obtain⟨T,rfl⟩:=h;exact⟨T.set (x-ρ.length) o,List.set_append_right _ _ hx⟩
theorem bX.len {ρ S:aa} (h:bX ρ S):ρ.length≤S.length:=by
 obtain⟨T,rfl⟩:=h;simp
theorem az {S τ:aa} {x:Nat} {o:Ob} (h:S[x]? = some o):(S++τ)[x]? = some o:=by
 rw[List.getElem?_append_left (List.getElem?_eq_some_iff.1 h).1];exact h
theorem aT {S:aa} {x y:Nat} {o o':Ob} (h:S[x]? = some o) (hne:y≠x):(S.set y o')[x]? = some o:=by
 rw[List.getElem?_set_ne hne];exact h
theorem bt {S τ:aa} {x:Nat} {o o':Ob} (h:S[x]? = some o):(S++τ).set x o'=S.set x o'++τ:=
 List.set_append_left _ _ (List.getElem?_eq_some_iff.1 h).1
theorem bJ {S:aa} {x:Nat} {o o':Ob} (h:S[x]? = some o):(S.set x o')[x]? = some o':=
 List.getElem?_set_self (List.getElem?_eq_some_iff.1 h).1
theorem pM {X Y Z:Type} (f:X→Y→Z):∀(i:Nat) (x:X) (y:Y) (l:List X) (l':List Y),List.zipWith f (l.set i x) (l'.set i y)=(List.zipWith f l l').set i (f x y)
 | _,_,_,[],_=>by simp
 | _,_,_,_::_,[]=>by simp
 | 0,_,_,_::_,_::_=>rfl
 | i+1,x,y,_::l,_::l'=>by simp [pM f i x y l l']
theorem om {X:Type} : ∀ {l:List X},l.Nodup→∀(i j:Nat) (hi:i<l.length) (hj:j<l.length),l[i]=l[j]→i=j
 | [],_,i,_,hi,_,_=>absurd hi (Nat.not_lt_zero i)
 | x::l,h,0,0,_,_,_=>rfl
 | x::l,h,0,j+1,hi,hj,e=>absurd ((show x=l[j]'(Nat.lt_of_succ_lt_succ hj) from e).symm▸List.getElem_mem (Nat.lt_of_succ_lt_succ hj):x∈l) (List.nodup_cons.1 h).1
 | x::l,h,i+1,0,hi,hj,e=>absurd ((show l[i]'(Nat.lt_of_succ_lt_succ hi)=x from e)▸List.getElem_mem (Nat.lt_of_succ_lt_succ hi):x∈l) (List.nodup_cons.1 h).1
 | x::l,h,i+1,j+1,hi,hj,e=>by
  rw[om (List.nodup_cons.1 h).2 i j (Nat.lt_of_succ_lt_succ hi) (Nat.lt_of_succ_lt_succ hj) e]
theorem BI:bY Tryz.prog 153=some [.c (.pointer none)]:=by kernel_rfl
attribute [go_sem] Tryz.underlying153 BI
section
variable {S:aa} {lo b:Nat} {n:Net} {e:Eng} {rb:Nat} {tb:List Nat} {gv:AV} {gi:List Nat}
theorem eJ.app {bag:List bg} {τ:aa} (h:eJ S gv bag gi):eJ (S++τ) gv bag gi:=by
 rcases h with ⟨h1,h2,h3⟩|⟨gb,rest,h1,h2,h3,h4,h5⟩
 ·exact .inl ⟨h1,h2,h3⟩
 ·exact .inr ⟨gb,rest,h1,h2,az h3,h4,h5⟩
theorem eJ.set {bag:List bg} {x:Nat} {o:Ob} (h:eJ S gv bag gi) (hx:x∉gi):eJ (S.set x o) gv bag gi:=by
 rcases h with ⟨h1,h2,h3⟩|⟨gb,rest,h1,h2,h3,h4,h5⟩
 ·exact .inl ⟨h1,h2,h3⟩
 ·exact .inr ⟨gb,rest,h1,h2,aT h3 (fun e=>hx (by rw[h1,e];simp)),h4,h5⟩
theorem bC.app {τ:aa} (h:bC S lo b n e rb tb gv gi):bC (S++τ) lo b n e rb tb gv gi:=
 ⟨az h.hb,az h.hrb,h.tl,fun i h1 h2=>az (h.ht i h1 h2),h.bag.app,h.nd,h.lo⟩
theorem bC.ne (h:bC S lo b n e rb tb gv gi):b≠rb∧b∉tb∧b∉gi∧rb∉tb∧rb∉gi∧tb.Nodup∧gi.Nodup∧∀x∈tb,x∉gi:=by
 have:=h.nd;rw[List.nodup_cons,List.nodup_cons,List.nodup_append] at this;simp only[List.mem_cons,List.mem_append,not_or] at this;obtain⟨⟨h1,h2,h3⟩,⟨h4,h5⟩,h6,h7,h8⟩:=this;exact⟨h1,h2,h3,h4,h5,h6,h7,fun x hx hg=>h8 x hx x hg rfl⟩
theorem bC.row (h:bC S lo b n e rb tb gv gi) {i:Int} (h0:0≤i) (h1:i<e.routers.length):∃t,tb[i.toNat]? = some t∧t∈tb∧(List.zipWith kX e.routers tb)[i.toNat]? = some (kX (at0 e.routers i) t)∧S[t]? = some (.cells 1 ((at0 e.routers i).told.map aE)):=by
 have hi:i.toNat<e.routers.length:=by omega
 have hi2:i.toNat<tb.length:=by rw[h.tl];exact hi
 have e1:at0 e.routers i=e.routers[i.toNat]:=by simp [at0,List.getD_eq_getElem?_getD,hi]
 refine⟨tb[i.toNat],List.getElem?_eq_getElem hi2,List.getElem_mem hi2,?_,?_⟩
 ·rw[List.getElem?_zipWith,List.getElem?_eq_getElem hi,List.getElem?_eq_getElem hi2,e1]
 ·rw[e1];exact h.ht _ hi2 hi
theorem bC.routes (h:bC S lo b n e rb tb gv gi) {i:Int} {t:Nat} (h0:0≤i) (h1:i<e.routers.length) (ht:tb[i.toNat]? = some t) (r':Rtr) (hr:r'.told=(at0 e.routers i).told) :
  bC (S.set rb (.cells 2 ((List.zipWith kX e.routers tb).set i.toNat (kX r' t)))) lo b n (aR e i r') rb tb gv gi:=by
 obtain⟨n1,n2,n3,n4,n5,n6,n7,n8⟩:=h.ne;have hi:i.toNat<e.routers.length:=by omega
 have hi2:i.toNat<tb.length:=by rw[h.tl];exact hi
 have e1:at0 e.routers i=e.routers[i.toNat]:=by simp [at0,List.getD_eq_getElem?_getD,hi]
 refine⟨?_,?_,?_,fun k h2 h3=>?_,h.bag.set n5,h.nd,h.lo⟩
 ·rw[aR,List.length_set];exact aT h.hb n1.symm
 ·rw[bJ h.hrb,aR]
  congr 2
  have:tb=tb.set i.toNat t:=by
   have:=(List.getElem?_eq_some_iff.1 ht).2;rw[←this,List.set_getElem_self]
  conv=>rhs;rw[this]
  exact (pM kX i.toNat r' t e.routers tb).symm
 ·rw[aR,List.length_set];exact h.tl
 ·have h3':k<e.routers.length:=by simpa [aR] using h3
  have:=h.ht k h2 h3';have e2:(aR e i r').routers[k].told=e.routers[k].told:=by
   simp only[aR,List.getElem_set]
   split
   ·rename_i e;subst e;rw[hr,e1]
   ·rfl
  rw[e2];exact aT this (fun e=>n4 (by rw[e];exact List.getElem_mem h2))
theorem bC.told (h:bC S lo b n e rb tb gv gi) {i:Int} {t:Nat} (h0:0≤i) (h1:i<e.routers.length) (ht:tb[i.toNat]? = some t) (told:List (List Int)) (hl:told.length=(at0 e.routers i).told.length) :
  bC (S.set t (.cells 1 (told.map aE))) lo b n (aR e i ⟨(at0 e.routers i).routes,told⟩) rb tb gv gi:=by
 obtain⟨n1,n2,n3,n4,n5,n6,n7,n8⟩:=h.ne;have hi:i.toNat<e.routers.length:=by omega
 have hi2:i.toNat<tb.length:=by rw[h.tl];exact hi
 have htm:t∈tb:=List.mem_of_getElem? ht;have e1:at0 e.routers i=e.routers[i.toNat]:=by simp [at0,List.getD_eq_getElem?_getD,hi]
 refine⟨?_,?_,?_,fun k h2 h3=>?_,h.bag.set (n8 t htm),h.nd,h.lo⟩
 ·rw[aR,List.length_set];exact aT h.hb (fun e=>n2 (e▸htm))
 ·rw[aT h.hrb (fun e=>n4 (e▸htm)),aR]
  congr 2
  have:tb=tb.set i.toNat t:=by
   have:=(List.getElem?_eq_some_iff.1 ht).2;rw[←this,List.set_getElem_self]
  conv=>rhs;rw[this]
  rw[pM];refine (List.ext_getElem? fun k=>?_).symm;rw[List.getElem?_set]
  split
  ·rename_i hk
   subst hk;obtain⟨t',h5,_,h6,_⟩:=h.row h0 h1;rw[ht] at h5
   cases h5
   rw[h6]
   split
   ·rw[kX,kX,hl]
   ·rename_i h7
    rw[List.length_zipWith] at h7;omega
  ·rfl
 ·rw[aR,List.length_set];exact h.tl
 ·have h3':k<e.routers.length:=by simpa [aR] using h3
  have:=h.ht k h2 h3'
  by_cases hk:i.toNat=k
  ·subst hk;have e2:(aR e i ⟨(at0 e.routers i).routes,told⟩).routers[i.toNat].told=told:=by simp [aR]
   have e3:tb[i.toNat]=t:=(List.getElem?_eq_some_iff.1 ht).2;rw[e2,e3];rw[e3] at this;exact bJ this
  ·have e2:(aR e i ⟨(at0 e.routers i).routes,told⟩).routers[k].told=e.routers[k].told:=by
    simp only[aR,List.getElem_set];rw[if_neg hk]
   rw[e2];refine aT this fun e=>hk ?_;have h4:=(List.getElem?_eq_some_iff.1 ht).2;rw[←h4] at e;exact om n6 _ _ _ _ e
theorem bC.bagged (h:bC S lo b n e rb tb gv gi) {gv':AV} {gi':List Nat} {bag:List bg} {S':aa} (hb:S'[b]? = some (.cells 7 [aH n++[.own rb 2 0 e.routers.length e.routers.length,gv']]))
  (hs:∀x∈rb::tb,S'[x]? = S[x]?) (hbag:eJ S' gv' bag gi') (hn:gi'.Nodup) (hg:∀x∈gi',x∉b::rb::tb∧lo≤x):bC S' lo b n ⟨e.routers,bag⟩ rb tb gv' gi':=by
 obtain⟨n1,n2,n3,n4,n5,n6,n7,n8⟩:=h.ne;refine⟨hb,?_,h.tl,fun k h2 h3=>?_,hbag,?_,?_⟩
 ·rw[hs rb (by simp)]
  exact h.hrb
 ·rw[hs _ (List.mem_cons_of_mem _ (List.getElem_mem h2))];exact h.ht k h2 h3
 ·rw[List.nodup_cons,List.nodup_cons,List.nodup_append];simp only[List.mem_cons,List.mem_append,not_or];have hg':∀x∈gi',x≠b∧x≠rb∧x∉tb:=fun x hx=>by
   have:=(hg x hx).1
   simpa [not_or] using this
  exact⟨⟨n1,n2,fun hc=>(hg' b hc).1 rfl⟩,⟨n4,fun hc=>(hg' rb hc).2.1 rfl⟩,n6,hn,fun x hx y hy e=>(hg' y hy).2.2 (e▸hx)⟩
 ·intro x hx;simp only[List.mem_cons,List.mem_append] at hx
  rcases hx with rfl|rfl|hx|hx
  ·exact h.lo _ (by simp)
  ·exact h.lo _ (by simp)
  ·exact h.lo _ (by simp [hx])
  ·exact (hg x hx).2
end
def Bv (ρ S:aa) (b:Nat) (n:Net) (e:Eng):Prop:=bX ρ S∧Mach S ρ.length b n e
end Go.Proofs.YtephecognbbaoaaGreat
namespace Go.Proofs.YtephecognbbaoaaGreat
theorem eJ.len {S:aa} {gv:AV} {bag:List bg} {gi:List Nat} (h:eJ S gv bag gi):jG gv=some bag.length:=by
 rcases h with ⟨h1,h2,h3⟩|⟨gb,rest,h1,h2,h3,h4,h5⟩
 ·subst h3;subst h1;rfl
 ·subst h2;rfl
theorem bC.lt {S:aa} {lo b:Nat} {n:Net} {e:Eng} {rb:Nat} {tb:List Nat} {gv:AV} {gi:List Nat} (h:bC S lo b n e rb tb gv gi):∀x∈b::rb::tb,x<S.length:=fun x hx=>by
 rcases List.mem_cons.1 hx with rfl|hx
 ·exact (List.getElem?_eq_some_iff.1 h.hb).1
 ·rcases List.mem_cons.1 hx with rfl|hx
  ·exact (List.getElem?_eq_some_iff.1 h.hrb).1
  ·obtain⟨k,hk,rfl⟩:=List.mem_iff_getElem.1 hx;exact (List.getElem?_eq_some_iff.1 (h.ht k hk (by have:=h.tl;omega))).1
theorem bC.push_nil {S:aa} {lo b:Nat} {n:Net} {R:List Rtr} {bag:List bg} {rb:Nat} {tb:List Nat} {gv:AV} {gi:List Nat} (h:bC S lo b n ⟨R,bag⟩ rb tb gv gi) (hlo:lo≤S.length) (hb:bag=[]) (m:bg) :
  bC (S.set b (.cells 7 [aH n++[.own rb 2 0 R.length R.length,.own S.length 3 0 1 1]])++[.cells 3 [aJ m]]) lo b n ⟨R,[m]⟩ rb tb (.own S.length 3 0 1 1) [S.length]:=by
 obtain⟨n1,n2,n3,n4,n5,n6,n7,n8⟩:=h.ne;have hlt:=h.lt;refine h.bagged (az (bJ h.hb)) (fun x hx=>?_) (.inr ⟨S.length,[],rfl,rfl,?_,fun _ h=>absurd h List.not_mem_nil,by simp⟩) (by simp) (fun x hx=>?_)
 ·rw[List.getElem?_append_left (by rw[List.length_set];exact hlt x (List.mem_cons_of_mem _ hx)),List.getElem?_set_ne]
  rcases List.mem_cons.1 hx with rfl|hx
  ·exact n1
  ·exact fun e=>n2 (e▸hx)
 ·rw[List.getElem?_append_right (by simp)]
  simp
 ·rw[List.mem_singleton.1 hx];exact⟨fun hc=>absurd (hlt _ hc) (Nat.lt_irrefl _),hlo⟩
theorem bC.push_own {S:aa} {lo b:Nat} {n:Net} {R:List Rtr} {bag:List bg} {rb:Nat} {tb:List Nat} {gb c:Nat} (h:bC S lo b n ⟨R,bag⟩ rb tb (.own gb 3 0 bag.length c) [gb]) (hlo:lo≤S.length) (m:bg) (hl:bag.length+1≤120) :
  bC ((S.set gb .dead).set b (.cells 7 [aH n++[.own rb 2 0 R.length R.length,.own S.length 3 0 (bag.length+1) (bag.length+1)]])++[.cells 3 (bag.map aJ++[aJ m])]) lo b n ⟨R,bag++[m]⟩ rb tb (.own S.length 3 0 (bag.length+1) (bag.length+1)) [S.length]:=by
 obtain⟨n1,n2,n3,n4,n5,n6,n7,n8⟩:=h.ne;have hlt:=h.lt;have hgb:gb≠b:=fun e=>n3 (by rw[e];simp)
 refine h.bagged (az (bJ (aT h.hb hgb))) (fun x hx=>?_) (.inr ⟨S.length,[],rfl,by simp,?_,fun _ h=>absurd h List.not_mem_nil,by simpa using hl⟩) (by simp) (fun x hx=>?_)
 ·rw[List.getElem?_append_left (by simp only[List.length_set];exact hlt x (List.mem_cons_of_mem _ hx)),List.getElem?_set_ne,List.getElem?_set_ne]
  ·rcases List.mem_cons.1 hx with rfl|hx
   ·exact fun e=>n5 (by rw[e];simp)
   ·exact fun e=>n8 x hx (by rw[e];simp)
  ·rcases List.mem_cons.1 hx with rfl|hx
   ·exact n1
   ·exact fun e=>n2 (e▸hx)
 ·rw[List.getElem?_append_right (by simp)]
  simp
 ·rw[List.mem_singleton.1 hx];exact⟨fun hc=>absurd (hlt _ hc) (Nat.lt_irrefl _),hlo⟩
theorem bC.bag_in {S:aa} {lo b:Nat} {n:Net} {R:List Rtr} {bag:List bg} {rb:Nat} {tb:List Nat} {gv:AV} {gb:Nat} (h:bC S lo b n ⟨R,bag⟩ rb tb gv [gb]) (bag':List bg) (rest:List (List AV)) (hl:bag'.length+rest.length≤120) (hr:∀e∈rest,e.length=3∧e.all cw=true) (hg:∃o,S[gb]? = some o) :
  bC ((S.set gb (.cells 3 (bag'.map aJ++rest))).set b (.cells 7 [aH n++[.own rb 2 0 R.length R.length,.own gb 3 0 bag'.length (bag'.length+rest.length)]])) lo b n ⟨R,bag'⟩ rb tb (.own gb 3 0 bag'.length (bag'.length+rest.length)) [gb]:=by
 obtain⟨n1,n2,n3,n4,n5,n6,n7,n8⟩:=h.ne;have hgb:gb≠b:=fun e=>n3 (by rw[e];simp)
 obtain⟨o,hg⟩:=hg;refine h.bagged (bJ (aT h.hb hgb)) (fun x hx=>?_) (.inr ⟨gb,rest,rfl,rfl,aT (bJ hg) (Ne.symm hgb),hr,hl⟩) (by simp) (fun x hx=>?_)
 ·rw[List.getElem?_set_ne,List.getElem?_set_ne]
  ·rcases List.mem_cons.1 hx with rfl|hx
   ·exact fun e=>n5 (by rw[e];simp)
   ·exact fun e=>n8 x hx (by rw[e];simp)
  ·rcases List.mem_cons.1 hx with rfl|hx
   ·exact n1
   ·exact fun e=>n2 (e▸hx)
 ·rw[List.mem_singleton.1 hx];refine⟨?_,h.lo _ (by simp)⟩
  simp only[List.mem_cons,not_or];exact⟨hgb,fun e=>n5 (by rw[e];simp),fun e=>n8 _ e (by simp)⟩
theorem bC.push_in {S:aa} {lo b:Nat} {n:Net} {R:List Rtr} {bag:List bg} {rb:Nat} {tb:List Nat} {gv:AV} {gb:Nat} (h:bC S lo b n ⟨R,bag⟩ rb tb gv [gb]) (m:bg) (rest:List (List AV)) (hl:bag.length+(rest.length+1)≤120) (hr:∀e∈rest,e.length=3∧e.all cw=true) (hg:∃o,S[gb]? = some o) :
  bC ((S.set gb (.cells 3 (bag.map aJ++aJ m::rest))).set b (.cells 7 [aH n++[.own rb 2 0 R.length R.length,.own gb 3 0 (bag.length+1) (bag.length+(rest.length+1))]])) lo b n ⟨R,bag++[m]⟩ rb tb (.own gb 3 0 (bag.length+1) (bag.length+(rest.length+1))) [gb]:=by
 have e1:(bag++[m]).length=bag.length+1:=by simp
 have:=h.bag_in (bag++[m]) rest (by rw[e1];omega) hr hg
 rw[e1,List.map_append,List.append_assoc,show bag.length+1+rest.length=bag.length+(rest.length+1) by omega] at this
 exact this
end Go.Proofs.YtephecognbbaoaaGreat
namespace Go.Proofs.YtephecognbbaoaaGreat
def cu (e:Eng):Prop:=∀m∈e.bag,∀c∈m.bytes,0≤c∧c≤255
theorem xO (l:List (List Int)) (k:Nat) (v:List Int):(l.map aE).set k [.sl (v.map au)]=(l.set k v).map aE:=by
 rw[List.map_set];rfl
theorem bC.drop {S:aa} {lo b:Nat} {n:Net} {R:List Rtr} {bag:List bg} {rb:Nat} {tb:List Nat} {gv:AV} {gb:Nat} {rest:List (List AV)} (h:bC S lo b n ⟨R,bag⟩ rb tb gv [gb]) (m:Nat) (hm:m<bag.length) (hl:bag.length+rest.length≤120) (hr:∀e∈rest,e.length=3∧e.all cw=true) (hg:∃o,S[gb]? = some o) :
  bC ((S.set gb (.cells 3 ((bag.eraseIdx m).map aJ++(pN::rest)))).set b (.cells 7 [aH n++[.own rb 2 0 R.length R.length,.own gb 3 0 (bag.length-1) (bag.length+rest.length)]])) lo b n ⟨R,bag.eraseIdx m⟩ rb tb (.own gb 3 0 (bag.length-1) (bag.length+rest.length)) [gb]:=by
 have e1:(bag.eraseIdx m).length=bag.length-1:=by rw[List.length_eraseIdx,if_pos hm]
 have:=h.bag_in (bag.eraseIdx m) (pN::rest) (by rw[e1,List.length_cons];omega) (fun e he=>by
  rcases List.mem_cons.1 he with rfl|he
  ·exact⟨rfl,rfl⟩
  ·exact hr e he) hg
 rw[e1,List.length_cons,show bag.length-1+(rest.length+1)=bag.length+rest.length by omega] at this
 exact this
end Go.Proofs.YtephecognbbaoaaGreat
namespace Go.Proofs.YtephecognbbaoaaGreat
def cl (v:Evt):List AV:=[ab v.kind,ab v.at',ab v.b,ab v.c,aF v.routes]
attribute [go_sem] cl
theorem bC.spoiled {S:aa} {lo b:Nat} {n:Net} {R:List Rtr} {bag:List bg} {rb:Nat} {tb:List Nat} {gb:Nat} {rest:List (List AV)} {w:bg} (h:bC S lo b n ⟨R,bag⟩ rb tb (.own gb 3 0 bag.length (bag.length+rest.length)) [gb]) (hg:S[gb]? = some (.cells 3 (bag.map aJ++rest))) {k:Int} (h0:0≤k) (h1:k<bag.length) (hl:bag.length+rest.length≤120) (hr:∀e∈rest,e.length=3∧e.all cw=true) :
  bC (S.set gb (.cells 3 ((bag.map aJ++rest).set k.toNat (aJ w)))) lo b n ⟨R,bag.set k.toNat w⟩ rb tb (.own gb 3 0 bag.length (bag.length+rest.length)) [gb]:=by
 obtain⟨n1,n2,n3,n4,n5,n6,n7,n8⟩:=h.ne;have hgb:gb≠b:=fun e=>n3 (by rw[e];simp)
 have e1:(bag.map aJ++rest).set k.toNat (aJ w)=(bag.set k.toNat w).map aJ++rest:=by
  rw[List.set_append_left _ _ (by rw[List.length_map];omega),List.map_set]
 rw[e1];refine h.bagged (aT h.hb hgb) (fun x hx=>?_) (.inr ⟨gb,rest,rfl,by simp,bJ hg,hr,by rw[List.length_set];exact hl⟩) (by simp) (fun x hx=>?_)
 ·rw[List.getElem?_set_ne]
  rcases List.mem_cons.1 hx with rfl|hx
  ·exact fun e=>n5 (by rw[e];simp)
  ·exact fun e=>n8 x hx (by rw[e];simp)
 ·rw[List.mem_singleton.1 hx];refine⟨?_,h.lo _ (by simp)⟩
  simp only[List.mem_cons,not_or];exact⟨hgb,fun e=>n5 (by rw[e];simp),fun e=>n8 _ e (by simp)⟩
end Go.Proofs.YtephecognbbaoaaGreat
