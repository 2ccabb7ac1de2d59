/- Nets: states, as the program and as the document checks them. -/
import Derived.Test.YtephecognbbaoaaGreatZSr
import Derived.Test.YtephecognbbaoaaGreatZSy
import Derived.Test.YtephecognbbaoaaGreatZBm
import Derived.Test.YtephecognbbaoaaGreatZPs
open Go
set_option linter.all false
set_option maxRecDepth 100000
set_option maxHeartbeats 4000000
namespace Go.Proofs.YtephecognbbaoaaGreat
open Go
set_option linter.all false
set_option maxRecDepth 100000
set_option maxHeartbeats 4000000
theorem zq (n:Net) (r:List Int) (σ:aa):af Tryz.prog 128 [aF r,.cp (aH n) 0] σ fun r' σ'=>σ'=σ∧r' = .c (.bool ((r.length:Int) != n.nodes)):=by
 refine g_n Tryz.func128 rfl Tryz.results128 Tryz.ntmps128 ?_
 (repeat' (first|(refine g_s fun K hK=>?_)|((first|refine g_t ?_|refine g_g ?_);(try refine g_y ?_))|(refine hK _ _ ?_;clear hK K)|exact trivial|fail))
theorem zp (n:Net) (v:Int) (hx:I64 (n.alg.size-1)) (σ:aa):af Tryz.prog 129 [ab v,.cp (aH n) 0] σ fun r' σ'=>σ'=σ∧r' = .c (.bool (!inR v 0 (n.alg.size-1))):=by
 refine g_n Tryz.func129 rfl Tryz.results129 Tryz.ntmps129 ?_
 (repeat' (first|(refine g_s fun K hK=>?_)|((first|refine g_t ?_|refine g_g ?_|refine (tF n.alg v hx _).use ?_);(try refine g_y ?_))|(refine hK _ _ ?_;clear hK K)|exact trivial|fail))
theorem CK (n:Net) (x:List (List Int)):(x.any fun r=>(r.length:Int) != n.nodes)=x.any fun r=>decide ((r.length:Int)≠n.nodes):=by
 congr 1
 funext r
 by_cases h:(r.length:Int)=n.nodes<;>simp [h]
theorem AI (n:Net) (x:List (List Int)) (hx:I64 (n.alg.size-1)) (ok:dN x) (σ:aa):af Tryz.prog 94 [.agg (aH n),aL x] σ fun r σ'=>σ'=σ∧r=ab (eh n x):=by
 have hlen:=ok.len;refine af.cutX ?_;refine g_n Tryz.func94 rfl Tryz.results94 Tryz.ntmps94 ?_;refine g_s fun K hK=>?_;refine g_h ?_;refine hK _ _ ?_;clear hK K;refine g_0 2 rfl ?_
 (repeat' (first|(refine g_s fun K hK=>?_)|(refine g_b ?_)|(refine g_k ?_;simp only[ah,ae])|(refine g_C (fun h=>?_) (fun h=>?_)<;>(try exact g_f))|((first|refine g_t ?_|refine g_g ?_|refine (mC x (fun r=>(r.length:Int) != n.nodes) _ [] [.cp (aH n) 0] _ (by omega) (by kernel_rfl) (fun r hr=>zq n r _)).use ?_);(try refine g_y ?_))|(refine hK _ _ ?_;clear hK K)|(with_reducible refine ak (fun h=>?_) (fun h=>?_)<;>(try simp only[go_sem] at h)<;>(try exact g_f)<;>(try refine g_y ?_))|exact trivial|fail))
 ·refine ax rfl ?_;rw[eh,if_pos (.inl (by assumption))]
 ·refine ax rfl ?_;rw[eh,if_pos (.inr (by rw[←CK];exact h))]
 have hne:¬((x.length:Int)≠n.nodes∨x.any (fun r=>decide ((r.length:Int)≠n.nodes))=true):=by
  rw[not_or,←CK,h];exact⟨not_not_intro (by assumption),by simp⟩
 have hrow:∀r∈x,r.length≤1000000000000000000:=fun r hr=>by have:=ok.row r hr;omega
 have hJ:=hK;clear hK;refine ay x (fun _ r _=>(x.any fun w=>w.any fun v => !inR v 0 (n.alg.size-1))=r.any fun w=>w.any fun v => !inR v 0 (n.alg.size-1)) (fun k _ _=>[(19,ab k)]) (fun _ _ _=>σ++[.dead]) () [] rfl rfl (ai ?_) ?_ ?_
 ·exact g_w
 ·rintro k r _ τ hk0 hk1 hH L hL;have hmem:=aA x hk0 hk1;obtain⟨w,hw⟩:∃w,at0 x k=w:=⟨_,rfl⟩;rw[hw] at hH hmem;rw[List.any_cons] at hH;simp -implicitDefEqProofs only[go_sem]
  (repeat' (first|(refine g_s fun K hK=>?_)|(refine g_b ?_)|(refine g_k ?_;simp only[ah,ae])|(refine g_C (fun h=>?_) (fun h=>?_)<;>(try exact g_f))|((first|refine g_t ?_|refine g_g ?_|refine (ir w (fun v => !inR v 0 (n.alg.size-1)) _ [] [.cp (aH n) 0] _ (hrow w hmem) (by kernel_rfl) (fun v hv=>zp n v hx _)).use ?_);(try simp -implicitDefEqProofs only[go_sem,hw]))|(refine hK _ _ ?_;clear hK K)|(with_reducible refine And.intro ?_ ?_;· exact g_x)|fail))
  ·refine ax rfl ?_;rw[eh,if_neg hne,if_pos (by rw[hH,h,Bool.true_or])]
  ·refine hL () [] _ _ (by rw[hH,h,Bool.false_or]) (ai ?_) rfl
   simp -implicitDefEqProofs only[go_sem]
 ·rintro k _ τ hk hH L;simp -implicitDefEqProofs only[go_sem]
  (repeat' (first|(refine g_s fun K hK=>?_)|(refine g_e ?_;simp only[ah,ae,↓reduceIte,Nat.reduceEqDiff])|(refine g_C (fun h=>?_) (fun h=>?_)<;>(try exact g_f))|(refine g_g ?_;(try refine g_y ?_))|(refine hK _ _ ?_;clear hK K)|exact trivial|fail))
  refine hJ _ _ ?_;clear hJ
  (repeat' (first|(refine g_s fun K hK=>?_)|((first|refine g_t ?_|refine g_g ?_);(try refine g_y ?_))|(refine hK _ _ ?_;clear hK K)|exact trivial|fail))
  refine ax rfl ?_;rw[eh,if_neg hne,if_neg (by rw[hH];simp)]
theorem ou (n:Net) (x:List (List Int)) (okn:dM n) (ok:dN x) (σ:aa):af Tryz.prog 45 [.agg (aH n),aL x] σ fun r σ'=>σ'=σ∧r=ab (da n x):=by
 have hC:=eZ n okn;refine af.cutX ?_
 by_cases h0:aI n=0
 ·have hs:=(aU h0).alg;have s2:=hs.s2;have s24:=hs.s24;rw[h0] at hC;refine g_n Tryz.func45 rfl Tryz.results45 Tryz.ntmps45 ?_
  (repeat' (first|(refine g_s fun K hK=>?_)|(refine g_k ?_;simp only[ah,ae])|(refine g_C (fun h=>?_) (fun h=>?_)<;>(try exact g_f))|((first|refine g_t ?_|refine g_g ?_|refine (hC _).use ?_|refine (AI n x (by unfold I64;omega) ok _).use ?_);(try refine g_y ?_))|(refine hK _ _ ?_;clear hK K)|exact trivial|fail))
  refine ax rfl ?_;simp [da,h0]
 ·refine g_n Tryz.func45 rfl Tryz.results45 Tryz.ntmps45 ?_
  (repeat' (first|(refine g_s fun K hK=>?_)|(refine g_C (fun h=>?_) (fun h=>?_)<;>(try exact g_f))|((first|refine g_t ?_|refine g_g ?_|refine (hC _).use ?_);(try refine g_y ?_))|(refine hK _ _ ?_;clear hK K)|exact trivial|fail))
  refine ax rfl ?_;simp [da,h0]
theorem xR (n:Net) (x:List (List Int)) (hn:bI n) (ok:dN x) (σ:aa):af Tryz.prog 52 [.agg (aH n),aL x] σ fun r σ'=>σ'=σ∧r=ab (eh n x):=by
 have hlen:=ok.len;have s2:=hn.alg.s2;have s24:=hn.alg.s24;have n6:=hn.n6;refine af.cutX ?_;refine g_n Tryz.func52 rfl Tryz.results52 Tryz.ntmps52 ?_;refine g_s fun K hK=>?_;refine g_h ?_;refine hK _ _ ?_;clear hK K;refine g_0 2 rfl ?_
 (repeat' (first|(refine g_s fun K hK=>?_)|(refine g_b ?_)|(refine g_k ?_;simp only[ah,ae])|(refine g_C (fun h=>?_) (fun h=>?_)<;>(try exact g_f))|((first|refine g_t ?_|refine g_g ?_);(try refine g_y ?_))|(refine hK _ _ ?_;clear hK K)|exact trivial|fail))
 ·refine ax rfl ?_;rw[eh,if_pos (.inl (by assumption))]
 have hxl:(x.length:Int)=n.nodes:=by assumption
 have hJ:=hK;clear hK;refine ay x (fun _ r _=>(x.any fun r=>decide ((r.length:Int)≠n.nodes))=r.any fun r=>decide ((r.length:Int)≠n.nodes)) (fun k _ _=>[(5,ab k)]) (fun _ _ _=>σ++[.dead]) () [] rfl rfl (ai ?_) ?_ ?_
 ·exact g_w
 ·rintro k r _ τ hk0 hk1 hH L hL;obtain⟨w,hw⟩:∃w,at0 x k=w:=⟨_,rfl⟩;rw[hw,List.any_cons] at hH;simp -implicitDefEqProofs only[go_sem]
  (repeat' (first|(refine g_s fun K hK=>?_)|(refine g_b ?_)|(refine g_k ?_;simp only[ah,ae])|(refine g_C (fun h=>?_) (fun h=>?_)<;>(try exact g_f))|((first|refine g_t ?_|refine g_g ?_|refine g_U ?_);(try simp -implicitDefEqProofs only[go_sem,hw]))|(refine hK _ _ ?_;clear hK K)|(with_reducible refine And.intro ?_ ?_;· exact g_x)|fail))
  ·refine ax rfl ?_;rw[eh,if_pos (.inr (by rw[hH,decide_eq_true h,Bool.true_or]))]
  ·refine hL () [] _ _ (by rw[hH,decide_eq_false (not_not_intro h),Bool.false_or]) (ai ?_) rfl
   simp -implicitDefEqProofs only[go_sem]
 ·rintro k _ τ hk hH L;have hne:¬((x.length:Int)≠n.nodes∨x.any (fun r=>decide ((r.length:Int)≠n.nodes))=true):=by
   rw[not_or,hH];exact⟨not_not_intro hxl,by simp⟩
  have hrows:∀r∈x,(r.length:Int)=n.nodes:=fun r hr=>by
   apply Classical.byContradiction;intro hc;exact hne (.inr (List.any_eq_true.2 ⟨r,hr,decide_eq_true hc⟩))
  simp -implicitDefEqProofs only[go_sem]
  (repeat' (first|(refine g_s fun K hK=>?_)|(refine g_e ?_;simp only[ah,ae,↓reduceIte,Nat.reduceEqDiff])|(refine g_C (fun h=>?_) (fun h=>?_)<;>(try exact g_f))|(refine g_g ?_;(try refine g_y ?_))|(refine hK _ _ ?_;clear hK K)|exact trivial|fail))
  refine hJ _ _ ?_;clear hJ
  (repeat' (first|(refine g_s fun K hK=>?_)|(refine g_b ?_)|(refine g_g ?_;(try refine g_y ?_))|(refine hK _ _ ?_;clear hK K)|exact trivial|fail))
  have hJ:=hK;clear hK;refine ay x (fun _ r _=>(x.any fun w=>w.any fun v => !inR v 0 (n.alg.size-1))=r.any fun w=>w.any fun v => !inR v 0 (n.alg.size-1)) (fun k _ _=>[(6,ab k)]) (fun _ _ _=>σ++[.dead]) () [] rfl rfl (ai ?_) ?_ ?_
  ·exact g_w
  ·rintro k r _ τ hk0 hk1 hH L hL;have hmem:=aA x hk0 hk1;obtain⟨w,hw⟩:∃w,at0 x k=w:=⟨_,rfl⟩;rw[hw] at hH hmem;rw[List.any_cons] at hH;have hwl:=hrows w hmem;simp -implicitDefEqProofs only[go_sem]
   (repeat' (first|(refine g_s fun K hK=>?_)|(refine g_b ?_)|(refine g_k ?_;simp only[ah,ae])|(refine g_C (fun h=>?_) (fun h=>?_)<;>(try exact g_f))|(refine g_g ?_;(try refine g_y ?_))|(refine hK _ _ ?_;clear hK K)|exact trivial|fail))
   refine ay w (fun _ r9 _=>(w.any fun v => !inR v 0 (n.alg.size-1))=r9.any fun v => !inR v 0 (n.alg.size-1)) (fun k9 _ _=>[(7,ab k9)]) (fun _ _ _=>σ++[.dead]) () [] rfl rfl (ai ?_) ?_ ?_
   ·exact g_w
   ·rintro k9 r9 _ τ9 hk90 hk91 hH9 L9 hL9;obtain⟨v,hv⟩:∃v,at0 w k9=v:=⟨_,rfl⟩;rw[hv,List.any_cons] at hH9;simp -implicitDefEqProofs only[go_sem]
    (repeat' (first|(refine g_s fun K hK=>?_)|(refine g_b ?_)|(refine g_k ?_;simp only[ah,ae])|(refine g_C (fun h=>?_) (fun h=>?_)<;>(try exact g_f))|((first|refine g_t ?_|refine g_g ?_|refine g_U ?_|refine g_q (fun τ=>bS _ _ _ _) ?_);(try simp -implicitDefEqProofs only[go_sem,hw,hv]))|(refine hK _ _ ?_;clear hK K)|(with_reducible refine And.intro ?_ ?_;· exact g_x)|fail))
    ·refine ax rfl ?_;rw[eh,if_neg hne,if_pos (by rw[hH,hH9,ci.2 h,Bool.true_or,Bool.true_or])]
    ·refine hL9 () [] _ _ (by rw[hH9,aG.2 h];rfl) (ai ?_) rfl
     simp -implicitDefEqProofs only[go_sem]
   ·rintro k9 _ τ9 hk9 hH9 L9;simp -implicitDefEqProofs only[go_sem]
    (repeat' (first|(refine g_s fun K hK=>?_)|(refine g_e ?_;simp only[ah,ae,↓reduceIte,Nat.reduceEqDiff])|(refine g_C (fun h=>?_) (fun h=>?_)<;>(try exact g_f))|(refine g_g ?_;(try refine g_y ?_))|(refine hK _ _ ?_;clear hK K)|(clear hK K;first|(refine hK _ _ ?_;clear hK K)|(clear hK K;with_reducible refine hK _ _ ?_;clear hK K)|(clear hK K;clear hK K;with_reducible refine hK _ _ ?_;clear hK K))|(with_reducible refine And.intro ?_ ?_;· exact g_x)|exact trivial|fail))
    refine hL () [] _ _ (by rw[hH,hH9];simp) (ai ?_) rfl
    simp -implicitDefEqProofs only[go_sem]
  ·rintro k _ τ hk hH L;simp -implicitDefEqProofs only[go_sem]
   (repeat' (first|(refine g_s fun K hK=>?_)|(refine g_e ?_;simp only[ah,ae,↓reduceIte,Nat.reduceEqDiff])|(refine g_C (fun h=>?_) (fun h=>?_)<;>(try exact g_f))|(refine g_g ?_;(try refine g_y ?_))|(refine hK _ _ ?_;clear hK K)|exact trivial|fail))
   refine hJ _ _ ?_;clear hJ
   (repeat' (first|(refine g_s fun K hK=>?_)|((first|refine g_t ?_|refine g_g ?_);(try refine g_y ?_))|(refine hK _ _ ?_;clear hK K)|exact trivial|fail))
   refine ax rfl ?_;rw[eh,if_neg hne,if_neg (by rw[hH];simp)]
theorem zO (n:Net) (x:List (List Int)) (okn:dM n) (ok:dN x) (σ:aa):af Tryz.prog 18 [.agg (aH n),aL x] σ fun r σ'=>σ'=σ∧r=ab (da n x):=by
 have hC:=pI n okn;refine af.cutX ?_
 by_cases h0:aI n=0
 ·rw[h0] at hC;refine g_n Tryz.func18 rfl Tryz.results18 Tryz.ntmps18 ?_
  (repeat' (first|(refine g_s fun K hK=>?_)|(refine g_C (fun h=>?_) (fun h=>?_)<;>(try exact g_f))|((first|refine g_t ?_|refine g_g ?_|refine (hC _).use ?_|refine (xR n x (aU h0) ok _).use ?_);(try refine g_y ?_))|(refine hK _ _ ?_;clear hK K)|exact trivial|fail))
  refine ax rfl ?_;simp [da,h0]
 ·refine g_n Tryz.func18 rfl Tryz.results18 Tryz.ntmps18 ?_
  (repeat' (first|(refine g_s fun K hK=>?_)|(refine g_k ?_;simp only[ah,ae])|(refine g_C (fun h=>?_) (fun h=>?_)<;>(try exact g_f))|((first|refine g_t ?_|refine g_g ?_|refine (hC _).use ?_);(try refine g_y ?_))|(refine hK _ _ ?_;clear hK K)|exact trivial|fail))
  refine ax rfl ?_;simp [da,h0]
end Go.Proofs.YtephecognbbaoaaGreat
namespace Go.Proofs.YtephecognbbaoaaGreat
def lV (x:List (List Int)) (j:Int):List Int:=x.map fun r=>at0 r j
theorem yC (x:List (List Int)) (j:Int) (hl:x.length≤1000) (hj:0≤j) (hr:∀r∈x,j<r.length) (σ:aa):af Tryz.prog 61 [aL x,ab j] σ fun r σ'=>σ'=σ∧r=aF (lV x j):=by
 refine af.cutX ?_;refine g_n Tryz.func61 rfl Tryz.results61 Tryz.ntmps61 ?_
 (repeat' (first|(refine g_s fun K hK=>?_)|(refine g_b ?_)|(refine g_G ?_;(try refine g_y ?_))|(refine hK _ _ ?_;clear hK K)|exact trivial|fail))
 refine bn ?_;have hJ:=hK;clear hK;refine ay x (fun k r acc=>acc++r.map (fun r=>at0 r j)=lV x j) (fun k acc τ=>[(6,ab k),(5,aq 1 (σ.length+τ.length) acc)]) (fun _ acc τ=>σ++(τ++[ap au 1 acc])) [] [] rfl ?_ (ai ?_) ?_ ?_
 ·simp [ap]
 ·simp -implicitDefEqProofs only[go_sem,aq,ap]
 ·rintro k r acc τ hk0 hk1 h3 L hL;have hmem:=aA x hk0 hk1;obtain⟨w,hw⟩:∃w,at0 x k=w:=⟨_,rfl⟩;rw[hw] at h3 hmem;have hwl:=hr w hmem;have hal:acc.length+1≤x.length:=by have:=congrArg List.length h3;simp [lV] at this;omega
  rcases acc with _|⟨y,acc⟩<;>simp only[List.length_cons,List.length_nil] at hal<;>simp -implicitDefEqProofs only[go_sem,aq,ap]
  all_goals (repeat' (first|(refine g_s fun K hK=>?_)|(refine g_b ?_)|(refine g_k ?_;simp only[ah,ae])|(refine g_C (fun h=>?_) (fun h=>?_)<;>(try exact g_f))|(refine g_G ?_;(try simp -implicitDefEqProofs only[go_sem,hw]))|(refine hK _ _ ?_;clear hK K)|(with_reducible refine And.intro ?_ ?_;· exact g_x)|fail))
  ·refine hL [at0 w j] (τ++[.dead]) _ _ (by simpa using h3) (ai ?_) ?_
   ·simp -implicitDefEqProofs only[go_sem,aq]
   ·simp [ap,au,ab]
  ·refine hL (y::acc++[at0 w j]) (τ++[.dead]) _ _ (by simpa using h3) (ai ?_) ?_
   ·simp -implicitDefEqProofs only[go_sem,aq]
   ·simp [ap,au,ab]
 ·rintro k acc τ hk h3 L;rw[List.map_nil,List.append_nil] at h3;simp -implicitDefEqProofs only[go_sem]
  (repeat' (first|(refine g_s fun K hK=>?_)|(refine g_e ?_;simp only[ah,ae,↓reduceIte,Nat.reduceEqDiff])|(refine g_C (fun h=>?_) (fun h=>?_)<;>(try exact g_f))|(refine g_g ?_;(try refine g_y ?_))|(refine hK _ _ ?_;clear hK K)|exact trivial|fail))
  refine hJ _ _ ?_;clear hJ;refine cC 5 au 1 acc σ τ [] rfl ?_
  (repeat' (first|(refine g_s fun K hK=>?_)|((first|refine g_t ?_|refine g_G ?_);(try refine g_y ?_))|(refine hK _ _ ?_;clear hK K)|exact trivial|fail))
  rw[h3];exact bM rfl (Bd.ints _) (.eq rfl)
end Go.Proofs.YtephecognbbaoaaGreat
namespace Go.Proofs.YtephecognbbaoaaGreat
theorem xS {n:Net} {i j:Int} {f g:Int→Int} (h:∀k,0≤k→k<n.nodes→f k=g k):cV n i j f=cV n i j g:=by
 unfold cV;have key:∀(K:List Int) (out:Int),(∀k∈K,0≤k∧k<n.nodes)→K.foldl (fun out k=>if 0≤aM n i k then bq n out (bc n (aM n i k) (f k)) else out) out=K.foldl (fun out k=>if 0≤aM n i k then bq n out (bc n (aM n i k) (g k)) else out) out:=by
  intro K
  induction K with
  | nil=>intro out _;rfl
  | cons k r ih=>
   intro out hK;rw[List.foldl_cons,List.foldl_cons,h k (hK k (by simp)).1 (hK k (by simp)).2]
   exact ih _ fun x hx=>hK x (by simp [hx])
 exact key _ _ fun k hk=>cf.1 hk
def gX (n:Net) (x:List (List Int)) (i:Int):List Int:=(ints n.nodes).map fun j=>cV n i j fun k=>at2 x k j
theorem wK (n:Net) (x:List (List Int)) (hn:bI n) (hx:RowsIn n x) (hl:n.links.length≤5864062014634) (σ:aa):af Tryz.prog 25 [.agg (aH n),aL x] σ fun r σ'=>σ'=σ∧r=aL (cr n x):=by
 have n1:=hn.n1;have n6:=hn.n6;have hxl:=hx.len;refine af.cutX ?_;refine g_n Tryz.func25 rfl Tryz.results25 Tryz.ntmps25 ?_;refine g_s fun K hK=>?_;refine g_h ?_;refine hK _ _ ?_;clear hK K;refine g_0 2 rfl ?_
 (repeat' (first|(refine g_s fun K hK=>?_)|(refine g_b ?_)|(refine g_G ?_;(try refine g_y ?_))|(refine hK _ _ ?_;clear hK K)|exact trivial|fail))
 refine bn ?_;have hJ:=hK;clear hK;refine ay (ints n.nodes) (fun i r acc=>acc++r.map (gX n x)=cr n x) (fun i acc τ=>[(6,ab i),(5,aq 1 (σ.length+(τ.length+1)) acc)]) (fun _ acc τ=>σ++(.dead::(τ++[ap aE 1 acc]))) [] [] rfl ?_ (ai ?_) ?_ ?_
 ·simp [ap]
 ·simp -implicitDefEqProofs only[go_sem,aq,ap]
 ·rintro i r acc τ hi0 hi1 h3 L hL;rw[ao] at hi1;rw[cA hi0 (by omega)] at h3
  have hal:acc.length+1≤6:=by have:=congrArg List.length h3;simp [cr,ao] at this;omega
  simp -implicitDefEqProofs only[go_sem]
  (repeat' (first|(refine g_s fun K hK=>?_)|(refine g_b ?_)|(refine g_k ?_;simp only[ah,ae])|(refine g_C (fun h=>?_) (fun h=>?_)<;>(try exact g_f))|(refine g_G ?_;(try refine g_y ?_))|(refine hK _ _ ?_;clear hK K)|exact trivial|fail))
  refine bn ?_;have hJ2:=hK;clear hK;refine ay (ints n.nodes) (fun j r row=>row++r.map (fun j=>cV n i j fun k=>at2 x k j)=gX n x i) (fun j row τ2=>[(8,ab j),(7,aq 1 (σ.length+(τ.length+(τ2.length+2))) row)]) (fun _ row τ2=>σ++(.dead::(τ++ap aE 1 acc::(τ2++[ap au 1 row])))) [] [] rfl ?_ (ai ?_) ?_ ?_
  ·simp [ap]
  ·simp -implicitDefEqProofs only[go_sem,aq,ap]
  ·rintro j rj row τ2 hj0 hj1 h4 L2 hL2;rw[ao] at hj1;rw[cA hj0 (by omega)] at h4
   have hrl:row.length+1≤6:=by have:=congrArg List.length h4;simp [gX,ao] at this;omega
   have hcol:=yC x j (by omega) hj0 (fun r hr=>by rw[hx.row r hr];omega)
   have hcl:((lV x j).length:Int)=n.nodes:=by rw[lV,List.length_map];exact hxl
   have hcv:∀v∈lV x j,0≤v∧v<n.alg.size:=fun v hv=>by
    obtain⟨r,hr,rfl⟩:=List.mem_map.1 hv;exact hx.val r hr _ (aA _ hj0 (by rw[hx.row r hr];omega))
   have hro:=qS n i j (lV x j) hn hl hcl hcv;have hre:cV n i j (fun k=>at0 (lV x j) k)=cV n i j fun k=>at2 x k j:=xS fun k h0 h1=>sF _ x h0 (by omega)
   rw[hre] at hro
   rcases row with _|⟨y,row⟩<;>simp only[List.length_cons,List.length_nil] at hrl<;>simp -implicitDefEqProofs only[go_sem,aq,ap]
   all_goals (repeat' (first|(refine g_s fun K hK=>?_)|(refine g_b ?_)|(refine g_k ?_;simp only[ah,ae])|(refine g_C (fun h=>?_) (fun h=>?_)<;>(try exact g_f))|((first|refine g_G ?_|refine g_U ?_|refine g_q (fun τ=>hcol _) ?_|refine g_q (fun τ=>hro _) ?_);(try refine g_y ?_))|(refine hK _ _ ?_;clear hK K)|(with_reducible refine And.intro ?_ ?_;· exact g_x)|exact trivial|fail))
   ·refine hL2 [cV n i j fun k=>at2 x k j] (τ2++[.dead]) _ _ (by simpa using h4) (ai ?_) ?_
    ·simp -implicitDefEqProofs only[go_sem,aq]
    ·simp [ap,au,ab];rfl
   ·refine hL2 (y::row++[cV n i j fun k=>at2 x k j]) (τ2++[.dead]) _ _ (by simpa using h4) (ai ?_) ?_
    ·simp -implicitDefEqProofs only[go_sem,aq]
    ·simp [ap,au,ab];rfl
  ·rintro j row τ2 hj h4 L2;rw[ao] at hj;rw[List.map_nil,List.append_nil] at h4;simp -implicitDefEqProofs only[go_sem]
   (repeat' (first|(refine g_s fun K hK=>?_)|(refine g_e ?_;simp only[ah,ae,↓reduceIte,Nat.reduceEqDiff])|(refine g_C (fun h=>?_) (fun h=>?_)<;>(try exact g_f))|(refine g_g ?_;(try refine g_y ?_))|(refine hK _ _ ?_;clear hK K)|exact trivial|fail))
   refine hJ2 _ _ ?_;clear hJ2;have est:σ++(.dead::(τ++ap aE 1 acc::(τ2++[ap au 1 row])))=σ++((.dead::(τ++ap aE 1 acc::τ2))++ap au 1 row::[]):=by simp
   rw[est];refine cC 7 au 1 row σ (.dead::(τ++ap aE 1 acc::τ2)) [] (by simp [aB,Nat.add_assoc]) ?_
   rw[h4]
   rcases acc with _|⟨y,acc⟩<;>simp only[List.length_cons,List.length_nil] at hal<;>simp -implicitDefEqProofs only[go_sem,aq,ap]
   all_goals (repeat' (first|(refine g_G ?_;(try refine g_y ?_))|(clear hK K;first|(refine hK _ _ ?_;clear hK K)|(clear hK K;with_reducible refine hK _ _ ?_;clear hK K)|(clear hK K;clear hK K;with_reducible refine hK _ _ ?_;clear hK K))|(with_reducible refine And.intro ?_ ?_;· exact g_x)|exact trivial|fail))
   ·refine hL [gX n x i] (τ++.dead::(τ2++[.dead])) _ _ (by simpa using h3) (ai ?_) ?_
    ·simp -implicitDefEqProofs only[go_sem,aq]
    ·simp [ap,aE,aF]
   ·refine hL (y::acc++[gX n x i]) (τ++.dead::(τ2++[.dead])) _ _ (by simpa using h3) (ai ?_) ?_
    ·simp -implicitDefEqProofs only[go_sem,aq]
    ·simp [ap,aE,aF]
 ·rintro i acc τ hi h3 L;rw[ao] at hi;rw[List.map_nil,List.append_nil] at h3;simp -implicitDefEqProofs only[go_sem]
  (repeat' (first|(refine g_s fun K hK=>?_)|(refine g_e ?_;simp only[ah,ae,↓reduceIte,Nat.reduceEqDiff])|(refine g_C (fun h=>?_) (fun h=>?_)<;>(try exact g_f))|(refine g_g ?_;(try refine g_y ?_))|(refine hK _ _ ?_;clear hK K)|exact trivial|fail))
  refine hJ _ _ ?_;clear hJ;have est:σ++(.dead::(τ++[ap aE 1 acc]))=σ++((.dead::τ)++ap aE 1 acc::[]):=by simp
  rw[est];refine cC 5 aE 1 acc σ (.dead::τ) [] (by simp [aB,Nat.add_assoc]) ?_
  (repeat' (first|(refine g_s fun K hK=>?_)|((first|refine g_t ?_|refine g_G ?_);(try refine g_y ?_))|(refine hK _ _ ?_;clear hK K)|exact trivial|fail))
  rw[h3];exact bM rfl (Bd.rows _) (.eq rfl)
end Go.Proofs.YtephecognbbaoaaGreat
namespace Go.Proofs.YtephecognbbaoaaGreat
theorem zQ (a b:List Int) (hl:a.length≤1000000000000000000) (σ:aa):af Tryz.prog 98 [aF a,aF b] σ fun r σ'=>σ'=σ∧r = .c (.bool (decide (a=b))):=by
 refine g_n Tryz.func98 rfl Tryz.results98 Tryz.ntmps98 ?_
 (repeat' (first|(refine g_s fun K hK=>?_)|(refine g_b ?_)|(refine g_k ?_;simp only[ah,ae])|(refine g_C (fun h=>?_) (fun h=>?_)<;>(try exact g_f))|((first|refine g_t ?_|refine g_g ?_);(try refine g_y ?_))|(refine hK _ _ ?_;clear hK K)|exact trivial|fail))
 ·rw[decide_eq_false (fun e:a=b=>h (by rw[e]))]
 have hle:a.length=b.length:=by omega
 refine ay a (fun k _ _=>∀i:Int,0≤i→i<k→at0 a i=at0 b i) (fun k _ _=>[(13,ab k)]) (fun _ _ _=>σ) () [] (fun i h1 h2=>by omega) rfl (ai ?_) ?_ ?_
 ·exact g_w
 ·rintro k r _ τ hk0 hk1 hH L hL;simp -implicitDefEqProofs only[go_sem]
  (repeat' (first|(refine g_s fun K hK=>?_)|(refine g_b ?_)|(refine g_k ?_;simp only[ah,ae])|(refine g_C (fun h=>?_) (fun h=>?_)<;>(try exact g_f))|((first|refine g_t ?_|refine g_g ?_|refine g_U ?_);(try refine g_y ?_))|(refine hK _ _ ?_;clear hK K)|(with_reducible refine And.intro ?_ ?_;· exact g_x)|exact trivial|fail))
  ·rw[decide_eq_false (fun e:a=b=>h (by rw[e]))]
  ·refine hL () [] _ _ ?_ (ai ?_) rfl
   ·intro i h1 h2
    rcases Int.lt_or_eq_of_le (Int.le_of_lt_add_one h2) with h3|h3
    ·exact hH i h1 h3
    ·rw[h3];assumption
   ·exact g_w
 ·rintro k _ τ hk hH L;simp -implicitDefEqProofs only[go_sem]
  (repeat' (first|(refine g_s fun K hK=>?_)|(refine g_e ?_;simp only[ah,ae,↓reduceIte,Nat.reduceEqDiff])|(refine g_C (fun h=>?_) (fun h=>?_)<;>(try exact g_f))|((first|refine g_t ?_|refine g_g ?_);(try refine g_y ?_))|(refine hK _ _ ?_;clear hK K)|(clear hK K;first|(refine hK _ _ ?_;clear hK K)|(clear hK K;with_reducible refine hK _ _ ?_;clear hK K)|(clear hK K;clear hK K;with_reducible refine hK _ _ ?_;clear hK K))|exact trivial|fail))
  rw[decide_eq_true (jO hle fun i h1 h2=>hH i h1 (by omega):a=b)]
end Go.Proofs.YtephecognbbaoaaGreat
namespace Go.Proofs.YtephecognbbaoaaGreat
theorem RowsIn.stOk {n:Net} {x:List (List Int)} (hn:bI n) (h:RowsIn n x):dN x:=
 ⟨by have:=h.len;have:=hn.n6;omega,fun r hr=>by have:=h.row r hr;have:=hn.n6;omega⟩
theorem zC (x:List (List Int)) (k j:Int) (h0:0≤k) (h1:k<x.length) (h2:0≤j) (h3:j<(at0 x k).length) (S:aa):af Tryz.prog 96 (ab k::ab j::[.cp [aL x] 0]) S fun r σ'=>σ'=S∧r=ab (at2 x k j):=by
 refine g_n Tryz.func96 rfl Tryz.results96 Tryz.ntmps96 ?_
 (repeat' (first|(refine g_s fun K hK=>?_)|((first|refine g_t ?_|refine g_g ?_);(try refine g_y ?_))|(refine hK _ _ ?_;clear hK K)|(with_reducible refine And.intro ?_ ?_;· exact g_x)|exact trivial|fail))
theorem uH (a b:List (List Int)) (ha:dN a) (σ:aa):af Tryz.prog 97 [aL a,aL b,.fn 98 [] []] σ fun r σ'=>σ'=σ∧r = .c (.bool (decide (a=b))):=by
 have hlen:=ha.len;refine g_n Tryz.func97 rfl Tryz.results97 Tryz.ntmps97 ?_
 (repeat' (first|(refine g_s fun K hK=>?_)|(refine g_b ?_)|(refine g_k ?_;simp only[ah,ae])|(refine g_C (fun h=>?_) (fun h=>?_)<;>(try exact g_f))|((first|refine g_t ?_|refine g_g ?_);(try refine g_y ?_))|(refine hK _ _ ?_;clear hK K)|exact trivial|fail))
 ·rw[decide_eq_false (fun e:a=b=>h (by rw[e]))]
 have hle:a.length=b.length:=by omega
 refine b8 (a.length:Int) (fun k _=>∀i:Int,0≤i→i<k→at0 a i=at0 b i) (fun k _ _=>[(17,ab k)]) (fun _ _ _=>σ) () [] (by omega) (fun i h1 h2=>by omega) rfl (ai ?_) ?_
 ·exact g_w
 ·rintro k _ τ hk0 hk1 hH L hL
  by_cases hk2:k<a.length
  ·have hml:(at0 a k).length≤1000000000000000000:=by have:=ha.row _ (aA a hk0 hk2);omega
   simp -implicitDefEqProofs only[go_sem]
   (repeat' (first|(refine g_s fun K hK=>?_)|(refine g_b ?_)|(refine g_k ?_;simp only[ah,ae])|(refine g_C (fun h=>?_) (fun h=>?_)<;>(try exact g_f))|((first|refine g_t ?_|refine g_g ?_|refine (zQ _ _ hml _).use ?_);(try refine g_y ?_))|(refine hK _ _ ?_;clear hK K)|(with_reducible refine And.intro ?_ ?_;· exact g_x)|exact trivial|fail))
   ·have hne:at0 a k≠at0 b k:=by simpa using h
    rw[decide_eq_false (fun e:a=b=>hne (by rw[e]))]
   ·have heq:at0 a k=at0 b k:=by simpa using h
    refine hL hk2 () [] _ _ ?_ (ai ?_) rfl
    ·intro i h1 h2
     rcases Int.lt_or_eq_of_le (Int.le_of_lt_add_one h2) with h3|h3
     ·exact hH i h1 h3
     ·rw[h3];exact heq
    ·exact g_w
  ·simp -implicitDefEqProofs only[go_sem]
   (repeat' (first|(refine g_s fun K hK=>?_)|(refine g_e ?_;simp only[ah,ae,↓reduceIte,Nat.reduceEqDiff])|(refine g_C (fun h=>?_) (fun h=>?_)<;>(try exact g_f))|((first|refine g_t ?_|refine g_g ?_);(try refine g_y ?_))|(refine hK _ _ ?_;clear hK K)|(clear hK K;first|(refine hK _ _ ?_;clear hK K)|(clear hK K;with_reducible refine hK _ _ ?_;clear hK K)|(clear hK K;clear hK K;with_reducible refine hK _ _ ?_;clear hK K))|exact trivial|fail))
   rw[decide_eq_true (jO hle fun i h1 h2=>hH i h1 (by omega):a=b)]
theorem AG (a b:List (List Int)) (ha:dN a) (σ:aa):af Tryz.prog 49 [aL a,aL b] σ fun r σ'=>σ'=σ∧r = .c (.bool (decide (a=b))):=by
 refine g_n Tryz.func49 rfl Tryz.results49 Tryz.ntmps49 ?_
 (repeat' (first|(refine g_s fun K hK=>?_)|((first|refine g_t ?_|refine g_g ?_|refine (uH a b ha _).use ?_);(try refine g_y ?_))|(refine hK _ _ ?_;clear hK K)|exact trivial|fail))
theorem xM {n:Net} {f:Nat} {k:Int} {x:List (List Int)} (h:x=cr n x):eg n (f+1) k x=(x,k):=by rw[eg,if_pos h]
theorem xN {n:Net} {f:Nat} {k:Int} {x:List (List Int)} (h:¬x=cr n x):eg n (f+1) k x=eg n f (k+1) (cr n x):=by rw[eg,if_neg h]
def vj (r:(List (List Int)×Int)×Int):AV:=.tup [aL r.1.1,ab r.1.2,ab r.2]
end Go.Proofs.YtephecognbbaoaaGreat
namespace Go.Proofs.YtephecognbbaoaaGreat
theorem sR (n:Net) (x:List (List Int)) (hc:aI n=0) (hx:RowsIn n x) (hl:n.links.length≤5864062014634) (xv:AV) (hxf:(∃es,xv = .sl es)∨∃b m,xv = .own b 1 0 m m) (σ:aa)
  (hf:∀k j,0≤k→k<n.nodes→0≤j→j<n.nodes→∀S,Ext σ S→af Tryz.prog 96 (ab k::ab j::[.cp [xv] 0]) S fun r σ'=>σ'=S∧r=ab (at2 x k j)) :
  af Tryz.prog 48 [.agg (aH n),xv] σ fun r σ'=>∃τ,σ'=σ++τ∧∃ids,cT (σ++τ) σ.length n.nodes.toNat ids r (cr n x):=by
 have hn:=aU hc;have n1:=hn.n1;have n6:=hn.n6;have hxl:=hx.len;obtain⟨M,hM⟩:∃M,(ints n.nodes).map (gX n x)=M:=⟨_,rfl⟩;have hMw:∀r∈M,r.length=n.nodes.toNat:=fun r hr=>by
  rw[←hM] at hr;obtain⟨i,_,rfl⟩:=List.mem_map.1 hr;rw[gX,List.length_map,ao]
 have hMl:M.length=n.nodes.toNat:=by rw[←hM,List.length_map,ao]
 have hMr:cr n x=M:=by rw[←hM];rfl
 rw[hMr]
 rcases hxf with ⟨es,rfl⟩|⟨bb,mm,rfl⟩
 all_goals
  refine g_n Tryz.func48 rfl Tryz.results48 Tryz.ntmps48 ?_;refine g_s fun K hK=>?_;refine g_h ?_;refine hK _ _ ?_;clear hK K;refine g_0 2 rfl ?_;refine g_0 3 rfl ?_
  (repeat' (first|(refine g_s fun K hK=>?_)|(refine g_b ?_)|(refine g_g ?_;(try refine g_y ?_))|(refine hK _ _ ?_;clear hK K)|exact trivial|fail))
  obtain⟨ρ,hρ⟩:∃ρ:aa,σ++[.dead,.dead]=ρ:=⟨_,rfl⟩;have hlen:ρ.length=σ.length+2:=by rw[←hρ];simp
  rw[hρ];refine bn ?_;have hJ:=hK;clear hK;refine ay (ints n.nodes) (fun i r (s:List Nat×aa)=>∃M',M'++r.map (gX n x)=M∧aQ (ρ++s.2) ρ.length s.1 M'∧s.1.Nodup)
   (fun i s _=>[(9,ab i),(5,aq 1 (ρ.length+s.2.length) s.1)]) (fun _ s _=>ρ++(s.2++[ap (be n.nodes.toNat) 1 s.1])) ([],[]) [] ⟨[],hM,aQ.nil _ _,List.nodup_nil⟩ rfl (ai ?_) ?_ ?_
  ·simp -implicitDefEqProofs only[go_sem,aq]
  ·rintro i r ⟨q,T⟩ τ hi0 hi1 ⟨M',h3,h4,h5⟩ L hL;rw[ao] at hi1;rw[cA hi0 (by omega),List.map_cons] at h3
   have hql:q.length+1≤6:=by have:=congrArg List.length h3;have:=h4.1;simp at *;omega
   have h4:aQ (ρ++T) ρ.length q M':=h4;have hre:((ints n.nodes).map fun j=>cq n i j (fun k=>at2 x k j) n.links)=gX n x i:=by
    refine List.map_congr_left fun j hj=>?_;have hj:=cf.1 hj;exact pX hc i j _ fun k h0 h1=>sj hx ⟨h0,h1⟩ hj
   have hlk:=fun X=>sS n i (fun k j=>at2 x k j) 96 _ (ρ++X) hn hl hi0 (by omega) (by kernel_rfl) (fun k j a b c d=>sj hx ⟨a,b⟩ ⟨c,d⟩)
    (fun k j a b c d S hS=>hf k j a b c d S (by
     obtain⟨τ',rfl⟩:=hS;exact⟨[.dead,.dead]++(X++τ'),by rw[←hρ];simp⟩))
   rw[hre] at hlk;have hwl:(gX n x i).length=n.nodes.toNat:=by rw[gX,List.length_map,ao]
   rcases q with _|⟨y,q⟩<;>simp only[List.length_cons,List.length_nil] at hql<;>simp -implicitDefEqProofs only[go_sem,aq,ap]
   all_goals (repeat' (first|(refine g_s fun K hK=>?_)|(refine g_b ?_)|(refine g_k ?_;simp only[ah,ae])|(refine g_C (fun h=>?_) (fun h=>?_)<;>(try exact g_f))|((first|refine g_g ?_|refine af.useA (hlk _) ?_);(try refine g_y ?_))|(refine hK _ _ ?_;clear hK K)|(with_reducible refine And.intro ?_ ?_;· exact g_x)|exact trivial|fail))
   ·refine hL ([]++[ρ.length+(T.length+1)],T++[.dead,.cells 1 ((gX n x i).map au),.cells 1 [be n.nodes.toNat (ρ.length+(T.length+1))]]) τ _ _ ⟨M'++[gX n x i],by simpa using h3,nj h4 rfl rfl,pS h4 h5⟩ (ai ?_) ?_
    ·simp -implicitDefEqProofs only[go_sem,aq,be]
    ·simp [ap,be]
   ·refine hL ((y::q)++[ρ.length+(T.length+1)],T++[.dead,.cells 1 ((gX n x i).map au),.cells 1 [be n.nodes.toNat (ρ.length+(T.length+1))]]) τ _ _ ⟨M'++[gX n x i],by simpa using h3,nj h4 rfl rfl,pS h4 h5⟩ (ai ?_) ?_
    ·simp -implicitDefEqProofs only[go_sem,aq,be]
    ·simp [ap,be]
  ·rintro i ⟨q,T⟩ τ hi ⟨M',h3,h4,h5⟩ L;rw[ao] at hi;simp -implicitDefEqProofs only[go_sem]
   (repeat' (first|(refine g_s fun K hK=>?_)|(refine g_e ?_;simp only[ah,ae,↓reduceIte,Nat.reduceEqDiff])|(refine g_C (fun h=>?_) (fun h=>?_)<;>(try exact g_f))|(refine g_g ?_;(try refine g_y ?_))|(refine hK _ _ ?_;clear hK K)|exact trivial|fail))
   refine hJ _ _ ?_;clear hJ;have h4:aQ (ρ++T) ρ.length q M':=h4;have h5:q.Nodup:=h5;have h3:M'=M:=by simpa using h3
   subst h3;have hl:=h4.1
   rcases q with _|⟨y,q⟩
   ·rw[←hl] at hMl;simp at hMl;omega
   simp -implicitDefEqProofs only[go_sem,aq,ap]
   (repeat' (first|(refine g_s fun K hK=>?_)|((first|refine g_t ?_|refine g_g ?_);(try refine g_y ?_))|(refine hK _ _ ?_;clear hK K)|exact trivial|fail))
   have hl:q.length+1=M'.length:=h4.1;subst hρ;refine⟨[.dead,.dead]++(T++[.cells 1 ((y::q).map (be n.nodes.toNat))]),by simp,((σ++[Ob.dead,.dead]).length+T.length)::y::q,hMw,.inr ⟨_,y::q,rfl,?_,?_,by rw[hl],by simp;omega,?_,?_⟩⟩
   ·rw[List.nodup_cons];refine⟨fun hm=>?_,h5⟩;have:=(h4.lt _ hm).1;simp only[List.length_append] at this;omega
   ·intro e;rw[e] at hl;simp at hl
   ·rw[←List.append_assoc,List.getElem?_append_right (by omega),List.getElem?_append_right (by omega)]
    have e:(σ++[Ob.dead,.dead]).length+T.length-(σ++[Ob.dead,.dead]).length-T.length=0:=by omega
    rw[e];rfl
   ·rw[←List.append_assoc];refine h4.congr (by simp) fun b hb o ho=>?_
    have:=(List.getElem?_eq_some_iff.1 ho).1;rw[←List.append_assoc,List.getElem?_append_left this];exact ho
end Go.Proofs.YtephecognbbaoaaGreat
namespace Go.Proofs.YtephecognbbaoaaGreat
inductive Pl where
 | mk (kind n:Int) (edges:List Int) (parts:List Pl)
instance:Inhabited Pl:=⟨.mk 0 0 [] []⟩
instance:Inhabited Alg:=⟨⟨0,[],[]⟩⟩
def Pl.kind:Pl→Int | .mk k _ _ _=>k
def Pl.n:Pl→Int | .mk _ n _ _=>n
def Pl.edges:Pl→List Int | .mk _ _ e _=>e
def Pl.parts:Pl→List Pl | .mk _ _ _ ps=>ps
mutual
def fl:Pl→Nat→Int
 | .mk _ _ _ ps,left=>1+deepL ps left
def deepL:List Pl→Nat→Int
 | [],_=>0
 | x::r,left=>match left with
  | 0=>0
  | l+1=>max (fl x l) (deepL r (l+1))
end
theorem qA (x:Pl) (r:List Pl) (l:Nat):deepL (x::r) (l+1)=max (fl x l) (deepL r (l+1)):=by rw[deepL]
theorem m4 (ps:List Pl):deepL ps 0=0:=by cases ps<;>rw[deepL]
theorem lf (k n:Int) (e:List Int) (ps:List Pl) (l:Nat):fl (.mk k n e ps) l=1+deepL ps l:=by rw[fl]
theorem le:∀(l:Nat),(∀p,1≤fl p l∧fl p l≤l+1)∧∀ps,0≤deepL ps l∧deepL ps l≤l
 | 0=>by
  have h:∀ps,0≤deepL ps 0∧deepL ps 0≤(0:Nat):=fun ps=>by rw[m4];omega
  refine⟨fun p=>?_,h⟩;obtain⟨k,n,e,ps⟩:=p;rw[lf,m4];omega
 | l+1=>by
  obtain⟨h1,_⟩:=le l;have h:∀ps,0≤deepL ps (l+1)∧deepL ps (l+1)≤(l+1:Nat):=fun ps=>by
   induction ps with
   | nil=>rw[deepL];omega
   | cons x r ih=>
    rw[qA];have:=h1 x;omega
  refine⟨fun p=>?_,h⟩;obtain⟨k,n,e,ps⟩:=p;rw[lf];have:=h ps;omega
mutual
def cY:Pl→Bool
 | .mk _ _ e ps=>decide (8<e.length)||wideL ps
def wideL:List Pl→Bool
 | []=>false
 | x::r=>cY x||wideL r
end
mutual
def bu:Pl→Int
 | .mk k _ e ps=>if k=3 then at0 (edgesL ps) 0 else e.length
def edgesL:List Pl→List Int
 | []=>[]
 | x::r=>bu x::edgesL r
end
mutual
def bH:Pl→Int
 | .mk k n _ ps=>if k=3 then (at0 (sizeL ps) 0-1)*(at0 (sizeL ps) 1-1)+1 else if k=4 then at0 (sizeL ps) 0 else n+2
def sizeL:List Pl→List Int
 | []=>[]
 | x::r=>bH x::sizeL r
end
theorem dv:∀ps:List Pl,edgesL ps=ps.map bu
 | []=>by rw[edgesL];rfl
 | x::r=>by rw[edgesL,dv r];rfl
theorem dh:∀ps:List Pl,sizeL ps=ps.map bH
 | []=>by rw[sizeL];rfl
 | x::r=>by rw[sizeL,dh r];rfl
def gx (k:Int):Int:=if k=3 then 2 else if k=4 then 1 else 0
def pt (k n:Int) (e:List Int) (ps:List Pl):Int:=
 if !inR k 1 4 then 7
 else if (ps.length:Int)≠gx k then 1
 else if k=3 then
  (if n≠0 then 3 else if 0<e.length then 1 else if at0 (edgesL ps) 0≠at0 (edgesL ps) 1 then 4 else if 24<(at0 (sizeL ps) 0-1)*(at0 (sizeL ps) 1-1)+1 then 2 else 0)
 else if k=4 then
  (if n≠0 then 3 else if (e.length:Int)≠at0 (edgesL ps) 0 then 4 else if (e.any fun x => !inR x 0 (2 ^ (at0 (sizeL ps) 0).toNat-1))=true then 3 else 0)
 else if !inR n 1 22 then 3 else if (e.any fun x => !inR x 1 n)=true then 3 else 0
mutual
def bo:Pl→Int
 | .mk k n e ps=>if checkL ps≠0 then checkL ps else pt k n e ps
def checkL:List Pl→Int
 | []=>0
 | x::r=>if bo x≠0 then bo x else checkL r
end
def my (m k:Int):Bool:=decide ((m / 2 ^ k.toNat) % 2=1)
def co (n:Int) (e:List Int) (f:Int→Int→Int):Alg:=
 ⟨n+2,(ints (n+2)).map fun i=>(ints (n+2)).map fun k=>min i k,e.map fun x=>(ints (n+2)).map fun k=>if k=n+1 then k else min (f x k) (n+1)⟩
def eV (x y:Alg) (p q:Int):Int:=if p=x.size-1∨q=y.size-1 then (x.size-1)*(y.size-1) else p*(y.size-1)+q
def bf (x y:Alg) (i k:Int):Int:=
 if i=(x.size-1)*(y.size-1) then k
 else if k=(x.size-1)*(y.size-1) then i
 else if i / (y.size-1)=k / (y.size-1) then eV x y (i / (y.size-1)) (at2 y.best (i % (y.size-1)) (k % (y.size-1)))
 else if at2 x.best (i / (y.size-1)) (k / (y.size-1))=i / (y.size-1) then i
 else k
def cx (x y:Alg) (e k:Int):Int:=
 if k=(x.size-1)*(y.size-1) then k else eV x y (at2 x.edges e (k / (y.size-1))) (at2 y.edges e (k % (y.size-1)))
def dd (x y:Alg):Alg:=
 ⟨(x.size-1)*(y.size-1)+1,(ints ((x.size-1)*(y.size-1)+1)).map fun i=>(ints ((x.size-1)*(y.size-1)+1)).map fun k=>bf x y i k,
  (ints x.edges.length).map fun e=>(ints ((x.size-1)*(y.size-1)+1)).map fun k=>cx x y e k⟩
def ov (s m:Int) (row:List Int):List Int:=(ints s).map fun k=>if my m k=true then s-1 else at0 row k
def en (e:List Int) (a:Alg):Alg:=⟨a.size,a.best,(ints e.length).map fun i=>ov a.size (at0 e i) (at0 a.edges i)⟩
mutual
def aO:Pl→Alg
 | .mk k n e ps=>if k=1 then co n e (fun x a=>a+x) else if k=2 then co n e (fun x a=>max a x) else if k=3 then dd (at0 (buildL ps) 0) (at0 (buildL ps) 1) else en e (at0 (buildL ps) 0)
def buildL:List Pl→List Alg
 | []=>[]
 | x::r=>aO x::buildL r
end
theorem fo:∀ps:List Pl,buildL ps=ps.map aO
 | []=>by rw[buildL];rfl
 | x::r=>by rw[buildL,fo r];rfl
theorem m5:∀ {ps:List Pl},checkL ps=0→∀x∈ps,bo x=0
 | [],_,x,hx=>by cases hx
 | y::r,h,x,hx=>by
  rw[checkL] at h
  by_cases hy:bo y=0
  ·rw[if_neg (not_not_intro hy)] at h
   rcases List.mem_cons.1 hx with rfl|hx
   ·exact hy
   ·exact m5 h x hx
  ·rw[if_pos hy] at h;exact absurd h hy
theorem fO {m:Int} {f:Int→Int} (h:0≤m):(((ints m).map f).length:Int)=m:=by
 rw[List.length_map,ao];omega
theorem gJ {k n:Int} {e:List Int} {ps:List Pl} (h:bo (.mk k n e ps)=0):(∀x∈ps,bo x=0) ∧
    ((k=1∧ps=[]∧(1≤n∧n≤22)∧(∀x∈e,1≤x∧x≤n))∨(k=2∧ps=[]∧(1≤n∧n≤22)∧(∀x∈e,1≤x∧x≤n)) ∨
     (k=3∧n=0∧e=[]∧∃x y,ps=[x,y]∧bu x=bu y∧(bH x-1)*(bH y-1)+1≤24) ∨
     (k=4∧n=0∧∃x,ps=[x]∧(e.length:Int)=bu x∧∀v∈e,0≤v∧v≤2 ^ (bH x).toNat-1)):=by
  rw[bo] at h
  by_cases h0:checkL ps=0
  · rw[if_neg (not_not_intro h0)] at h
    refine⟨m5 h0,?_⟩
    unfold pt at h
    by_cases hk:inR k 1 4=true
    · rw[hk,if_neg (by decide)] at h
      have hk2:=aG.1 hk
      by_cases hp:(ps.length:Int)=gx k
      · rw[if_neg (not_not_intro hp)] at h
        by_cases h3:k=3
        · subst h3
          rw[if_pos rfl] at h
          by_cases hn:n=0
          · rw[if_neg (not_not_intro hn)] at h
            by_cases he:0<e.length
            · rw[if_pos he] at h;cases h
            · rw[if_neg he] at h
              have hp2:(ps.length:Int)=2:=hp
              obtain⟨x,y,rfl⟩:∃x y,ps=[x,y]:=by
                match ps,hp2 with
                | [x,y],_=>exact⟨x,y,rfl⟩
                | [],h=>simp at h
                | [x],h=>simp at h
                | x::y::z::r,h=>simp at h;omega
              rw[dv,dh] at h
              have e0:at0 ([x,y].map bu) 0=bu x:=rfl
              have e1:at0 ([x,y].map bu) 1=bu y:=rfl
              have s0:at0 ([x,y].map bH) 0=bH x:=rfl
              have s1:at0 ([x,y].map bH) 1=bH y:=rfl
              rw[e0,e1,s0,s1] at h
              by_cases hee:bu x=bu y
              · rw[if_neg (not_not_intro hee)] at h
                by_cases hs:24<(bH x-1)*(bH y-1)+1
                · rw[if_pos hs] at h;cases h
                · exact .inr (.inr (.inl ⟨rfl,hn,List.eq_nil_of_length_eq_zero (by omega),x,y,rfl,hee,by omega⟩))
              · rw[if_pos hee] at h;cases h
          · rw[if_pos hn] at h;cases h
        · rw[if_neg h3] at h
          by_cases h4:k=4
          · subst h4
            rw[if_pos rfl] at h
            by_cases hn:n=0
            · rw[if_neg (not_not_intro hn)] at h
              have hp2:(ps.length:Int)=1:=hp
              obtain⟨x,rfl⟩:∃x,ps=[x]:=by
                match ps,hp2 with
                | [x],_=>exact⟨x,rfl⟩
                | [],h=>simp at h
                | x::y::r,h=>simp at h;omega
              rw[dv,dh] at h
              have e0:at0 ([x].map bu) 0=bu x:=rfl
              have s0:at0 ([x].map bH) 0=bH x:=rfl
              rw[e0,s0] at h
              by_cases hee:(e.length:Int)=bu x
              · rw[if_neg (not_not_intro hee)] at h
                by_cases ha:(e.any fun v => !inR v 0 (2 ^ (bH x).toNat-1))=true
                · rw[if_pos ha] at h;cases h
                · refine .inr (.inr (.inr ⟨rfl,hn,x,rfl,hee,fun v hv=>?_⟩))
                  apply Classical.byContradiction
                  intro hc
                  refine ha (List.any_eq_true.2 ⟨v,hv,ci.2 ?_⟩)
                  omega
              · rw[if_pos hee] at h;cases h
            · rw[if_pos hn] at h;cases h
          · rw[if_neg h4] at h
            have hp2:(ps.length:Int)=0:=by rw[hp,gx,if_neg h3,if_neg h4]
            have hp3:ps=[]:=List.eq_nil_of_length_eq_zero (by omega)
            by_cases hn:inR n 1 22=true
            · rw[hn,if_neg (by decide)] at h
              have hn2:=aG.1 hn
              by_cases ha:(e.any fun v => !inR v 1 n)=true
              · rw[if_pos ha] at h;cases h
              · have hv:∀x∈e,1≤x∧x≤n:=fun v hv=>by
                  apply Classical.byContradiction
                  intro hc
                  refine ha (List.any_eq_true.2 ⟨v,hv,ci.2 ?_⟩)
                  omega
                have:k=1∨k=2:=by omega
                rcases this with rfl|rfl
                · exact .inl ⟨rfl,hp3,hn2,hv⟩
                · exact .inr (.inl ⟨rfl,hp3,hn2,hv⟩)
            · have hn2:inR n 1 22=false:=by simpa using hn
              rw[hn2,if_pos (by decide)] at h;cases h
      · rw[if_pos hp] at h
        cases h
    · have hk2:inR k 1 4=false:=by simpa using hk
      rw[hk2,if_pos (by decide)] at h
      cases h
  · rw[if_pos h0] at h
    exact absurd h h0
end Go.Proofs.YtephecognbbaoaaGreat
namespace Go.Proofs.YtephecognbbaoaaGreat
theorem inM {m:Int} {f:Int→Int} {v:Int} (h:v∈(ints m).map f):∃k,(0≤k∧k<m)∧v=f k:=by
 obtain⟨k,hk,rfl⟩:=List.mem_map.1 h;exact⟨k,cf.1 hk,rfl⟩
structure dW (N m:Int):Prop where
 n:1≤N
 m:1≤m
theorem dW.last {N m:Int} (h:dW N m):1≤N*m:=by
 have:=Int.mul_pos (a:=N) (b:=m) (by have:=h.n;omega) (by have:=h.m;omega)
 omega
theorem dW.div {N m i:Int} (h:dW N m) (h0:0≤i) (h1:i<N*m):0≤i / m∧i / m<N:=
 ⟨Int.ediv_nonneg h0 (by have:=h.m;omega),Int.ediv_lt_of_lt_mul (by have:=h.m;omega) h1⟩
theorem dW.mod {N m i:Int} (h:dW N m):0≤i % m∧i % m<m:=
 ⟨Int.emod_nonneg _ (by have:=h.m;omega),Int.emod_lt_of_pos _ (by have:=h.m;omega)⟩
theorem dW.mul {N m p q:Int} (h:dW N m) (p0:0≤p) (p1:p<N) (q0:0≤q) (q1:q<m):0≤p*m+q∧p*m+q<N*m:=by
 have hm:=h.m;have h1:0≤p*m:=Int.mul_nonneg p0 (by omega)
 have h2:(p+1)*m≤N*m:=Int.mul_le_mul_of_nonneg_right (by omega) (by omega)
 rw[Int.add_mul,Int.one_mul] at h2;omega
theorem dW.back {N m p q:Int} (h:dW N m) (q0:0≤q) (q1:q<m):(p*m+q) / m=p∧(p*m+q) % m=q:=by
 have hm:=h.m
 constructor
 ·rw[Int.add_comm,Int.add_mul_ediv_right _ _ (by omega),Int.ediv_eq_zero_of_lt q0 q1,Int.zero_add]
 ·rw[Int.add_comm,Int.add_mul_emod_self_right,Int.emod_eq_of_lt q0 q1]
theorem dW.of {N m i:Int} (h:dW N m):i / m*m+i % m=i:=by
 have:=Int.mul_ediv_add_emod i m;rw[Int.mul_comm] at this;exact this
theorem x9 {x y:Alg} (h:dW (x.size-1) (y.size-1)) {p q:Int} (p0:0≤p) (p1:p<x.size) (q0:0≤q) (q1:q<y.size):0≤eV x y p q∧eV x y p q≤(x.size-1)*(y.size-1):=by
 have hl:=h.last;unfold eV
 by_cases c:p=x.size-1∨q=y.size-1
 ·rw[if_pos c];omega
 ·rw[if_neg c];have:=h.mul p0 (by omega) q0 (by omega)
  omega
section
variable {x y:Alg}
structure ce (a:Alg):Prop where
 s2:2≤a.size
 s24:a.size≤24
 bl:(a.best.length:Int)=a.size
 row:∀r∈a.best++a.edges,(r.length:Int)=a.size
 val:∀r∈a.best++a.edges,∀v∈r,0≤v∧v≤a.size-1
theorem ce.best_in {a:Alg} (h:ce a) {i j:Int} (h0:0≤i) (h1:i<a.size) (h2:0≤j) (h3:j<a.size):0≤at2 a.best i j∧at2 a.best i j<a.size:=by
 have hm:=aA a.best h0 (by have:=h.bl;omega)
 have hr:=h.row _ (List.mem_append_left _ hm);have:=h.val _ (List.mem_append_left _ hm) _ (aA _ h2 (by omega))
 unfold at2;omega
theorem ce.edge_in {a:Alg} (h:ce a) {i j:Int} (h0:0≤i) (h1:i<a.edges.length) (h2:0≤j) (h3:j<a.size):0≤at2 a.edges i j∧at2 a.edges i j<a.size:=by
 have hm:=aA a.edges h0 h1;have hr:=h.row _ (List.mem_append_right _ hm);have:=h.val _ (List.mem_append_right _ hm) _ (aA _ h2 (by omega))
 unfold at2;omega
theorem qo {X:Type} {m:Int} {f:Int→X} (h:0≤m):(((ints m).map f).length:Int)=m:=by
 rw[List.length_map,ao];omega
theorem s5 {n:Int} {e:List Int} {f:Int→Int→Int} (h1:1≤n) (h22:n≤22) (hf:∀x∈e,∀k,0≤k→0≤f x k):ce (co n e f):=by
 refine⟨by simp only[co];omega,by simp only[co];omega,qo (by omega),fun r hr=>?_,fun r hr v hv=>?_⟩
 ·rcases List.mem_append.1 hr with hr|hr
  ·obtain⟨i,hi,rfl⟩:=List.mem_map.1 hr;exact fO (by omega)
  ·obtain⟨i,hi,rfl⟩:=List.mem_map.1 hr;exact fO (by omega)
 ·rcases List.mem_append.1 hr with hr|hr
  ·obtain⟨i,hi,rfl⟩:=List.mem_map.1 hr;have hi:=cf.1 hi;obtain⟨k,hk,rfl⟩:=inM hv;simp only[co];omega
  ·obtain⟨i,hi,rfl⟩:=List.mem_map.1 hr;obtain⟨k,hk,rfl⟩:=inM hv;have:=hf i hi k hk.1;simp only[co]
   split<;>omega
theorem d9 (hx:ce x) (hy:ce y):dW (x.size-1) (y.size-1):=⟨by have:=hx.s2;omega,by have:=hy.s2;omega⟩
theorem zA (hx:ce x) (hy:ce y) {i k:Int} (i0:0≤i) (i1:i<(x.size-1)*(y.size-1)+1) (k0:0≤k) (k1:k<(x.size-1)*(y.size-1)+1):0≤bf x y i k∧bf x y i k≤(x.size-1)*(y.size-1):=by
 have h:=d9 hx hy;have hl:=h.last;unfold bf
 by_cases c1:i=(x.size-1)*(y.size-1)
 ·rw[if_pos c1];omega
 rw[if_neg c1]
 by_cases c2:k=(x.size-1)*(y.size-1)
 ·rw[if_pos c2];omega
 rw[if_neg c2]
 by_cases c3:i / (y.size-1)=k / (y.size-1)
 ·rw[if_pos c3];have a1:=h.div i0 (by omega)
  have a2:=h.mod (i:=i);have a3:=h.mod (i:=k);have:=hy.best_in a2.1 (by omega) a3.1 (by omega)
  exact x9 h a1.1 (by omega) this.1 this.2
 rw[if_neg c3]
 split<;>omega
theorem zz (hx:ce x) (hy:ce y) (he:x.edges.length=y.edges.length) {e k:Int} (e0:0≤e) (e1:e<x.edges.length) (k0:0≤k) (k1:k<(x.size-1)*(y.size-1)+1):0≤cx x y e k∧cx x y e k≤(x.size-1)*(y.size-1):=by
 have h:=d9 hx hy;have hl:=h.last;unfold cx
 by_cases c2:k=(x.size-1)*(y.size-1)
 ·rw[if_pos c2];omega
 rw[if_neg c2];have a1:=h.div k0 (by omega)
 have a3:=h.mod (i:=k);have b1:=hx.edge_in e0 e1 a1.1 (by omega)
 have b2:=hy.edge_in e0 (by omega) a3.1 (by omega)
 exact x9 h b1.1 b1.2 b2.1 b2.2
theorem Ct (hx:ce x) (hy:ce y) (he:x.edges.length=y.edges.length) (h24:(x.size-1)*(y.size-1)+1≤24):ce (dd x y):=by
 have h:=d9 hx hy;have hl:=h.last;refine⟨by simp only[dd];omega,by simp only[dd];omega,qo (by omega),fun r hr=>?_,fun r hr v hv=>?_⟩
 ·rcases List.mem_append.1 hr with hr|hr
  ·obtain⟨i,hi,rfl⟩:=List.mem_map.1 hr;exact fO (by omega)
  ·obtain⟨i,hi,rfl⟩:=List.mem_map.1 hr;exact fO (by omega)
 ·rcases List.mem_append.1 hr with hr|hr
  ·obtain⟨i,hi,rfl⟩:=List.mem_map.1 hr;have hi:=cf.1 hi;obtain⟨k,hk,rfl⟩:=inM hv;have:=zA hx hy hi.1 hi.2 hk.1 hk.2;simp only[dd];omega
  ·obtain⟨i,hi,rfl⟩:=List.mem_map.1 hr;have hi:=cf.1 hi;obtain⟨k,hk,rfl⟩:=inM hv;have:=zz hx hy he hi.1 hi.2 hk.1 hk.2;simp only[dd];omega
theorem zN (hx:ce x) {e:List Int} (he:e.length=x.edges.length):ce (en e x):=by
 have s2:=hx.s2;refine⟨hx.s2,hx.s24,hx.bl,fun r hr=>?_,fun r hr v hv=>?_⟩
 ·rcases List.mem_append.1 hr with hr|hr
  ·exact hx.row r (List.mem_append_left _ hr)
  ·obtain⟨i,hi,rfl⟩:=List.mem_map.1 hr;exact fO (by show 0≤x.size;omega)
 ·rcases List.mem_append.1 hr with hr|hr
  ·exact hx.val r (List.mem_append_left _ hr) v hv
  ·obtain⟨i,hi,rfl⟩:=List.mem_map.1 hr;have hi:=cf.1 hi;obtain⟨k,hk,rfl⟩:=inM hv;have:=hx.edge_in hi.1 (by omega) hk.1 hk.2
   simp only[en];unfold at2 at this
   split<;>omega
end
structure Ao (p:Pl):Prop where
 form:ce (aO p)
 size:(aO p).size=bH p
 edges:((aO p).edges.length:Int)=bu p
mutual
theorem eS:∀(p:Pl),bo p=0→Ao p
 | .mk k n e ps,h=>by
  obtain⟨hps,hc⟩:=gJ h;have ih:=build_okL ps hps
  rcases hc with ⟨rfl,rfl,hn,he⟩|⟨rfl,rfl,hn,he⟩|⟨rfl,rfl,rfl,x,y,rfl,hee,hs⟩|⟨rfl,rfl,x,rfl,hel,hev⟩
  ·have hb:aO (.mk 1 n e [])=co n e (fun x a=>a+x):=by rw[aO,if_pos rfl]
   refine⟨?_,?_,?_⟩
   ·rw[hb];exact s5 hn.1 hn.2 fun x hx k hk=>by have:=he x hx;show 0≤k+x;omega
   ·rw[hb,bH,if_neg (by decide),if_neg (by decide)];rfl
   ·rw[hb,bu,if_neg (by decide)];simp [co]
  ·have hb:aO (.mk 2 n e [])=co n e (fun x a=>max a x):=by rw[aO,if_neg (by decide),if_pos rfl]
   refine⟨?_,?_,?_⟩
   ·rw[hb];exact s5 hn.1 hn.2 fun x hx k hk=>by show 0≤max k x;omega
   ·rw[hb,bH,if_neg (by decide),if_neg (by decide)];rfl
   ·rw[hb,bu,if_neg (by decide)];simp [co]
  ·have hx:=ih x (by simp)
   have hy:=ih y (by simp)
   have hb:aO (.mk 3 0 [] [x,y])=dd (aO x) (aO y):=by rw[aO,if_neg (by decide),if_neg (by decide),if_pos rfl,fo];rfl
   have hee2:(aO x).edges.length=(aO y).edges.length:=by have:=hx.edges;have:=hy.edges;omega
   refine⟨?_,?_,?_⟩
   ·rw[hb];exact Ct hx.form hy.form hee2 (by rw[hx.size,hy.size];exact hs)
   ·rw[hb,bH,if_pos rfl,dh,dd,hx.size,hy.size];rfl
   ·rw[hb,bu,if_pos rfl,dv];show (((ints (aO x).edges.length).map _).length:Int)=bu x;rw[qo (by omega),hx.edges]
  ·have hx:=ih x (by simp)
   have hb:aO (.mk 4 0 e [x])=en e (aO x):=by rw[aO,if_neg (by decide),if_neg (by decide),if_neg (by decide),fo];rfl
   refine⟨?_,?_,?_⟩
   ·rw[hb];exact zN hx.form (by have:=hx.edges;omega)
   ·rw[hb,bH,if_neg (by decide),if_pos rfl,dh];exact hx.size
   ·rw[hb,bu,if_neg (by decide)]
    show (((ints e.length).map _).length:Int)=_;rw[qo (by omega)]
theorem build_okL:∀(ps:List Pl),(∀x∈ps,bo x=0)→∀x∈ps,Ao x
 | [],_,x,hx=>by cases hx
 | y::r,h,x,hx=>by
  have h1:=eS y (h y (by simp))
  have h2:=build_okL r (fun z hz=>h z (by simp [hz]))
  rcases List.mem_cons.1 hx with rfl|hx
  ·exact h1
  ·exact h2 x hx
end
end Go.Proofs.YtephecognbbaoaaGreat
namespace Go.Proofs.YtephecognbbaoaaGreat
theorem Eb {X Y:Type} [Inhabited X] [Inhabited Y] (f:X→Y) (l:List X) {k:Int} (h0:0≤k) (h:k<l.length):at0 (l.map f) k=f (at0 l k):=by
 have:k.toNat<l.length:=by omega
 simp [at0,List.getD_eq_getElem?_getD,this]
end Go.Proofs.YtephecognbbaoaaGreat
namespace Go.Proofs.YtephecognbbaoaaGreat
def gk (p:Pl):Int:=if 4<fl p 4∨cY p=true then 2 else bo p
theorem rZ {p:Pl} (h:gk p=0):cY p=false∧bo p=0:=by
 unfold gk at h
 split at h
 ·cases h
 ·rename_i hc
  rw[not_or] at hc;exact⟨by simpa using hc.2,h⟩
mutual
theorem nL:∀(p:Pl),bo p=0→cY p=false→bu p≤8
 | .mk k n e ps,h,hw=>by
  obtain⟨hps,hc⟩:=gJ h;rw[cY,Bool.or_eq_false_iff,decide_eq_false_iff_not] at hw;have ih:=edges_leL ps hps hw.2;rw[bu]
  rcases hc with ⟨rfl,rfl,hn,he⟩|⟨rfl,rfl,hn,he⟩|⟨rfl,rfl,rfl,x,y,rfl,hee,hs⟩|⟨rfl,rfl,x,rfl,hel,hev⟩
  ·rw[if_neg (by decide)];omega
  ·rw[if_neg (by decide)];omega
  ·rw[if_pos rfl,dv];exact ih x (by simp)
  ·rw[if_neg (by decide)];omega
theorem edges_leL:∀(ps:List Pl),(∀x∈ps,bo x=0)→wideL ps=false→∀x∈ps,bu x≤8
 | [],_,_,x,hx=>by cases hx
 | y::r,h,hw,x,hx=>by
  rw[wideL,Bool.or_eq_false_iff] at hw;have h1:=nL y (h y (by simp)) hw.1
  have h2:=edges_leL r (fun z hz=>h z (by simp [hz])) hw.2
  rcases List.mem_cons.1 hx with rfl|hx
  ·exact h1
  ·exact h2 x hx
end
theorem sP {p:Pl} (h:gk p=0):cS (aO p):=by
 obtain⟨hw,hc⟩:=rZ h;have hb:=eS p hc;have he:=nL p hc hw;exact⟨hb.form.s2,hb.form.s24,by have:=hb.edges;omega,hb.form.bl,hb.form.row,hb.form.val⟩
end Go.Proofs.YtephecognbbaoaaGreat
