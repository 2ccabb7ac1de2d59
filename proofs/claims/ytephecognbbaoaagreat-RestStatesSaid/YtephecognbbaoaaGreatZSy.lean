/- The words of the walk's simplifier. -/
import Derived.Test.YtephecognbbaoaaGreatZGr
import Derived.Test.YtephecognbbaoaaGreatProg
open Go
set_option linter.all false
set_option maxRecDepth 100000
set_option maxHeartbeats 4000000
namespace Go.Proofs.YtephecognbbaoaaGreat
open Go
set_option linter.all false
attribute [go_sem ↓] aX zm xH Ed CJ DT Cl DL Cc DX Cq Fs Ft D5 CE Bc Bb ET EU ES B5 B6
attribute [go_sem] aB w6 Option.isSome_some List.length_map Int.toNat_natCast lU true_and and_true List.getElem?_cons_zero List.getElem?_cons_succ List.getElem?_nil List.drop_zero List.drop_succ_cons List.drop_nil List.take_succ_cons List.take_zero Option.bind_some Option.bind_none Option.map_some decide_true decide_false Bool.not_true Bool.not_false forall_const reduceCtorEq Option.some.injEq List.cons_append List.nil_append List.append_assoc Bool.true_eq_false Bool.false_eq_true false_implies implies_true not_true_eq_false not_false_eq_true and_false false_and or_true true_or or_false false_or ne_eq true_implies List.length_cons List.length_nil List.length_append Nat.add_assoc Nat.zero_add
 decide_eq_true_eq decide_eq_false_iff_not Bool.and_eq_true Bool.or_eq_true beq_iff_eq bne_iff_ne beq_eq_false_iff_ne bne_eq_false_iff_eq Bool.not_eq_true' Bool.not_eq_false' Int.not_le Int.not_lt ge_iff_le gt_iff_lt Bool.and_eq_false_iff Bool.or_eq_false_iff Bool.not_eq_true Bool.not_eq_false
 dq Bh keep List.elem_cons List.elem_nil qE yT yf o6 vB DI sD aW jT y5 oC fz iz Bool.true_and Bool.false_and Bool.and_true Bool.and_false DP la ym nG iA fa vn Ee mW
attribute [go_sem] qL nP cD isWr cO Bx Eh
attribute [go_sem] E6 E5 Eg E4 CQ
attribute [go_sem] DK NK KK Bool.false_or Bool.true_or
attribute [go_sem] Nat.reduceLT Nat.reduceEqDiff Nat.reduceBEq Nat.reduceAdd Nat.reduceSub Nat.reduceLeDiff Nat.reduceMul Int.reduceAdd Int.reduceSub Int.reduceMul Int.reduceLT Int.reduceLE Int.reduceEq Int.reduceNe Int.reduceToNat Int.reduceNeg
attribute [go_sem ↓] reduceIte
theorem EJ {X:Type} [Inhabited X] (f:X→List AV) (l:List X) (K:List AV→Prop):on (l.map f)[0]? K=(0<l.length∧K (f (at0 l 0))):=yf f l 0 K
theorem EI {X:Type} [Inhabited X] (f:X→List AV) (l:List X) (K:List AV→Prop):on (l.map f)[1]? K=(1<l.length∧K (f (at0 l 1))):=yf f l 1 K
attribute [go_sem] EJ EI
theorem zL {w:Bool} {d:Nat} {α:AF} {s t:AF→Prop} : ot w (.c undef) d α s t=t α:=rfl
attribute [go_sem ↓] zL
theorem EK {α β:Type} (o:Option α) (f:α→Option β) (K:β→Prop):on (o.bind f) K=on o fun x=>on (f x) K:=by cases o<;>rfl
attribute [go_sem ↓] EK
theorem yU:([]:List AV).all cw=true:=rfl
theorem wU (a:AV) (l:List AV):(a::l).all cw=(cw a&&l.all cw):=rfl
theorem DF (k:IntKind) (n:Int):(Value.int k n).oneCell'=true:=rfl
theorem B8 (b:Bool):(Value.bool b).oneCell'=true:=rfl
theorem DD (s:ByteArray):(Value.string s).oneCell'=true:=rfl
theorem DE:(Value.slice none 0 0).oneCell'=true:=rfl
attribute [go_sem] yU wU DF B8 DD DE
end Go.Proofs.YtephecognbbaoaaGreat
namespace Go.Proofs.YtephecognbbaoaaGreat
attribute [go_sem] AOp cH bk evF sh vC jG evL ah ae Ds oE us ln tU ud m9 cd eY jL ll nf iG Bs DO CA D1 D2 D4 AD BR AE Cy bO c7 jI rC qE cw st0 st1 ss0 ss1 List.set_cons_zero List.set_cons_succ setL
attribute [go_sem] Tryz.underlying2
theorem ww:dV Tryz.prog 3=true:=by kernel_rfl
theorem zb:bA Tryz.prog 3=none:=by kernel_rfl
theorem xo:(Tryz.prog.info? 3).isSome=true:=by kernel_rfl
theorem wB:Tryz.prog.cellsOf 3=1:=by kernel_rfl
theorem wC:Tryz.prog.bytesOf 3=8:=by kernel_rfl
theorem xm:bY Tryz.prog 3=some [.c (.int .i64 0)]:=by kernel_rfl
attribute [go_sem] Tryz.underlying3 ww zb xo wB wC xm
theorem u7:dV Tryz.prog 4=true:=by kernel_rfl
theorem xp:bA Tryz.prog 4=none:=by kernel_rfl
attribute [go_sem] Tryz.underlying4 u7 xp
theorem tW:dV Tryz.prog 5=true:=by kernel_rfl
theorem wD:bA Tryz.prog 5=none:=by kernel_rfl
theorem va:(Tryz.prog.info? 5).isSome=true:=by kernel_rfl
theorem t8:Tryz.prog.cellsOf 5=1:=by kernel_rfl
theorem uc:Tryz.prog.bytesOf 5=1:=by kernel_rfl
theorem uZ:bY Tryz.prog 5=some [.c (.int .u8 0)]:=by kernel_rfl
attribute [go_sem] Tryz.underlying5 tW wD va t8 uc uZ
theorem tn:dV Tryz.prog 9=true:=by kernel_rfl
theorem vg:bA Tryz.prog 9=none:=by kernel_rfl
theorem tY:(Tryz.prog.info? 9).isSome=true:=by kernel_rfl
theorem tp:Tryz.prog.cellsOf 9=1:=by kernel_rfl
theorem u6:Dl Tryz.prog 9=true:=by kernel_rfl
attribute [go_sem] Tryz.underlying9 tn vg tY tp u6
attribute [go_sem] Tryz.underlying12
attribute [go_sem] Tryz.underlying21
theorem u9:dV Tryz.prog 51=true:=by kernel_rfl
theorem xq:bA Tryz.prog 51=none:=by kernel_rfl
theorem wx:(Tryz.prog.info? 51).isSome=true:=by kernel_rfl
theorem ve:Tryz.prog.cellsOf 51=1:=by kernel_rfl
theorem vf:Tryz.prog.bytesOf 51=24:=by kernel_rfl
theorem wA:b6 Tryz.prog 51=some 1:=by kernel_rfl
theorem wu:bY Tryz.prog 51=some [.c (.slice none 0 0)]:=by kernel_rfl
attribute [go_sem] Tryz.underlying51 u9 xq wx ve vf wA wu
theorem lI:bA Tryz.prog 104=some 3:=by kernel_rfl
theorem kH:(Tryz.prog.info? 104).isSome=true:=by kernel_rfl
theorem j8:Tryz.prog.cellsOf 104=3:=by kernel_rfl
theorem jj:aZ Tryz.prog 104 0=some 0:=by kernel_rfl
theorem jf:aZ Tryz.prog 104 1=some 1:=by kernel_rfl
theorem jc:aZ Tryz.prog 104 2=some 2:=by kernel_rfl
theorem i6:dy Tryz.prog 104=some [(0,1),(1,1),(2,1)]:=by kernel_rfl
theorem kz:bY Tryz.prog 104=some [.c (.int .i64 0),.c (.int .i64 0),.c (.slice none 0 0)]:=by kernel_rfl
attribute [go_sem] Tryz.underlying104 lI kH j8 jj jf jc i6 kz
theorem kF:dV Tryz.prog 34=true:=by kernel_rfl
theorem mi:bA Tryz.prog 34=none:=by kernel_rfl
attribute [go_sem] Tryz.underlying34 kF mi
theorem t0:b6 Tryz.prog 109=some 1:=by kernel_rfl
attribute [go_sem] Tryz.underlying109 t0
theorem tX:dV Tryz.prog 22=true:=by kernel_rfl
theorem wE:bA Tryz.prog 22=none:=by kernel_rfl
theorem vb:(Tryz.prog.info? 22).isSome=true:=by kernel_rfl
theorem t9:Tryz.prog.cellsOf 22=1:=by kernel_rfl
theorem vd:b6 Tryz.prog 22=some 1:=by kernel_rfl
theorem u0:bY Tryz.prog 22=some [.c (.slice none 0 0)]:=by kernel_rfl
attribute [go_sem] Tryz.underlying22 tX wE vb t9 vd u0
theorem kU:bA Tryz.prog 24=some 3:=by kernel_rfl
theorem jW:(Tryz.prog.info? 24).isSome=true:=by kernel_rfl
theorem jm:Tryz.prog.cellsOf 24=3:=by kernel_rfl
theorem jn:Tryz.prog.bytesOf 24=56:=by kernel_rfl
theorem iN:aZ Tryz.prog 24 0=some 0:=by kernel_rfl
theorem iM:aZ Tryz.prog 24 1=some 1:=by kernel_rfl
theorem iL:aZ Tryz.prog 24 2=some 2:=by kernel_rfl
theorem iJ:dy Tryz.prog 24=some [(0,1),(1,1),(2,1)]:=by kernel_rfl
theorem jU:bY Tryz.prog 24=some [.c (.int .i64 0),.c (.slice none 0 0),.c (.slice none 0 0)]:=by kernel_rfl
attribute [go_sem] Tryz.underlying24 kU jW jm jn iN iM iL iJ jU
theorem lK:bA Tryz.prog 38=some 5:=by kernel_rfl
theorem kJ:(Tryz.prog.info? 38).isSome=true:=by kernel_rfl
theorem kd:Tryz.prog.cellsOf 38=5:=by kernel_rfl
theorem jl:aZ Tryz.prog 38 0=some 0:=by kernel_rfl
theorem jh:aZ Tryz.prog 38 1=some 1:=by kernel_rfl
theorem jd:aZ Tryz.prog 38 2=some 2:=by kernel_rfl
theorem jb:aZ Tryz.prog 38 3=some 3:=by kernel_rfl
theorem ja:aZ Tryz.prog 38 4=some 4:=by kernel_rfl
theorem i8:dy Tryz.prog 38=some [(0,1),(1,1),(2,1),(3,1),(4,1)]:=by kernel_rfl
theorem kB:bY Tryz.prog 38=some [.c (.int .i64 0),.c (.int .i64 0),.c (.int .i64 0),.c (.int .i64 0),.c (.int .i64 0)]:=by kernel_rfl
attribute [go_sem] Tryz.underlying38 lK kJ kd jl jh jd jb ja i8 kB
theorem qW:dV Tryz.prog 54=true:=by kernel_rfl
theorem sG:bA Tryz.prog 54=none:=by kernel_rfl
theorem rq:b6 Tryz.prog 54=some 4:=by kernel_rfl
attribute [go_sem] Tryz.underlying54 qW sG rq
theorem mJ:bA Tryz.prog 56=some 4:=by kernel_rfl
theorem mc:(Tryz.prog.info? 56).isSome=true:=by kernel_rfl
theorem lD:Tryz.prog.cellsOf 56=4:=by kernel_rfl
theorem kR:aZ Tryz.prog 56 0=some 0:=by kernel_rfl
theorem kO:aZ Tryz.prog 56 1=some 1:=by kernel_rfl
theorem kL:aZ Tryz.prog 56 2=some 2:=by kernel_rfl
theorem kK:aZ Tryz.prog 56 3=some 3:=by kernel_rfl
theorem kC:dy Tryz.prog 56=some [(0,1),(1,1),(2,1),(3,1)]:=by kernel_rfl
theorem l6:bY Tryz.prog 56=some [.c (.int .i64 0),.c (.int .i64 0),.c (.slice none 0 0),.c (.slice none 0 0)]:=by kernel_rfl
attribute [go_sem] Tryz.underlying56 mJ mc lD kR kO kL kK kC l6
theorem qY:dV Tryz.prog 25=true:=by kernel_rfl
theorem sI:bA Tryz.prog 25=none:=by kernel_rfl
theorem ru:b6 Tryz.prog 25=some 3:=by kernel_rfl
attribute [go_sem] Tryz.underlying25 qY sI ru
theorem nh:bA Tryz.prog 27=some 5:=by kernel_rfl
theorem mI:(Tryz.prog.info? 27).isSome=true:=by kernel_rfl
theorem mg:Tryz.prog.cellsOf 27=5:=by kernel_rfl
theorem lC:aZ Tryz.prog 27 0=some 0:=by kernel_rfl
theorem lB:aZ Tryz.prog 27 1=some 3:=by kernel_rfl
theorem lA:aZ Tryz.prog 27 2=some 4:=by kernel_rfl
theorem ly:dy Tryz.prog 27=some [(0,3),(3,1),(4,1)]:=by kernel_rfl
theorem mG:bY Tryz.prog 27=some [.c (.int .i64 0),.c (.slice none 0 0),.c (.slice none 0 0),.c (.int .i64 0),.c (.slice none 0 0)]:=by kernel_rfl
attribute [go_sem] Tryz.underlying27 nh mI mg lC lB lA ly mG
attribute [go_sem] Tryz.underlying157
theorem iK:(Tryz.prog.info? 117).isSome=true:=by kernel_rfl
theorem gS:Tryz.prog.cellsOf 117=2:=by kernel_rfl
theorem gr:aZ Tryz.prog 117 0=some 0:=by kernel_rfl
theorem gq:aZ Tryz.prog 117 1=some 1:=by kernel_rfl
theorem gp:dy Tryz.prog 117=some [(0,1),(1,1)]:=by kernel_rfl
theorem iI:bY Tryz.prog 117=some [.c (.int .i64 0),.c (.bool false)]:=by kernel_rfl
attribute [go_sem] Tryz.underlying117 iK gS gr gq gp iI
attribute [go_sem] Tryz.underlying119
theorem u4:bY Tryz.prog 181=some [.c (.int .i64 0),.c (.int .i64 0),.c (.int .i64 0)]:=by kernel_rfl
attribute [go_sem] Tryz.underlying181 u4
theorem t7:b6 Tryz.prog 123=some 1:=by kernel_rfl
attribute [go_sem] Tryz.underlying123 t7
theorem mL:bA Tryz.prog 111=some 3:=by kernel_rfl
theorem mf:(Tryz.prog.info? 111).isSome=true:=by kernel_rfl
theorem lF:Tryz.prog.cellsOf 111=3:=by kernel_rfl
theorem kT:aZ Tryz.prog 111 0=some 0:=by kernel_rfl
theorem kQ:aZ Tryz.prog 111 1=some 1:=by kernel_rfl
theorem kN:aZ Tryz.prog 111 2=some 2:=by kernel_rfl
theorem kE:dy Tryz.prog 111=some [(0,1),(1,1),(2,1)]:=by kernel_rfl
theorem mb:bY Tryz.prog 111=some [.c (.int .i64 0),.c (.int .i64 0),.c (.int .i64 0)]:=by kernel_rfl
attribute [go_sem] Tryz.underlying111 mL mf lF kT kQ kN kE mb
theorem pj:b6 Tryz.prog 134=some 3:=by kernel_rfl
attribute [go_sem] Tryz.underlying134 pj
attribute [go_sem] Tryz.underlying137
attribute [go_sem] Tryz.underlying146
theorem wF:bA Tryz.prog 147=some 2:=by kernel_rfl
theorem vc:(Tryz.prog.info? 147).isSome=true:=by kernel_rfl
theorem ua:Tryz.prog.cellsOf 147=2:=by kernel_rfl
theorem u5:bY Tryz.prog 147=some [.c (.int .i64 0),.c (.int .i64 0)]:=by kernel_rfl
attribute [go_sem] Tryz.underlying147 wF vc ua u5
attribute [go_sem] Tryz.underlying172
attribute [go_sem] Tryz.underlying175
attribute [go_sem] Tryz.underlying211
attribute [go_sem] Tryz.underlying216
theorem ph:dV Tryz.prog 28=true:=by kernel_rfl
theorem q5:bA Tryz.prog 28=none:=by kernel_rfl
theorem pP:(Tryz.prog.info? 28).isSome=true:=by kernel_rfl
theorem po:Tryz.prog.cellsOf 28=1:=by kernel_rfl
theorem pR:b6 Tryz.prog 28=some 2:=by kernel_rfl
attribute [go_sem] Tryz.underlying28 ph q5 pP po pR
theorem qX:dV Tryz.prog 29=true:=by kernel_rfl
theorem sH:bA Tryz.prog 29=none:=by kernel_rfl
theorem rp:(Tryz.prog.info? 29).isSome=true:=by kernel_rfl
theorem qZ:Tryz.prog.cellsOf 29=1:=by kernel_rfl
theorem rt:b6 Tryz.prog 29=some 3:=by kernel_rfl
attribute [go_sem] Tryz.underlying29 qX sH rp qZ rt
theorem lJ:bA Tryz.prog 31=some 2:=by kernel_rfl
theorem kI:(Tryz.prog.info? 31).isSome=true:=by kernel_rfl
theorem j9:Tryz.prog.cellsOf 31=2:=by kernel_rfl
theorem jk:aZ Tryz.prog 31 0=some 0:=by kernel_rfl
theorem jg:aZ Tryz.prog 31 1=some 1:=by kernel_rfl
theorem i7:dy Tryz.prog 31=some [(0,1),(1,1)]:=by kernel_rfl
theorem kA:bY Tryz.prog 31=some [.c (.slice none 0 0),.c (.slice none 0 0)]:=by kernel_rfl
attribute [go_sem] Tryz.underlying31 lJ kI j9 jk jg i7 kA
attribute [go_sem] Tryz.underlying32
theorem mh:bA Tryz.prog 53=some 5:=by kernel_rfl
theorem lz:(Tryz.prog.info? 53).isSome=true:=by kernel_rfl
theorem j6:aZ Tryz.prog 53 0=some 0:=by kernel_rfl
theorem j5:aZ Tryz.prog 53 1=some 1:=by kernel_rfl
theorem jZ:aZ Tryz.prog 53 2=some 2:=by kernel_rfl
theorem jY:aZ Tryz.prog 53 3=some 3:=by kernel_rfl
theorem jX:aZ Tryz.prog 53 4=some 4:=by kernel_rfl
theorem jV:dy Tryz.prog 53=some [(0,1),(1,1),(2,1),(3,1),(4,1)]:=by kernel_rfl
theorem lx:bY Tryz.prog 53=some [.c (.int .i64 0),.c (.int .i64 0),.c (.int .i64 0),.c (.int .i64 0),.c (.slice none 0 0)]:=by kernel_rfl
attribute [go_sem] Tryz.underlying53 mh lz j6 j5 jZ jY jX jV lx
theorem lH:bA Tryz.prog 69=some 2:=by kernel_rfl
theorem kG:(Tryz.prog.info? 69).isSome=true:=by kernel_rfl
theorem j7:Tryz.prog.cellsOf 69=2:=by kernel_rfl
theorem kf:Tryz.prog.bytesOf 69=48:=by kernel_rfl
theorem ji:aZ Tryz.prog 69 0=some 0:=by kernel_rfl
theorem je:aZ Tryz.prog 69 1=some 1:=by kernel_rfl
theorem iZ:dy Tryz.prog 69=some [(0,1),(1,1)]:=by kernel_rfl
theorem ky:bY Tryz.prog 69=some [.c (.slice none 0 0),.c (.slice none 0 0)]:=by kernel_rfl
attribute [go_sem] Tryz.underlying69 lH kG j7 kf ji je iZ ky
theorem mK:bA Tryz.prog 71=some 3:=by kernel_rfl
theorem me:(Tryz.prog.info? 71).isSome=true:=by kernel_rfl
theorem lE:Tryz.prog.cellsOf 71=3:=by kernel_rfl
theorem lG:Tryz.prog.bytesOf 71=32:=by kernel_rfl
theorem kS:aZ Tryz.prog 71 0=some 0:=by kernel_rfl
theorem kP:aZ Tryz.prog 71 1=some 1:=by kernel_rfl
theorem kM:aZ Tryz.prog 71 2=some 2:=by kernel_rfl
theorem kD:dy Tryz.prog 71=some [(0,1),(1,1),(2,1)]:=by kernel_rfl
theorem l7:bY Tryz.prog 71=some [.c (.int .i64 0),.c (.int .i64 0),.c (.string .empty)]:=by kernel_rfl
attribute [go_sem] Tryz.underlying71 mK me lE lG kS kP kM kD l7
theorem mH:dV Tryz.prog 81=true:=by kernel_rfl
theorem nQ:bA Tryz.prog 81=none:=by kernel_rfl
attribute [go_sem] Tryz.underlying81 mH nQ
theorem gd:aZ Tryz.prog 85 0=some 0:=by kernel_rfl
theorem gc:aZ Tryz.prog 85 1=some 5:=by kernel_rfl
theorem ga:dy Tryz.prog 85=some [(0,5),(5,2)]:=by kernel_rfl
theorem gR:bY Tryz.prog 85=some [.c (.int .i64 0),.c (.slice none 0 0),.c (.slice none 0 0),.c (.int .i64 0),.c (.slice none 0 0),.c (.slice none 0 0),.c (.slice none 0 0)]:=by kernel_rfl
attribute [go_sem] Tryz.underlying85 gd gc ga gR
attribute [go_sem] Tryz.underlying149
theorem pi:dV Tryz.prog 153=true:=by kernel_rfl
theorem q6:bA Tryz.prog 153=none:=by kernel_rfl
theorem pQ:(Tryz.prog.info? 153).isSome=true:=by kernel_rfl
theorem pp:Tryz.prog.cellsOf 153=1:=by kernel_rfl
attribute [go_sem] Tryz.underlying153 pi q6 pQ pp
attribute [go_sem] Tryz.underlying184
attribute [go_sem] Tryz.underlying192
attribute [go_sem] Tryz.underlying196
attribute [go_sem] Tryz.underlying198
theorem oF:aw Tryz.prog 91=true:=by kernel_rfl
attribute [go_sem] oF
theorem iR:aw Tryz.prog 65=true:=by kernel_rfl
attribute [go_sem] iR
theorem px:aw Tryz.prog 118=true:=by kernel_rfl
attribute [go_sem] px
theorem jy:aw Tryz.prog 67=true:=by kernel_rfl
attribute [go_sem] jy
theorem fL:aw Tryz.prog 102=true:=by kernel_rfl
attribute [go_sem] fL
theorem iU:aw Tryz.prog 157=true:=by kernel_rfl
attribute [go_sem] iU
theorem hU:aw Tryz.prog 131=true:=by kernel_rfl
attribute [go_sem] hU
theorem iW:aw Tryz.prog 132=true:=by kernel_rfl
attribute [go_sem] iW
theorem mU:aw Tryz.prog 38=true:=by kernel_rfl
attribute [go_sem] mU
theorem oM:aw Tryz.prog 23=true:=by kernel_rfl
attribute [go_sem] oM
theorem iV:aw Tryz.prog 20=true:=by kernel_rfl
attribute [go_sem] iV
theorem gF:aw Tryz.prog 16=true:=by kernel_rfl
attribute [go_sem] gF
theorem oL:aw Tryz.prog 50=true:=by kernel_rfl
attribute [go_sem] oL
theorem fU:aw Tryz.prog 26=true:=by kernel_rfl
attribute [go_sem] fU
theorem nS:aw Tryz.prog 24=true:=by kernel_rfl
attribute [go_sem] nS
theorem ko:aw Tryz.prog 18=true:=by kernel_rfl
attribute [go_sem] ko
theorem jA:aw Tryz.prog 54=true:=by kernel_rfl
attribute [go_sem] jA
theorem gY:aw Tryz.prog 33=true:=by kernel_rfl
attribute [go_sem] gY
theorem g9:aw Tryz.prog 51=true:=by kernel_rfl
attribute [go_sem] g9
theorem oO:aw Tryz.prog 13=true:=by kernel_rfl
attribute [go_sem] oO
theorem ig:aw Tryz.prog 6=true:=by kernel_rfl
attribute [go_sem] ig
theorem iO:aw Tryz.prog 123=true:=by kernel_rfl
attribute [go_sem] iO
theorem nv:aw Tryz.prog 124=true:=by kernel_rfl
attribute [go_sem] nv
theorem pv:aw Tryz.prog 125=true:=by kernel_rfl
attribute [go_sem] pv
theorem qb:aw Tryz.prog 126=true:=by kernel_rfl
attribute [go_sem] qb
theorem iQ:aw Tryz.prog 62=true:=by kernel_rfl
attribute [go_sem] iQ
theorem kh:aw Tryz.prog 109=true:=by kernel_rfl
attribute [go_sem] kh
theorem mq:aw Tryz.prog 76=true:=by kernel_rfl
attribute [go_sem] mq
theorem oT:aw Tryz.prog 77=true:=by kernel_rfl
attribute [go_sem] oT
theorem mn:aw Tryz.prog 78=true:=by kernel_rfl
attribute [go_sem] mn
theorem mS:aw Tryz.prog 79=true:=by kernel_rfl
attribute [go_sem] mS
theorem km:aw Tryz.prog 156=true:=by kernel_rfl
attribute [go_sem] km
theorem k6:aw Tryz.prog 36=true:=by kernel_rfl
attribute [go_sem] k6
theorem oK:aw Tryz.prog 58=true:=by kernel_rfl
attribute [go_sem] oK
theorem jC:aw Tryz.prog 55=true:=by kernel_rfl
attribute [go_sem] jC
theorem jv:aw Tryz.prog 56=true:=by kernel_rfl
attribute [go_sem] jv
theorem kp:aw Tryz.prog 57=true:=by kernel_rfl
attribute [go_sem] kp
theorem pB:aw Tryz.prog 99=true:=by kernel_rfl
attribute [go_sem] pB
theorem py:aw Tryz.prog 100=true:=by kernel_rfl
attribute [go_sem] py
theorem oJ:aw Tryz.prog 101=true:=by kernel_rfl
attribute [go_sem] oJ
theorem gz:aw Tryz.prog 14=true:=by kernel_rfl
attribute [go_sem] gz
theorem q8:aw Tryz.prog 45=true:=by kernel_rfl
attribute [go_sem] q8
theorem qc:aw Tryz.prog 59=true:=by kernel_rfl
attribute [go_sem] qc
theorem pE:aw Tryz.prog 34=true:=by kernel_rfl
attribute [go_sem] pE
theorem gy:aw Tryz.prog 112=true:=by kernel_rfl
attribute [go_sem] gy
theorem jx:aw Tryz.prog 52=true:=by kernel_rfl
attribute [go_sem] jx
theorem jB:aw Tryz.prog 63=true:=by kernel_rfl
attribute [go_sem] jB
theorem lO:aw Tryz.prog 31=true:=by kernel_rfl
attribute [go_sem] lO
theorem lR:aw Tryz.prog 93=true:=by kernel_rfl
attribute [go_sem] lR
theorem g0:aw Tryz.prog 103=true:=by kernel_rfl
attribute [go_sem] g0
theorem oN:aw Tryz.prog 46=true:=by kernel_rfl
attribute [go_sem] oN
theorem q7:aw Tryz.prog 47=true:=by kernel_rfl
attribute [go_sem] q7
theorem qg:aw Tryz.prog 48=true:=by kernel_rfl
attribute [go_sem] qg
theorem qe:aw Tryz.prog 49=true:=by kernel_rfl
attribute [go_sem] qe
theorem iT:aw Tryz.prog 25=true:=by kernel_rfl
attribute [go_sem] iT
theorem pF:aw Tryz.prog 12=true:=by kernel_rfl
attribute [go_sem] pF
theorem kZ:aw Tryz.prog 149=true:=by kernel_rfl
attribute [go_sem] kZ
theorem lP:aw Tryz.prog 117=true:=by kernel_rfl
attribute [go_sem] lP
theorem mr:aw Tryz.prog 88=true:=by kernel_rfl
attribute [go_sem] mr
theorem nU:aw Tryz.prog 105=true:=by kernel_rfl
attribute [go_sem] nU
theorem pA:aw Tryz.prog 108=true:=by kernel_rfl
attribute [go_sem] pA
theorem jz:aw Tryz.prog 104=true:=by kernel_rfl
attribute [go_sem] jz
theorem qd:aw Tryz.prog 130=true:=by kernel_rfl
attribute [go_sem] qd
theorem qf:aw Tryz.prog 94=true:=by kernel_rfl
attribute [go_sem] qf
theorem mt:aw Tryz.prog 74=true:=by kernel_rfl
attribute [go_sem] mt
theorem pC:aw Tryz.prog 75=true:=by kernel_rfl
attribute [go_sem] pC
theorem js:aw Tryz.prog 141=true:=by kernel_rfl
attribute [go_sem] js
theorem nu:aw Tryz.prog 80=true:=by kernel_rfl
attribute [go_sem] nu
theorem qh:aw Tryz.prog 95=true:=by kernel_rfl
attribute [go_sem] qh
theorem fj:aw Tryz.prog 97=true:=by kernel_rfl
attribute [go_sem] fj
theorem nt:aw Tryz.prog 98=true:=by kernel_rfl
attribute [go_sem] nt
theorem iS:aw Tryz.prog 60=true:=by kernel_rfl
attribute [go_sem] iS
theorem jD:aw Tryz.prog 61=true:=by kernel_rfl
attribute [go_sem] jD
theorem nV:aw Tryz.prog 44=true:=by kernel_rfl
attribute [go_sem] nV
theorem mT:aw Tryz.prog 120=true:=by kernel_rfl
attribute [go_sem] mT
theorem oG:aw Tryz.prog 134=true:=by kernel_rfl
attribute [go_sem] oG
theorem gZ:aw Tryz.prog 133=true:=by kernel_rfl
attribute [go_sem] gZ
theorem nT:aw Tryz.prog 152=true:=by kernel_rfl
attribute [go_sem] nT
theorem oH:aw Tryz.prog 153=true:=by kernel_rfl
attribute [go_sem] oH
theorem oI:aw Tryz.prog 154=true:=by kernel_rfl
attribute [go_sem] oI
theorem pz:aw Tryz.prog 155=true:=by kernel_rfl
attribute [go_sem] pz
theorem mQ:aw Tryz.prog 92=true:=by kernel_rfl
attribute [go_sem] mQ
theorem lQ:aw Tryz.prog 145=true:=by kernel_rfl
attribute [go_sem] lQ
theorem ny:aw Tryz.prog 146=true:=by kernel_rfl
attribute [go_sem] ny
theorem fW:aw Tryz.prog 5=true:=by kernel_rfl
attribute [go_sem] fW
theorem fX:aw Tryz.prog 17=true:=by kernel_rfl
attribute [go_sem] fX
theorem fV:aw Tryz.prog 19=true:=by kernel_rfl
attribute [go_sem] fV
theorem pD:aw Tryz.prog 21=true:=by kernel_rfl
attribute [go_sem] pD
theorem nX:aw Tryz.prog 22=true:=by kernel_rfl
attribute [go_sem] nX
theorem jw:aw Tryz.prog 27=true:=by kernel_rfl
attribute [go_sem] jw
theorem gf:aw Tryz.prog 28=true:=by kernel_rfl
attribute [go_sem] gf
theorem kq:aw Tryz.prog 29=true:=by kernel_rfl
attribute [go_sem] kq
theorem oS:aw Tryz.prog 30=true:=by kernel_rfl
attribute [go_sem] oS
theorem nw:aw Tryz.prog 32=true:=by kernel_rfl
attribute [go_sem] nw
theorem oQ:aw Tryz.prog 39=true:=by kernel_rfl
attribute [go_sem] oQ
theorem il:aw Tryz.prog 40=true:=by kernel_rfl
attribute [go_sem] il
theorem ii:aw Tryz.prog 43=true:=by kernel_rfl
attribute [go_sem] ii
theorem kg:aw Tryz.prog 53=true:=by kernel_rfl
attribute [go_sem] kg
theorem jt:aw Tryz.prog 64=true:=by kernel_rfl
attribute [go_sem] jt
theorem iP:aw Tryz.prog 66=true:=by kernel_rfl
attribute [go_sem] iP
theorem ju:aw Tryz.prog 68=true:=by kernel_rfl
attribute [go_sem] ju
theorem oR:aw Tryz.prog 69=true:=by kernel_rfl
attribute [go_sem] oR
theorem dz:aw Tryz.prog 70=true:=by kernel_rfl
attribute [go_sem] dz
theorem mR:aw Tryz.prog 72=true:=by kernel_rfl
attribute [go_sem] mR
theorem dR:aw Tryz.prog 81=true:=by kernel_rfl
attribute [go_sem] dR
theorem fZ:aw Tryz.prog 82=true:=by kernel_rfl
attribute [go_sem] fZ
theorem gG:aw Tryz.prog 83=true:=by kernel_rfl
attribute [go_sem] gG
theorem dO:aw Tryz.prog 84=true:=by kernel_rfl
attribute [go_sem] dO
theorem gH:aw Tryz.prog 85=true:=by kernel_rfl
attribute [go_sem] gH
theorem gh:aw Tryz.prog 86=true:=by kernel_rfl
attribute [go_sem] gh
theorem fY:aw Tryz.prog 87=true:=by kernel_rfl
attribute [go_sem] fY
theorem gI:aw Tryz.prog 89=true:=by kernel_rfl
attribute [go_sem] gI
theorem io:aw Tryz.prog 90=true:=by kernel_rfl
attribute [go_sem] io
theorem di:aw Tryz.prog 110=true:=by kernel_rfl
attribute [go_sem] di
theorem nW:aw Tryz.prog 113=true:=by kernel_rfl
attribute [go_sem] nW
theorem oP:aw Tryz.prog 115=true:=by kernel_rfl
attribute [go_sem] oP
theorem dG:aw Tryz.prog 116=true:=by kernel_rfl
attribute [go_sem] dG
theorem gg:aw Tryz.prog 119=true:=by kernel_rfl
attribute [go_sem] gg
theorem nR:aw Tryz.prog 121=true:=by kernel_rfl
attribute [go_sem] nR
theorem du:aw Tryz.prog 140=true:=by kernel_rfl
attribute [go_sem] du
theorem dA:aw Tryz.prog 143=true:=by kernel_rfl
attribute [go_sem] dA
theorem kY:aw Tryz.prog 147=true:=by kernel_rfl
attribute [go_sem] kY
theorem dH:aw Tryz.prog 158=true:=by kernel_rfl
attribute [go_sem] dH
theorem ge:aw Tryz.prog 159=true:=by kernel_rfl
attribute [go_sem] ge
theorem a9:Tryz.prog.follows .mixedOrders=true:=by kernel_rfl
end Go.Proofs.YtephecognbbaoaaGreat
namespace Go.Proofs.YtephecognbbaoaaGreat
theorem g_x {p:Prop} (h:p:=by first|omega|(unfold I64;omega)|(unfold maxLen;omega)|assumption|(with_reducible rfl)|(simp;done)|(simp [cw,Value.oneCell'];done)|fail):p:=h
theorem g_f {p:Prop} (h:False:=by first|contradiction|omega):p:=h.elim
theorem g_q {P:Program} {f:FuncId} {args:List AV} {σ:aa} {X:AV} {K:AV→Prop} (h:∀τ,af P f args (σ++τ) fun r σ'=>σ'=σ++τ∧r=X) (hk:K X):uT P f args σ K:=we h hk
theorem g_w {p:Prop} (h:p:=by simp -implicitDefEqProofs only[go_sem]):p:=h
theorem g_y {G G':Prop} (h:G') (e:G=G':=by simp -implicitDefEqProofs only[go_sem];exact rfl):G:=e.mpr h
theorem g_n {P:Program} {f:FuncId} {fn:Func} {c:Code} {rs:List ResultVar} {args:List AV} {R:AV→aa→Prop} {σ:aa} {M N:Nat} {α:AF} (hf:P.funcs[f]? = some fn) (hb:fn.body=some c) (hrs:fn.results=rs.toArray) (hm:fn.ntmps=M) (h:AWP P N c (Ds P rs R) α σ)
  (hN:args.length+(M-args.length)=N:=by simp only[List.length_cons,List.length_nil,Nat.reduceAdd,Nat.reduceSub];exact rfl) (hα:lU 0 args=α:=by simp only[lU,Nat.reduceAdd];exact rfl):af P f args σ R:=
 wX hf hb hrs (by rw[hm,hN,hα];exact h)
section
variable {rd:Option Nat} {N:Nat} {Q:bV} {α:AF} {σ:aa}
theorem g_s {P:Program} {x y:Code} (h:∀K:AF→aa→Prop,(∀α σ,aK rd P N y Q α σ→K α σ)→aK rd P N x (ah K Q) α σ):aK rd P N (.seq x y) Q α σ:=CU h
theorem g_b {P:Program} {id:Nat} {c:Code} (h:aK rd P N c (ae id Q) α σ):aK rd P N (.block id c) Q α σ:=C8 h
theorem g_k {P:Program} (h:Q .normal α σ):aK rd P N .skip Q α σ:=Ei h
theorem g_e {P:Program} {id:Nat} (h:Q (.exit id) α σ):aK rd P N (.exit id) Q α σ:=Ek h
theorem g_t {P:Program} (h:Q .ret α σ):aK rd P N .ret Q α σ:=Aq h
theorem g_c {P:Program} {t:Nat} {x y:Code} {b:Bool} (h1:b=true→aK rd P N x Q α σ) (h2:b=false→aK rd P N y Q α σ) (hl:aB α t=some (.c (.bool b)):=by rfl):aK rd P N (.cond (.tmp t) x y) Q α σ:=dg hl h1 h2
theorem g_g {P:Program} {id:Nat} {ops:List Oper} (h:dw P N ops (fun α σ=>Q .normal α σ) ops α σ):aK rd P N (.region id ops.toArray false) Q α σ:=cU h
theorem g_G {P:Program} {id:Nat} {ops:List Oper} (h:o0 P N ops (fun α σ=>Q .normal α σ) ops α σ):aK rd P N (.region id ops.toArray false) Q α σ:=Aa h
theorem g_U {id:Nat} {ops:List Oper} (h:oW Tryz.prog N ops σ (fun α=>dw Tryz.prog N ops (fun α σ=>Q .normal α σ) (ops.drop (oC ops)) α σ) (ops.take (oC ops)) α)
  (hB:(dQ ops (oC ops)&&bT ops&&cy ops&&decide (oC ops≤ops.length))=true:=by decide +kernel):aK rd Tryz.prog N (.region id ops.toArray true) Q α σ:=CY a9 hB h
theorem g_A {id:Nat} {ops:List Oper} {T:TypeId} (h:on (bY Tryz.prog T) fun z=>oU Tryz.prog N ops σ z (fun α=>dw Tryz.prog N ops (fun α σ=>Q .normal α σ) (ops.drop (fz ops true)) α (σ++[.cells z.length [z]])) (ops.take (fz ops true)) α)
  (hB:(dQ ops (fz ops true)&&bT ops&&cy ops&&decide (fz ops true≤ops.length)&&ye ops (fz ops true))=true:=by decide +kernel) (hT:pJ ops=some T:=by rfl):aK rd Tryz.prog N (.region id ops.toArray true) Q α σ:=wq a9 hB hT h
theorem g_W {id:Nat} {ops:List Oper} (h:cW Tryz.prog N ops (false,false) false σ (fun α σ=>dw Tryz.prog N ops (fun α σ=>Q .normal α σ) (ops.drop (cO ops)) α σ) (ops.take (cO ops)) α σ)
  (hB:(dQ ops (cO ops)&&bT ops&&cy ops&&decide (cO ops≤ops.length)&&eB (false,false) ops (cO ops)&&(!false||f9 (false,false) ops))=true:=by decide +kernel):aK rd Tryz.prog N (.region id ops.toArray true) Q α σ:=sq false a9 hB h
theorem g_h {P:Program} {id:Nat} {ops:List Oper} {G:Prop} (h:G) (e:dw P N ops (fun α σ=>Q .normal α σ) ops α σ=G:=by first|(simp -implicitDefEqProofs only[go_sem];exact rfl)|exact rfl):aK rd P N (.region id ops.toArray false) Q α σ:=cU (e.mpr h)
theorem g_0 {P:Program} {c:Code} (t:Nat) {b k:Nat} {e:List AV} {S:aa} (hl:aB α t=some (.ptr b k 0 0)) (h:aK rd P N c Q ((t,.cp e 0)::α) S) (he:σ[b]? = some (.cells k [e]):=by first|(simp only[st0];rfl)|(simp only[st1];rfl))
  (hs:σ.set b .dead=S:=by first|(simp only[ss0,List.set_cons_zero];exact rfl)|(simp only[ss1,List.set_cons_zero,List.set_cons_succ];exact rfl)):aK rd P N c Q α σ:=aC t hl he (hs▸h)
theorem g_C {P:Program} {t:Nat} {x y:Code} {b:Bool} {p q:Prop} (h1:p→aK rd P N x Q α σ) (h2:q→aK rd P N y Q α σ) (hl:aB α t=some (.c (.bool b)):=by rfl) (e1:(b=true)=p:=by first|(simp only[go_sem];exact rfl)|exact rfl) (e2:(b=false)=q:=by first|(simp only[go_sem];exact rfl)|exact rfl):aK rd P N (.cond (.tmp t) x y) Q α σ:=
 dg hl (fun h=>h1 (e1.mp h)) fun h=>h2 (e2.mp h)
end
def ab (n:Int):AV:=.c (.int .i64 n)
def Fu (b:Bool):AV:=.c (.bool b)
def au (n:Int):List AV:=[.c (.int .i64 n)]
def fm (n:Int):List AV:=[.c (.int .u8 n)]
def aF (l:List Int):AV:=.sl (l.map au)
def yJ (l:List Int):AV:=.sl (l.map fm)
attribute [go_sem] ab Fu au fm aF yJ
theorem vp {X:Type} {f:X→List AV} {k:Nat} (h:∀x,(f x).length=k) (l:List X):(∀e',e'∈l.map f→e'.length=k)=True:=
 eq_true fun e' he=>by obtain⟨x,_,rfl⟩:=List.mem_map.1 he;exact h x
theorem vm {X:Type} {f:X→List AV} (h:∀x,(f x).all cw=true) (l:List X):(∀e',e'∈l.map f→e'.all cw=true)=True:=
 eq_true fun e' he=>by obtain⟨x,_,rfl⟩:=List.mem_map.1 he;exact h x
theorem Bd.ints {n:Nat} (l:List Int):Bd n (.sl (l.map au)):=.slL (fun _=>.cons (.c _) .nil) l
theorem DV (l:List Int):(∀e',e'∈l.map au→e'.length=1)=True:=vp (f:=au) (fun _=>rfl) l
theorem DU (l:List Int):(∀e',e'∈l.map au→e'.all cw=true)=True:=vm (f:=au) (fun _=>rfl) l
attribute [go_sem] DV DU
theorem Cu (σ τ ρ:aa) {k:Nat} (es:List (List AV)) {n c:Nat} (hn:n=es.length):bO (σ++(τ++.cells k es::ρ)) (.own (σ.length+τ.length) k 0 n c)=some es:=by
 subst hn;have e:(σ++(τ++.cells k es::ρ))[σ.length+τ.length]? = some (.cells k es):=by rw[st1,st0];rfl
 rw[ee];simp [dl,e]
def bU {X:Type} (p:X→Bool) (k:Int):List X→Int
 | [] => -1
 | x::r=>if p x then k else bU p (k+1) r
theorem iE {X:Type} (p:X→Bool):∀(l:List X) (k:Int),0≤k→decide (bU p k l≥0)=l.any p
 | [],k,_=>rfl
 | x::r,k,hk=>by
  have ih:=iE p r (k+1) (by omega)
  simp only[bU,List.any_cons]
  by_cases hp:p x=true
  ·simp [hp,hk]
  ·simp only[hp,Bool.false_or,←ih,if_false,Bool.false_eq_true]
theorem wO (l:List Int) (p:Int→Bool) (f:FuncId) (first cap:List AV) (σ:aa) (hl:l.length≤1000000000000000000) (hok:aw Tryz.prog f=true)
  (hf:∀x∈l,af Tryz.prog f (first++ab x::cap) σ fun r σ'=>σ'=σ∧r = .c (.bool (p x))) :
  af Tryz.prog 149 [aF l,.fn f first cap] σ fun r σ'=>σ'=σ∧r=ab (bU p 0 l):=by
 refine g_n Tryz.func149 rfl Tryz.results149 Tryz.ntmps149 ?_
 (repeat' (first|(refine g_s fun K hK=>?_)|(refine g_b ?_)|(refine g_g ?_;(try refine g_y ?_))|(refine hK _ _ ?_;clear hK K)|exact trivial|fail))
 refine ay l (fun k r _=>bU p 0 l=bU p k r) (fun k _ _=>[(8,ab k)]) (fun _ _ _=>σ) () [] rfl rfl (ai ?_) ?_ ?_
 ·exact g_w
 ·rintro k r s τ hk0 hk1 h1 L hL;have hc:=hf _ (aA l hk0 hk1);simp -implicitDefEqProofs only[go_sem]
  (repeat' (first|(refine g_s fun K hK=>?_)|(refine g_b ?_)|(refine g_k ?_;simp only[ah,ae])|(refine g_C (fun h=>?_) (fun h=>?_)<;>(try exact g_f))|((first|refine g_t ?_|refine g_g ?_|refine (hc).use ?_);(try refine g_y ?_))|(refine hK _ _ ?_;clear hK K)|(with_reducible refine And.intro ?_ ?_;· exact g_x)|exact trivial|fail))
  ·rw[h1,bU,if_pos (by assumption)]
  ·refine hL () [] _ _ ?_ (ai ?_) rfl
   ·rw[h1,bU,if_neg (by simp [*])]
   ·exact g_w
 ·intro k s τ hk h1 L;simp -implicitDefEqProofs only[go_sem]
  (repeat' (first|(refine g_s fun K hK=>?_)|(refine g_e ?_;simp only[ah,ae,↓reduceIte,Nat.reduceEqDiff])|(refine g_C (fun h=>?_) (fun h=>?_)<;>(try exact g_f))|((first|refine g_t ?_|refine g_g ?_);(try refine g_y ?_))|(refine hK _ _ ?_;clear hK K)|(clear hK K;first|(refine hK _ _ ?_;clear hK K)|(clear hK K;with_reducible refine hK _ _ ?_;clear hK K)|(clear hK K;clear hK K;with_reducible refine hK _ _ ?_;clear hK K))|exact trivial|fail))
  rw[h1,bU]
theorem ir (l:List Int) (p:Int→Bool) (f:FuncId) (first cap:List AV) (σ:aa) (hl:l.length≤1000000000000000000) (hok:aw Tryz.prog f=true)
  (hf:∀x∈l,af Tryz.prog f (first++ab x::cap) σ fun r σ'=>σ'=σ∧r = .c (.bool (p x))) :
  af Tryz.prog 123 [aF l,.fn f first cap] σ fun r σ'=>σ'=σ∧r = .c (.bool (l.any p)):=by
 have hc:=wO l p f first cap σ hl hok hf
 refine g_n Tryz.func123 rfl Tryz.results123 Tryz.ntmps123 ?_
 (repeat' (first|(refine g_s fun K hK=>?_)|((first|refine g_t ?_|refine g_g ?_|refine (hc).use ?_);(try refine g_y ?_))|(refine hK _ _ ?_;clear hK K)|exact trivial|fail))
 rw[←iE p l 0 (Int.le_refl _)]
theorem bd2 {n:Nat} (a b:Value):Bd n (.tup [.c a,.c b]):=.tup _ fun i h=>by
 match i,h with
 | 0,_=>exact .c _
 | 1,_=>exact .c _
theorem bS (n a b:Int) (σ:aa):af Tryz.prog 62 [ab n,ab a,ab b] σ fun r σ'=>σ'=σ∧r = .c (.bool (decide (a≤n)&&decide (n≤b))):=by
 refine g_n Tryz.func62 rfl Tryz.results62 Tryz.ntmps62 ?_
 (repeat' (first|(refine g_s fun K hK=>?_)|((first|refine g_t ?_|refine g_g ?_);(try refine g_y ?_))|(refine hK _ _ ?_;clear hK K)|(with_reducible refine ak (fun h=>?_) (fun h=>?_)<;>(try simp only[go_sem] at h)<;>(try exact g_f)<;>(try refine g_y ?_))|exact trivial|fail))
 all_goals (simp;omega)
theorem jO {X:Type} [Inhabited X] {a b:List X} (hl:a.length=b.length) (h:∀k:Int,0≤k→k<a.length→at0 a k=at0 b k):a=b:=by
 apply List.ext_getElem hl;intro i h1 h2;have:=h i (by omega) (by omega)
 simpa [at0,List.getD_eq_getElem?_getD,h1,h2] using this
theorem kW (a b:List Int) (hl:a.length≤1000000000000000000) (σ:aa):af Tryz.prog 33 [aF a,aF b] σ fun r σ'=>σ'=σ∧r = .c (.bool (decide (a=b))):=by
 refine g_n Tryz.func33 rfl Tryz.results33 Tryz.ntmps33 ?_
 (repeat' (first|(refine g_s fun K hK=>?_)|(refine g_b ?_)|(refine g_k ?_;simp only[ah,ae])|(refine g_C (fun h=>?_) (fun h=>?_)<;>(try exact g_f))|((first|refine g_t ?_|refine g_g ?_);(try refine g_y ?_))|(refine hK _ _ ?_;clear hK K)|exact trivial|fail))
 ·rw[decide_eq_false (fun e:a=b=>h (by rw[e]))]
 refine b8 (a.length:Int) (fun k _=>∀i:Int,0≤i→i<k→at0 a i=at0 b i) (fun k _ _=>[(5,ab k)]) (fun _ _ _=>σ) () [] (by omega) (fun i h1 h2=>by omega) rfl (ai ?_) ?_
 ·exact g_w
 ·rintro k _ τ hk0 hk1 hH L hL;simp -implicitDefEqProofs only[go_sem]
  (repeat' (first|(refine g_s fun K hK=>?_)|(refine g_b ?_)|(refine g_k ?_;simp only[ah,ae])|(refine g_e ?_;simp only[ah,ae,↓reduceIte,Nat.reduceEqDiff])|(refine g_C (fun h=>?_) (fun h=>?_)<;>(try exact g_f))|((first|refine g_t ?_|refine g_g ?_|refine g_U ?_);(try refine g_y ?_))|(refine hK _ _ ?_;clear hK K)|(clear hK K;first|(refine hK _ _ ?_;clear hK K)|(clear hK K;with_reducible refine hK _ _ ?_;clear hK K)|(clear hK K;clear hK K;with_reducible refine hK _ _ ?_;clear hK K))|(with_reducible refine And.intro ?_ ?_;· exact g_x)|exact trivial|fail))
  ·rw[decide_eq_false (fun e:a=b=>h (by rw[e]))]
  ·refine hL (by assumption) () [] _ _ ?_ (ai ?_) rfl
   ·intro i h1 h2
    rcases Int.lt_or_eq_of_le (Int.le_of_lt_add_one h2) with h3|h3
    ·exact hH i h1 h3
    ·rw[h3];assumption
   ·exact g_w
  ·rw[decide_eq_true (jO (by omega) fun i h1 h2=>hH i h1 (by omega):a=b)]
end Go.Proofs.YtephecognbbaoaaGreat
namespace Go.Proofs.YtephecognbbaoaaGreat
theorem Cm:Go.Maps.Keyed Tryz.prog 3=True:=eq_true (Go.Maps.int_keyed Tryz.underlying3)
theorem tE (n:Int):rQ Tryz.prog 3 (.int .i64 n)=I64 n:=by
 have h:keyOf Tryz.prog 3 (.int .i64 n)=if (Lit.int IntKind.i64 n).wf=true then some (.int .i64 n) else none:=by simp [keyOf,mapKey,Tryz.underlying3]
 have h2:(Lit.int IntKind.i64 n).wf=true↔I64 n:=by
  simp [Lit.wf,IntKind.min,IntKind.max,IntKind.bits,IntKind.signed,I64]
 unfold rQ;rw[h];apply propext
 constructor
 ·rintro ⟨l,hl⟩
  split at hl
  ·exact h2.1 (by assumption)
  ·cases hl
 ·intro h3;exact⟨_,if_pos (h2.2 h3)⟩
attribute [go_sem] Cm tE
theorem wv:oV Tryz.prog 119=some (3,117):=by kernel_rfl
theorem xl:tT Tryz.prog 117=some (.agg #[.int .i64 0,.bool false]):=by kernel_rfl
attribute [go_sem] wv xl
theorem za:oV Tryz.prog 137=some (3,3):=by kernel_rfl
theorem Au:tT Tryz.prog 3=some (.int .i64 0):=by kernel_rfl
theorem y9:tT Tryz.prog 4=some (.bool false):=by kernel_rfl
attribute [go_sem] za
attribute [go_sem] Au y9 Option.getD_some Option.getD_none
end Go.Proofs.YtephecognbbaoaaGreat
namespace Go.Proofs.YtephecognbbaoaaGreat
theorem C0 {rd:Option Nat} {P:Program} {N:Nat} {ops:List Oper} {α0:AF} {σ:aa} {Q:bV} {id:Nat} (bs pu:Bool) (hm:P.follows .mixedOrders=true) (hB:(dQ ops ops.length&&bT ops&&cy ops&&decide (ops.length≤ops.length)&&eB (bs,false) ops ops.length&&(!pu||f9 (bs,false) ops))=true)
  (h:cW P N ops (bs,false) pu σ (fun α σ=>Q .normal α σ) ops α0 σ):aK rd P N (.region id ops.toArray true) Q α0 σ:=
 wp (bs,false) pu ops.length hm hB (by rw[List.take_length,List.drop_length];exact h)
theorem sc1 (τ l:aa) (a:Ob) (k:Nat):(a::(τ++l))[τ.length+(k+1)]? = l[k]? := by rw[←Nat.add_assoc,List.getElem?_cons_succ];exact st1 τ l k
theorem sc2 (τ l:aa) (a b:Ob) (k:Nat):(a::b::(τ++l))[τ.length+(k+2)]? = l[k]? := by rw[←Nat.add_assoc,List.getElem?_cons_succ,←sc1 τ l b k];rfl
theorem AA (τ l:aa) (a x:Ob) (k:Nat):(a::(τ++l)).set (τ.length+(k+1)) x=a::(τ++l.set k x):=by rw[←Nat.add_assoc,List.set_cons_succ,ss1]
theorem ss2c (τ l:aa) (a b x:Ob) (k:Nat):(a::b::(τ++l)).set (τ.length+(k+2)) x=a::b::(τ++l.set k x):=by rw[←Nat.add_assoc,List.set_cons_succ,←AA τ l b x k];rfl
attribute [go_sem] sc1 sc2 AA ss2c
theorem wz:vF Tryz.prog 181=some (1,3):=by kernel_rfl
attribute [go_sem] wz
end Go.Proofs.YtephecognbbaoaaGreat
