/- The words of the walk's simplifier. -/
import Derived.Test.YtephecognbbaoabGreatZGr
import Derived.Test.YtephecognbbaoabGreatProg
open Go
set_option linter.all false
set_option maxRecDepth 100000
set_option maxHeartbeats 4000000
namespace Go.Proofs.YtephecognbbaoabGreat
open Go
set_option linter.all false
attribute [go_sem ↓] on_some splitB_true splitB_false areg_nil areg_cons kreg_nil kreg_cons mreg_nil mreg_cons greg_nil greg_cons gop_t gop_f breg_nil breg_cons gateA_none gateA_some gateV_t gateV_f gateV_u putA_some putA_none
attribute [go_sem] look lenTy Option.isSome_some List.length_map Int.toNat_natCast enterA true_and and_true List.getElem?_cons_zero List.getElem?_cons_succ List.getElem?_nil List.drop_zero List.drop_succ_cons List.drop_nil List.take_succ_cons List.take_zero Option.bind_some Option.bind_none Option.map_some decide_true decide_false Bool.not_true Bool.not_false forall_const reduceCtorEq Option.some.injEq List.cons_append List.nil_append List.append_assoc Bool.true_eq_false Bool.false_eq_true false_implies implies_true not_true_eq_false not_false_eq_true and_false false_and or_true true_or or_false false_or ne_eq true_implies List.length_cons List.length_nil List.length_append Nat.add_assoc Nat.zero_add
  decide_eq_true_eq decide_eq_false_iff_not Bool.and_eq_true Bool.or_eq_true beq_iff_eq bne_iff_ne beq_eq_false_iff_ne bne_eq_false_iff_eq Bool.not_eq_true' Bool.not_eq_false' Int.not_le Int.not_lt ge_iff_le gt_iff_lt Bool.and_eq_false_iff Bool.or_eq_false_iff Bool.not_eq_true Bool.not_eq_false
  writes dsts keep List.elem_cons List.elem_nil alls alls_app on_map binT binN nilT copyA pass_eq AOpK AOpM upto uptoA isAlloc Bool.true_and Bool.false_and Bool.and_true Bool.and_false loud eqCells keyV intCells insertA lookupA mapA ansA isMap
attribute [go_sem] AOpB AOpD loudG isWr uptoW Grown_self Grown_app Grown_pu
attribute [go_sem] Grown_f Pre_app Pre_cons Pre_nil Pre_self Pre_self2
attribute [go_sem] DK NK KK Bool.false_or Bool.true_or
attribute [go_sem] Nat.reduceLT Nat.reduceEqDiff Nat.reduceBEq Nat.reduceAdd Nat.reduceSub Nat.reduceLeDiff Nat.reduceMul Int.reduceAdd Int.reduceSub Int.reduceMul Int.reduceLT Int.reduceLE Int.reduceEq Int.reduceNe Int.reduceToNat Int.reduceNeg
attribute [go_sem ↓] reduceIte
theorem on_map0 {X : Type} [Inhabited X] (f : X → List AV) (l : List X) (K : List AV → Prop) : on (l.map f)[0]? K = (0 < l.length ∧ K (f (at0 l 0))) := on_map f l 0 K
theorem on_map1 {X : Type} [Inhabited X] (f : X → List AV) (l : List X) (K : List AV → Prop) : on (l.map f)[1]? K = (1 < l.length ∧ K (f (at0 l 1))) := on_map f l 1 K
theorem on_map2 {X : Type} [Inhabited X] (f : X → List AV) (l : List X) (K : List AV → Prop) : on (l.map f)[2]? K = (2 < l.length ∧ K (f (at0 l 2))) := on_map f l 2 K
theorem on_map3 {X : Type} [Inhabited X] (f : X → List AV) (l : List X) (K : List AV → Prop) : on (l.map f)[3]? K = (3 < l.length ∧ K (f (at0 l 3))) := on_map f l 3 K
attribute [go_sem] on_map0 on_map1 on_map2 on_map3
theorem gateV_undef {w : Bool} {d : Nat} {α : AF} {s t : AF → Prop} : gateV w (.c undef) d α s t = t α := rfl
attribute [go_sem ↓] gateV_undef
theorem on_bind {α β : Type} (o : Option α) (f : α → Option β) (K : β → Prop) : on (o.bind f) K = on o fun x => on (f x) K := by cases o <;> rfl
attribute [go_sem ↓] on_bind
theorem all_oneA_nil : ([] : List AV).all oneA = true := rfl
theorem all_oneA_cons (a : AV) (l : List AV) : (a :: l).all oneA = (oneA a && l.all oneA) := rfl
theorem oneC_int (k : IntKind) (n : Int) : (Value.int k n).oneCell' = true := rfl
theorem oneC_bool (b : Bool) : (Value.bool b).oneCell' = true := rfl
theorem oneC_str (s : ByteArray) : (Value.string s).oneCell' = true := rfl
theorem oneC_nil : (Value.slice none 0 0).oneCell' = true := rfl
attribute [go_sem] all_oneA_nil all_oneA_cons oneC_int oneC_bool oneC_str oneC_nil
end Go.Proofs.YtephecognbbaoabGreat
namespace Go.Proofs.YtephecognbbaoabGreat
attribute [go_sem] AOp AOpA AOpQ evF binA binI lenA evL thenQ blockQ retQ resA oneOf loadA takeA storeA cellsOb cellsA partsA fillA rowsA appendA appendE appendD_sl makeA_sl convA_i64 convA_u8 convA_sb convA_bs sliceA_str sliceA_sl sliceA_own sliceA_mx convP_int elemsA bound intA sliceLike alls oneA st0 st1 ss0 ss1 List.set_cons_zero List.set_cons_succ setL
theorem tab_known_int64 : knownT Tryz.prog 2 = true := by kernel_rfl
theorem tab_agg_int64 : aggSize Tryz.prog 2 = none := by kernel_rfl
theorem tab_info_int64 : (Tryz.prog.info? 2).isSome = true := by kernel_rfl
theorem tab_cells_int64 : Tryz.prog.cellsOf 2 = 1 := by kernel_rfl
theorem tab_bytes_int64 : Tryz.prog.bytesOf 2 = 8 := by kernel_rfl
theorem tab_zero_int64 : zeroA Tryz.prog 2 = some [.c (.int .i64 0)] := by kernel_rfl
attribute [go_sem] Tryz.underlying2 tab_known_int64 tab_agg_int64 tab_info_int64 tab_cells_int64 tab_bytes_int64 tab_zero_int64
theorem tab_known_int : knownT Tryz.prog 3 = true := by kernel_rfl
theorem tab_agg_int : aggSize Tryz.prog 3 = none := by kernel_rfl
theorem tab_info_int : (Tryz.prog.info? 3).isSome = true := by kernel_rfl
theorem tab_cells_int : Tryz.prog.cellsOf 3 = 1 := by kernel_rfl
theorem tab_bytes_int : Tryz.prog.bytesOf 3 = 8 := by kernel_rfl
theorem tab_zero_int : zeroA Tryz.prog 3 = some [.c (.int .i64 0)] := by kernel_rfl
attribute [go_sem] Tryz.underlying3 tab_known_int tab_agg_int tab_info_int tab_cells_int tab_bytes_int tab_zero_int
theorem tab_known_bool : knownT Tryz.prog 4 = true := by kernel_rfl
theorem tab_agg_bool : aggSize Tryz.prog 4 = none := by kernel_rfl
theorem tab_info_bool : (Tryz.prog.info? 4).isSome = true := by kernel_rfl
theorem tab_cells_bool : Tryz.prog.cellsOf 4 = 1 := by kernel_rfl
theorem tab_bytes_bool : Tryz.prog.bytesOf 4 = 1 := by kernel_rfl
theorem tab_zero_bool : zeroA Tryz.prog 4 = some [.c (.bool false)] := by kernel_rfl
attribute [go_sem] Tryz.underlying4 tab_known_bool tab_agg_bool tab_info_bool tab_cells_bool tab_bytes_bool tab_zero_bool
theorem tab_known_uint8 : knownT Tryz.prog 5 = true := by kernel_rfl
theorem tab_agg_uint8 : aggSize Tryz.prog 5 = none := by kernel_rfl
theorem tab_info_uint8 : (Tryz.prog.info? 5).isSome = true := by kernel_rfl
theorem tab_cells_uint8 : Tryz.prog.cellsOf 5 = 1 := by kernel_rfl
theorem tab_bytes_uint8 : Tryz.prog.bytesOf 5 = 1 := by kernel_rfl
theorem tab_zero_uint8 : zeroA Tryz.prog 5 = some [.c (.int .u8 0)] := by kernel_rfl
attribute [go_sem] Tryz.underlying5 tab_known_uint8 tab_agg_uint8 tab_info_uint8 tab_cells_uint8 tab_bytes_uint8 tab_zero_uint8
theorem tab_known_string : knownT Tryz.prog 9 = true := by kernel_rfl
theorem tab_agg_string : aggSize Tryz.prog 9 = none := by kernel_rfl
theorem tab_info_string : (Tryz.prog.info? 9).isSome = true := by kernel_rfl
theorem tab_cells_string : Tryz.prog.cellsOf 9 = 1 := by kernel_rfl
theorem tab_bytes_string : Tryz.prog.bytesOf 9 = 16 := by kernel_rfl
theorem tab_str_string : strT Tryz.prog 9 = true := by kernel_rfl
theorem tab_zero_string : zeroA Tryz.prog 9 = some [.c (.string .empty)] := by kernel_rfl
attribute [go_sem] Tryz.underlying9 tab_known_string tab_agg_string tab_info_string tab_cells_string tab_bytes_string tab_str_string tab_zero_string
theorem tab_known_uintptr : knownT Tryz.prog 12 = true := by kernel_rfl
theorem tab_agg_uintptr : aggSize Tryz.prog 12 = none := by kernel_rfl
theorem tab_info_uintptr : (Tryz.prog.info? 12).isSome = true := by kernel_rfl
theorem tab_cells_uintptr : Tryz.prog.cellsOf 12 = 1 := by kernel_rfl
theorem tab_bytes_uintptr : Tryz.prog.bytesOf 12 = 8 := by kernel_rfl
theorem tab_zero_uintptr : zeroA Tryz.prog 12 = some [.c (.int .u64 0)] := by kernel_rfl
attribute [go_sem] Tryz.underlying12 tab_known_uintptr tab_agg_uintptr tab_info_uintptr tab_cells_uintptr tab_bytes_uintptr tab_zero_uintptr
theorem tab_known_int32 : knownT Tryz.prog 21 = true := by kernel_rfl
theorem tab_agg_int32 : aggSize Tryz.prog 21 = none := by kernel_rfl
theorem tab_info_int32 : (Tryz.prog.info? 21).isSome = true := by kernel_rfl
theorem tab_cells_int32 : Tryz.prog.cellsOf 21 = 1 := by kernel_rfl
theorem tab_bytes_int32 : Tryz.prog.bytesOf 21 = 4 := by kernel_rfl
theorem tab_zero_int32 : zeroA Tryz.prog 21 = some [.c (.int .i32 0)] := by kernel_rfl
attribute [go_sem] Tryz.underlying21 tab_known_int32 tab_agg_int32 tab_info_int32 tab_cells_int32 tab_bytes_int32 tab_zero_int32
theorem tab_known_Sint : knownT Tryz.prog 32 = true := by kernel_rfl
theorem tab_agg_Sint : aggSize Tryz.prog 32 = none := by kernel_rfl
theorem tab_info_Sint : (Tryz.prog.info? 32).isSome = true := by kernel_rfl
theorem tab_cells_Sint : Tryz.prog.cellsOf 32 = 1 := by kernel_rfl
theorem tab_bytes_Sint : Tryz.prog.bytesOf 32 = 24 := by kernel_rfl
theorem tab_elem_Sint : elemSize Tryz.prog 32 = some 1 := by kernel_rfl
theorem tab_zero_Sint : zeroA Tryz.prog 32 = some [.c (.slice none 0 0)] := by kernel_rfl
attribute [go_sem] Tryz.underlying32 tab_known_Sint tab_agg_Sint tab_info_Sint tab_cells_Sint tab_bytes_Sint tab_elem_Sint tab_zero_Sint
theorem tab_known_signpost_api_Packet : knownT Tryz.prog 70 = true := by kernel_rfl
theorem tab_agg_signpost_api_Packet : aggSize Tryz.prog 70 = some 3 := by kernel_rfl
theorem tab_info_signpost_api_Packet : (Tryz.prog.info? 70).isSome = true := by kernel_rfl
theorem tab_cells_signpost_api_Packet : Tryz.prog.cellsOf 70 = 3 := by kernel_rfl
theorem tab_bytes_signpost_api_Packet : Tryz.prog.bytesOf 70 = 40 := by kernel_rfl
theorem tab_field0_signpost_api_Packet : fieldAtP Tryz.prog 70 0 = some 0 := by kernel_rfl
theorem tab_field1_signpost_api_Packet : fieldAtP Tryz.prog 70 1 = some 1 := by kernel_rfl
theorem tab_field2_signpost_api_Packet : fieldAtP Tryz.prog 70 2 = some 2 := by kernel_rfl
theorem tab_places_signpost_api_Packet : placesA Tryz.prog 70 = some [(0, 1), (1, 1), (2, 1)] := by kernel_rfl
theorem tab_zero_signpost_api_Packet : zeroA Tryz.prog 70 = some [.c (.int .i64 0), .c (.int .i64 0), .c (.slice none 0 0)] := by kernel_rfl
attribute [go_sem] Tryz.underlying70 tab_known_signpost_api_Packet tab_agg_signpost_api_Packet tab_info_signpost_api_Packet tab_cells_signpost_api_Packet tab_bytes_signpost_api_Packet tab_field0_signpost_api_Packet tab_field1_signpost_api_Packet tab_field2_signpost_api_Packet tab_places_signpost_api_Packet tab_zero_signpost_api_Packet
theorem tab_known_signpost_api_Errno : knownT Tryz.prog 35 = true := by kernel_rfl
theorem tab_agg_signpost_api_Errno : aggSize Tryz.prog 35 = none := by kernel_rfl
theorem tab_info_signpost_api_Errno : (Tryz.prog.info? 35).isSome = true := by kernel_rfl
theorem tab_cells_signpost_api_Errno : Tryz.prog.cellsOf 35 = 1 := by kernel_rfl
theorem tab_bytes_signpost_api_Errno : Tryz.prog.bytesOf 35 = 8 := by kernel_rfl
theorem tab_zero_signpost_api_Errno : zeroA Tryz.prog 35 = some [.c (.int .i64 0)] := by kernel_rfl
attribute [go_sem] Tryz.underlying35 tab_known_signpost_api_Errno tab_agg_signpost_api_Errno tab_info_signpost_api_Errno tab_cells_signpost_api_Errno tab_bytes_signpost_api_Errno tab_zero_signpost_api_Errno
theorem tab_known_Suint8 : knownT Tryz.prog 75 = true := by kernel_rfl
theorem tab_agg_Suint8 : aggSize Tryz.prog 75 = none := by kernel_rfl
theorem tab_info_Suint8 : (Tryz.prog.info? 75).isSome = true := by kernel_rfl
theorem tab_cells_Suint8 : Tryz.prog.cellsOf 75 = 1 := by kernel_rfl
theorem tab_bytes_Suint8 : Tryz.prog.bytesOf 75 = 24 := by kernel_rfl
theorem tab_elem_Suint8 : elemSize Tryz.prog 75 = some 1 := by kernel_rfl
theorem tab_zero_Suint8 : zeroA Tryz.prog 75 = some [.c (.slice none 0 0)] := by kernel_rfl
attribute [go_sem] Tryz.underlying75 tab_known_Suint8 tab_agg_Suint8 tab_info_Suint8 tab_cells_Suint8 tab_bytes_Suint8 tab_elem_Suint8 tab_zero_Suint8
theorem tab_known_SSint : knownT Tryz.prog 22 = true := by kernel_rfl
theorem tab_agg_SSint : aggSize Tryz.prog 22 = none := by kernel_rfl
theorem tab_info_SSint : (Tryz.prog.info? 22).isSome = true := by kernel_rfl
theorem tab_cells_SSint : Tryz.prog.cellsOf 22 = 1 := by kernel_rfl
theorem tab_bytes_SSint : Tryz.prog.bytesOf 22 = 24 := by kernel_rfl
theorem tab_elem_SSint : elemSize Tryz.prog 22 = some 1 := by kernel_rfl
theorem tab_zero_SSint : zeroA Tryz.prog 22 = some [.c (.slice none 0 0)] := by kernel_rfl
attribute [go_sem] Tryz.underlying22 tab_known_SSint tab_agg_SSint tab_info_SSint tab_cells_SSint tab_bytes_SSint tab_elem_SSint tab_zero_SSint
theorem tab_known_signpost_api_Algebra : knownT Tryz.prog 24 = true := by kernel_rfl
theorem tab_agg_signpost_api_Algebra : aggSize Tryz.prog 24 = some 3 := by kernel_rfl
theorem tab_info_signpost_api_Algebra : (Tryz.prog.info? 24).isSome = true := by kernel_rfl
theorem tab_cells_signpost_api_Algebra : Tryz.prog.cellsOf 24 = 3 := by kernel_rfl
theorem tab_bytes_signpost_api_Algebra : Tryz.prog.bytesOf 24 = 56 := by kernel_rfl
theorem tab_field0_signpost_api_Algebra : fieldAtP Tryz.prog 24 0 = some 0 := by kernel_rfl
theorem tab_field1_signpost_api_Algebra : fieldAtP Tryz.prog 24 1 = some 1 := by kernel_rfl
theorem tab_field2_signpost_api_Algebra : fieldAtP Tryz.prog 24 2 = some 2 := by kernel_rfl
theorem tab_places_signpost_api_Algebra : placesA Tryz.prog 24 = some [(0, 1), (1, 1), (2, 1)] := by kernel_rfl
theorem tab_zero_signpost_api_Algebra : zeroA Tryz.prog 24 = some [.c (.int .i64 0), .c (.slice none 0 0), .c (.slice none 0 0)] := by kernel_rfl
attribute [go_sem] Tryz.underlying24 tab_known_signpost_api_Algebra tab_agg_signpost_api_Algebra tab_info_signpost_api_Algebra tab_cells_signpost_api_Algebra tab_bytes_signpost_api_Algebra tab_field0_signpost_api_Algebra tab_field1_signpost_api_Algebra tab_field2_signpost_api_Algebra tab_places_signpost_api_Algebra tab_zero_signpost_api_Algebra
theorem tab_known_signpost_api_Broken : knownT Tryz.prog 88 = true := by kernel_rfl
theorem tab_agg_signpost_api_Broken : aggSize Tryz.prog 88 = some 5 := by kernel_rfl
theorem tab_info_signpost_api_Broken : (Tryz.prog.info? 88).isSome = true := by kernel_rfl
theorem tab_cells_signpost_api_Broken : Tryz.prog.cellsOf 88 = 5 := by kernel_rfl
theorem tab_bytes_signpost_api_Broken : Tryz.prog.bytesOf 88 = 40 := by kernel_rfl
theorem tab_field0_signpost_api_Broken : fieldAtP Tryz.prog 88 0 = some 0 := by kernel_rfl
theorem tab_field1_signpost_api_Broken : fieldAtP Tryz.prog 88 1 = some 1 := by kernel_rfl
theorem tab_field2_signpost_api_Broken : fieldAtP Tryz.prog 88 2 = some 2 := by kernel_rfl
theorem tab_field3_signpost_api_Broken : fieldAtP Tryz.prog 88 3 = some 3 := by kernel_rfl
theorem tab_field4_signpost_api_Broken : fieldAtP Tryz.prog 88 4 = some 4 := by kernel_rfl
theorem tab_places_signpost_api_Broken : placesA Tryz.prog 88 = some [(0, 1), (1, 1), (2, 1), (3, 1), (4, 1)] := by kernel_rfl
theorem tab_zero_signpost_api_Broken : zeroA Tryz.prog 88 = some [.c (.int .i64 0), .c (.int .i64 0), .c (.int .i64 0), .c (.int .i64 0), .c (.int .i64 0)] := by kernel_rfl
attribute [go_sem] Tryz.underlying88 tab_known_signpost_api_Broken tab_agg_signpost_api_Broken tab_info_signpost_api_Broken tab_cells_signpost_api_Broken tab_bytes_signpost_api_Broken tab_field0_signpost_api_Broken tab_field1_signpost_api_Broken tab_field2_signpost_api_Broken tab_field3_signpost_api_Broken tab_field4_signpost_api_Broken tab_places_signpost_api_Broken tab_zero_signpost_api_Broken
theorem tab_known_Sapi_Link : knownT Tryz.prog 25 = true := by kernel_rfl
theorem tab_agg_Sapi_Link : aggSize Tryz.prog 25 = none := by kernel_rfl
theorem tab_info_Sapi_Link : (Tryz.prog.info? 25).isSome = true := by kernel_rfl
theorem tab_cells_Sapi_Link : Tryz.prog.cellsOf 25 = 1 := by kernel_rfl
theorem tab_bytes_Sapi_Link : Tryz.prog.bytesOf 25 = 24 := by kernel_rfl
theorem tab_elem_Sapi_Link : elemSize Tryz.prog 25 = some 3 := by kernel_rfl
theorem tab_zero_Sapi_Link : zeroA Tryz.prog 25 = some [.c (.slice none 0 0)] := by kernel_rfl
attribute [go_sem] Tryz.underlying25 tab_known_Sapi_Link tab_agg_Sapi_Link tab_info_Sapi_Link tab_cells_Sapi_Link tab_bytes_Sapi_Link tab_elem_Sapi_Link tab_zero_Sapi_Link
theorem tab_known_signpost_api_Net : knownT Tryz.prog 27 = true := by kernel_rfl
theorem tab_agg_signpost_api_Net : aggSize Tryz.prog 27 = some 5 := by kernel_rfl
theorem tab_info_signpost_api_Net : (Tryz.prog.info? 27).isSome = true := by kernel_rfl
theorem tab_cells_signpost_api_Net : Tryz.prog.cellsOf 27 = 5 := by kernel_rfl
theorem tab_bytes_signpost_api_Net : Tryz.prog.bytesOf 27 = 88 := by kernel_rfl
theorem tab_field0_signpost_api_Net : fieldAtP Tryz.prog 27 0 = some 0 := by kernel_rfl
theorem tab_field1_signpost_api_Net : fieldAtP Tryz.prog 27 1 = some 3 := by kernel_rfl
theorem tab_field2_signpost_api_Net : fieldAtP Tryz.prog 27 2 = some 4 := by kernel_rfl
theorem tab_places_signpost_api_Net : placesA Tryz.prog 27 = some [(0, 3), (3, 1), (4, 1)] := by kernel_rfl
theorem tab_zero_signpost_api_Net : zeroA Tryz.prog 27 = some [.c (.int .i64 0), .c (.slice none 0 0), .c (.slice none 0 0), .c (.int .i64 0), .c (.slice none 0 0)] := by kernel_rfl
attribute [go_sem] Tryz.underlying27 tab_known_signpost_api_Net tab_agg_signpost_api_Net tab_info_signpost_api_Net tab_cells_signpost_api_Net tab_bytes_signpost_api_Net tab_field0_signpost_api_Net tab_field1_signpost_api_Net tab_field2_signpost_api_Net tab_places_signpost_api_Net tab_zero_signpost_api_Net
theorem tab_known_uint : knownT Tryz.prog 109 = true := by kernel_rfl
theorem tab_agg_uint : aggSize Tryz.prog 109 = none := by kernel_rfl
theorem tab_info_uint : (Tryz.prog.info? 109).isSome = true := by kernel_rfl
theorem tab_cells_uint : Tryz.prog.cellsOf 109 = 1 := by kernel_rfl
theorem tab_bytes_uint : Tryz.prog.bytesOf 109 = 8 := by kernel_rfl
theorem tab_zero_uint : zeroA Tryz.prog 109 = some [.c (.int .u64 0)] := by kernel_rfl
attribute [go_sem] Tryz.underlying109 tab_known_uint tab_agg_uint tab_info_uint tab_cells_uint tab_bytes_uint tab_zero_uint
theorem tab_known_signpost_algebra_shape : knownT Tryz.prog 140 = true := by kernel_rfl
theorem tab_agg_signpost_algebra_shape : aggSize Tryz.prog 140 = some 2 := by kernel_rfl
theorem tab_info_signpost_algebra_shape : (Tryz.prog.info? 140).isSome = true := by kernel_rfl
theorem tab_cells_signpost_algebra_shape : Tryz.prog.cellsOf 140 = 2 := by kernel_rfl
theorem tab_bytes_signpost_algebra_shape : Tryz.prog.bytesOf 140 = 16 := by kernel_rfl
theorem tab_field0_signpost_algebra_shape : fieldAtP Tryz.prog 140 0 = some 0 := by kernel_rfl
theorem tab_field1_signpost_algebra_shape : fieldAtP Tryz.prog 140 1 = some 1 := by kernel_rfl
theorem tab_places_signpost_algebra_shape : placesA Tryz.prog 140 = some [(0, 1), (1, 1)] := by kernel_rfl
theorem tab_zero_signpost_algebra_shape : zeroA Tryz.prog 140 = some [.c (.int .i64 0), .c (.bool false)] := by kernel_rfl
attribute [go_sem] Tryz.underlying140 tab_known_signpost_algebra_shape tab_agg_signpost_algebra_shape tab_info_signpost_algebra_shape tab_cells_signpost_algebra_shape tab_bytes_signpost_algebra_shape tab_field0_signpost_algebra_shape tab_field1_signpost_algebra_shape tab_places_signpost_algebra_shape tab_zero_signpost_algebra_shape
theorem tab_known_mapSintalgebra_shape : knownT Tryz.prog 141 = true := by kernel_rfl
theorem tab_agg_mapSintalgebra_shape : aggSize Tryz.prog 141 = none := by kernel_rfl
theorem tab_info_mapSintalgebra_shape : (Tryz.prog.info? 141).isSome = true := by kernel_rfl
theorem tab_cells_mapSintalgebra_shape : Tryz.prog.cellsOf 141 = 1 := by kernel_rfl
theorem tab_bytes_mapSintalgebra_shape : Tryz.prog.bytesOf 141 = 8 := by kernel_rfl
theorem tab_zero_mapSintalgebra_shape : zeroA Tryz.prog 141 = some [.c (.map none)] := by kernel_rfl
attribute [go_sem] Tryz.underlying141 tab_known_mapSintalgebra_shape tab_agg_mapSintalgebra_shape tab_info_mapSintalgebra_shape tab_cells_mapSintalgebra_shape tab_bytes_mapSintalgebra_shape tab_zero_mapSintalgebra_shape
theorem tab_known_S3int : knownT Tryz.prog 114 = true := by kernel_rfl
theorem tab_agg_S3int : aggSize Tryz.prog 114 = some 3 := by kernel_rfl
theorem tab_info_S3int : (Tryz.prog.info? 114).isSome = true := by kernel_rfl
theorem tab_cells_S3int : Tryz.prog.cellsOf 114 = 3 := by kernel_rfl
theorem tab_bytes_S3int : Tryz.prog.bytesOf 114 = 24 := by kernel_rfl
theorem tab_zero_S3int : zeroA Tryz.prog 114 = some [.c (.int .i64 0), .c (.int .i64 0), .c (.int .i64 0)] := by kernel_rfl
attribute [go_sem] Tryz.underlying114 tab_known_S3int tab_agg_S3int tab_info_S3int tab_cells_S3int tab_bytes_S3int tab_zero_S3int
theorem tab_known_SSSint : knownT Tryz.prog 104 = true := by kernel_rfl
theorem tab_agg_SSSint : aggSize Tryz.prog 104 = none := by kernel_rfl
theorem tab_info_SSSint : (Tryz.prog.info? 104).isSome = true := by kernel_rfl
theorem tab_cells_SSSint : Tryz.prog.cellsOf 104 = 1 := by kernel_rfl
theorem tab_bytes_SSSint : Tryz.prog.bytesOf 104 = 24 := by kernel_rfl
theorem tab_elem_SSSint : elemSize Tryz.prog 104 = some 1 := by kernel_rfl
theorem tab_zero_SSSint : zeroA Tryz.prog 104 = some [.c (.slice none 0 0)] := by kernel_rfl
attribute [go_sem] Tryz.underlying104 tab_known_SSSint tab_agg_SSSint tab_info_SSSint tab_cells_SSSint tab_bytes_SSSint tab_elem_SSSint tab_zero_SSSint
theorem tab_known_signpost_api_Link : knownT Tryz.prog 57 = true := by kernel_rfl
theorem tab_agg_signpost_api_Link : aggSize Tryz.prog 57 = some 3 := by kernel_rfl
theorem tab_info_signpost_api_Link : (Tryz.prog.info? 57).isSome = true := by kernel_rfl
theorem tab_cells_signpost_api_Link : Tryz.prog.cellsOf 57 = 3 := by kernel_rfl
theorem tab_bytes_signpost_api_Link : Tryz.prog.bytesOf 57 = 24 := by kernel_rfl
theorem tab_field0_signpost_api_Link : fieldAtP Tryz.prog 57 0 = some 0 := by kernel_rfl
theorem tab_field1_signpost_api_Link : fieldAtP Tryz.prog 57 1 = some 1 := by kernel_rfl
theorem tab_field2_signpost_api_Link : fieldAtP Tryz.prog 57 2 = some 2 := by kernel_rfl
theorem tab_places_signpost_api_Link : placesA Tryz.prog 57 = some [(0, 1), (1, 1), (2, 1)] := by kernel_rfl
theorem tab_zero_signpost_api_Link : zeroA Tryz.prog 57 = some [.c (.int .i64 0), .c (.int .i64 0), .c (.int .i64 0)] := by kernel_rfl
attribute [go_sem] Tryz.underlying57 tab_known_signpost_api_Link tab_agg_signpost_api_Link tab_info_signpost_api_Link tab_cells_signpost_api_Link tab_bytes_signpost_api_Link tab_field0_signpost_api_Link tab_field1_signpost_api_Link tab_field2_signpost_api_Link tab_places_signpost_api_Link tab_zero_signpost_api_Link
theorem tab_known_mapSS2intbool : knownT Tryz.prog 107 = true := by kernel_rfl
theorem tab_agg_mapSS2intbool : aggSize Tryz.prog 107 = none := by kernel_rfl
theorem tab_info_mapSS2intbool : (Tryz.prog.info? 107).isSome = true := by kernel_rfl
theorem tab_cells_mapSS2intbool : Tryz.prog.cellsOf 107 = 1 := by kernel_rfl
theorem tab_bytes_mapSS2intbool : Tryz.prog.bytesOf 107 = 8 := by kernel_rfl
theorem tab_zero_mapSS2intbool : zeroA Tryz.prog 107 = some [.c (.map none)] := by kernel_rfl
attribute [go_sem] Tryz.underlying107 tab_known_mapSS2intbool tab_agg_mapSS2intbool tab_info_mapSS2intbool tab_cells_mapSS2intbool tab_bytes_mapSS2intbool tab_zero_mapSS2intbool
theorem tab_known_S2int : knownT Tryz.prog 108 = true := by kernel_rfl
theorem tab_agg_S2int : aggSize Tryz.prog 108 = some 2 := by kernel_rfl
theorem tab_info_S2int : (Tryz.prog.info? 108).isSome = true := by kernel_rfl
theorem tab_cells_S2int : Tryz.prog.cellsOf 108 = 2 := by kernel_rfl
theorem tab_bytes_S2int : Tryz.prog.bytesOf 108 = 16 := by kernel_rfl
theorem tab_zero_S2int : zeroA Tryz.prog 108 = some [.c (.int .i64 0), .c (.int .i64 0)] := by kernel_rfl
attribute [go_sem] Tryz.underlying108 tab_known_S2int tab_agg_S2int tab_info_S2int tab_cells_S2int tab_bytes_S2int tab_zero_S2int
theorem tab_known_uint32 : knownT Tryz.prog 129 = true := by kernel_rfl
theorem tab_agg_uint32 : aggSize Tryz.prog 129 = none := by kernel_rfl
theorem tab_info_uint32 : (Tryz.prog.info? 129).isSome = true := by kernel_rfl
theorem tab_cells_uint32 : Tryz.prog.cellsOf 129 = 1 := by kernel_rfl
theorem tab_bytes_uint32 : Tryz.prog.bytesOf 129 = 4 := by kernel_rfl
theorem tab_zero_uint32 : zeroA Tryz.prog 129 = some [.c (.int .u32 0)] := by kernel_rfl
attribute [go_sem] Tryz.underlying129 tab_known_uint32 tab_agg_uint32 tab_info_uint32 tab_cells_uint32 tab_bytes_uint32 tab_zero_uint32
theorem tab_known_uint64 : knownT Tryz.prog 132 = true := by kernel_rfl
theorem tab_agg_uint64 : aggSize Tryz.prog 132 = none := by kernel_rfl
theorem tab_info_uint64 : (Tryz.prog.info? 132).isSome = true := by kernel_rfl
theorem tab_cells_uint64 : Tryz.prog.cellsOf 132 = 1 := by kernel_rfl
theorem tab_bytes_uint64 : Tryz.prog.bytesOf 132 = 8 := by kernel_rfl
theorem tab_zero_uint64 : zeroA Tryz.prog 132 = some [.c (.int .u64 0)] := by kernel_rfl
attribute [go_sem] Tryz.underlying132 tab_known_uint64 tab_agg_uint64 tab_info_uint64 tab_cells_uint64 tab_bytes_uint64 tab_zero_uint64
theorem tab_known_Puint8 : knownT Tryz.prog 173 = true := by kernel_rfl
theorem tab_agg_Puint8 : aggSize Tryz.prog 173 = none := by kernel_rfl
theorem tab_info_Puint8 : (Tryz.prog.info? 173).isSome = true := by kernel_rfl
theorem tab_cells_Puint8 : Tryz.prog.cellsOf 173 = 1 := by kernel_rfl
theorem tab_bytes_Puint8 : Tryz.prog.bytesOf 173 = 8 := by kernel_rfl
attribute [go_sem] Tryz.underlying173 tab_known_Puint8 tab_agg_Puint8 tab_info_Puint8 tab_cells_Puint8 tab_bytes_Puint8
theorem tab_known_unsafe_Pointer : knownT Tryz.prog 178 = true := by kernel_rfl
theorem tab_agg_unsafe_Pointer : aggSize Tryz.prog 178 = none := by kernel_rfl
theorem tab_info_unsafe_Pointer : (Tryz.prog.info? 178).isSome = true := by kernel_rfl
theorem tab_cells_unsafe_Pointer : Tryz.prog.cellsOf 178 = 1 := by kernel_rfl
theorem tab_bytes_unsafe_Pointer : Tryz.prog.bytesOf 178 = 8 := by kernel_rfl
theorem tab_zero_unsafe_Pointer : zeroA Tryz.prog 178 = some [.c (.pointer none)] := by kernel_rfl
attribute [go_sem] Tryz.underlying178 tab_known_unsafe_Pointer tab_agg_unsafe_Pointer tab_info_unsafe_Pointer tab_cells_unsafe_Pointer tab_bytes_unsafe_Pointer tab_zero_unsafe_Pointer
theorem tab_known_Sapi_Router : knownT Tryz.prog 28 = true := by kernel_rfl
theorem tab_agg_Sapi_Router : aggSize Tryz.prog 28 = none := by kernel_rfl
theorem tab_info_Sapi_Router : (Tryz.prog.info? 28).isSome = true := by kernel_rfl
theorem tab_cells_Sapi_Router : Tryz.prog.cellsOf 28 = 1 := by kernel_rfl
theorem tab_bytes_Sapi_Router : Tryz.prog.bytesOf 28 = 24 := by kernel_rfl
theorem tab_elem_Sapi_Router : elemSize Tryz.prog 28 = some 2 := by kernel_rfl
theorem tab_zero_Sapi_Router : zeroA Tryz.prog 28 = some [.c (.slice none 0 0)] := by kernel_rfl
attribute [go_sem] Tryz.underlying28 tab_known_Sapi_Router tab_agg_Sapi_Router tab_info_Sapi_Router tab_cells_Sapi_Router tab_bytes_Sapi_Router tab_elem_Sapi_Router tab_zero_Sapi_Router
theorem tab_known_Sapi_Mail : knownT Tryz.prog 29 = true := by kernel_rfl
theorem tab_agg_Sapi_Mail : aggSize Tryz.prog 29 = none := by kernel_rfl
theorem tab_info_Sapi_Mail : (Tryz.prog.info? 29).isSome = true := by kernel_rfl
theorem tab_cells_Sapi_Mail : Tryz.prog.cellsOf 29 = 1 := by kernel_rfl
theorem tab_bytes_Sapi_Mail : Tryz.prog.bytesOf 29 = 24 := by kernel_rfl
theorem tab_elem_Sapi_Mail : elemSize Tryz.prog 29 = some 3 := by kernel_rfl
theorem tab_zero_Sapi_Mail : zeroA Tryz.prog 29 = some [.c (.slice none 0 0)] := by kernel_rfl
attribute [go_sem] Tryz.underlying29 tab_known_Sapi_Mail tab_agg_Sapi_Mail tab_info_Sapi_Mail tab_cells_Sapi_Mail tab_bytes_Sapi_Mail tab_elem_Sapi_Mail tab_zero_Sapi_Mail
theorem tab_known_signpost_api_Engine : knownT Tryz.prog 31 = true := by kernel_rfl
theorem tab_agg_signpost_api_Engine : aggSize Tryz.prog 31 = some 2 := by kernel_rfl
theorem tab_info_signpost_api_Engine : (Tryz.prog.info? 31).isSome = true := by kernel_rfl
theorem tab_cells_signpost_api_Engine : Tryz.prog.cellsOf 31 = 2 := by kernel_rfl
theorem tab_bytes_signpost_api_Engine : Tryz.prog.bytesOf 31 = 48 := by kernel_rfl
theorem tab_field0_signpost_api_Engine : fieldAtP Tryz.prog 31 0 = some 0 := by kernel_rfl
theorem tab_field1_signpost_api_Engine : fieldAtP Tryz.prog 31 1 = some 1 := by kernel_rfl
theorem tab_places_signpost_api_Engine : placesA Tryz.prog 31 = some [(0, 1), (1, 1)] := by kernel_rfl
theorem tab_zero_signpost_api_Engine : zeroA Tryz.prog 31 = some [.c (.slice none 0 0), .c (.slice none 0 0)] := by kernel_rfl
attribute [go_sem] Tryz.underlying31 tab_known_signpost_api_Engine tab_agg_signpost_api_Engine tab_info_signpost_api_Engine tab_cells_signpost_api_Engine tab_bytes_signpost_api_Engine tab_field0_signpost_api_Engine tab_field1_signpost_api_Engine tab_places_signpost_api_Engine tab_zero_signpost_api_Engine
theorem tab_known_signpost_api_Event : knownT Tryz.prog 34 = true := by kernel_rfl
theorem tab_agg_signpost_api_Event : aggSize Tryz.prog 34 = some 5 := by kernel_rfl
theorem tab_info_signpost_api_Event : (Tryz.prog.info? 34).isSome = true := by kernel_rfl
theorem tab_cells_signpost_api_Event : Tryz.prog.cellsOf 34 = 5 := by kernel_rfl
theorem tab_bytes_signpost_api_Event : Tryz.prog.bytesOf 34 = 56 := by kernel_rfl
theorem tab_field0_signpost_api_Event : fieldAtP Tryz.prog 34 0 = some 0 := by kernel_rfl
theorem tab_field1_signpost_api_Event : fieldAtP Tryz.prog 34 1 = some 1 := by kernel_rfl
theorem tab_field2_signpost_api_Event : fieldAtP Tryz.prog 34 2 = some 2 := by kernel_rfl
theorem tab_field3_signpost_api_Event : fieldAtP Tryz.prog 34 3 = some 3 := by kernel_rfl
theorem tab_field4_signpost_api_Event : fieldAtP Tryz.prog 34 4 = some 4 := by kernel_rfl
theorem tab_places_signpost_api_Event : placesA Tryz.prog 34 = some [(0, 1), (1, 1), (2, 1), (3, 1), (4, 1)] := by kernel_rfl
theorem tab_zero_signpost_api_Event : zeroA Tryz.prog 34 = some [.c (.int .i64 0), .c (.int .i64 0), .c (.int .i64 0), .c (.int .i64 0), .c (.slice none 0 0)] := by kernel_rfl
attribute [go_sem] Tryz.underlying34 tab_known_signpost_api_Event tab_agg_signpost_api_Event tab_info_signpost_api_Event tab_cells_signpost_api_Event tab_bytes_signpost_api_Event tab_field0_signpost_api_Event tab_field1_signpost_api_Event tab_field2_signpost_api_Event tab_field3_signpost_api_Event tab_field4_signpost_api_Event tab_places_signpost_api_Event tab_zero_signpost_api_Event
theorem tab_known_signpost_api_Router : knownT Tryz.prog 52 = true := by kernel_rfl
theorem tab_agg_signpost_api_Router : aggSize Tryz.prog 52 = some 2 := by kernel_rfl
theorem tab_info_signpost_api_Router : (Tryz.prog.info? 52).isSome = true := by kernel_rfl
theorem tab_cells_signpost_api_Router : Tryz.prog.cellsOf 52 = 2 := by kernel_rfl
theorem tab_bytes_signpost_api_Router : Tryz.prog.bytesOf 52 = 48 := by kernel_rfl
theorem tab_field0_signpost_api_Router : fieldAtP Tryz.prog 52 0 = some 0 := by kernel_rfl
theorem tab_field1_signpost_api_Router : fieldAtP Tryz.prog 52 1 = some 1 := by kernel_rfl
theorem tab_places_signpost_api_Router : placesA Tryz.prog 52 = some [(0, 1), (1, 1)] := by kernel_rfl
theorem tab_zero_signpost_api_Router : zeroA Tryz.prog 52 = some [.c (.slice none 0 0), .c (.slice none 0 0)] := by kernel_rfl
attribute [go_sem] Tryz.underlying52 tab_known_signpost_api_Router tab_agg_signpost_api_Router tab_info_signpost_api_Router tab_cells_signpost_api_Router tab_bytes_signpost_api_Router tab_field0_signpost_api_Router tab_field1_signpost_api_Router tab_places_signpost_api_Router tab_zero_signpost_api_Router
theorem tab_known_signpost_api_Mail : knownT Tryz.prog 61 = true := by kernel_rfl
theorem tab_agg_signpost_api_Mail : aggSize Tryz.prog 61 = some 3 := by kernel_rfl
theorem tab_info_signpost_api_Mail : (Tryz.prog.info? 61).isSome = true := by kernel_rfl
theorem tab_cells_signpost_api_Mail : Tryz.prog.cellsOf 61 = 3 := by kernel_rfl
theorem tab_bytes_signpost_api_Mail : Tryz.prog.bytesOf 61 = 32 := by kernel_rfl
theorem tab_field0_signpost_api_Mail : fieldAtP Tryz.prog 61 0 = some 0 := by kernel_rfl
theorem tab_field1_signpost_api_Mail : fieldAtP Tryz.prog 61 1 = some 1 := by kernel_rfl
theorem tab_field2_signpost_api_Mail : fieldAtP Tryz.prog 61 2 = some 2 := by kernel_rfl
theorem tab_places_signpost_api_Mail : placesA Tryz.prog 61 = some [(0, 1), (1, 1), (2, 1)] := by kernel_rfl
theorem tab_zero_signpost_api_Mail : zeroA Tryz.prog 61 = some [.c (.int .i64 0), .c (.int .i64 0), .c (.string .empty)] := by kernel_rfl
attribute [go_sem] Tryz.underlying61 tab_known_signpost_api_Mail tab_agg_signpost_api_Mail tab_info_signpost_api_Mail tab_cells_signpost_api_Mail tab_bytes_signpost_api_Mail tab_field0_signpost_api_Mail tab_field1_signpost_api_Mail tab_field2_signpost_api_Mail tab_places_signpost_api_Mail tab_zero_signpost_api_Mail
theorem tab_known_Pengine_machine : knownT Tryz.prog 45 = true := by kernel_rfl
theorem tab_agg_Pengine_machine : aggSize Tryz.prog 45 = none := by kernel_rfl
theorem tab_info_Pengine_machine : (Tryz.prog.info? 45).isSome = true := by kernel_rfl
theorem tab_cells_Pengine_machine : Tryz.prog.cellsOf 45 = 1 := by kernel_rfl
theorem tab_bytes_Pengine_machine : Tryz.prog.bytesOf 45 = 8 := by kernel_rfl
attribute [go_sem] Tryz.underlying45 tab_known_Pengine_machine tab_agg_Pengine_machine tab_info_Pengine_machine tab_cells_Pengine_machine tab_bytes_Pengine_machine
theorem tab_known_signpost_engine_machine : knownT Tryz.prog 49 = true := by kernel_rfl
theorem tab_agg_signpost_engine_machine : aggSize Tryz.prog 49 = some 7 := by kernel_rfl
theorem tab_info_signpost_engine_machine : (Tryz.prog.info? 49).isSome = true := by kernel_rfl
theorem tab_cells_signpost_engine_machine : Tryz.prog.cellsOf 49 = 7 := by kernel_rfl
theorem tab_bytes_signpost_engine_machine : Tryz.prog.bytesOf 49 = 136 := by kernel_rfl
theorem tab_field0_signpost_engine_machine : fieldAtP Tryz.prog 49 0 = some 0 := by kernel_rfl
theorem tab_field1_signpost_engine_machine : fieldAtP Tryz.prog 49 1 = some 5 := by kernel_rfl
theorem tab_places_signpost_engine_machine : placesA Tryz.prog 49 = some [(0, 5), (5, 2)] := by kernel_rfl
theorem tab_zero_signpost_engine_machine : zeroA Tryz.prog 49 = some [.c (.int .i64 0), .c (.slice none 0 0), .c (.slice none 0 0), .c (.int .i64 0), .c (.slice none 0 0), .c (.slice none 0 0), .c (.slice none 0 0)] := by kernel_rfl
attribute [go_sem] Tryz.underlying49 tab_known_signpost_engine_machine tab_agg_signpost_engine_machine tab_info_signpost_engine_machine tab_cells_signpost_engine_machine tab_bytes_signpost_engine_machine tab_field0_signpost_engine_machine tab_field1_signpost_engine_machine tab_places_signpost_engine_machine tab_zero_signpost_engine_machine
theorem tab_known_Papi_Mail : knownT Tryz.prog 103 = true := by kernel_rfl
theorem tab_agg_Papi_Mail : aggSize Tryz.prog 103 = none := by kernel_rfl
theorem tab_info_Papi_Mail : (Tryz.prog.info? 103).isSome = true := by kernel_rfl
theorem tab_cells_Papi_Mail : Tryz.prog.cellsOf 103 = 1 := by kernel_rfl
theorem tab_bytes_Papi_Mail : Tryz.prog.bytesOf 103 = 8 := by kernel_rfl
attribute [go_sem] Tryz.underlying103 tab_known_Papi_Mail tab_agg_Papi_Mail tab_info_Papi_Mail tab_cells_Papi_Mail tab_bytes_Papi_Mail
theorem tab_known_Papi_Router : knownT Tryz.prog 121 = true := by kernel_rfl
theorem tab_agg_Papi_Router : aggSize Tryz.prog 121 = none := by kernel_rfl
theorem tab_info_Papi_Router : (Tryz.prog.info? 121).isSome = true := by kernel_rfl
theorem tab_cells_Papi_Router : Tryz.prog.cellsOf 121 = 1 := by kernel_rfl
theorem tab_bytes_Papi_Router : Tryz.prog.bytesOf 121 = 8 := by kernel_rfl
attribute [go_sem] Tryz.underlying121 tab_known_Papi_Router tab_agg_Papi_Router tab_info_Papi_Router tab_cells_Papi_Router tab_bytes_Papi_Router
theorem tab_known_slices_sortedHint : knownT Tryz.prog 146 = true := by kernel_rfl
theorem tab_agg_slices_sortedHint : aggSize Tryz.prog 146 = none := by kernel_rfl
theorem tab_info_slices_sortedHint : (Tryz.prog.info? 146).isSome = true := by kernel_rfl
theorem tab_cells_slices_sortedHint : Tryz.prog.cellsOf 146 = 1 := by kernel_rfl
theorem tab_bytes_slices_sortedHint : Tryz.prog.bytesOf 146 = 8 := by kernel_rfl
theorem tab_zero_slices_sortedHint : zeroA Tryz.prog 146 = some [.c (.int .i64 0)] := by kernel_rfl
attribute [go_sem] Tryz.underlying146 tab_known_slices_sortedHint tab_agg_slices_sortedHint tab_info_slices_sortedHint tab_cells_slices_sortedHint tab_bytes_slices_sortedHint tab_zero_slices_sortedHint
theorem tab_known_slices_xorshift : knownT Tryz.prog 154 = true := by kernel_rfl
theorem tab_agg_slices_xorshift : aggSize Tryz.prog 154 = none := by kernel_rfl
theorem tab_info_slices_xorshift : (Tryz.prog.info? 154).isSome = true := by kernel_rfl
theorem tab_cells_slices_xorshift : Tryz.prog.cellsOf 154 = 1 := by kernel_rfl
theorem tab_bytes_slices_xorshift : Tryz.prog.bytesOf 154 = 8 := by kernel_rfl
theorem tab_zero_slices_xorshift : zeroA Tryz.prog 154 = some [.c (.int .u64 0)] := by kernel_rfl
attribute [go_sem] Tryz.underlying154 tab_known_slices_xorshift tab_agg_slices_xorshift tab_info_slices_xorshift tab_cells_slices_xorshift tab_bytes_slices_xorshift tab_zero_slices_xorshift
theorem tab_known_Pint : knownT Tryz.prog 158 = true := by kernel_rfl
theorem tab_agg_Pint : aggSize Tryz.prog 158 = none := by kernel_rfl
theorem tab_info_Pint : (Tryz.prog.info? 158).isSome = true := by kernel_rfl
theorem tab_cells_Pint : Tryz.prog.cellsOf 158 = 1 := by kernel_rfl
theorem tab_bytes_Pint : Tryz.prog.bytesOf 158 = 8 := by kernel_rfl
attribute [go_sem] Tryz.underlying158 tab_known_Pint tab_agg_Pint tab_info_Pint tab_cells_Pint tab_bytes_Pint
theorem tab_known_Pslices_xorshift : knownT Tryz.prog 160 = true := by kernel_rfl
theorem tab_agg_Pslices_xorshift : aggSize Tryz.prog 160 = none := by kernel_rfl
theorem tab_info_Pslices_xorshift : (Tryz.prog.info? 160).isSome = true := by kernel_rfl
theorem tab_cells_Pslices_xorshift : Tryz.prog.cellsOf 160 = 1 := by kernel_rfl
theorem tab_bytes_Pslices_xorshift : Tryz.prog.bytesOf 160 = 8 := by kernel_rfl
attribute [go_sem] Tryz.underlying160 tab_known_Pslices_xorshift tab_agg_Pslices_xorshift tab_info_Pslices_xorshift tab_cells_Pslices_xorshift tab_bytes_Pslices_xorshift
theorem ok_signpost_wire_Write : callOk Tryz.prog 68 = true := by kernel_rfl
attribute [go_sem] ok_signpost_wire_Write
theorem ok_signpost_signpostref_WriteOf : callOk Tryz.prog 29 = true := by kernel_rfl
attribute [go_sem] ok_signpost_signpostref_WriteOf
theorem ok_signpost_wire_Read : callOk Tryz.prog 69 = true := by kernel_rfl
attribute [go_sem] ok_signpost_wire_Read
theorem ok_signpost_signpostref_ReadOf : callOk Tryz.prog 31 = true := by kernel_rfl
attribute [go_sem] ok_signpost_signpostref_ReadOf
theorem ok_signpost_signpostref_CheckAlgebra : callOk Tryz.prog 17 = true := by kernel_rfl
attribute [go_sem] ok_signpost_signpostref_CheckAlgebra
theorem ok_signpost_signpostref_HoldsOf : callOk Tryz.prog 76 = true := by kernel_rfl
attribute [go_sem] ok_signpost_signpostref_HoldsOf
theorem ok_signpost_signpostref_BrokenOf : callOk Tryz.prog 53 = true := by kernel_rfl
attribute [go_sem] ok_signpost_signpostref_BrokenOf
theorem ok_signpost_signpostref_AllLaws : callOk Tryz.prog 54 = true := by kernel_rfl
attribute [go_sem] ok_signpost_signpostref_AllLaws
theorem ok_signpost_algebra_Check : callOk Tryz.prog 47 = true := by kernel_rfl
attribute [go_sem] ok_signpost_algebra_Check
theorem ok_signpost_signpostref_IsNode : callOk Tryz.prog 20 = true := by kernel_rfl
attribute [go_sem] ok_signpost_signpostref_IsNode
theorem ok_signpost_signpostref_SameInts : callOk Tryz.prog 35 = true := by kernel_rfl
attribute [go_sem] ok_signpost_signpostref_SameInts
theorem ok_signpost_signpostref_CheckNet : callOk Tryz.prog 6 = true := by kernel_rfl
attribute [go_sem] ok_signpost_signpostref_CheckNet
theorem ok_slices_ContainsFuncSSint_int : callOk Tryz.prog 79 = true := by kernel_rfl
attribute [go_sem] ok_slices_ContainsFuncSSint_int
theorem ok_signpost_wire_WriteD1 : callOk Tryz.prog 84 = true := by kernel_rfl
attribute [go_sem] ok_signpost_wire_WriteD1
theorem ok_signpost_wire_fits : callOk Tryz.prog 85 = true := by kernel_rfl
attribute [go_sem] ok_signpost_wire_fits
theorem ok_signpost_wire_sum : callOk Tryz.prog 86 = true := by kernel_rfl
attribute [go_sem] ok_signpost_wire_sum
theorem ok_signpost_signpostref_between : callOk Tryz.prog 19 = true := by kernel_rfl
attribute [go_sem] ok_signpost_signpostref_between
theorem ok_signpost_signpostref_SumOf : callOk Tryz.prog 63 = true := by kernel_rfl
attribute [go_sem] ok_signpost_signpostref_SumOf
theorem ok_signpost_algebra_shapes : callOk Tryz.prog 97 = true := by kernel_rfl
attribute [go_sem] ok_signpost_algebra_shapes
theorem ok_signpost_algebra_Is : callOk Tryz.prog 72 = true := by kernel_rfl
attribute [go_sem] ok_signpost_algebra_Is
theorem ok_signpost_algebra_within : callOk Tryz.prog 71 = true := by kernel_rfl
attribute [go_sem] ok_signpost_algebra_within
theorem ok_signpost_algebra_holds : callOk Tryz.prog 90 = true := by kernel_rfl
attribute [go_sem] ok_signpost_algebra_holds
theorem ok_signpost_signpostref_Names : callOk Tryz.prog 75 = true := by kernel_rfl
attribute [go_sem] ok_signpost_signpostref_Names
theorem ok_signpost_signpostlaw_hops : callOk Tryz.prog 64 = true := by kernel_rfl
attribute [go_sem] ok_signpost_signpostlaw_hops
theorem ok_signpost_signpostref_SameState : callOk Tryz.prog 65 = true := by kernel_rfl
attribute [go_sem] ok_signpost_signpostref_SameState
theorem ok_signpost_net_Check : callOk Tryz.prog 15 = true := by kernel_rfl
attribute [go_sem] ok_signpost_net_Check
theorem ok_slices_ContainsFuncSSSint_Sint : callOk Tryz.prog 57 = true := by kernel_rfl
attribute [go_sem] ok_slices_ContainsFuncSSSint_Sint
theorem ok_signpost_signpostref_EdgeOf : callOk Tryz.prog 27 = true := by kernel_rfl
attribute [go_sem] ok_signpost_signpostref_EdgeOf
theorem ok_signpost_signpostlaw_two : callOk Tryz.prog 34 = true := by kernel_rfl
attribute [go_sem] ok_signpost_signpostlaw_two
theorem ok_signpost_algebra_Invalid : callOk Tryz.prog 52 = true := by kernel_rfl
attribute [go_sem] ok_signpost_algebra_Invalid
theorem ok_signpost_signpostref_IsLawful : callOk Tryz.prog 18 = true := by kernel_rfl
attribute [go_sem] ok_signpost_signpostref_IsLawful
theorem ok_signpost_net_within : callOk Tryz.prog 49 = true := by kernel_rfl
attribute [go_sem] ok_signpost_net_within
theorem ok_signpost_net_Own : callOk Tryz.prog 38 = true := by kernel_rfl
attribute [go_sem] ok_signpost_net_Own
theorem ok_slices_IndexFuncSSint_int : callOk Tryz.prog 93 = true := by kernel_rfl
attribute [go_sem] ok_slices_IndexFuncSSint_int
theorem ok_signpost_algebra_holdsD1 : callOk Tryz.prog 100 = true := by kernel_rfl
attribute [go_sem] ok_signpost_algebra_holdsD1
theorem ok_signpost_algebra_broken : callOk Tryz.prog 73 = true := by kernel_rfl
attribute [go_sem] ok_signpost_algebra_broken
theorem ok_signpost_algebra_Lawful : callOk Tryz.prog 48 = true := by kernel_rfl
attribute [go_sem] ok_signpost_algebra_Lawful
theorem ok_signpost_net_links : callOk Tryz.prog 50 = true := by kernel_rfl
attribute [go_sem] ok_signpost_net_links
theorem ok_slices_IndexFuncSSSint_Sint : callOk Tryz.prog 78 = true := by kernel_rfl
attribute [go_sem] ok_slices_IndexFuncSSSint_Sint
theorem ok_slices_CloneSSint_int : callOk Tryz.prog 37 = true := by kernel_rfl
attribute [go_sem] ok_slices_CloneSSint_int
theorem ok_signpost_net_Look : callOk Tryz.prog 82 = true := by kernel_rfl
attribute [go_sem] ok_signpost_net_Look
theorem ok_signpost_signpostref_RouteOf : callOk Tryz.prog 62 = true := by kernel_rfl
attribute [go_sem] ok_signpost_signpostref_RouteOf
theorem ok_signpost_net_Trivial : callOk Tryz.prog 16 = true := by kernel_rfl
attribute [go_sem] ok_signpost_net_Trivial
theorem ok_signpost_algebra_cases : callOk Tryz.prog 89 = true := by kernel_rfl
attribute [go_sem] ok_signpost_algebra_cases
theorem ok_slices_RepeatSSint_int : callOk Tryz.prog 51 = true := by kernel_rfl
attribute [go_sem] ok_slices_RepeatSSint_int
theorem ok_signpost_algebra_casesD1 : callOk Tryz.prog 98 = true := by kernel_rfl
attribute [go_sem] ok_signpost_algebra_casesD1
theorem ok_signpost_algebra_upTo : callOk Tryz.prog 99 = true := by kernel_rfl
attribute [go_sem] ok_signpost_algebra_upTo
theorem ok_signpost_signpostlaw_engineBegun : callOk Tryz.prog 11 = true := by kernel_rfl
attribute [go_sem] ok_signpost_signpostlaw_engineBegun
theorem ok_signpost_signpostref_CheckEngine : callOk Tryz.prog 7 = true := by kernel_rfl
attribute [go_sem] ok_signpost_signpostref_CheckEngine
theorem ok_signpost_engine_Step : callOk Tryz.prog 4 = true := by kernel_rfl
attribute [go_sem] ok_signpost_engine_Step
theorem ok_signpost_signpostref_StepOf : callOk Tryz.prog 9 = true := by kernel_rfl
attribute [go_sem] ok_signpost_signpostref_StepOf
theorem ok_signpost_signpostref_SameEngine : callOk Tryz.prog 36 = true := by kernel_rfl
attribute [go_sem] ok_signpost_signpostref_SameEngine
theorem ok_signpost_engine_New : callOk Tryz.prog 5 = true := by kernel_rfl
attribute [go_sem] ok_signpost_engine_New
theorem ok_signpost_engine_Check : callOk Tryz.prog 8 = true := by kernel_rfl
attribute [go_sem] ok_signpost_engine_Check
theorem ok_signpost_engine_own : callOk Tryz.prog 13 = true := by kernel_rfl
attribute [go_sem] ok_signpost_engine_own
theorem ok_Psignpost_engine_machine_step : callOk Tryz.prog 14 = true := by kernel_rfl
attribute [go_sem] ok_Psignpost_engine_machine_step
theorem ok_Psignpost_engine_machine_tick : callOk Tryz.prog 40 = true := by kernel_rfl
attribute [go_sem] ok_Psignpost_engine_machine_tick
theorem ok_signpost_signpostref_rowOf : callOk Tryz.prog 21 = true := by kernel_rfl
attribute [go_sem] ok_signpost_signpostref_rowOf
theorem ok_signpost_signpostref_looked : callOk Tryz.prog 28 = true := by kernel_rfl
attribute [go_sem] ok_signpost_signpostref_looked
theorem ok_signpost_signpostref_without : callOk Tryz.prog 30 = true := by kernel_rfl
attribute [go_sem] ok_signpost_signpostref_without
theorem ok_signpost_signpostref_copied : callOk Tryz.prog 32 = true := by kernel_rfl
attribute [go_sem] ok_signpost_signpostref_copied
theorem ok_signpost_engine_all : callOk Tryz.prog 22 = true := by kernel_rfl
attribute [go_sem] ok_signpost_engine_all
theorem ok_slices_ContainsFuncSSsignpost_api_Mail_signpost_api_Mail : callOk Tryz.prog 23 = true := by kernel_rfl
attribute [go_sem] ok_slices_ContainsFuncSSsignpost_api_Mail_signpost_api_Mail
theorem ok_signpost_engine_CheckD1 : callOk Tryz.prog 24 = true := by kernel_rfl
attribute [go_sem] ok_signpost_engine_CheckD1
theorem ok_signpost_engine_isNode : callOk Tryz.prog 25 = true := by kernel_rfl
attribute [go_sem] ok_signpost_engine_isNode
theorem ok_signpost_engine_CheckD2 : callOk Tryz.prog 26 = true := by kernel_rfl
attribute [go_sem] ok_signpost_engine_CheckD2
theorem ok_slices_CloneSSsignpost_api_Mail_signpost_api_Mail : callOk Tryz.prog 39 = true := by kernel_rfl
attribute [go_sem] ok_slices_CloneSSsignpost_api_Mail_signpost_api_Mail
theorem ok_Psignpost_engine_machine_deliver : callOk Tryz.prog 41 = true := by kernel_rfl
attribute [go_sem] ok_Psignpost_engine_machine_deliver
theorem ok_Psignpost_engine_machine_twice : callOk Tryz.prog 42 = true := by kernel_rfl
attribute [go_sem] ok_Psignpost_engine_machine_twice
theorem ok_slices_DeleteSSsignpost_api_Mail_signpost_api_Mail : callOk Tryz.prog 43 = true := by kernel_rfl
attribute [go_sem] ok_slices_DeleteSSsignpost_api_Mail_signpost_api_Mail
theorem ok_Psignpost_engine_machine_spoil : callOk Tryz.prog 44 = true := by kernel_rfl
attribute [go_sem] ok_Psignpost_engine_machine_spoil
theorem ok_Psignpost_engine_machine_expire : callOk Tryz.prog 45 = true := by kernel_rfl
attribute [go_sem] ok_Psignpost_engine_machine_expire
theorem ok_Psignpost_engine_machine_restart : callOk Tryz.prog 46 = true := by kernel_rfl
attribute [go_sem] ok_Psignpost_engine_machine_restart
theorem ok_Psignpost_engine_machine_hears : callOk Tryz.prog 66 = true := by kernel_rfl
attribute [go_sem] ok_Psignpost_engine_machine_hears
theorem ok_Psignpost_engine_machine_look : callOk Tryz.prog 67 = true := by kernel_rfl
attribute [go_sem] ok_Psignpost_engine_machine_look
theorem ok_slices_ContainsFuncSSsignpost_api_Router_signpost_api_Router : callOk Tryz.prog 55 = true := by kernel_rfl
attribute [go_sem] ok_slices_ContainsFuncSSsignpost_api_Router_signpost_api_Router
theorem ok_signpost_engine_allD1 : callOk Tryz.prog 56 = true := by kernel_rfl
attribute [go_sem] ok_signpost_engine_allD1
theorem ok_signpost_engine_rows : callOk Tryz.prog 58 = true := by kernel_rfl
attribute [go_sem] ok_signpost_engine_rows
theorem ok_signpost_engine_allD1D1 : callOk Tryz.prog 59 = true := by kernel_rfl
attribute [go_sem] ok_signpost_engine_allD1D1
theorem ok_signpost_engine_row : callOk Tryz.prog 60 = true := by kernel_rfl
attribute [go_sem] ok_signpost_engine_row
theorem ok_slices_IndexFuncSSsignpost_api_Mail_signpost_api_Mail : callOk Tryz.prog 61 = true := by kernel_rfl
attribute [go_sem] ok_slices_IndexFuncSSsignpost_api_Mail_signpost_api_Mail
theorem ok_Psignpost_engine_machine_linked : callOk Tryz.prog 70 = true := by kernel_rfl
attribute [go_sem] ok_Psignpost_engine_machine_linked
theorem ok_slices_SortSSint_int : callOk Tryz.prog 81 = true := by kernel_rfl
attribute [go_sem] ok_slices_SortSSint_int
theorem ok_Psignpost_engine_machine_lookD1 : callOk Tryz.prog 83 = true := by kernel_rfl
attribute [go_sem] ok_Psignpost_engine_machine_lookD1
theorem ok_slices_IndexFuncSSsignpost_api_Router_signpost_api_Router : callOk Tryz.prog 77 = true := by kernel_rfl
attribute [go_sem] ok_slices_IndexFuncSSsignpost_api_Router_signpost_api_Router
theorem ok_signpost_engine_rowD1 : callOk Tryz.prog 80 = true := by kernel_rfl
attribute [go_sem] ok_signpost_engine_rowD1
theorem ok_slices_ContainsFuncSSsignpost_api_Link_signpost_api_Link : callOk Tryz.prog 87 = true := by kernel_rfl
attribute [go_sem] ok_slices_ContainsFuncSSsignpost_api_Link_signpost_api_Link
theorem ok_Psignpost_engine_machine_linkedD1 : callOk Tryz.prog 88 = true := by kernel_rfl
attribute [go_sem] ok_Psignpost_engine_machine_linkedD1
theorem ok_slices_pdqsortOrderedSint : callOk Tryz.prog 94 = true := by kernel_rfl
attribute [go_sem] ok_slices_pdqsortOrderedSint
theorem ok_slices_IndexFuncSSsignpost_api_Link_signpost_api_Link : callOk Tryz.prog 96 = true := by kernel_rfl
attribute [go_sem] ok_slices_IndexFuncSSsignpost_api_Link_signpost_api_Link
theorem ok_slices_insertionSortOrderedSint : callOk Tryz.prog 101 = true := by kernel_rfl
attribute [go_sem] ok_slices_insertionSortOrderedSint
theorem ok_slices_heapSortOrderedSint : callOk Tryz.prog 102 = true := by kernel_rfl
attribute [go_sem] ok_slices_heapSortOrderedSint
theorem ok_slices_breakPatternsOrderedSint : callOk Tryz.prog 103 = true := by kernel_rfl
attribute [go_sem] ok_slices_breakPatternsOrderedSint
theorem ok_slices_choosePivotOrderedSint : callOk Tryz.prog 104 = true := by kernel_rfl
attribute [go_sem] ok_slices_choosePivotOrderedSint
theorem ok_slices_reverseRangeOrderedSint : callOk Tryz.prog 105 = true := by kernel_rfl
attribute [go_sem] ok_slices_reverseRangeOrderedSint
theorem ok_slices_partialInsertionSortOrderedSint : callOk Tryz.prog 106 = true := by kernel_rfl
attribute [go_sem] ok_slices_partialInsertionSortOrderedSint
theorem ok_slices_partitionEqualOrderedSint : callOk Tryz.prog 108 = true := by kernel_rfl
attribute [go_sem] ok_slices_partitionEqualOrderedSint
theorem ok_slices_partitionOrderedSint : callOk Tryz.prog 109 = true := by kernel_rfl
attribute [go_sem] ok_slices_partitionOrderedSint
theorem ok_slices_siftDownOrderedSint : callOk Tryz.prog 112 = true := by kernel_rfl
attribute [go_sem] ok_slices_siftDownOrderedSint
theorem ok_slices_nextPowerOfTwo : callOk Tryz.prog 113 = true := by kernel_rfl
attribute [go_sem] ok_slices_nextPowerOfTwo
theorem ok_slices_medianAdjacentOrderedSint : callOk Tryz.prog 115 = true := by kernel_rfl
attribute [go_sem] ok_slices_medianAdjacentOrderedSint
theorem ok_slices_medianOrderedSint : callOk Tryz.prog 116 = true := by kernel_rfl
attribute [go_sem] ok_slices_medianOrderedSint
theorem ok_slices_order2OrderedSint : callOk Tryz.prog 118 = true := by kernel_rfl
attribute [go_sem] ok_slices_order2OrderedSint
theorem ok_signpost_signpostref_BeginOf : callOk Tryz.prog 33 = true := by kernel_rfl
attribute [go_sem] ok_signpost_signpostref_BeginOf
theorem ok_signpost_signpostlaw_EngineSteps : callOk Tryz.prog 3 = true := by kernel_rfl
attribute [go_sem] ok_signpost_signpostlaw_EngineSteps
theorem ok_signpost_signpostref_NewOf : callOk Tryz.prog 10 = true := by kernel_rfl
attribute [go_sem] ok_signpost_signpostref_NewOf
theorem ok_signpost_signpostlaw_engineIs : callOk Tryz.prog 12 = true := by kernel_rfl
attribute [go_sem] ok_signpost_signpostlaw_engineIs
theorem tab_mixed : Tryz.prog.follows .mixedOrders = true := by kernel_rfl
end Go.Proofs.YtephecognbbaoabGreat
namespace Go.Proofs.YtephecognbbaoabGreat
/-- Short names for the walk's steps. -/
theorem g_x {p : Prop} (h : p := by first | omega | (unfold I64; omega) | (unfold maxLen; omega) | assumption | (with_reducible rfl) | (simp; done) | (simp [oneA, Value.oneCell']; done) | fail) : p := h
theorem g_f {p : Prop} (h : False := by first | contradiction | omega) : p := h.elim
theorem g_q {P : Program} {f : FuncId} {args : List AV} {σ : Store} {X : AV} {K : AV → Prop} (h : ∀ τ, ACalls P f args (σ ++ τ) fun r σ' => σ' = σ ++ τ ∧ r = X) (hk : K X) : callQ P f args σ K := callQ_use h hk
section
variable {rd : Option Nat} {N : Nat} {Q : Post} {α : AF} {σ : Store}
theorem g_s {P : Program} {x y : Code} (h : ∀ K : AF → Store → Prop, (∀ α σ, AWPr rd P N y Q α σ → K α σ) → AWPr rd P N x (thenQ K Q) α σ) : AWPr rd P N (.seq x y) Q α σ := AWP_seq_k h
theorem g_b {P : Program} {id : Nat} {c : Code} (h : AWPr rd P N c (blockQ id Q) α σ) : AWPr rd P N (.block id c) Q α σ := AWP_block h
theorem g_k {P : Program} (h : Q .normal α σ) : AWPr rd P N .skip Q α σ := AWP_skip h
theorem g_e {P : Program} {id : Nat} (h : Q (.exit id) α σ) : AWPr rd P N (.exit id) Q α σ := AWP_exit h
theorem g_t {P : Program} (h : Q .ret α σ) : AWPr rd P N .ret Q α σ := AWP_ret h
theorem g_c {P : Program} {t : Nat} {x y : Code} {b : Bool} (h1 : b = true → AWPr rd P N x Q α σ) (h2 : b = false → AWPr rd P N y Q α σ) (hl : look α t = some (.c (.bool b)) := by rfl) : AWPr rd P N (.cond (.tmp t) x y) Q α σ := AWP_cond hl h1 h2
theorem g_g {P : Program} {id : Nat} {ops : List Oper} (h : areg P N ops (fun α σ => Q .normal α σ) ops α σ) : AWPr rd P N (.region id ops.toArray false) Q α σ := AWP_region h
theorem g_G {P : Program} {id : Nat} {ops : List Oper} (h : breg P N ops (fun α σ => Q .normal α σ) ops α σ) : AWPr rd P N (.region id ops.toArray false) Q α σ := AWP_regionB h
theorem g_U {id : Nat} {ops : List Oper} (h : kreg Tryz.prog N ops σ (fun α => areg Tryz.prog N ops (fun α σ => Q .normal α σ) (ops.drop (upto ops)) α σ) (ops.take (upto ops)) α)
    (hB : (drawB ops (upto ops) && edgesBack ops && noSelect ops && decide (upto ops ≤ ops.length)) = true := by decide +kernel) : AWPr rd Tryz.prog N (.region id ops.toArray true) Q α σ := AWP_drawU tab_mixed hB h
theorem g_A {id : Nat} {ops : List Oper} {T : TypeId} (h : on (zeroA Tryz.prog T) fun z => mreg Tryz.prog N ops σ z (fun α => areg Tryz.prog N ops (fun α σ => Q .normal α σ) (ops.drop (uptoA ops true)) α (σ ++ [.cells z.length [z]])) (ops.take (uptoA ops true)) α)
    (hB : (drawB ops (uptoA ops true) && edgesBack ops && noSelect ops && decide (uptoA ops true ≤ ops.length) && oneAlloc ops (uptoA ops true)) = true := by decide +kernel) (hT : allocT ops = some T := by rfl) : AWPr rd Tryz.prog N (.region id ops.toArray true) Q α σ := AWP_drawA tab_mixed hB hT h
theorem g_W {id : Nat} {ops : List Oper} (h : greg Tryz.prog N ops (false, false) false σ (fun α σ => areg Tryz.prog N ops (fun α σ => Q .normal α σ) (ops.drop (uptoW ops)) α σ) (ops.take (uptoW ops)) α σ)
    (hB : (drawB ops (uptoW ops) && edgesBack ops && noSelect ops && decide (uptoW ops ≤ ops.length) && loudOrd (false, false) ops (uptoW ops) && (!false || allPure (false, false) ops)) = true := by decide +kernel) : AWPr rd Tryz.prog N (.region id ops.toArray true) Q α σ := AWP_drawW false tab_mixed hB h
end
def intA1 (n : Int) : AV := .c (.int .i64 n)
def boolA (b : Bool) : AV := .c (.bool b)
def intC (n : Int) : List AV := [.c (.int .i64 n)]
def byteC (n : Int) : List AV := [.c (.int .u8 n)]
def intsA (l : List Int) : AV := .sl (l.map intC)
def bytesA (l : List Int) : AV := .sl (l.map byteC)
attribute [go_sem] intA1 boolA intC byteC intsA bytesA
theorem len_map {X : Type} {f : X → List AV} {k : Nat} (h : ∀ x, (f x).length = k) (l : List X) : (∀ e', e' ∈ l.map f → e'.length = k) = True :=
  eq_true fun e' he => by obtain ⟨x, _, rfl⟩ := List.mem_map.1 he; exact h x
theorem one_map {X : Type} {f : X → List AV} (h : ∀ x, (f x).all oneA = true) (l : List X) : (∀ e', e' ∈ l.map f → e'.all oneA = true) = True :=
  eq_true fun e' he => by obtain ⟨x, _, rfl⟩ := List.mem_map.1 he; exact h x
theorem Bd.ints {n : Nat} (l : List Int) : Bd n (.sl (l.map intC)) := .slL (fun _ => .cons (.c _) .nil) l
theorem intC_len (l : List Int) : (∀ e', e' ∈ l.map intC → e'.length = 1) = True := len_map (f := intC) (fun _ => rfl) l
theorem intC_one (l : List Int) : (∀ e', e' ∈ l.map intC → e'.all oneA = true) = True := one_map (f := intC) (fun _ => rfl) l
theorem byteC_len (l : List Int) : (∀ e', e' ∈ l.map byteC → e'.length = 1) = True := len_map (f := byteC) (fun _ => rfl) l
theorem byteC_one (l : List Int) : (∀ e', e' ∈ l.map byteC → e'.all oneA = true) = True := one_map (f := byteC) (fun _ => rfl) l
attribute [go_sem] intC_len intC_one byteC_len byteC_one
/-- What an own slice at a known place holds, whole. -/
theorem elemsA_st (σ τ ρ : Store) {k : Nat} (es : List (List AV)) {n c : Nat} (hn : n = es.length) : elemsA (σ ++ (τ ++ .cells k es :: ρ)) (.own (σ.length + τ.length) k 0 n c) = some es := by
  subst hn
  have e : (σ ++ (τ ++ .cells k es :: ρ))[σ.length + τ.length]? = some (.cells k es) := by rw [st1, st0]; rfl
  rw [elemsA_eq]
  simp [elemsB, e]
/-- Where the first one is of which p says yes; -1: none. -/
def firstI {X : Type} (p : X → Bool) (k : Int) : List X → Int
  | [] => -1
  | x :: r => if p x then k else firstI p (k + 1) r
theorem firstI_ge {X : Type} (p : X → Bool) : ∀ (l : List X) (k : Int), 0 ≤ k → decide (firstI p k l ≥ 0) = l.any p
  | [], k, _ => rfl
  | x :: r, k, hk => by
    have ih := firstI_ge p r (k + 1) (by omega)
    simp only [firstI, List.any_cons]
    by_cases hp : p x = true
    · simp [hp, hk]
    · simp only [hp, Bool.false_or, ← ih, if_false, Bool.false_eq_true]
theorem indexFunc_int (l : List Int) (p : Int → Bool) (f : FuncId) (first cap : List AV) (σ : Store) (hl : l.length ≤ 1000000000000000000) (hok : callOk Tryz.prog f = true)
    (hf : ∀ x ∈ l, ACalls Tryz.prog f (first ++ intA1 x :: cap) σ fun r σ' => σ' = σ ∧ r = .c (.bool (p x))) :
    ACalls Tryz.prog 93 [intsA l, .fn f first cap] σ fun r σ' => σ' = σ ∧ r = intA1 (firstI p 0 l) := by
  refine ACalls_of_awp Tryz.func93 rfl Tryz.results93 ?_
  simp only [List.length_cons, List.length_nil, Tryz.ntmps93, Nat.reduceAdd, Nat.reduceSub, enterA]
  (repeat' (first|(refine g_s fun K hK=>?_)|(refine g_b ?_)|(refine g_g ?_;(try simp -implicitDefEqProofs only[go_sem]))|(with_reducible refine hK _ _ ?_;clear hK K)|fail))
  refine AWP_each l (fun k r _ => firstI p 0 l = firstI p k r) (fun k _ _ => [(8, intA1 k)]) (fun _ _ _ => σ) () [] rfl rfl (ALe_of ?_) ?_ ?_
  · simp -implicitDefEqProofs only [go_sem]
  · rintro k r s τ hk0 hk1 h1 L hL
    have hc := hf _ (at0_mem l hk0 hk1)
    simp -implicitDefEqProofs only [go_sem]
    (repeat' (first|(refine g_s fun K hK=>?_)|(refine g_b ?_)|(refine g_k ?_;simp only[thenQ,blockQ])|(refine g_c (fun h=>?_) (fun h=>?_)<;>(try simp only[go_sem] at h)<;>(try exact g_f))|((first|refine g_t ?_|refine g_g ?_|refine (hc).use ?_);(try simp -implicitDefEqProofs only[go_sem]))|(with_reducible refine hK _ _ ?_;clear hK K)|(with_reducible refine And.intro ?_ ?_;· exact g_x)|fail))
    · rw [h1, firstI, if_pos (by assumption)]
    · refine hL () [] _ _ ?_ (ALe_of ?_) rfl
      · rw [h1, firstI, if_neg (by simp [*])]
      · simp -implicitDefEqProofs only [go_sem]
  · intro k s τ hk h1 L
    simp -implicitDefEqProofs only [go_sem]
    (repeat' (first|(refine g_s fun K hK=>?_)|(refine g_e ?_;simp only[thenQ,blockQ,↓reduceIte,Nat.reduceEqDiff])|(refine g_c (fun h=>?_) (fun h=>?_)<;>(try simp only[go_sem] at h)<;>(try exact g_f))|((first|refine g_t ?_|refine g_g ?_);(try simp -implicitDefEqProofs only[go_sem]))|(with_reducible refine hK _ _ ?_;clear hK K)|(clear hK K;first|(with_reducible refine hK _ _ ?_;clear hK K)|(clear hK K;with_reducible refine hK _ _ ?_;clear hK K)|(clear hK K;clear hK K;with_reducible refine hK _ _ ?_;clear hK K))|fail))
    rw [h1, firstI]
theorem containsFunc_int (l : List Int) (p : Int → Bool) (f : FuncId) (first cap : List AV) (σ : Store) (hl : l.length ≤ 1000000000000000000) (hok : callOk Tryz.prog f = true)
    (hf : ∀ x ∈ l, ACalls Tryz.prog f (first ++ intA1 x :: cap) σ fun r σ' => σ' = σ ∧ r = .c (.bool (p x))) :
    ACalls Tryz.prog 79 [intsA l, .fn f first cap] σ fun r σ' => σ' = σ ∧ r = .c (.bool (l.any p)) := by
  have hc := indexFunc_int l p f first cap σ hl hok hf
  refine ACalls_of_awp Tryz.func79 rfl Tryz.results79 ?_
  simp only [List.length_cons, List.length_nil, Tryz.ntmps79, Nat.reduceAdd, Nat.reduceSub, enterA]
  (repeat' (first|(refine g_s fun K hK=>?_)|((first|refine g_t ?_|refine g_g ?_|refine (hc).use ?_);(try simp -implicitDefEqProofs only[go_sem]))|(with_reducible refine hK _ _ ?_;clear hK K)|fail))
  rw [← firstI_ge p l 0 (Int.le_refl _)]
theorem bd2 {n : Nat} (a b : Value) : Bd n (.tup [.c a, .c b]) := .tup _ fun i h => by
  match i, h with
  | 0, _ => exact .c _
  | 1, _ => exact .c _
theorem between_calls (n a b : Int) (σ : Store) : ACalls Tryz.prog 19 [intA1 n, intA1 a, intA1 b] σ fun r σ' => σ' = σ ∧ r = .c (.bool (decide (a ≤ n) && decide (n ≤ b))) := by
  refine ACalls_of_awp Tryz.func19 rfl Tryz.results19 ?_
  simp only [List.length_cons, List.length_nil, Tryz.ntmps19, Nat.reduceAdd, Nat.reduceSub, enterA]
  (repeat' (first|(refine g_s fun K hK=>?_)|((first|refine g_t ?_|refine g_g ?_);(try simp -implicitDefEqProofs only[go_sem]))|(with_reducible refine hK _ _ ?_;clear hK K)|(with_reducible refine splitB_intro (fun h=>?_) (fun h=>?_)<;>(try simp only[go_sem] at h)<;>(try exact g_f)<;>(try simp -implicitDefEqProofs only[go_sem]))|fail))
  all_goals (simp; omega)
theorem at0_eq {X : Type} [Inhabited X] {a b : List X} (hl : a.length = b.length) (h : ∀ k : Int, 0 ≤ k → k < a.length → at0 a k = at0 b k) : a = b := by
  apply List.ext_getElem hl
  intro i h1 h2
  have := h i (by omega) (by omega)
  simpa [at0, List.getD_eq_getElem?_getD, h1, h2] using this
theorem sameInts_calls (a b : List Int) (hl : a.length ≤ 1000000000000000000) (σ : Store) : ACalls Tryz.prog 35 [intsA a, intsA b] σ fun r σ' => σ' = σ ∧ r = .c (.bool (decide (a = b))) := by
  refine ACalls_of_awp Tryz.func35 rfl Tryz.results35 ?_
  simp only [List.length_cons, List.length_nil, Tryz.ntmps35, Nat.reduceAdd, Nat.reduceSub, enterA]
  (repeat' (first|(refine g_s fun K hK=>?_)|(refine g_b ?_)|(refine g_k ?_;simp only[thenQ,blockQ])|(refine g_c (fun h=>?_) (fun h=>?_)<;>(try simp only[go_sem] at h)<;>(try exact g_f))|((first|refine g_t ?_|refine g_g ?_);(try simp -implicitDefEqProofs only[go_sem]))|(with_reducible refine hK _ _ ?_;clear hK K)|fail))
  · rw [decide_eq_false (fun e : a = b => h (by rw [e]))]
  refine AWP_for (a.length : Int) (fun k _ => ∀ i : Int, 0 ≤ i → i < k → at0 a i = at0 b i) (fun k _ _ => [(5, intA1 k)]) (fun _ _ _ => σ) () [] (by omega) (fun i h1 h2 => by omega) rfl (ALe_of ?_) ?_
  · simp -implicitDefEqProofs only [go_sem]
  · rintro k _ τ hk0 hk1 hH L hL
    simp -implicitDefEqProofs only [go_sem]
    (repeat' (first|(refine g_s fun K hK=>?_)|(refine g_b ?_)|(refine g_k ?_;simp only[thenQ,blockQ])|(refine g_e ?_;simp only[thenQ,blockQ,↓reduceIte,Nat.reduceEqDiff])|(refine g_c (fun h=>?_) (fun h=>?_)<;>(try simp only[go_sem] at h)<;>(try exact g_f))|((first|refine g_t ?_|refine g_g ?_|refine g_U ?_);(try simp -implicitDefEqProofs only[go_sem]))|(with_reducible refine hK _ _ ?_;clear hK K)|(clear hK K;first|(with_reducible refine hK _ _ ?_;clear hK K)|(clear hK K;with_reducible refine hK _ _ ?_;clear hK K)|(clear hK K;clear hK K;with_reducible refine hK _ _ ?_;clear hK K))|(with_reducible refine And.intro ?_ ?_;· exact g_x)|fail))
    · rw [decide_eq_false (fun e : a = b => h (by rw [e]))]
    · refine hL (by assumption) () [] _ _ ?_ (ALe_of ?_) rfl
      · intro i h1 h2
        rcases Int.lt_or_eq_of_le (Int.le_of_lt_add_one h2) with h3 | h3
        · exact hH i h1 h3
        · rw [h3]; assumption
      · simp -implicitDefEqProofs only [go_sem]
    · rw [decide_eq_true (at0_eq (by omega) fun i h1 h2 => hH i h1 (by omega) : a = b)]
end Go.Proofs.YtephecognbbaoabGreat
namespace Go.Proofs.YtephecognbbaoabGreat
theorem keyed_int : Go.Maps.Keyed Tryz.prog 3 = True := eq_true (Go.Maps.int_keyed Tryz.underlying3)
theorem keyK_int (n : Int) : keyK Tryz.prog 3 (.int .i64 n) = I64 n := by
  have h : keyOf Tryz.prog 3 (.int .i64 n) = if (Lit.int IntKind.i64 n).wf = true then some (.int .i64 n) else none := by simp [keyOf, mapKey, Tryz.underlying3]
  have h2 : (Lit.int IntKind.i64 n).wf = true ↔ I64 n := by
    simp [Lit.wf, IntKind.min, IntKind.max, IntKind.bits, IntKind.signed, I64]
  unfold keyK
  rw [h]
  apply propext
  constructor
  · rintro ⟨l, hl⟩
    split at hl
    · exact h2.1 (by assumption)
    · cases hl
  · intro h3
    exact ⟨_, if_pos (h2.2 h3)⟩
attribute [go_sem] keyed_int keyK_int
theorem tab_map_shape : mapT Tryz.prog 141 = some (3, 140) := by kernel_rfl
theorem tab_zv_shape : zeroV Tryz.prog 140 = some (.agg #[.int .i64 0, .bool false]) := by kernel_rfl
attribute [go_sem] tab_map_shape tab_zv_shape
theorem tab_zv_int : zeroV Tryz.prog 3 = some (.int .i64 0) := by kernel_rfl
theorem tab_zv_bool : zeroV Tryz.prog 4 = some (.bool false) := by kernel_rfl
attribute [go_sem] tab_zv_int tab_zv_bool Option.getD_some Option.getD_none
end Go.Proofs.YtephecognbbaoabGreat
namespace Go.Proofs.YtephecognbbaoabGreat
/-- Objects are made, and written, meanwhile; all of it. -/
theorem AWP_drawL {rd : Option Nat} {P : Program} {N : Nat} {ops : List Oper} {α0 : AF} {σ : Store} {Q : Post} {id : Nat} (bs pu : Bool) (hm : P.follows .mixedOrders = true) (hB : (drawB ops ops.length && edgesBack ops && noSelect ops && decide (ops.length ≤ ops.length) && loudOrd (bs, false) ops ops.length && (!pu || allPure (bs, false) ops)) = true)
    (h : greg P N ops (bs, false) pu σ (fun α σ => Q .normal α σ) ops α0 σ) : AWPr rd P N (.region id ops.toArray true) Q α0 σ :=
  AWP_drawG (bs, false) pu ops.length hm hB (by rw [List.take_length, List.drop_length]; exact h)
theorem sc1 (τ l : Store) (a : Ob) (k : Nat) : (a :: (τ ++ l))[τ.length + (k + 1)]? = l[k]? := by rw [← Nat.add_assoc, List.getElem?_cons_succ]; exact st1 τ l k
theorem sc2 (τ l : Store) (a b : Ob) (k : Nat) : (a :: b :: (τ ++ l))[τ.length + (k + 2)]? = l[k]? := by rw [← Nat.add_assoc, List.getElem?_cons_succ, ← sc1 τ l b k]; rfl
theorem sc3 (τ l : Store) (a b c : Ob) (k : Nat) : (a :: b :: c :: (τ ++ l))[τ.length + (k + 3)]? = l[k]? := by rw [← Nat.add_assoc, List.getElem?_cons_succ, ← sc2 τ l b c k]; rfl
theorem sc4 (τ l : Store) (a b c d : Ob) (k : Nat) : (a :: b :: c :: d :: (τ ++ l))[τ.length + (k + 4)]? = l[k]? := by rw [← Nat.add_assoc, List.getElem?_cons_succ, ← sc3 τ l b c d k]; rfl
theorem ss1c (τ l : Store) (a x : Ob) (k : Nat) : (a :: (τ ++ l)).set (τ.length + (k + 1)) x = a :: (τ ++ l.set k x) := by rw [← Nat.add_assoc, List.set_cons_succ, ss1]
theorem ss2c (τ l : Store) (a b x : Ob) (k : Nat) : (a :: b :: (τ ++ l)).set (τ.length + (k + 2)) x = a :: b :: (τ ++ l.set k x) := by rw [← Nat.add_assoc, List.set_cons_succ, ← ss1c τ l b x k]; rfl
theorem ss3c (τ l : Store) (a b c x : Ob) (k : Nat) : (a :: b :: c :: (τ ++ l)).set (τ.length + (k + 3)) x = a :: b :: c :: (τ ++ l.set k x) := by rw [← Nat.add_assoc, List.set_cons_succ, ← ss2c τ l b c x k]; rfl
theorem ss4c (τ l : Store) (a b c d x : Ob) (k : Nat) : (a :: b :: c :: d :: (τ ++ l)).set (τ.length + (k + 4)) x = a :: b :: c :: d :: (τ ++ l.set k x) := by rw [← Nat.add_assoc, List.set_cons_succ, ← ss3c τ l b c d x k]; rfl
attribute [go_sem] sc1 sc2 sc3 sc4 ss1c ss2c ss3c ss4c
theorem tab_elem_arr3 : arrSize Tryz.prog 114 = some (1, 3) := by kernel_rfl
attribute [go_sem] tab_elem_arr3
end Go.Proofs.YtephecognbbaoabGreat
