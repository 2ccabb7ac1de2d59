/- The words of the walk's simplifier. -/
import Derived.Test.YtephecognbbaoabZGr
import Derived.Test.YtephecognbbaoabProg
open Go
set_option linter.all false
set_option maxRecDepth 100000
set_option maxHeartbeats 4000000
namespace Go.Proofs.Ytephecognbbaoab
open Go
set_option linter.all false
attribute [go_sem ↓] on_some splitB_true splitB_false areg_nil areg_cons kreg_nil kreg_cons mreg_nil mreg_cons greg_nil greg_cons gop_t gop_f breg_nil breg_cons gateA_none gateA_some gateV_t gateV_f gateV_u putA_some putA_none
attribute [go_sem] look lenTy Option.isSome_some List.length_map Int.toNat_natCast enterA true_and and_true List.getElem?_cons_zero List.getElem?_cons_succ List.getElem?_nil List.drop_zero List.drop_succ_cons List.drop_nil List.take_succ_cons List.take_zero Option.bind_some Option.bind_none Option.map_some decide_true decide_false Bool.not_true Bool.not_false forall_const reduceCtorEq Option.some.injEq List.cons_append List.nil_append List.append_assoc Bool.true_eq_false Bool.false_eq_true false_implies implies_true not_true_eq_false not_false_eq_true and_false false_and or_true true_or or_false false_or ne_eq true_implies List.length_cons List.length_nil List.length_append Nat.add_assoc Nat.zero_add
  decide_eq_true_eq decide_eq_false_iff_not Bool.and_eq_true Bool.or_eq_true beq_iff_eq bne_iff_ne beq_eq_false_iff_ne bne_eq_false_iff_eq Bool.not_eq_true' Bool.not_eq_false' Int.not_le Int.not_lt ge_iff_le gt_iff_lt Bool.and_eq_false_iff Bool.or_eq_false_iff Bool.not_eq_true Bool.not_eq_false
  writes dsts keep List.elem_cons List.elem_nil alls alls_app on_map binT binN nilT copyA pass_eq AOpK AOpM upto uptoA isAlloc Bool.true_and Bool.false_and Bool.and_true Bool.and_false loud eqCells keyV intCells insertA lookupA mapA ansA isMap
attribute [go_sem] AOpB AOpD loudG isWr uptoW Grown_self Grown_app Grown_pu
attribute [go_sem] Grown_f Pre_app Pre_cons Pre_nil Pre_self Pre_self2
attribute [go_sem] DK NK KK Bool.false_or Bool.true_or
attribute [go_sem] Nat.reduceLT Nat.reduceEqDiff Nat.reduceBEq Nat.reduceAdd Nat.reduceSub Nat.reduceLeDiff Nat.reduceMul Int.reduceAdd Int.reduceSub Int.reduceMul Int.reduceLT Int.reduceLE Int.reduceEq Int.reduceNe Int.reduceToNat Int.reduceNeg
attribute [go_sem ↓] reduceIte
theorem on_map0 {X : Type} [Inhabited X] (f : X → List AV) (l : List X) (K : List AV → Prop) : on (l.map f)[0]? K = (0 < l.length ∧ K (f (at0 l 0))) := on_map f l 0 K
theorem on_map1 {X : Type} [Inhabited X] (f : X → List AV) (l : List X) (K : List AV → Prop) : on (l.map f)[1]? K = (1 < l.length ∧ K (f (at0 l 1))) := on_map f l 1 K
theorem on_map2 {X : Type} [Inhabited X] (f : X → List AV) (l : List X) (K : List AV → Prop) : on (l.map f)[2]? K = (2 < l.length ∧ K (f (at0 l 2))) := on_map f l 2 K
theorem on_map3 {X : Type} [Inhabited X] (f : X → List AV) (l : List X) (K : List AV → Prop) : on (l.map f)[3]? K = (3 < l.length ∧ K (f (at0 l 3))) := on_map f l 3 K
attribute [go_sem] on_map0 on_map1 on_map2 on_map3
theorem gateV_undef {w : Bool} {d : Nat} {α : AF} {s t : AF → Prop} : gateV w (.c undef) d α s t = t α := rfl
attribute [go_sem ↓] gateV_undef
theorem on_bind {α β : Type} (o : Option α) (f : α → Option β) (K : β → Prop) : on (o.bind f) K = on o fun x => on (f x) K := by cases o <;> rfl
attribute [go_sem ↓] on_bind
theorem all_oneA_nil : ([] : List AV).all oneA = true := rfl
theorem all_oneA_cons (a : AV) (l : List AV) : (a :: l).all oneA = (oneA a && l.all oneA) := rfl
theorem oneC_int (k : IntKind) (n : Int) : (Value.int k n).oneCell' = true := rfl
theorem oneC_bool (b : Bool) : (Value.bool b).oneCell' = true := rfl
theorem oneC_str (s : ByteArray) : (Value.string s).oneCell' = true := rfl
theorem oneC_nil : (Value.slice none 0 0).oneCell' = true := rfl
attribute [go_sem] all_oneA_nil all_oneA_cons oneC_int oneC_bool oneC_str oneC_nil
end Go.Proofs.Ytephecognbbaoab
namespace Go.Proofs.Ytephecognbbaoab
attribute [go_sem] AOp AOpA AOpQ evF binA binI lenA evL thenQ blockQ retQ resA oneOf loadA takeA storeA cellsOb cellsA partsA fillA rowsA appendA appendE appendD_sl makeA_sl convA_i64 convA_u8 convA_sb convA_bs sliceA_str sliceA_sl sliceA_own sliceA_mx convP_int elemsA bound intA sliceLike alls oneA st0 st1 ss0 ss1 List.set_cons_zero List.set_cons_succ setL
theorem tab_known_int64 : knownT Try.prog 2 = true := by kernel_rfl
theorem tab_agg_int64 : aggSize Try.prog 2 = none := by kernel_rfl
theorem tab_info_int64 : (Try.prog.info? 2).isSome = true := by kernel_rfl
theorem tab_cells_int64 : Try.prog.cellsOf 2 = 1 := by kernel_rfl
theorem tab_bytes_int64 : Try.prog.bytesOf 2 = 8 := by kernel_rfl
theorem tab_zero_int64 : zeroA Try.prog 2 = some [.c (.int .i64 0)] := by kernel_rfl
attribute [go_sem] Try.underlying2 tab_known_int64 tab_agg_int64 tab_info_int64 tab_cells_int64 tab_bytes_int64 tab_zero_int64
theorem tab_known_int : knownT Try.prog 3 = true := by kernel_rfl
theorem tab_agg_int : aggSize Try.prog 3 = none := by kernel_rfl
theorem tab_info_int : (Try.prog.info? 3).isSome = true := by kernel_rfl
theorem tab_cells_int : Try.prog.cellsOf 3 = 1 := by kernel_rfl
theorem tab_bytes_int : Try.prog.bytesOf 3 = 8 := by kernel_rfl
theorem tab_zero_int : zeroA Try.prog 3 = some [.c (.int .i64 0)] := by kernel_rfl
attribute [go_sem] Try.underlying3 tab_known_int tab_agg_int tab_info_int tab_cells_int tab_bytes_int tab_zero_int
theorem tab_known_bool : knownT Try.prog 4 = true := by kernel_rfl
theorem tab_agg_bool : aggSize Try.prog 4 = none := by kernel_rfl
theorem tab_info_bool : (Try.prog.info? 4).isSome = true := by kernel_rfl
theorem tab_cells_bool : Try.prog.cellsOf 4 = 1 := by kernel_rfl
theorem tab_bytes_bool : Try.prog.bytesOf 4 = 1 := by kernel_rfl
theorem tab_zero_bool : zeroA Try.prog 4 = some [.c (.bool false)] := by kernel_rfl
attribute [go_sem] Try.underlying4 tab_known_bool tab_agg_bool tab_info_bool tab_cells_bool tab_bytes_bool tab_zero_bool
theorem tab_known_uint8 : knownT Try.prog 5 = true := by kernel_rfl
theorem tab_agg_uint8 : aggSize Try.prog 5 = none := by kernel_rfl
theorem tab_info_uint8 : (Try.prog.info? 5).isSome = true := by kernel_rfl
theorem tab_cells_uint8 : Try.prog.cellsOf 5 = 1 := by kernel_rfl
theorem tab_bytes_uint8 : Try.prog.bytesOf 5 = 1 := by kernel_rfl
theorem tab_zero_uint8 : zeroA Try.prog 5 = some [.c (.int .u8 0)] := by kernel_rfl
attribute [go_sem] Try.underlying5 tab_known_uint8 tab_agg_uint8 tab_info_uint8 tab_cells_uint8 tab_bytes_uint8 tab_zero_uint8
theorem tab_known_string : knownT Try.prog 9 = true := by kernel_rfl
theorem tab_agg_string : aggSize Try.prog 9 = none := by kernel_rfl
theorem tab_info_string : (Try.prog.info? 9).isSome = true := by kernel_rfl
theorem tab_cells_string : Try.prog.cellsOf 9 = 1 := by kernel_rfl
theorem tab_bytes_string : Try.prog.bytesOf 9 = 16 := by kernel_rfl
theorem tab_str_string : strT Try.prog 9 = true := by kernel_rfl
theorem tab_zero_string : zeroA Try.prog 9 = some [.c (.string .empty)] := by kernel_rfl
attribute [go_sem] Try.underlying9 tab_known_string tab_agg_string tab_info_string tab_cells_string tab_bytes_string tab_str_string tab_zero_string
theorem tab_known_uintptr : knownT Try.prog 12 = true := by kernel_rfl
theorem tab_agg_uintptr : aggSize Try.prog 12 = none := by kernel_rfl
theorem tab_info_uintptr : (Try.prog.info? 12).isSome = true := by kernel_rfl
theorem tab_cells_uintptr : Try.prog.cellsOf 12 = 1 := by kernel_rfl
theorem tab_bytes_uintptr : Try.prog.bytesOf 12 = 8 := by kernel_rfl
theorem tab_zero_uintptr : zeroA Try.prog 12 = some [.c (.int .u64 0)] := by kernel_rfl
attribute [go_sem] Try.underlying12 tab_known_uintptr tab_agg_uintptr tab_info_uintptr tab_cells_uintptr tab_bytes_uintptr tab_zero_uintptr
theorem tab_known_int32 : knownT Try.prog 21 = true := by kernel_rfl
theorem tab_agg_int32 : aggSize Try.prog 21 = none := by kernel_rfl
theorem tab_info_int32 : (Try.prog.info? 21).isSome = true := by kernel_rfl
theorem tab_cells_int32 : Try.prog.cellsOf 21 = 1 := by kernel_rfl
theorem tab_bytes_int32 : Try.prog.bytesOf 21 = 4 := by kernel_rfl
theorem tab_zero_int32 : zeroA Try.prog 21 = some [.c (.int .i32 0)] := by kernel_rfl
attribute [go_sem] Try.underlying21 tab_known_int32 tab_agg_int32 tab_info_int32 tab_cells_int32 tab_bytes_int32 tab_zero_int32
theorem tab_known_Sint : knownT Try.prog 22 = true := by kernel_rfl
theorem tab_agg_Sint : aggSize Try.prog 22 = none := by kernel_rfl
theorem tab_info_Sint : (Try.prog.info? 22).isSome = true := by kernel_rfl
theorem tab_cells_Sint : Try.prog.cellsOf 22 = 1 := by kernel_rfl
theorem tab_bytes_Sint : Try.prog.bytesOf 22 = 24 := by kernel_rfl
theorem tab_elem_Sint : elemSize Try.prog 22 = some 1 := by kernel_rfl
theorem tab_zero_Sint : zeroA Try.prog 22 = some [.c (.slice none 0 0)] := by kernel_rfl
attribute [go_sem] Try.underlying22 tab_known_Sint tab_agg_Sint tab_info_Sint tab_cells_Sint tab_bytes_Sint tab_elem_Sint tab_zero_Sint
theorem tab_known_signpost_api_Packet : knownT Try.prog 217 = true := by kernel_rfl
theorem tab_agg_signpost_api_Packet : aggSize Try.prog 217 = some 3 := by kernel_rfl
theorem tab_info_signpost_api_Packet : (Try.prog.info? 217).isSome = true := by kernel_rfl
theorem tab_cells_signpost_api_Packet : Try.prog.cellsOf 217 = 3 := by kernel_rfl
theorem tab_bytes_signpost_api_Packet : Try.prog.bytesOf 217 = 40 := by kernel_rfl
theorem tab_field0_signpost_api_Packet : fieldAtP Try.prog 217 0 = some 0 := by kernel_rfl
theorem tab_field1_signpost_api_Packet : fieldAtP Try.prog 217 1 = some 1 := by kernel_rfl
theorem tab_field2_signpost_api_Packet : fieldAtP Try.prog 217 2 = some 2 := by kernel_rfl
theorem tab_places_signpost_api_Packet : placesA Try.prog 217 = some [(0, 1), (1, 1), (2, 1)] := by kernel_rfl
theorem tab_zero_signpost_api_Packet : zeroA Try.prog 217 = some [.c (.int .i64 0), .c (.int .i64 0), .c (.slice none 0 0)] := by kernel_rfl
attribute [go_sem] Try.underlying217 tab_known_signpost_api_Packet tab_agg_signpost_api_Packet tab_info_signpost_api_Packet tab_cells_signpost_api_Packet tab_bytes_signpost_api_Packet tab_field0_signpost_api_Packet tab_field1_signpost_api_Packet tab_field2_signpost_api_Packet tab_places_signpost_api_Packet tab_zero_signpost_api_Packet
theorem tab_known_signpost_api_Errno : knownT Try.prog 30 = true := by kernel_rfl
theorem tab_agg_signpost_api_Errno : aggSize Try.prog 30 = none := by kernel_rfl
theorem tab_info_signpost_api_Errno : (Try.prog.info? 30).isSome = true := by kernel_rfl
theorem tab_cells_signpost_api_Errno : Try.prog.cellsOf 30 = 1 := by kernel_rfl
theorem tab_bytes_signpost_api_Errno : Try.prog.bytesOf 30 = 8 := by kernel_rfl
theorem tab_zero_signpost_api_Errno : zeroA Try.prog 30 = some [.c (.int .i64 0)] := by kernel_rfl
attribute [go_sem] Try.underlying30 tab_known_signpost_api_Errno tab_agg_signpost_api_Errno tab_info_signpost_api_Errno tab_cells_signpost_api_Errno tab_bytes_signpost_api_Errno tab_zero_signpost_api_Errno
theorem tab_known_Suint8 : knownT Try.prog 222 = true := by kernel_rfl
theorem tab_agg_Suint8 : aggSize Try.prog 222 = none := by kernel_rfl
theorem tab_info_Suint8 : (Try.prog.info? 222).isSome = true := by kernel_rfl
theorem tab_cells_Suint8 : Try.prog.cellsOf 222 = 1 := by kernel_rfl
theorem tab_bytes_Suint8 : Try.prog.bytesOf 222 = 24 := by kernel_rfl
theorem tab_elem_Suint8 : elemSize Try.prog 222 = some 1 := by kernel_rfl
theorem tab_zero_Suint8 : zeroA Try.prog 222 = some [.c (.slice none 0 0)] := by kernel_rfl
attribute [go_sem] Try.underlying222 tab_known_Suint8 tab_agg_Suint8 tab_info_Suint8 tab_cells_Suint8 tab_bytes_Suint8 tab_elem_Suint8 tab_zero_Suint8
theorem tab_known_SSint : knownT Try.prog 27 = true := by kernel_rfl
theorem tab_agg_SSint : aggSize Try.prog 27 = none := by kernel_rfl
theorem tab_info_SSint : (Try.prog.info? 27).isSome = true := by kernel_rfl
theorem tab_cells_SSint : Try.prog.cellsOf 27 = 1 := by kernel_rfl
theorem tab_bytes_SSint : Try.prog.bytesOf 27 = 24 := by kernel_rfl
theorem tab_elem_SSint : elemSize Try.prog 27 = some 1 := by kernel_rfl
theorem tab_zero_SSint : zeroA Try.prog 27 = some [.c (.slice none 0 0)] := by kernel_rfl
attribute [go_sem] Try.underlying27 tab_known_SSint tab_agg_SSint tab_info_SSint tab_cells_SSint tab_bytes_SSint tab_elem_SSint tab_zero_SSint
theorem tab_known_signpost_api_Algebra : knownT Try.prog 29 = true := by kernel_rfl
theorem tab_agg_signpost_api_Algebra : aggSize Try.prog 29 = some 3 := by kernel_rfl
theorem tab_info_signpost_api_Algebra : (Try.prog.info? 29).isSome = true := by kernel_rfl
theorem tab_cells_signpost_api_Algebra : Try.prog.cellsOf 29 = 3 := by kernel_rfl
theorem tab_bytes_signpost_api_Algebra : Try.prog.bytesOf 29 = 56 := by kernel_rfl
theorem tab_field0_signpost_api_Algebra : fieldAtP Try.prog 29 0 = some 0 := by kernel_rfl
theorem tab_field1_signpost_api_Algebra : fieldAtP Try.prog 29 1 = some 1 := by kernel_rfl
theorem tab_field2_signpost_api_Algebra : fieldAtP Try.prog 29 2 = some 2 := by kernel_rfl
theorem tab_places_signpost_api_Algebra : placesA Try.prog 29 = some [(0, 1), (1, 1), (2, 1)] := by kernel_rfl
theorem tab_zero_signpost_api_Algebra : zeroA Try.prog 29 = some [.c (.int .i64 0), .c (.slice none 0 0), .c (.slice none 0 0)] := by kernel_rfl
attribute [go_sem] Try.underlying29 tab_known_signpost_api_Algebra tab_agg_signpost_api_Algebra tab_info_signpost_api_Algebra tab_cells_signpost_api_Algebra tab_bytes_signpost_api_Algebra tab_field0_signpost_api_Algebra tab_field1_signpost_api_Algebra tab_field2_signpost_api_Algebra tab_places_signpost_api_Algebra tab_zero_signpost_api_Algebra
theorem tab_known_signpost_api_Broken : knownT Try.prog 34 = true := by kernel_rfl
theorem tab_agg_signpost_api_Broken : aggSize Try.prog 34 = some 5 := by kernel_rfl
theorem tab_info_signpost_api_Broken : (Try.prog.info? 34).isSome = true := by kernel_rfl
theorem tab_cells_signpost_api_Broken : Try.prog.cellsOf 34 = 5 := by kernel_rfl
theorem tab_bytes_signpost_api_Broken : Try.prog.bytesOf 34 = 40 := by kernel_rfl
theorem tab_field0_signpost_api_Broken : fieldAtP Try.prog 34 0 = some 0 := by kernel_rfl
theorem tab_field1_signpost_api_Broken : fieldAtP Try.prog 34 1 = some 1 := by kernel_rfl
theorem tab_field2_signpost_api_Broken : fieldAtP Try.prog 34 2 = some 2 := by kernel_rfl
theorem tab_field3_signpost_api_Broken : fieldAtP Try.prog 34 3 = some 3 := by kernel_rfl
theorem tab_field4_signpost_api_Broken : fieldAtP Try.prog 34 4 = some 4 := by kernel_rfl
theorem tab_places_signpost_api_Broken : placesA Try.prog 34 = some [(0, 1), (1, 1), (2, 1), (3, 1), (4, 1)] := by kernel_rfl
theorem tab_zero_signpost_api_Broken : zeroA Try.prog 34 = some [.c (.int .i64 0), .c (.int .i64 0), .c (.int .i64 0), .c (.int .i64 0), .c (.int .i64 0)] := by kernel_rfl
attribute [go_sem] Try.underlying34 tab_known_signpost_api_Broken tab_agg_signpost_api_Broken tab_info_signpost_api_Broken tab_cells_signpost_api_Broken tab_bytes_signpost_api_Broken tab_field0_signpost_api_Broken tab_field1_signpost_api_Broken tab_field2_signpost_api_Broken tab_field3_signpost_api_Broken tab_field4_signpost_api_Broken tab_places_signpost_api_Broken tab_zero_signpost_api_Broken
theorem tab_known_Sapi_Plan : knownT Try.prog 23 = true := by kernel_rfl
theorem tab_agg_Sapi_Plan : aggSize Try.prog 23 = none := by kernel_rfl
theorem tab_info_Sapi_Plan : (Try.prog.info? 23).isSome = true := by kernel_rfl
theorem tab_cells_Sapi_Plan : Try.prog.cellsOf 23 = 1 := by kernel_rfl
theorem tab_bytes_Sapi_Plan : Try.prog.bytesOf 23 = 24 := by kernel_rfl
theorem tab_elem_Sapi_Plan : elemSize Try.prog 23 = some 4 := by kernel_rfl
theorem tab_zero_Sapi_Plan : zeroA Try.prog 23 = some [.c (.slice none 0 0)] := by kernel_rfl
attribute [go_sem] Try.underlying23 tab_known_Sapi_Plan tab_agg_Sapi_Plan tab_info_Sapi_Plan tab_cells_Sapi_Plan tab_bytes_Sapi_Plan tab_elem_Sapi_Plan tab_zero_Sapi_Plan
theorem tab_known_signpost_api_Plan : knownT Try.prog 25 = true := by kernel_rfl
theorem tab_agg_signpost_api_Plan : aggSize Try.prog 25 = some 4 := by kernel_rfl
theorem tab_info_signpost_api_Plan : (Try.prog.info? 25).isSome = true := by kernel_rfl
theorem tab_cells_signpost_api_Plan : Try.prog.cellsOf 25 = 4 := by kernel_rfl
theorem tab_bytes_signpost_api_Plan : Try.prog.bytesOf 25 = 64 := by kernel_rfl
theorem tab_field0_signpost_api_Plan : fieldAtP Try.prog 25 0 = some 0 := by kernel_rfl
theorem tab_field1_signpost_api_Plan : fieldAtP Try.prog 25 1 = some 1 := by kernel_rfl
theorem tab_field2_signpost_api_Plan : fieldAtP Try.prog 25 2 = some 2 := by kernel_rfl
theorem tab_field3_signpost_api_Plan : fieldAtP Try.prog 25 3 = some 3 := by kernel_rfl
theorem tab_places_signpost_api_Plan : placesA Try.prog 25 = some [(0, 1), (1, 1), (2, 1), (3, 1)] := by kernel_rfl
theorem tab_zero_signpost_api_Plan : zeroA Try.prog 25 = some [.c (.int .i64 0), .c (.int .i64 0), .c (.slice none 0 0), .c (.slice none 0 0)] := by kernel_rfl
attribute [go_sem] Try.underlying25 tab_known_signpost_api_Plan tab_agg_signpost_api_Plan tab_info_signpost_api_Plan tab_cells_signpost_api_Plan tab_bytes_signpost_api_Plan tab_field0_signpost_api_Plan tab_field1_signpost_api_Plan tab_field2_signpost_api_Plan tab_field3_signpost_api_Plan tab_places_signpost_api_Plan tab_zero_signpost_api_Plan
theorem tab_known_Sapi_Link : knownT Try.prog 38 = true := by kernel_rfl
theorem tab_agg_Sapi_Link : aggSize Try.prog 38 = none := by kernel_rfl
theorem tab_info_Sapi_Link : (Try.prog.info? 38).isSome = true := by kernel_rfl
theorem tab_cells_Sapi_Link : Try.prog.cellsOf 38 = 1 := by kernel_rfl
theorem tab_bytes_Sapi_Link : Try.prog.bytesOf 38 = 24 := by kernel_rfl
theorem tab_elem_Sapi_Link : elemSize Try.prog 38 = some 3 := by kernel_rfl
theorem tab_zero_Sapi_Link : zeroA Try.prog 38 = some [.c (.slice none 0 0)] := by kernel_rfl
attribute [go_sem] Try.underlying38 tab_known_Sapi_Link tab_agg_Sapi_Link tab_info_Sapi_Link tab_cells_Sapi_Link tab_bytes_Sapi_Link tab_elem_Sapi_Link tab_zero_Sapi_Link
theorem tab_known_signpost_api_Net : knownT Try.prog 40 = true := by kernel_rfl
theorem tab_agg_signpost_api_Net : aggSize Try.prog 40 = some 5 := by kernel_rfl
theorem tab_info_signpost_api_Net : (Try.prog.info? 40).isSome = true := by kernel_rfl
theorem tab_cells_signpost_api_Net : Try.prog.cellsOf 40 = 5 := by kernel_rfl
theorem tab_bytes_signpost_api_Net : Try.prog.bytesOf 40 = 88 := by kernel_rfl
theorem tab_field0_signpost_api_Net : fieldAtP Try.prog 40 0 = some 0 := by kernel_rfl
theorem tab_field1_signpost_api_Net : fieldAtP Try.prog 40 1 = some 3 := by kernel_rfl
theorem tab_field2_signpost_api_Net : fieldAtP Try.prog 40 2 = some 4 := by kernel_rfl
theorem tab_places_signpost_api_Net : placesA Try.prog 40 = some [(0, 3), (3, 1), (4, 1)] := by kernel_rfl
theorem tab_zero_signpost_api_Net : zeroA Try.prog 40 = some [.c (.int .i64 0), .c (.slice none 0 0), .c (.slice none 0 0), .c (.int .i64 0), .c (.slice none 0 0)] := by kernel_rfl
attribute [go_sem] Try.underlying40 tab_known_signpost_api_Net tab_agg_signpost_api_Net tab_info_signpost_api_Net tab_cells_signpost_api_Net tab_bytes_signpost_api_Net tab_field0_signpost_api_Net tab_field1_signpost_api_Net tab_field2_signpost_api_Net tab_places_signpost_api_Net tab_zero_signpost_api_Net
theorem tab_known_uint : knownT Try.prog 207 = true := by kernel_rfl
theorem tab_agg_uint : aggSize Try.prog 207 = none := by kernel_rfl
theorem tab_info_uint : (Try.prog.info? 207).isSome = true := by kernel_rfl
theorem tab_cells_uint : Try.prog.cellsOf 207 = 1 := by kernel_rfl
theorem tab_bytes_uint : Try.prog.bytesOf 207 = 8 := by kernel_rfl
theorem tab_zero_uint : zeroA Try.prog 207 = some [.c (.int .u64 0)] := by kernel_rfl
attribute [go_sem] Try.underlying207 tab_known_uint tab_agg_uint tab_info_uint tab_cells_uint tab_bytes_uint tab_zero_uint
theorem tab_known_signpost_algebra_shape : knownT Try.prog 169 = true := by kernel_rfl
theorem tab_agg_signpost_algebra_shape : aggSize Try.prog 169 = some 2 := by kernel_rfl
theorem tab_info_signpost_algebra_shape : (Try.prog.info? 169).isSome = true := by kernel_rfl
theorem tab_cells_signpost_algebra_shape : Try.prog.cellsOf 169 = 2 := by kernel_rfl
theorem tab_bytes_signpost_algebra_shape : Try.prog.bytesOf 169 = 16 := by kernel_rfl
theorem tab_field0_signpost_algebra_shape : fieldAtP Try.prog 169 0 = some 0 := by kernel_rfl
theorem tab_field1_signpost_algebra_shape : fieldAtP Try.prog 169 1 = some 1 := by kernel_rfl
theorem tab_places_signpost_algebra_shape : placesA Try.prog 169 = some [(0, 1), (1, 1)] := by kernel_rfl
theorem tab_zero_signpost_algebra_shape : zeroA Try.prog 169 = some [.c (.int .i64 0), .c (.bool false)] := by kernel_rfl
attribute [go_sem] Try.underlying169 tab_known_signpost_algebra_shape tab_agg_signpost_algebra_shape tab_info_signpost_algebra_shape tab_cells_signpost_algebra_shape tab_bytes_signpost_algebra_shape tab_field0_signpost_algebra_shape tab_field1_signpost_algebra_shape tab_places_signpost_algebra_shape tab_zero_signpost_algebra_shape
theorem tab_known_mapSintalgebra_shape : knownT Try.prog 171 = true := by kernel_rfl
theorem tab_agg_mapSintalgebra_shape : aggSize Try.prog 171 = none := by kernel_rfl
theorem tab_info_mapSintalgebra_shape : (Try.prog.info? 171).isSome = true := by kernel_rfl
theorem tab_cells_mapSintalgebra_shape : Try.prog.cellsOf 171 = 1 := by kernel_rfl
theorem tab_bytes_mapSintalgebra_shape : Try.prog.bytesOf 171 = 8 := by kernel_rfl
theorem tab_zero_mapSintalgebra_shape : zeroA Try.prog 171 = some [.c (.map none)] := by kernel_rfl
attribute [go_sem] Try.underlying171 tab_known_mapSintalgebra_shape tab_agg_mapSintalgebra_shape tab_info_mapSintalgebra_shape tab_cells_mapSintalgebra_shape tab_bytes_mapSintalgebra_shape tab_zero_mapSintalgebra_shape
theorem tab_known_S3int : knownT Try.prog 211 = true := by kernel_rfl
theorem tab_agg_S3int : aggSize Try.prog 211 = some 3 := by kernel_rfl
theorem tab_info_S3int : (Try.prog.info? 211).isSome = true := by kernel_rfl
theorem tab_cells_S3int : Try.prog.cellsOf 211 = 3 := by kernel_rfl
theorem tab_bytes_S3int : Try.prog.bytesOf 211 = 24 := by kernel_rfl
theorem tab_zero_S3int : zeroA Try.prog 211 = some [.c (.int .i64 0), .c (.int .i64 0), .c (.int .i64 0)] := by kernel_rfl
attribute [go_sem] Try.underlying211 tab_known_S3int tab_agg_S3int tab_info_S3int tab_cells_S3int tab_bytes_S3int tab_zero_S3int
theorem tab_known_SSSint : knownT Try.prog 51 = true := by kernel_rfl
theorem tab_agg_SSSint : aggSize Try.prog 51 = none := by kernel_rfl
theorem tab_info_SSSint : (Try.prog.info? 51).isSome = true := by kernel_rfl
theorem tab_cells_SSSint : Try.prog.cellsOf 51 = 1 := by kernel_rfl
theorem tab_bytes_SSSint : Try.prog.bytesOf 51 = 24 := by kernel_rfl
theorem tab_elem_SSSint : elemSize Try.prog 51 = some 1 := by kernel_rfl
theorem tab_zero_SSSint : zeroA Try.prog 51 = some [.c (.slice none 0 0)] := by kernel_rfl
attribute [go_sem] Try.underlying51 tab_known_SSSint tab_agg_SSSint tab_info_SSSint tab_cells_SSSint tab_bytes_SSSint tab_elem_SSSint tab_zero_SSSint
theorem tab_known_Ptable_walker : knownT Try.prog 151 = true := by kernel_rfl
theorem tab_agg_Ptable_walker : aggSize Try.prog 151 = none := by kernel_rfl
theorem tab_info_Ptable_walker : (Try.prog.info? 151).isSome = true := by kernel_rfl
theorem tab_cells_Ptable_walker : Try.prog.cellsOf 151 = 1 := by kernel_rfl
theorem tab_bytes_Ptable_walker : Try.prog.bytesOf 151 = 8 := by kernel_rfl
attribute [go_sem] Try.underlying151 tab_known_Ptable_walker tab_agg_Ptable_walker tab_info_Ptable_walker tab_cells_Ptable_walker tab_bytes_Ptable_walker
theorem tab_known_Sbool : knownT Try.prog 125 = true := by kernel_rfl
theorem tab_agg_Sbool : aggSize Try.prog 125 = none := by kernel_rfl
theorem tab_info_Sbool : (Try.prog.info? 125).isSome = true := by kernel_rfl
theorem tab_cells_Sbool : Try.prog.cellsOf 125 = 1 := by kernel_rfl
theorem tab_bytes_Sbool : Try.prog.bytesOf 125 = 24 := by kernel_rfl
theorem tab_elem_Sbool : elemSize Try.prog 125 = some 1 := by kernel_rfl
theorem tab_zero_Sbool : zeroA Try.prog 125 = some [.c (.slice none 0 0)] := by kernel_rfl
attribute [go_sem] Try.underlying125 tab_known_Sbool tab_agg_Sbool tab_info_Sbool tab_cells_Sbool tab_bytes_Sbool tab_elem_Sbool tab_zero_Sbool
theorem tab_known_signpost_table_walker : knownT Try.prog 154 = true := by kernel_rfl
theorem tab_agg_signpost_table_walker : aggSize Try.prog 154 = some 8 := by kernel_rfl
theorem tab_info_signpost_table_walker : (Try.prog.info? 154).isSome = true := by kernel_rfl
theorem tab_cells_signpost_table_walker : Try.prog.cellsOf 154 = 8 := by kernel_rfl
theorem tab_bytes_signpost_table_walker : Try.prog.bytesOf 154 = 128 := by kernel_rfl
theorem tab_field0_signpost_table_walker : fieldAtP Try.prog 154 0 = some 0 := by kernel_rfl
theorem tab_field1_signpost_table_walker : fieldAtP Try.prog 154 1 = some 5 := by kernel_rfl
theorem tab_field2_signpost_table_walker : fieldAtP Try.prog 154 2 = some 6 := by kernel_rfl
theorem tab_field3_signpost_table_walker : fieldAtP Try.prog 154 3 = some 7 := by kernel_rfl
theorem tab_places_signpost_table_walker : placesA Try.prog 154 = some [(0, 5), (5, 1), (6, 1), (7, 1)] := by kernel_rfl
theorem tab_zero_signpost_table_walker : zeroA Try.prog 154 = some [.c (.int .i64 0), .c (.slice none 0 0), .c (.slice none 0 0), .c (.int .i64 0), .c (.slice none 0 0), .c (.int .i64 0), .c (.slice none 0 0), .c (.int .i64 0)] := by kernel_rfl
attribute [go_sem] Try.underlying154 tab_known_signpost_table_walker tab_agg_signpost_table_walker tab_info_signpost_table_walker tab_cells_signpost_table_walker tab_bytes_signpost_table_walker tab_field0_signpost_table_walker tab_field1_signpost_table_walker tab_field2_signpost_table_walker tab_field3_signpost_table_walker tab_places_signpost_table_walker tab_zero_signpost_table_walker
theorem tab_known_signpost_api_Link : knownT Try.prog 84 = true := by kernel_rfl
theorem tab_agg_signpost_api_Link : aggSize Try.prog 84 = some 3 := by kernel_rfl
theorem tab_info_signpost_api_Link : (Try.prog.info? 84).isSome = true := by kernel_rfl
theorem tab_cells_signpost_api_Link : Try.prog.cellsOf 84 = 3 := by kernel_rfl
theorem tab_bytes_signpost_api_Link : Try.prog.bytesOf 84 = 24 := by kernel_rfl
theorem tab_field0_signpost_api_Link : fieldAtP Try.prog 84 0 = some 0 := by kernel_rfl
theorem tab_field1_signpost_api_Link : fieldAtP Try.prog 84 1 = some 1 := by kernel_rfl
theorem tab_field2_signpost_api_Link : fieldAtP Try.prog 84 2 = some 2 := by kernel_rfl
theorem tab_places_signpost_api_Link : placesA Try.prog 84 = some [(0, 1), (1, 1), (2, 1)] := by kernel_rfl
theorem tab_zero_signpost_api_Link : zeroA Try.prog 84 = some [.c (.int .i64 0), .c (.int .i64 0), .c (.int .i64 0)] := by kernel_rfl
attribute [go_sem] Try.underlying84 tab_known_signpost_api_Link tab_agg_signpost_api_Link tab_info_signpost_api_Link tab_cells_signpost_api_Link tab_bytes_signpost_api_Link tab_field0_signpost_api_Link tab_field1_signpost_api_Link tab_field2_signpost_api_Link tab_places_signpost_api_Link tab_zero_signpost_api_Link
theorem tab_known_mapSintint : knownT Try.prog 191 = true := by kernel_rfl
theorem tab_agg_mapSintint : aggSize Try.prog 191 = none := by kernel_rfl
theorem tab_info_mapSintint : (Try.prog.info? 191).isSome = true := by kernel_rfl
theorem tab_cells_mapSintint : Try.prog.cellsOf 191 = 1 := by kernel_rfl
theorem tab_bytes_mapSintint : Try.prog.bytesOf 191 = 8 := by kernel_rfl
theorem tab_zero_mapSintint : zeroA Try.prog 191 = some [.c (.map none)] := by kernel_rfl
attribute [go_sem] Try.underlying191 tab_known_mapSintint tab_agg_mapSintint tab_info_mapSintint tab_cells_mapSintint tab_bytes_mapSintint tab_zero_mapSintint
theorem tab_known_mapSS2intbool : knownT Try.prog 181 = true := by kernel_rfl
theorem tab_agg_mapSS2intbool : aggSize Try.prog 181 = none := by kernel_rfl
theorem tab_info_mapSS2intbool : (Try.prog.info? 181).isSome = true := by kernel_rfl
theorem tab_cells_mapSS2intbool : Try.prog.cellsOf 181 = 1 := by kernel_rfl
theorem tab_bytes_mapSS2intbool : Try.prog.bytesOf 181 = 8 := by kernel_rfl
theorem tab_zero_mapSS2intbool : zeroA Try.prog 181 = some [.c (.map none)] := by kernel_rfl
attribute [go_sem] Try.underlying181 tab_known_mapSS2intbool tab_agg_mapSS2intbool tab_info_mapSS2intbool tab_cells_mapSS2intbool tab_bytes_mapSS2intbool tab_zero_mapSS2intbool
theorem tab_known_S2int : knownT Try.prog 182 = true := by kernel_rfl
theorem tab_agg_S2int : aggSize Try.prog 182 = some 2 := by kernel_rfl
theorem tab_info_S2int : (Try.prog.info? 182).isSome = true := by kernel_rfl
theorem tab_cells_S2int : Try.prog.cellsOf 182 = 2 := by kernel_rfl
theorem tab_bytes_S2int : Try.prog.bytesOf 182 = 16 := by kernel_rfl
theorem tab_zero_S2int : zeroA Try.prog 182 = some [.c (.int .i64 0), .c (.int .i64 0)] := by kernel_rfl
attribute [go_sem] Try.underlying182 tab_known_S2int tab_agg_S2int tab_info_S2int tab_cells_S2int tab_bytes_S2int tab_zero_S2int
theorem tab_known_uint32 : knownT Try.prog 227 = true := by kernel_rfl
theorem tab_agg_uint32 : aggSize Try.prog 227 = none := by kernel_rfl
theorem tab_info_uint32 : (Try.prog.info? 227).isSome = true := by kernel_rfl
theorem tab_cells_uint32 : Try.prog.cellsOf 227 = 1 := by kernel_rfl
theorem tab_bytes_uint32 : Try.prog.bytesOf 227 = 4 := by kernel_rfl
theorem tab_zero_uint32 : zeroA Try.prog 227 = some [.c (.int .u32 0)] := by kernel_rfl
attribute [go_sem] Try.underlying227 tab_known_uint32 tab_agg_uint32 tab_info_uint32 tab_cells_uint32 tab_bytes_uint32 tab_zero_uint32
theorem tab_known_uint64 : knownT Try.prog 230 = true := by kernel_rfl
theorem tab_agg_uint64 : aggSize Try.prog 230 = none := by kernel_rfl
theorem tab_info_uint64 : (Try.prog.info? 230).isSome = true := by kernel_rfl
theorem tab_cells_uint64 : Try.prog.cellsOf 230 = 1 := by kernel_rfl
theorem tab_bytes_uint64 : Try.prog.bytesOf 230 = 8 := by kernel_rfl
theorem tab_zero_uint64 : zeroA Try.prog 230 = some [.c (.int .u64 0)] := by kernel_rfl
attribute [go_sem] Try.underlying230 tab_known_uint64 tab_agg_uint64 tab_info_uint64 tab_cells_uint64 tab_bytes_uint64 tab_zero_uint64
theorem tab_known_Puint8 : knownT Try.prog 269 = true := by kernel_rfl
theorem tab_agg_Puint8 : aggSize Try.prog 269 = none := by kernel_rfl
theorem tab_info_Puint8 : (Try.prog.info? 269).isSome = true := by kernel_rfl
theorem tab_cells_Puint8 : Try.prog.cellsOf 269 = 1 := by kernel_rfl
theorem tab_bytes_Puint8 : Try.prog.bytesOf 269 = 8 := by kernel_rfl
attribute [go_sem] Try.underlying269 tab_known_Puint8 tab_agg_Puint8 tab_info_Puint8 tab_cells_Puint8 tab_bytes_Puint8
theorem tab_known_unsafe_Pointer : knownT Try.prog 274 = true := by kernel_rfl
theorem tab_agg_unsafe_Pointer : aggSize Try.prog 274 = none := by kernel_rfl
theorem tab_info_unsafe_Pointer : (Try.prog.info? 274).isSome = true := by kernel_rfl
theorem tab_cells_unsafe_Pointer : Try.prog.cellsOf 274 = 1 := by kernel_rfl
theorem tab_bytes_unsafe_Pointer : Try.prog.bytesOf 274 = 8 := by kernel_rfl
theorem tab_zero_unsafe_Pointer : zeroA Try.prog 274 = some [.c (.pointer none)] := by kernel_rfl
attribute [go_sem] Try.underlying274 tab_known_unsafe_Pointer tab_agg_unsafe_Pointer tab_info_unsafe_Pointer tab_cells_unsafe_Pointer tab_bytes_unsafe_Pointer tab_zero_unsafe_Pointer
theorem tab_known_Sapi_Router : knownT Try.prog 97 = true := by kernel_rfl
theorem tab_agg_Sapi_Router : aggSize Try.prog 97 = none := by kernel_rfl
theorem tab_info_Sapi_Router : (Try.prog.info? 97).isSome = true := by kernel_rfl
theorem tab_cells_Sapi_Router : Try.prog.cellsOf 97 = 1 := by kernel_rfl
theorem tab_bytes_Sapi_Router : Try.prog.bytesOf 97 = 24 := by kernel_rfl
theorem tab_elem_Sapi_Router : elemSize Try.prog 97 = some 2 := by kernel_rfl
theorem tab_zero_Sapi_Router : zeroA Try.prog 97 = some [.c (.slice none 0 0)] := by kernel_rfl
attribute [go_sem] Try.underlying97 tab_known_Sapi_Router tab_agg_Sapi_Router tab_info_Sapi_Router tab_cells_Sapi_Router tab_bytes_Sapi_Router tab_elem_Sapi_Router tab_zero_Sapi_Router
theorem tab_known_Sapi_Mail : knownT Try.prog 98 = true := by kernel_rfl
theorem tab_agg_Sapi_Mail : aggSize Try.prog 98 = none := by kernel_rfl
theorem tab_info_Sapi_Mail : (Try.prog.info? 98).isSome = true := by kernel_rfl
theorem tab_cells_Sapi_Mail : Try.prog.cellsOf 98 = 1 := by kernel_rfl
theorem tab_bytes_Sapi_Mail : Try.prog.bytesOf 98 = 24 := by kernel_rfl
theorem tab_elem_Sapi_Mail : elemSize Try.prog 98 = some 3 := by kernel_rfl
theorem tab_zero_Sapi_Mail : zeroA Try.prog 98 = some [.c (.slice none 0 0)] := by kernel_rfl
attribute [go_sem] Try.underlying98 tab_known_Sapi_Mail tab_agg_Sapi_Mail tab_info_Sapi_Mail tab_cells_Sapi_Mail tab_bytes_Sapi_Mail tab_elem_Sapi_Mail tab_zero_Sapi_Mail
theorem tab_known_signpost_api_Engine : knownT Try.prog 100 = true := by kernel_rfl
theorem tab_agg_signpost_api_Engine : aggSize Try.prog 100 = some 2 := by kernel_rfl
theorem tab_info_signpost_api_Engine : (Try.prog.info? 100).isSome = true := by kernel_rfl
theorem tab_cells_signpost_api_Engine : Try.prog.cellsOf 100 = 2 := by kernel_rfl
theorem tab_bytes_signpost_api_Engine : Try.prog.bytesOf 100 = 48 := by kernel_rfl
theorem tab_field0_signpost_api_Engine : fieldAtP Try.prog 100 0 = some 0 := by kernel_rfl
theorem tab_field1_signpost_api_Engine : fieldAtP Try.prog 100 1 = some 1 := by kernel_rfl
theorem tab_places_signpost_api_Engine : placesA Try.prog 100 = some [(0, 1), (1, 1)] := by kernel_rfl
theorem tab_zero_signpost_api_Engine : zeroA Try.prog 100 = some [.c (.slice none 0 0), .c (.slice none 0 0)] := by kernel_rfl
attribute [go_sem] Try.underlying100 tab_known_signpost_api_Engine tab_agg_signpost_api_Engine tab_info_signpost_api_Engine tab_cells_signpost_api_Engine tab_bytes_signpost_api_Engine tab_field0_signpost_api_Engine tab_field1_signpost_api_Engine tab_places_signpost_api_Engine tab_zero_signpost_api_Engine
theorem tab_known_signpost_api_Event : knownT Try.prog 105 = true := by kernel_rfl
theorem tab_agg_signpost_api_Event : aggSize Try.prog 105 = some 5 := by kernel_rfl
theorem tab_info_signpost_api_Event : (Try.prog.info? 105).isSome = true := by kernel_rfl
theorem tab_cells_signpost_api_Event : Try.prog.cellsOf 105 = 5 := by kernel_rfl
theorem tab_bytes_signpost_api_Event : Try.prog.bytesOf 105 = 56 := by kernel_rfl
theorem tab_field0_signpost_api_Event : fieldAtP Try.prog 105 0 = some 0 := by kernel_rfl
theorem tab_field1_signpost_api_Event : fieldAtP Try.prog 105 1 = some 1 := by kernel_rfl
theorem tab_field2_signpost_api_Event : fieldAtP Try.prog 105 2 = some 2 := by kernel_rfl
theorem tab_field3_signpost_api_Event : fieldAtP Try.prog 105 3 = some 3 := by kernel_rfl
theorem tab_field4_signpost_api_Event : fieldAtP Try.prog 105 4 = some 4 := by kernel_rfl
theorem tab_places_signpost_api_Event : placesA Try.prog 105 = some [(0, 1), (1, 1), (2, 1), (3, 1), (4, 1)] := by kernel_rfl
theorem tab_zero_signpost_api_Event : zeroA Try.prog 105 = some [.c (.int .i64 0), .c (.int .i64 0), .c (.int .i64 0), .c (.int .i64 0), .c (.slice none 0 0)] := by kernel_rfl
attribute [go_sem] Try.underlying105 tab_known_signpost_api_Event tab_agg_signpost_api_Event tab_info_signpost_api_Event tab_cells_signpost_api_Event tab_bytes_signpost_api_Event tab_field0_signpost_api_Event tab_field1_signpost_api_Event tab_field2_signpost_api_Event tab_field3_signpost_api_Event tab_field4_signpost_api_Event tab_places_signpost_api_Event tab_zero_signpost_api_Event
theorem tab_known_signpost_api_Router : knownT Try.prog 158 = true := by kernel_rfl
theorem tab_agg_signpost_api_Router : aggSize Try.prog 158 = some 2 := by kernel_rfl
theorem tab_info_signpost_api_Router : (Try.prog.info? 158).isSome = true := by kernel_rfl
theorem tab_cells_signpost_api_Router : Try.prog.cellsOf 158 = 2 := by kernel_rfl
theorem tab_bytes_signpost_api_Router : Try.prog.bytesOf 158 = 48 := by kernel_rfl
theorem tab_field0_signpost_api_Router : fieldAtP Try.prog 158 0 = some 0 := by kernel_rfl
theorem tab_field1_signpost_api_Router : fieldAtP Try.prog 158 1 = some 1 := by kernel_rfl
theorem tab_places_signpost_api_Router : placesA Try.prog 158 = some [(0, 1), (1, 1)] := by kernel_rfl
theorem tab_zero_signpost_api_Router : zeroA Try.prog 158 = some [.c (.slice none 0 0), .c (.slice none 0 0)] := by kernel_rfl
attribute [go_sem] Try.underlying158 tab_known_signpost_api_Router tab_agg_signpost_api_Router tab_info_signpost_api_Router tab_cells_signpost_api_Router tab_bytes_signpost_api_Router tab_field0_signpost_api_Router tab_field1_signpost_api_Router tab_places_signpost_api_Router tab_zero_signpost_api_Router
theorem tab_known_signpost_api_Mail : knownT Try.prog 107 = true := by kernel_rfl
theorem tab_agg_signpost_api_Mail : aggSize Try.prog 107 = some 3 := by kernel_rfl
theorem tab_info_signpost_api_Mail : (Try.prog.info? 107).isSome = true := by kernel_rfl
theorem tab_cells_signpost_api_Mail : Try.prog.cellsOf 107 = 3 := by kernel_rfl
theorem tab_bytes_signpost_api_Mail : Try.prog.bytesOf 107 = 32 := by kernel_rfl
theorem tab_field0_signpost_api_Mail : fieldAtP Try.prog 107 0 = some 0 := by kernel_rfl
theorem tab_field1_signpost_api_Mail : fieldAtP Try.prog 107 1 = some 1 := by kernel_rfl
theorem tab_field2_signpost_api_Mail : fieldAtP Try.prog 107 2 = some 2 := by kernel_rfl
theorem tab_places_signpost_api_Mail : placesA Try.prog 107 = some [(0, 1), (1, 1), (2, 1)] := by kernel_rfl
theorem tab_zero_signpost_api_Mail : zeroA Try.prog 107 = some [.c (.int .i64 0), .c (.int .i64 0), .c (.string .empty)] := by kernel_rfl
attribute [go_sem] Try.underlying107 tab_known_signpost_api_Mail tab_agg_signpost_api_Mail tab_info_signpost_api_Mail tab_cells_signpost_api_Mail tab_bytes_signpost_api_Mail tab_field0_signpost_api_Mail tab_field1_signpost_api_Mail tab_field2_signpost_api_Mail tab_places_signpost_api_Mail tab_zero_signpost_api_Mail
theorem tab_known_Pengine_machine : knownT Try.prog 162 = true := by kernel_rfl
theorem tab_agg_Pengine_machine : aggSize Try.prog 162 = none := by kernel_rfl
theorem tab_info_Pengine_machine : (Try.prog.info? 162).isSome = true := by kernel_rfl
theorem tab_cells_Pengine_machine : Try.prog.cellsOf 162 = 1 := by kernel_rfl
theorem tab_bytes_Pengine_machine : Try.prog.bytesOf 162 = 8 := by kernel_rfl
attribute [go_sem] Try.underlying162 tab_known_Pengine_machine tab_agg_Pengine_machine tab_info_Pengine_machine tab_cells_Pengine_machine tab_bytes_Pengine_machine
theorem tab_known_signpost_engine_machine : knownT Try.prog 166 = true := by kernel_rfl
theorem tab_agg_signpost_engine_machine : aggSize Try.prog 166 = some 7 := by kernel_rfl
theorem tab_info_signpost_engine_machine : (Try.prog.info? 166).isSome = true := by kernel_rfl
theorem tab_cells_signpost_engine_machine : Try.prog.cellsOf 166 = 7 := by kernel_rfl
theorem tab_bytes_signpost_engine_machine : Try.prog.bytesOf 166 = 136 := by kernel_rfl
theorem tab_field0_signpost_engine_machine : fieldAtP Try.prog 166 0 = some 0 := by kernel_rfl
theorem tab_field1_signpost_engine_machine : fieldAtP Try.prog 166 1 = some 5 := by kernel_rfl
theorem tab_places_signpost_engine_machine : placesA Try.prog 166 = some [(0, 5), (5, 2)] := by kernel_rfl
theorem tab_zero_signpost_engine_machine : zeroA Try.prog 166 = some [.c (.int .i64 0), .c (.slice none 0 0), .c (.slice none 0 0), .c (.int .i64 0), .c (.slice none 0 0), .c (.slice none 0 0), .c (.slice none 0 0)] := by kernel_rfl
attribute [go_sem] Try.underlying166 tab_known_signpost_engine_machine tab_agg_signpost_engine_machine tab_info_signpost_engine_machine tab_cells_signpost_engine_machine tab_bytes_signpost_engine_machine tab_field0_signpost_engine_machine tab_field1_signpost_engine_machine tab_places_signpost_engine_machine tab_zero_signpost_engine_machine
theorem tab_known_Papi_Mail : knownT Try.prog 221 = true := by kernel_rfl
theorem tab_agg_Papi_Mail : aggSize Try.prog 221 = none := by kernel_rfl
theorem tab_info_Papi_Mail : (Try.prog.info? 221).isSome = true := by kernel_rfl
theorem tab_cells_Papi_Mail : Try.prog.cellsOf 221 = 1 := by kernel_rfl
theorem tab_bytes_Papi_Mail : Try.prog.bytesOf 221 = 8 := by kernel_rfl
attribute [go_sem] Try.underlying221 tab_known_Papi_Mail tab_agg_Papi_Mail tab_info_Papi_Mail tab_cells_Papi_Mail tab_bytes_Papi_Mail
theorem tab_known_Papi_Router : knownT Try.prog 234 = true := by kernel_rfl
theorem tab_agg_Papi_Router : aggSize Try.prog 234 = none := by kernel_rfl
theorem tab_info_Papi_Router : (Try.prog.info? 234).isSome = true := by kernel_rfl
theorem tab_cells_Papi_Router : Try.prog.cellsOf 234 = 1 := by kernel_rfl
theorem tab_bytes_Papi_Router : Try.prog.bytesOf 234 = 8 := by kernel_rfl
attribute [go_sem] Try.underlying234 tab_known_Papi_Router tab_agg_Papi_Router tab_info_Papi_Router tab_cells_Papi_Router tab_bytes_Papi_Router
theorem tab_known_slices_sortedHint : knownT Try.prog 242 = true := by kernel_rfl
theorem tab_agg_slices_sortedHint : aggSize Try.prog 242 = none := by kernel_rfl
theorem tab_info_slices_sortedHint : (Try.prog.info? 242).isSome = true := by kernel_rfl
theorem tab_cells_slices_sortedHint : Try.prog.cellsOf 242 = 1 := by kernel_rfl
theorem tab_bytes_slices_sortedHint : Try.prog.bytesOf 242 = 8 := by kernel_rfl
theorem tab_zero_slices_sortedHint : zeroA Try.prog 242 = some [.c (.int .i64 0)] := by kernel_rfl
attribute [go_sem] Try.underlying242 tab_known_slices_sortedHint tab_agg_slices_sortedHint tab_info_slices_sortedHint tab_cells_slices_sortedHint tab_bytes_slices_sortedHint tab_zero_slices_sortedHint
theorem tab_known_slices_xorshift : knownT Try.prog 250 = true := by kernel_rfl
theorem tab_agg_slices_xorshift : aggSize Try.prog 250 = none := by kernel_rfl
theorem tab_info_slices_xorshift : (Try.prog.info? 250).isSome = true := by kernel_rfl
theorem tab_cells_slices_xorshift : Try.prog.cellsOf 250 = 1 := by kernel_rfl
theorem tab_bytes_slices_xorshift : Try.prog.bytesOf 250 = 8 := by kernel_rfl
theorem tab_zero_slices_xorshift : zeroA Try.prog 250 = some [.c (.int .u64 0)] := by kernel_rfl
attribute [go_sem] Try.underlying250 tab_known_slices_xorshift tab_agg_slices_xorshift tab_info_slices_xorshift tab_cells_slices_xorshift tab_bytes_slices_xorshift tab_zero_slices_xorshift
theorem tab_known_Pint : knownT Try.prog 254 = true := by kernel_rfl
theorem tab_agg_Pint : aggSize Try.prog 254 = none := by kernel_rfl
theorem tab_info_Pint : (Try.prog.info? 254).isSome = true := by kernel_rfl
theorem tab_cells_Pint : Try.prog.cellsOf 254 = 1 := by kernel_rfl
theorem tab_bytes_Pint : Try.prog.bytesOf 254 = 8 := by kernel_rfl
attribute [go_sem] Try.underlying254 tab_known_Pint tab_agg_Pint tab_info_Pint tab_cells_Pint tab_bytes_Pint
theorem tab_known_Pslices_xorshift : knownT Try.prog 256 = true := by kernel_rfl
theorem tab_agg_Pslices_xorshift : aggSize Try.prog 256 = none := by kernel_rfl
theorem tab_info_Pslices_xorshift : (Try.prog.info? 256).isSome = true := by kernel_rfl
theorem tab_cells_Pslices_xorshift : Try.prog.cellsOf 256 = 1 := by kernel_rfl
theorem tab_bytes_Pslices_xorshift : Try.prog.bytesOf 256 = 8 := by kernel_rfl
attribute [go_sem] Try.underlying256 tab_known_Pslices_xorshift tab_agg_Pslices_xorshift tab_info_Pslices_xorshift tab_cells_Pslices_xorshift tab_bytes_Pslices_xorshift
theorem tab_known_Sapi_Turn : knownT Try.prog 50 = true := by kernel_rfl
theorem tab_agg_Sapi_Turn : aggSize Try.prog 50 = none := by kernel_rfl
theorem tab_info_Sapi_Turn : (Try.prog.info? 50).isSome = true := by kernel_rfl
theorem tab_cells_Sapi_Turn : Try.prog.cellsOf 50 = 1 := by kernel_rfl
theorem tab_bytes_Sapi_Turn : Try.prog.bytesOf 50 = 24 := by kernel_rfl
theorem tab_elem_Sapi_Turn : elemSize Try.prog 50 = some 2 := by kernel_rfl
theorem tab_zero_Sapi_Turn : zeroA Try.prog 50 = some [.c (.slice none 0 0)] := by kernel_rfl
attribute [go_sem] Try.underlying50 tab_known_Sapi_Turn tab_agg_Sapi_Turn tab_info_Sapi_Turn tab_cells_Sapi_Turn tab_bytes_Sapi_Turn tab_elem_Sapi_Turn tab_zero_Sapi_Turn
theorem tab_known_SSapi_Route : knownT Try.prog 65 = true := by kernel_rfl
theorem tab_agg_SSapi_Route : aggSize Try.prog 65 = none := by kernel_rfl
theorem tab_info_SSapi_Route : (Try.prog.info? 65).isSome = true := by kernel_rfl
theorem tab_cells_SSapi_Route : Try.prog.cellsOf 65 = 1 := by kernel_rfl
theorem tab_bytes_SSapi_Route : Try.prog.bytesOf 65 = 24 := by kernel_rfl
theorem tab_elem_SSapi_Route : elemSize Try.prog 65 = some 1 := by kernel_rfl
theorem tab_zero_SSapi_Route : zeroA Try.prog 65 = some [.c (.slice none 0 0)] := by kernel_rfl
attribute [go_sem] Try.underlying65 tab_known_SSapi_Route tab_agg_SSapi_Route tab_info_SSapi_Route tab_cells_SSapi_Route tab_bytes_SSapi_Route tab_elem_SSapi_Route tab_zero_SSapi_Route
theorem tab_known_signpost_api_Route : knownT Try.prog 77 = true := by kernel_rfl
theorem tab_agg_signpost_api_Route : aggSize Try.prog 77 = some 2 := by kernel_rfl
theorem tab_info_signpost_api_Route : (Try.prog.info? 77).isSome = true := by kernel_rfl
theorem tab_cells_signpost_api_Route : Try.prog.cellsOf 77 = 2 := by kernel_rfl
theorem tab_bytes_signpost_api_Route : Try.prog.bytesOf 77 = 32 := by kernel_rfl
theorem tab_field0_signpost_api_Route : fieldAtP Try.prog 77 0 = some 0 := by kernel_rfl
theorem tab_field1_signpost_api_Route : fieldAtP Try.prog 77 1 = some 1 := by kernel_rfl
theorem tab_places_signpost_api_Route : placesA Try.prog 77 = some [(0, 1), (1, 1)] := by kernel_rfl
theorem tab_zero_signpost_api_Route : zeroA Try.prog 77 = some [.c (.int .i64 0), .c (.slice none 0 0)] := by kernel_rfl
attribute [go_sem] Try.underlying77 tab_known_signpost_api_Route tab_agg_signpost_api_Route tab_info_signpost_api_Route tab_cells_signpost_api_Route tab_bytes_signpost_api_Route tab_field0_signpost_api_Route tab_field1_signpost_api_Route tab_places_signpost_api_Route tab_zero_signpost_api_Route
theorem tab_known_Sapi_Route : knownT Try.prog 94 = true := by kernel_rfl
theorem tab_agg_Sapi_Route : aggSize Try.prog 94 = none := by kernel_rfl
theorem tab_info_Sapi_Route : (Try.prog.info? 94).isSome = true := by kernel_rfl
theorem tab_cells_Sapi_Route : Try.prog.cellsOf 94 = 1 := by kernel_rfl
theorem tab_bytes_Sapi_Route : Try.prog.bytesOf 94 = 24 := by kernel_rfl
theorem tab_elem_Sapi_Route : elemSize Try.prog 94 = some 2 := by kernel_rfl
theorem tab_zero_Sapi_Route : zeroA Try.prog 94 = some [.c (.slice none 0 0)] := by kernel_rfl
attribute [go_sem] Try.underlying94 tab_known_Sapi_Route tab_agg_Sapi_Route tab_info_Sapi_Route tab_cells_Sapi_Route tab_bytes_Sapi_Route tab_elem_Sapi_Route tab_zero_Sapi_Route
theorem tab_known_signpost_api_Turn : knownT Try.prog 127 = true := by kernel_rfl
theorem tab_agg_signpost_api_Turn : aggSize Try.prog 127 = some 2 := by kernel_rfl
theorem tab_info_signpost_api_Turn : (Try.prog.info? 127).isSome = true := by kernel_rfl
theorem tab_cells_signpost_api_Turn : Try.prog.cellsOf 127 = 2 := by kernel_rfl
theorem tab_bytes_signpost_api_Turn : Try.prog.bytesOf 127 = 48 := by kernel_rfl
theorem tab_field0_signpost_api_Turn : fieldAtP Try.prog 127 0 = some 0 := by kernel_rfl
theorem tab_field1_signpost_api_Turn : fieldAtP Try.prog 127 1 = some 1 := by kernel_rfl
theorem tab_places_signpost_api_Turn : placesA Try.prog 127 = some [(0, 1), (1, 1)] := by kernel_rfl
theorem tab_zero_signpost_api_Turn : zeroA Try.prog 127 = some [.c (.slice none 0 0), .c (.slice none 0 0)] := by kernel_rfl
attribute [go_sem] Try.underlying127 tab_known_signpost_api_Turn tab_agg_signpost_api_Turn tab_info_signpost_api_Turn tab_cells_signpost_api_Turn tab_bytes_signpost_api_Turn tab_field0_signpost_api_Turn tab_field1_signpost_api_Turn tab_places_signpost_api_Turn tab_zero_signpost_api_Turn
theorem tab_known_mapSintbool : knownT Try.prog 184 = true := by kernel_rfl
theorem tab_agg_mapSintbool : aggSize Try.prog 184 = none := by kernel_rfl
theorem tab_info_mapSintbool : (Try.prog.info? 184).isSome = true := by kernel_rfl
theorem tab_cells_mapSintbool : Try.prog.cellsOf 184 = 1 := by kernel_rfl
theorem tab_bytes_mapSintbool : Try.prog.bytesOf 184 = 8 := by kernel_rfl
theorem tab_zero_mapSintbool : zeroA Try.prog 184 = some [.c (.map none)] := by kernel_rfl
attribute [go_sem] Try.underlying184 tab_known_mapSintbool tab_agg_mapSintbool tab_info_mapSintbool tab_cells_mapSintbool tab_bytes_mapSintbool tab_zero_mapSintbool
theorem ok_signpost_wire_Write : callOk Try.prog 192 = true := by kernel_rfl
attribute [go_sem] ok_signpost_wire_Write
theorem ok_signpost_wire_Read : callOk Try.prog 193 = true := by kernel_rfl
attribute [go_sem] ok_signpost_wire_Read
theorem ok_signpost_signpostlaw_choose : callOk Try.prog 55 = true := by kernel_rfl
attribute [go_sem] ok_signpost_signpostlaw_choose
theorem ok_signpost_algebra_Holds : callOk Try.prog 69 = true := by kernel_rfl
attribute [go_sem] ok_signpost_algebra_Holds
theorem ok_signpost_signpostref_CheckAlgebra : callOk Try.prog 75 = true := by kernel_rfl
attribute [go_sem] ok_signpost_signpostref_CheckAlgebra
theorem ok_signpost_signpostref_HoldsOf : callOk Try.prog 186 = true := by kernel_rfl
attribute [go_sem] ok_signpost_signpostref_HoldsOf
theorem ok_signpost_signpostlaw_algebraBegun : callOk Try.prog 15 = true := by kernel_rfl
attribute [go_sem] ok_signpost_signpostlaw_algebraBegun
theorem ok_signpost_algebra_Laws : callOk Try.prog 17 = true := by kernel_rfl
attribute [go_sem] ok_signpost_algebra_Laws
theorem ok_signpost_algebra_Strict : callOk Try.prog 18 = true := by kernel_rfl
attribute [go_sem] ok_signpost_algebra_Strict
theorem ok_signpost_algebra_Distributive : callOk Try.prog 59 = true := by kernel_rfl
attribute [go_sem] ok_signpost_algebra_Distributive
theorem ok_signpost_signpostref_BrokenOf : callOk Try.prog 144 = true := by kernel_rfl
attribute [go_sem] ok_signpost_signpostref_BrokenOf
theorem ok_signpost_signpostref_AllLaws : callOk Try.prog 145 = true := by kernel_rfl
attribute [go_sem] ok_signpost_signpostref_AllLaws
theorem ok_signpost_algebra_Check : callOk Try.prog 70 = true := by kernel_rfl
attribute [go_sem] ok_signpost_algebra_Check
theorem ok_signpost_plan_Build : callOk Try.prog 16 = true := by kernel_rfl
attribute [go_sem] ok_signpost_plan_Build
theorem ok_signpost_signpostlaw_planBegun : callOk Try.prog 14 = true := by kernel_rfl
attribute [go_sem] ok_signpost_signpostlaw_planBegun
theorem ok_signpost_plan_Check : callOk Try.prog 68 = true := by kernel_rfl
attribute [go_sem] ok_signpost_plan_Check
theorem ok_signpost_signpostref_SameAlgebra : callOk Try.prog 66 = true := by kernel_rfl
attribute [go_sem] ok_signpost_signpostref_SameAlgebra
theorem ok_signpost_table_Table : callOk Try.prog 56 = true := by kernel_rfl
attribute [go_sem] ok_signpost_table_Table
theorem ok_signpost_table_Walk : callOk Try.prog 57 = true := by kernel_rfl
attribute [go_sem] ok_signpost_table_Walk
theorem ok_signpost_signpostref_FitOf : callOk Try.prog 22 = true := by kernel_rfl
attribute [go_sem] ok_signpost_signpostref_FitOf
theorem ok_signpost_signpostref_IsNode : callOk Try.prog 78 = true := by kernel_rfl
attribute [go_sem] ok_signpost_signpostref_IsNode
theorem ok_signpost_signpostlaw_tableBegun : callOk Try.prog 54 = true := by kernel_rfl
attribute [go_sem] ok_signpost_signpostlaw_tableBegun
theorem ok_signpost_signpostlaw_stateIs : callOk Try.prog 28 = true := by kernel_rfl
attribute [go_sem] ok_signpost_signpostlaw_stateIs
theorem ok_signpost_signpostref_SameInts : callOk Try.prog 91 = true := by kernel_rfl
attribute [go_sem] ok_signpost_signpostref_SameInts
theorem ok_signpost_table_Weigh : callOk Try.prog 61 = true := by kernel_rfl
attribute [go_sem] ok_signpost_table_Weigh
theorem ok_signpost_table_Paths : callOk Try.prog 60 = true := by kernel_rfl
attribute [go_sem] ok_signpost_table_Paths
theorem ok_signpost_signpostref_CheckNet : callOk Try.prog 21 = true := by kernel_rfl
attribute [go_sem] ok_signpost_signpostref_CheckNet
theorem ok_signpost_net_Settle : callOk Try.prog 38 = true := by kernel_rfl
attribute [go_sem] ok_signpost_net_Settle
theorem ok_signpost_signpostlaw_netBegun : callOk Try.prog 25 = true := by kernel_rfl
attribute [go_sem] ok_signpost_signpostlaw_netBegun
theorem ok_slices_ContainsFuncSSint_int : callOk Try.prog 114 = true := by kernel_rfl
attribute [go_sem] ok_slices_ContainsFuncSSint_int
theorem ok_signpost_wire_WriteD1 : callOk Try.prog 206 = true := by kernel_rfl
attribute [go_sem] ok_signpost_wire_WriteD1
theorem ok_signpost_wire_fits : callOk Try.prog 207 = true := by kernel_rfl
attribute [go_sem] ok_signpost_wire_fits
theorem ok_signpost_wire_sum : callOk Try.prog 208 = true := by kernel_rfl
attribute [go_sem] ok_signpost_wire_sum
theorem ok_signpost_signpostref_between : callOk Try.prog 77 = true := by kernel_rfl
attribute [go_sem] ok_signpost_signpostref_between
theorem ok_signpost_algebra_shapes : callOk Try.prog 133 = true := by kernel_rfl
attribute [go_sem] ok_signpost_algebra_shapes
theorem ok_signpost_algebra_Is : callOk Try.prog 134 = true := by kernel_rfl
attribute [go_sem] ok_signpost_algebra_Is
theorem ok_signpost_algebra_within : callOk Try.prog 135 = true := by kernel_rfl
attribute [go_sem] ok_signpost_algebra_within
theorem ok_signpost_algebra_holds : callOk Try.prog 136 = true := by kernel_rfl
attribute [go_sem] ok_signpost_algebra_holds
theorem ok_signpost_signpostref_Names : callOk Try.prog 185 = true := by kernel_rfl
attribute [go_sem] ok_signpost_signpostref_Names
theorem ok_signpost_signpostlaw_hops : callOk Try.prog 67 = true := by kernel_rfl
attribute [go_sem] ok_signpost_signpostlaw_hops
theorem ok_signpost_algebra_asked : callOk Try.prog 72 = true := by kernel_rfl
attribute [go_sem] ok_signpost_algebra_asked
theorem ok_signpost_plan_build : callOk Try.prog 71 = true := by kernel_rfl
attribute [go_sem] ok_signpost_plan_build
theorem ok_signpost_plan_deep : callOk Try.prog 130 = true := by kernel_rfl
attribute [go_sem] ok_signpost_plan_deep
theorem ok_signpost_plan_wide : callOk Try.prog 131 = true := by kernel_rfl
attribute [go_sem] ok_signpost_plan_wide
theorem ok_signpost_plan_check : callOk Try.prog 132 = true := by kernel_rfl
attribute [go_sem] ok_signpost_plan_check
theorem ok_signpost_signpostref_SameState : callOk Try.prog 35 = true := by kernel_rfl
attribute [go_sem] ok_signpost_signpostref_SameState
theorem ok_signpost_net_Fit : callOk Try.prog 27 = true := by kernel_rfl
attribute [go_sem] ok_signpost_net_Fit
theorem ok_signpost_table_to : callOk Try.prog 111 = true := by kernel_rfl
attribute [go_sem] ok_signpost_table_to
theorem ok_signpost_net_Check : callOk Try.prog 26 = true := by kernel_rfl
attribute [go_sem] ok_signpost_net_Check
theorem ok_slices_ContainsFuncSSSint_Sint : callOk Try.prog 112 = true := by kernel_rfl
attribute [go_sem] ok_slices_ContainsFuncSSSint_Sint
theorem ok_signpost_table_WalkD1 : callOk Try.prog 113 = true := by kernel_rfl
attribute [go_sem] ok_signpost_table_WalkD1
theorem ok_signpost_table_WalkD2 : callOk Try.prog 115 = true := by kernel_rfl
attribute [go_sem] ok_signpost_table_WalkD2
theorem ok_signpost_table_isNode : callOk Try.prog 116 = true := by kernel_rfl
attribute [go_sem] ok_signpost_table_isNode
theorem ok_slices_ContainsSSint_int : callOk Try.prog 117 = true := by kernel_rfl
attribute [go_sem] ok_slices_ContainsSSint_int
theorem ok_signpost_signpostref_RowsOf : callOk Try.prog 31 = true := by kernel_rfl
attribute [go_sem] ok_signpost_signpostref_RowsOf
theorem ok_signpost_signpostref_EdgeOf : callOk Try.prog 101 = true := by kernel_rfl
attribute [go_sem] ok_signpost_signpostref_EdgeOf
theorem ok_signpost_signpostref_Has : callOk Try.prog 58 = true := by kernel_rfl
attribute [go_sem] ok_signpost_signpostref_Has
theorem ok_signpost_signpostlaw_two : callOk Try.prog 81 = true := by kernel_rfl
attribute [go_sem] ok_signpost_signpostlaw_two
theorem ok_signpost_table_WeighD1 : callOk Try.prog 120 = true := by kernel_rfl
attribute [go_sem] ok_signpost_table_WeighD1
theorem ok_signpost_table_edge : callOk Try.prog 121 = true := by kernel_rfl
attribute [go_sem] ok_signpost_table_edge
theorem ok_signpost_algebra_Invalid : callOk Try.prog 118 = true := by kernel_rfl
attribute [go_sem] ok_signpost_algebra_Invalid
theorem ok_Psignpost_table_walker_visit : callOk Try.prog 119 = true := by kernel_rfl
attribute [go_sem] ok_Psignpost_table_walker_visit
theorem ok_signpost_signpostref_IsLawful : callOk Try.prog 76 = true := by kernel_rfl
attribute [go_sem] ok_signpost_signpostref_IsLawful
theorem ok_signpost_net_within : callOk Try.prog 83 = true := by kernel_rfl
attribute [go_sem] ok_signpost_net_within
theorem ok_signpost_net_Own : callOk Try.prog 86 = true := by kernel_rfl
attribute [go_sem] ok_signpost_net_Own
theorem ok_signpost_net_Next : callOk Try.prog 73 = true := by kernel_rfl
attribute [go_sem] ok_signpost_net_Next
theorem ok_signpost_net_Same : callOk Try.prog 94 = true := by kernel_rfl
attribute [go_sem] ok_signpost_net_Same
theorem ok_signpost_signpostref_RoundOf : callOk Try.prog 23 = true := by kernel_rfl
attribute [go_sem] ok_signpost_signpostref_RoundOf
theorem ok_signpost_net_Begin : callOk Try.prog 20 = true := by kernel_rfl
attribute [go_sem] ok_signpost_net_Begin
theorem ok_slices_IndexFuncSSint_int : callOk Try.prog 159 = true := by kernel_rfl
attribute [go_sem] ok_slices_IndexFuncSSint_int
theorem ok_signpost_algebra_holdsD1 : callOk Try.prog 176 = true := by kernel_rfl
attribute [go_sem] ok_signpost_algebra_holdsD1
theorem ok_signpost_algebra_broken : callOk Try.prog 141 = true := by kernel_rfl
attribute [go_sem] ok_signpost_algebra_broken
theorem ok_signpost_plan_simple : callOk Try.prog 137 = true := by kernel_rfl
attribute [go_sem] ok_signpost_plan_simple
theorem ok_signpost_plan_buildD1 : callOk Try.prog 138 = true := by kernel_rfl
attribute [go_sem] ok_signpost_plan_buildD1
theorem ok_signpost_plan_buildD2 : callOk Try.prog 139 = true := by kernel_rfl
attribute [go_sem] ok_signpost_plan_buildD2
theorem ok_signpost_plan_pair : callOk Try.prog 140 = true := by kernel_rfl
attribute [go_sem] ok_signpost_plan_pair
theorem ok_signpost_plan_own : callOk Try.prog 175 = true := by kernel_rfl
attribute [go_sem] ok_signpost_plan_own
theorem ok_signpost_net_Rows : callOk Try.prog 85 = true := by kernel_rfl
attribute [go_sem] ok_signpost_net_Rows
theorem ok_signpost_algebra_Lawful : callOk Try.prog 82 = true := by kernel_rfl
attribute [go_sem] ok_signpost_algebra_Lawful
theorem ok_signpost_net_links : callOk Try.prog 84 = true := by kernel_rfl
attribute [go_sem] ok_signpost_net_links
theorem ok_slices_IndexFuncSSSint_Sint : callOk Try.prog 158 = true := by kernel_rfl
attribute [go_sem] ok_slices_IndexFuncSSSint_Sint
theorem ok_slices_IndexSSint_int : callOk Try.prog 160 = true := by kernel_rfl
attribute [go_sem] ok_slices_IndexSSint_int
theorem ok_slices_CloneSSint_int : callOk Try.prog 148 = true := by kernel_rfl
attribute [go_sem] ok_slices_CloneSSint_int
theorem ok_signpost_net_Look : callOk Try.prog 87 = true := by kernel_rfl
attribute [go_sem] ok_signpost_net_Look
theorem ok_signpost_net_NextD1 : callOk Try.prog 142 = true := by kernel_rfl
attribute [go_sem] ok_signpost_net_NextD1
theorem ok_slices_EqualFuncSSSint_SSint_Sint_Sint : callOk Try.prog 152 = true := by kernel_rfl
attribute [go_sem] ok_slices_EqualFuncSSSint_SSint_Sint_Sint
theorem ok_slices_EqualSSint_int : callOk Try.prog 153 = true := by kernel_rfl
attribute [go_sem] ok_slices_EqualSSint_int
theorem ok_signpost_signpostref_RouteOf : callOk Try.prog 79 = true := by kernel_rfl
attribute [go_sem] ok_signpost_signpostref_RouteOf
theorem ok_signpost_signpostref_Column : callOk Try.prog 80 = true := by kernel_rfl
attribute [go_sem] ok_signpost_signpostref_Column
theorem ok_signpost_net_Trivial : callOk Try.prog 74 = true := by kernel_rfl
attribute [go_sem] ok_signpost_net_Trivial
theorem ok_signpost_algebra_cases : callOk Try.prog 183 = true := by kernel_rfl
attribute [go_sem] ok_signpost_algebra_cases
theorem ok_signpost_plan_table : callOk Try.prog 177 = true := by kernel_rfl
attribute [go_sem] ok_signpost_plan_table
theorem ok_signpost_plan_simpleD1 : callOk Try.prog 178 = true := by kernel_rfl
attribute [go_sem] ok_signpost_plan_simpleD1
theorem ok_signpost_plan_simpleD2 : callOk Try.prog 179 = true := by kernel_rfl
attribute [go_sem] ok_signpost_plan_simpleD2
theorem ok_signpost_plan_pairD1 : callOk Try.prog 180 = true := by kernel_rfl
attribute [go_sem] ok_signpost_plan_pairD1
theorem ok_signpost_plan_pairD2 : callOk Try.prog 181 = true := by kernel_rfl
attribute [go_sem] ok_signpost_plan_pairD2
theorem ok_signpost_plan_pairD3 : callOk Try.prog 182 = true := by kernel_rfl
attribute [go_sem] ok_signpost_plan_pairD3
theorem ok_signpost_plan_within : callOk Try.prog 195 = true := by kernel_rfl
attribute [go_sem] ok_signpost_plan_within
theorem ok_signpost_plan_parts : callOk Try.prog 196 = true := by kernel_rfl
attribute [go_sem] ok_signpost_plan_parts
theorem ok_signpost_plan_edges : callOk Try.prog 197 = true := by kernel_rfl
attribute [go_sem] ok_signpost_plan_edges
theorem ok_signpost_plan_size : callOk Try.prog 198 = true := by kernel_rfl
attribute [go_sem] ok_signpost_plan_size
theorem ok_signpost_net_RowsD1 : callOk Try.prog 146 = true := by kernel_rfl
attribute [go_sem] ok_signpost_net_RowsD1
theorem ok_signpost_net_RowsD2 : callOk Try.prog 147 = true := by kernel_rfl
attribute [go_sem] ok_signpost_net_RowsD2
theorem ok_slices_RepeatSSint_int : callOk Try.prog 143 = true := by kernel_rfl
attribute [go_sem] ok_slices_RepeatSSint_int
theorem ok_signpost_algebra_casesD1 : callOk Try.prog 199 = true := by kernel_rfl
attribute [go_sem] ok_signpost_algebra_casesD1
theorem ok_signpost_algebra_upTo : callOk Try.prog 200 = true := by kernel_rfl
attribute [go_sem] ok_signpost_algebra_upTo
theorem ok_signpost_signpostlaw_engineBegun : callOk Try.prog 62 = true := by kernel_rfl
attribute [go_sem] ok_signpost_signpostlaw_engineBegun
theorem ok_signpost_net_Round : callOk Try.prog 19 = true := by kernel_rfl
attribute [go_sem] ok_signpost_net_Round
theorem ok_signpost_engine_Step : callOk Try.prog 64 = true := by kernel_rfl
attribute [go_sem] ok_signpost_engine_Step
theorem ok_signpost_signpostref_SameEngine : callOk Try.prog 65 = true := by kernel_rfl
attribute [go_sem] ok_signpost_signpostref_SameEngine
theorem ok_signpost_engine_New : callOk Try.prog 122 = true := by kernel_rfl
attribute [go_sem] ok_signpost_engine_New
theorem ok_signpost_engine_Check : callOk Try.prog 63 = true := by kernel_rfl
attribute [go_sem] ok_signpost_engine_Check
theorem ok_signpost_engine_own : callOk Try.prog 128 = true := by kernel_rfl
attribute [go_sem] ok_signpost_engine_own
theorem ok_Psignpost_engine_machine_step : callOk Try.prog 129 = true := by kernel_rfl
attribute [go_sem] ok_Psignpost_engine_machine_step
theorem ok_Psignpost_engine_machine_tick : callOk Try.prog 168 = true := by kernel_rfl
attribute [go_sem] ok_Psignpost_engine_machine_tick
theorem ok_signpost_engine_all : callOk Try.prog 123 = true := by kernel_rfl
attribute [go_sem] ok_signpost_engine_all
theorem ok_slices_ContainsFuncSSsignpost_api_Mail_signpost_api_Mail : callOk Try.prog 124 = true := by kernel_rfl
attribute [go_sem] ok_slices_ContainsFuncSSsignpost_api_Mail_signpost_api_Mail
theorem ok_signpost_engine_CheckD1 : callOk Try.prog 125 = true := by kernel_rfl
attribute [go_sem] ok_signpost_engine_CheckD1
theorem ok_signpost_engine_isNode : callOk Try.prog 126 = true := by kernel_rfl
attribute [go_sem] ok_signpost_engine_isNode
theorem ok_signpost_engine_CheckD2 : callOk Try.prog 127 = true := by kernel_rfl
attribute [go_sem] ok_signpost_engine_CheckD2
theorem ok_slices_CloneSSsignpost_api_Mail_signpost_api_Mail : callOk Try.prog 167 = true := by kernel_rfl
attribute [go_sem] ok_slices_CloneSSsignpost_api_Mail_signpost_api_Mail
theorem ok_Psignpost_engine_machine_deliver : callOk Try.prog 169 = true := by kernel_rfl
attribute [go_sem] ok_Psignpost_engine_machine_deliver
theorem ok_Psignpost_engine_machine_twice : callOk Try.prog 170 = true := by kernel_rfl
attribute [go_sem] ok_Psignpost_engine_machine_twice
theorem ok_slices_DeleteSSsignpost_api_Mail_signpost_api_Mail : callOk Try.prog 171 = true := by kernel_rfl
attribute [go_sem] ok_slices_DeleteSSsignpost_api_Mail_signpost_api_Mail
theorem ok_Psignpost_engine_machine_spoil : callOk Try.prog 172 = true := by kernel_rfl
attribute [go_sem] ok_Psignpost_engine_machine_spoil
theorem ok_Psignpost_engine_machine_expire : callOk Try.prog 173 = true := by kernel_rfl
attribute [go_sem] ok_Psignpost_engine_machine_expire
theorem ok_Psignpost_engine_machine_restart : callOk Try.prog 174 = true := by kernel_rfl
attribute [go_sem] ok_Psignpost_engine_machine_restart
theorem ok_Psignpost_engine_machine_hears : callOk Try.prog 190 = true := by kernel_rfl
attribute [go_sem] ok_Psignpost_engine_machine_hears
theorem ok_Psignpost_engine_machine_look : callOk Try.prog 191 = true := by kernel_rfl
attribute [go_sem] ok_Psignpost_engine_machine_look
theorem ok_slices_ContainsFuncSSsignpost_api_Router_signpost_api_Router : callOk Try.prog 161 = true := by kernel_rfl
attribute [go_sem] ok_slices_ContainsFuncSSsignpost_api_Router_signpost_api_Router
theorem ok_signpost_engine_allD1 : callOk Try.prog 162 = true := by kernel_rfl
attribute [go_sem] ok_signpost_engine_allD1
theorem ok_signpost_engine_rows : callOk Try.prog 163 = true := by kernel_rfl
attribute [go_sem] ok_signpost_engine_rows
theorem ok_signpost_engine_allD1D1 : callOk Try.prog 164 = true := by kernel_rfl
attribute [go_sem] ok_signpost_engine_allD1D1
theorem ok_signpost_engine_row : callOk Try.prog 165 = true := by kernel_rfl
attribute [go_sem] ok_signpost_engine_row
theorem ok_slices_IndexFuncSSsignpost_api_Mail_signpost_api_Mail : callOk Try.prog 166 = true := by kernel_rfl
attribute [go_sem] ok_slices_IndexFuncSSsignpost_api_Mail_signpost_api_Mail
theorem ok_Psignpost_engine_machine_linked : callOk Try.prog 194 = true := by kernel_rfl
attribute [go_sem] ok_Psignpost_engine_machine_linked
theorem ok_slices_SortSSint_int : callOk Try.prog 204 = true := by kernel_rfl
attribute [go_sem] ok_slices_SortSSint_int
theorem ok_Psignpost_engine_machine_lookD1 : callOk Try.prog 205 = true := by kernel_rfl
attribute [go_sem] ok_Psignpost_engine_machine_lookD1
theorem ok_slices_IndexFuncSSsignpost_api_Router_signpost_api_Router : callOk Try.prog 188 = true := by kernel_rfl
attribute [go_sem] ok_slices_IndexFuncSSsignpost_api_Router_signpost_api_Router
theorem ok_signpost_engine_rowD1 : callOk Try.prog 189 = true := by kernel_rfl
attribute [go_sem] ok_signpost_engine_rowD1
theorem ok_slices_ContainsFuncSSsignpost_api_Link_signpost_api_Link : callOk Try.prog 209 = true := by kernel_rfl
attribute [go_sem] ok_slices_ContainsFuncSSsignpost_api_Link_signpost_api_Link
theorem ok_Psignpost_engine_machine_linkedD1 : callOk Try.prog 210 = true := by kernel_rfl
attribute [go_sem] ok_Psignpost_engine_machine_linkedD1
theorem ok_slices_pdqsortOrderedSint : callOk Try.prog 211 = true := by kernel_rfl
attribute [go_sem] ok_slices_pdqsortOrderedSint
theorem ok_slices_IndexFuncSSsignpost_api_Link_signpost_api_Link : callOk Try.prog 213 = true := by kernel_rfl
attribute [go_sem] ok_slices_IndexFuncSSsignpost_api_Link_signpost_api_Link
theorem ok_slices_insertionSortOrderedSint : callOk Try.prog 214 = true := by kernel_rfl
attribute [go_sem] ok_slices_insertionSortOrderedSint
theorem ok_slices_heapSortOrderedSint : callOk Try.prog 215 = true := by kernel_rfl
attribute [go_sem] ok_slices_heapSortOrderedSint
theorem ok_slices_breakPatternsOrderedSint : callOk Try.prog 216 = true := by kernel_rfl
attribute [go_sem] ok_slices_breakPatternsOrderedSint
theorem ok_slices_choosePivotOrderedSint : callOk Try.prog 217 = true := by kernel_rfl
attribute [go_sem] ok_slices_choosePivotOrderedSint
theorem ok_slices_reverseRangeOrderedSint : callOk Try.prog 218 = true := by kernel_rfl
attribute [go_sem] ok_slices_reverseRangeOrderedSint
theorem ok_slices_partialInsertionSortOrderedSint : callOk Try.prog 219 = true := by kernel_rfl
attribute [go_sem] ok_slices_partialInsertionSortOrderedSint
theorem ok_slices_partitionEqualOrderedSint : callOk Try.prog 221 = true := by kernel_rfl
attribute [go_sem] ok_slices_partitionEqualOrderedSint
theorem ok_slices_partitionOrderedSint : callOk Try.prog 222 = true := by kernel_rfl
attribute [go_sem] ok_slices_partitionOrderedSint
theorem ok_slices_siftDownOrderedSint : callOk Try.prog 225 = true := by kernel_rfl
attribute [go_sem] ok_slices_siftDownOrderedSint
theorem ok_slices_nextPowerOfTwo : callOk Try.prog 226 = true := by kernel_rfl
attribute [go_sem] ok_slices_nextPowerOfTwo
theorem ok_slices_medianAdjacentOrderedSint : callOk Try.prog 228 = true := by kernel_rfl
attribute [go_sem] ok_slices_medianAdjacentOrderedSint
theorem ok_slices_medianOrderedSint : callOk Try.prog 229 = true := by kernel_rfl
attribute [go_sem] ok_slices_medianOrderedSint
theorem ok_slices_order2OrderedSint : callOk Try.prog 230 = true := by kernel_rfl
attribute [go_sem] ok_slices_order2OrderedSint
theorem ok_signpost_signpostlaw_PlanLawful : callOk Try.prog 3 = true := by kernel_rfl
attribute [go_sem] ok_signpost_signpostlaw_PlanLawful
theorem ok_signpost_signpostlaw_NetRounds : callOk Try.prog 4 = true := by kernel_rfl
attribute [go_sem] ok_signpost_signpostlaw_NetRounds
theorem ok_signpost_signpostlaw_AsyncRuns : callOk Try.prog 5 = true := by kernel_rfl
attribute [go_sem] ok_signpost_signpostlaw_AsyncRuns
theorem ok_signpost_signpostlaw_AsyncCycles : callOk Try.prog 6 = true := by kernel_rfl
attribute [go_sem] ok_signpost_signpostlaw_AsyncCycles
theorem ok_signpost_signpostlaw_NetAlways : callOk Try.prog 7 = true := by kernel_rfl
attribute [go_sem] ok_signpost_signpostlaw_NetAlways
theorem ok_signpost_signpostlaw_PathRounds : callOk Try.prog 8 = true := by kernel_rfl
attribute [go_sem] ok_signpost_signpostlaw_PathRounds
theorem ok_signpost_signpostlaw_PathBests : callOk Try.prog 9 = true := by kernel_rfl
attribute [go_sem] ok_signpost_signpostlaw_PathBests
theorem ok_signpost_signpostlaw_AsyncSettles : callOk Try.prog 10 = true := by kernel_rfl
attribute [go_sem] ok_signpost_signpostlaw_AsyncSettles
theorem ok_signpost_signpostlaw_TableLeads : callOk Try.prog 11 = true := by kernel_rfl
attribute [go_sem] ok_signpost_signpostlaw_TableLeads
theorem ok_signpost_signpostlaw_PathAlways : callOk Try.prog 12 = true := by kernel_rfl
attribute [go_sem] ok_signpost_signpostlaw_PathAlways
theorem ok_signpost_signpostlaw_EngineSpoilt : callOk Try.prog 13 = true := by kernel_rfl
attribute [go_sem] ok_signpost_signpostlaw_EngineSpoilt
theorem ok_signpost_signpostref_BeginOf : callOk Try.prog 24 = true := by kernel_rfl
attribute [go_sem] ok_signpost_signpostref_BeginOf
theorem ok_signpost_async_Run : callOk Try.prog 29 = true := by kernel_rfl
attribute [go_sem] ok_signpost_async_Run
theorem ok_signpost_signpostref_CheckTurns : callOk Try.prog 30 = true := by kernel_rfl
attribute [go_sem] ok_signpost_signpostref_CheckTurns
theorem ok_signpost_signpostlaw_asyncBegun : callOk Try.prog 32 = true := by kernel_rfl
attribute [go_sem] ok_signpost_signpostlaw_asyncBegun
theorem ok_signpost_async_Check : callOk Try.prog 33 = true := by kernel_rfl
attribute [go_sem] ok_signpost_async_Check
theorem ok_signpost_signpostref_RunOf : callOk Try.prog 34 = true := by kernel_rfl
attribute [go_sem] ok_signpost_signpostref_RunOf
theorem ok_signpost_async_Cycles : callOk Try.prog 36 = true := by kernel_rfl
attribute [go_sem] ok_signpost_async_Cycles
theorem ok_signpost_signpostref_CyclesOf : callOk Try.prog 37 = true := by kernel_rfl
attribute [go_sem] ok_signpost_signpostref_CyclesOf
theorem ok_signpost_path_Round : callOk Try.prog 39 = true := by kernel_rfl
attribute [go_sem] ok_signpost_path_Round
theorem ok_signpost_path_Settle : callOk Try.prog 40 = true := by kernel_rfl
attribute [go_sem] ok_signpost_path_Settle
theorem ok_signpost_signpostref_FitPaths : callOk Try.prog 41 = true := by kernel_rfl
attribute [go_sem] ok_signpost_signpostref_FitPaths
theorem ok_signpost_signpostref_RoundPaths : callOk Try.prog 42 = true := by kernel_rfl
attribute [go_sem] ok_signpost_signpostref_RoundPaths
theorem ok_signpost_signpostref_SettlePaths : callOk Try.prog 43 = true := by kernel_rfl
attribute [go_sem] ok_signpost_signpostref_SettlePaths
theorem ok_signpost_signpostlaw_pathBegun : callOk Try.prog 44 = true := by kernel_rfl
attribute [go_sem] ok_signpost_signpostlaw_pathBegun
theorem ok_signpost_path_Fit : callOk Try.prog 45 = true := by kernel_rfl
attribute [go_sem] ok_signpost_path_Fit
theorem ok_signpost_signpostref_SamePaths : callOk Try.prog 46 = true := by kernel_rfl
attribute [go_sem] ok_signpost_signpostref_SamePaths
theorem ok_signpost_path_Best : callOk Try.prog 47 = true := by kernel_rfl
attribute [go_sem] ok_signpost_path_Best
theorem ok_signpost_path_Extend : callOk Try.prog 48 = true := by kernel_rfl
attribute [go_sem] ok_signpost_path_Extend
theorem ok_signpost_signpostref_IsRight : callOk Try.prog 49 = true := by kernel_rfl
attribute [go_sem] ok_signpost_signpostref_IsRight
theorem ok_signpost_signpostref_BestOf : callOk Try.prog 50 = true := by kernel_rfl
attribute [go_sem] ok_signpost_signpostref_BestOf
theorem ok_signpost_signpostref_IsValid : callOk Try.prog 51 = true := by kernel_rfl
attribute [go_sem] ok_signpost_signpostref_IsValid
theorem ok_signpost_signpostref_ExtendOf : callOk Try.prog 52 = true := by kernel_rfl
attribute [go_sem] ok_signpost_signpostref_ExtendOf
theorem ok_signpost_signpostlaw_routeIs : callOk Try.prog 53 = true := by kernel_rfl
attribute [go_sem] ok_signpost_signpostlaw_routeIs
theorem ok_signpost_async_RunD1 : callOk Try.prog 88 = true := by kernel_rfl
attribute [go_sem] ok_signpost_async_RunD1
theorem ok_signpost_async_turn : callOk Try.prog 89 = true := by kernel_rfl
attribute [go_sem] ok_signpost_async_turn
theorem ok_signpost_signpostref_Used : callOk Try.prog 90 = true := by kernel_rfl
attribute [go_sem] ok_signpost_signpostref_Used
theorem ok_signpost_async_cycle : callOk Try.prog 92 = true := by kernel_rfl
attribute [go_sem] ok_signpost_async_cycle
theorem ok_signpost_signpostref_uses : callOk Try.prog 93 = true := by kernel_rfl
attribute [go_sem] ok_signpost_signpostref_uses
theorem ok_signpost_path_next : callOk Try.prog 95 = true := by kernel_rfl
attribute [go_sem] ok_signpost_path_next
theorem ok_signpost_path_own : callOk Try.prog 96 = true := by kernel_rfl
attribute [go_sem] ok_signpost_path_own
theorem ok_signpost_path_SettleD1 : callOk Try.prog 97 = true := by kernel_rfl
attribute [go_sem] ok_signpost_path_SettleD1
theorem ok_slices_EqualFuncSSsignpost_api_Route_Ssignpost_api_Route_signpost_api_Route_signpost_api_Route : callOk Try.prog 98 = true := by kernel_rfl
attribute [go_sem] ok_slices_EqualFuncSSsignpost_api_Route_Ssignpost_api_Route_signpost_api_Route_signpost_api_Route
theorem ok_signpost_path_same : callOk Try.prog 99 = true := by kernel_rfl
attribute [go_sem] ok_signpost_path_same
theorem ok_slices_EqualFuncSSSsignpost_api_Route_SSsignpost_api_Route_Ssignpost_api_Route_Ssignpost_api_Route : callOk Try.prog 100 = true := by kernel_rfl
attribute [go_sem] ok_slices_EqualFuncSSSsignpost_api_Route_SSsignpost_api_Route_Ssignpost_api_Route_Ssignpost_api_Route
theorem ok_signpost_signpostref_SameRoute : callOk Try.prog 102 = true := by kernel_rfl
attribute [go_sem] ok_signpost_signpostref_SameRoute
theorem ok_slices_ContainsFuncSSSsignpost_api_Route_Ssignpost_api_Route : callOk Try.prog 103 = true := by kernel_rfl
attribute [go_sem] ok_slices_ContainsFuncSSSsignpost_api_Route_Ssignpost_api_Route
theorem ok_signpost_path_FitD1 : callOk Try.prog 104 = true := by kernel_rfl
attribute [go_sem] ok_signpost_path_FitD1
theorem ok_signpost_path_right : callOk Try.prog 105 = true := by kernel_rfl
attribute [go_sem] ok_signpost_path_right
theorem ok_signpost_path_ends : callOk Try.prog 106 = true := by kernel_rfl
attribute [go_sem] ok_signpost_path_ends
theorem ok_signpost_path_best : callOk Try.prog 107 = true := by kernel_rfl
attribute [go_sem] ok_signpost_path_best
theorem ok_signpost_path_valid : callOk Try.prog 108 = true := by kernel_rfl
attribute [go_sem] ok_signpost_path_valid
theorem ok_signpost_path_extend : callOk Try.prog 109 = true := by kernel_rfl
attribute [go_sem] ok_signpost_path_extend
theorem ok_signpost_signpostref_First : callOk Try.prog 110 = true := by kernel_rfl
attribute [go_sem] ok_signpost_signpostref_First
theorem ok_signpost_async_turnD1 : callOk Try.prog 149 = true := by kernel_rfl
attribute [go_sem] ok_signpost_async_turnD1
theorem ok_signpost_async_turnD2 : callOk Try.prog 150 = true := by kernel_rfl
attribute [go_sem] ok_signpost_async_turnD2
theorem ok_signpost_async_oldest : callOk Try.prog 151 = true := by kernel_rfl
attribute [go_sem] ok_signpost_async_oldest
theorem ok_slices_RepeatSSsignpost_api_Route_signpost_api_Route : callOk Try.prog 154 = true := by kernel_rfl
attribute [go_sem] ok_slices_RepeatSSsignpost_api_Route_signpost_api_Route
theorem ok_signpost_path_none : callOk Try.prog 155 = true := by kernel_rfl
attribute [go_sem] ok_signpost_path_none
theorem ok_slices_IndexFuncSSSsignpost_api_Route_Ssignpost_api_Route : callOk Try.prog 156 = true := by kernel_rfl
attribute [go_sem] ok_slices_IndexFuncSSSsignpost_api_Route_Ssignpost_api_Route
theorem ok_slices_CompareSSint_int : callOk Try.prog 157 = true := by kernel_rfl
attribute [go_sem] ok_slices_CompareSSint_int
theorem tab_mixed : Try.prog.follows .mixedOrders = true := by kernel_rfl
end Go.Proofs.Ytephecognbbaoab
