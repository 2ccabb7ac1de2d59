/- What the seat's types are: sizes, places, zero values. -/
import Derived.Test.YtephecognbbaoaaSx
import Derived.Test.YtephecognbbaoaaProg
namespace Go.Proofs.Ytephecognbbaoaa
open Go
set_option linter.all false
attribute [go_sem] AOp AOpA AOpQ evF binA binI lenA evL thenQ blockQ retQ resA oneOf loadA takeA storeA cellsOb cellsA partsA fillA rowsA appendA appendE appendD_sl makeA_sl convA_i64 convA_u8 convA_sb convA_bs sliceA_str sliceA_sl sliceA_own sliceA_mx convP_int elemsA bound intA sliceLike alls oneA st0 st1 ss0 ss1 List.set_cons_zero List.set_cons_succ setL
theorem tab_known_int64 : knownT Try.prog 2 = true := by kernel_rfl
theorem tab_agg_int64 : aggSize Try.prog 2 = none := by kernel_rfl
theorem tab_info_int64 : (Try.prog.info? 2).isSome = true := by kernel_rfl
theorem tab_cells_int64 : Try.prog.cellsOf 2 = 1 := by kernel_rfl
theorem tab_bytes_int64 : Try.prog.bytesOf 2 = 8 := by kernel_rfl
theorem tab_zero_int64 : zeroA Try.prog 2 = some [.c (.int .i64 0)] := by kernel_rfl
attribute [go_sem] Try.underlying2 tab_known_int64 tab_agg_int64 tab_info_int64 tab_cells_int64 tab_bytes_int64 tab_zero_int64
theorem tab_known_int : knownT Try.prog 3 = true := by kernel_rfl
theorem tab_agg_int : aggSize Try.prog 3 = none := by kernel_rfl
theorem tab_info_int : (Try.prog.info? 3).isSome = true := by kernel_rfl
theorem tab_cells_int : Try.prog.cellsOf 3 = 1 := by kernel_rfl
theorem tab_bytes_int : Try.prog.bytesOf 3 = 8 := by kernel_rfl
theorem tab_zero_int : zeroA Try.prog 3 = some [.c (.int .i64 0)] := by kernel_rfl
attribute [go_sem] Try.underlying3 tab_known_int tab_agg_int tab_info_int tab_cells_int tab_bytes_int tab_zero_int
theorem tab_known_bool : knownT Try.prog 4 = true := by kernel_rfl
theorem tab_agg_bool : aggSize Try.prog 4 = none := by kernel_rfl
theorem tab_info_bool : (Try.prog.info? 4).isSome = true := by kernel_rfl
theorem tab_cells_bool : Try.prog.cellsOf 4 = 1 := by kernel_rfl
theorem tab_bytes_bool : Try.prog.bytesOf 4 = 1 := by kernel_rfl
theorem tab_zero_bool : zeroA Try.prog 4 = some [.c (.bool false)] := by kernel_rfl
attribute [go_sem] Try.underlying4 tab_known_bool tab_agg_bool tab_info_bool tab_cells_bool tab_bytes_bool tab_zero_bool
theorem tab_known_uint8 : knownT Try.prog 5 = true := by kernel_rfl
theorem tab_agg_uint8 : aggSize Try.prog 5 = none := by kernel_rfl
theorem tab_info_uint8 : (Try.prog.info? 5).isSome = true := by kernel_rfl
theorem tab_cells_uint8 : Try.prog.cellsOf 5 = 1 := by kernel_rfl
theorem tab_bytes_uint8 : Try.prog.bytesOf 5 = 1 := by kernel_rfl
theorem tab_zero_uint8 : zeroA Try.prog 5 = some [.c (.int .u8 0)] := by kernel_rfl
attribute [go_sem] Try.underlying5 tab_known_uint8 tab_agg_uint8 tab_info_uint8 tab_cells_uint8 tab_bytes_uint8 tab_zero_uint8
theorem tab_known_string : knownT Try.prog 9 = true := by kernel_rfl
theorem tab_agg_string : aggSize Try.prog 9 = none := by kernel_rfl
theorem tab_info_string : (Try.prog.info? 9).isSome = true := by kernel_rfl
theorem tab_cells_string : Try.prog.cellsOf 9 = 1 := by kernel_rfl
theorem tab_bytes_string : Try.prog.bytesOf 9 = 16 := by kernel_rfl
theorem tab_str_string : strT Try.prog 9 = true := by kernel_rfl
theorem tab_zero_string : zeroA Try.prog 9 = some [.c (.string .empty)] := by kernel_rfl
attribute [go_sem] Try.underlying9 tab_known_string tab_agg_string tab_info_string tab_cells_string tab_bytes_string tab_str_string tab_zero_string
theorem tab_known_uintptr : knownT Try.prog 12 = true := by kernel_rfl
theorem tab_agg_uintptr : aggSize Try.prog 12 = none := by kernel_rfl
theorem tab_info_uintptr : (Try.prog.info? 12).isSome = true := by kernel_rfl
theorem tab_cells_uintptr : Try.prog.cellsOf 12 = 1 := by kernel_rfl
theorem tab_bytes_uintptr : Try.prog.bytesOf 12 = 8 := by kernel_rfl
theorem tab_zero_uintptr : zeroA Try.prog 12 = some [.c (.int .u64 0)] := by kernel_rfl
attribute [go_sem] Try.underlying12 tab_known_uintptr tab_agg_uintptr tab_info_uintptr tab_cells_uintptr tab_bytes_uintptr tab_zero_uintptr
theorem tab_known_int32 : knownT Try.prog 21 = true := by kernel_rfl
theorem tab_agg_int32 : aggSize Try.prog 21 = none := by kernel_rfl
theorem tab_info_int32 : (Try.prog.info? 21).isSome = true := by kernel_rfl
theorem tab_cells_int32 : Try.prog.cellsOf 21 = 1 := by kernel_rfl
theorem tab_bytes_int32 : Try.prog.bytesOf 21 = 4 := by kernel_rfl
theorem tab_zero_int32 : zeroA Try.prog 21 = some [.c (.int .i32 0)] := by kernel_rfl
attribute [go_sem] Try.underlying21 tab_known_int32 tab_agg_int32 tab_info_int32 tab_cells_int32 tab_bytes_int32 tab_zero_int32
theorem tab_known_Sint : knownT Try.prog 22 = true := by kernel_rfl
theorem tab_agg_Sint : aggSize Try.prog 22 = none := by kernel_rfl
theorem tab_info_Sint : (Try.prog.info? 22).isSome = true := by kernel_rfl
theorem tab_cells_Sint : Try.prog.cellsOf 22 = 1 := by kernel_rfl
theorem tab_bytes_Sint : Try.prog.bytesOf 22 = 24 := by kernel_rfl
theorem tab_elem_Sint : elemSize Try.prog 22 = some 1 := by kernel_rfl
theorem tab_zero_Sint : zeroA Try.prog 22 = some [.c (.slice none 0 0)] := by kernel_rfl
attribute [go_sem] Try.underlying22 tab_known_Sint tab_agg_Sint tab_info_Sint tab_cells_Sint tab_bytes_Sint tab_elem_Sint tab_zero_Sint
theorem tab_known_signpost_api_Packet : knownT Try.prog 24 = true := by kernel_rfl
theorem tab_agg_signpost_api_Packet : aggSize Try.prog 24 = some 3 := by kernel_rfl
theorem tab_info_signpost_api_Packet : (Try.prog.info? 24).isSome = true := by kernel_rfl
theorem tab_cells_signpost_api_Packet : Try.prog.cellsOf 24 = 3 := by kernel_rfl
theorem tab_bytes_signpost_api_Packet : Try.prog.bytesOf 24 = 40 := by kernel_rfl
theorem tab_field0_signpost_api_Packet : fieldAtP Try.prog 24 0 = some 0 := by kernel_rfl
theorem tab_field1_signpost_api_Packet : fieldAtP Try.prog 24 1 = some 1 := by kernel_rfl
theorem tab_field2_signpost_api_Packet : fieldAtP Try.prog 24 2 = some 2 := by kernel_rfl
theorem tab_places_signpost_api_Packet : placesA Try.prog 24 = some [(0, 1), (1, 1), (2, 1)] := by kernel_rfl
theorem tab_zero_signpost_api_Packet : zeroA Try.prog 24 = some [.c (.int .i64 0), .c (.int .i64 0), .c (.slice none 0 0)] := by kernel_rfl
attribute [go_sem] Try.underlying24 tab_known_signpost_api_Packet tab_agg_signpost_api_Packet tab_info_signpost_api_Packet tab_cells_signpost_api_Packet tab_bytes_signpost_api_Packet tab_field0_signpost_api_Packet tab_field1_signpost_api_Packet tab_field2_signpost_api_Packet tab_places_signpost_api_Packet tab_zero_signpost_api_Packet
theorem tab_known_signpost_api_Errno : knownT Try.prog 25 = true := by kernel_rfl
theorem tab_agg_signpost_api_Errno : aggSize Try.prog 25 = none := by kernel_rfl
theorem tab_info_signpost_api_Errno : (Try.prog.info? 25).isSome = true := by kernel_rfl
theorem tab_cells_signpost_api_Errno : Try.prog.cellsOf 25 = 1 := by kernel_rfl
theorem tab_bytes_signpost_api_Errno : Try.prog.bytesOf 25 = 8 := by kernel_rfl
theorem tab_zero_signpost_api_Errno : zeroA Try.prog 25 = some [.c (.int .i64 0)] := by kernel_rfl
attribute [go_sem] Try.underlying25 tab_known_signpost_api_Errno tab_agg_signpost_api_Errno tab_info_signpost_api_Errno tab_cells_signpost_api_Errno tab_bytes_signpost_api_Errno tab_zero_signpost_api_Errno
theorem tab_known_Suint8 : knownT Try.prog 35 = true := by kernel_rfl
theorem tab_agg_Suint8 : aggSize Try.prog 35 = none := by kernel_rfl
theorem tab_info_Suint8 : (Try.prog.info? 35).isSome = true := by kernel_rfl
theorem tab_cells_Suint8 : Try.prog.cellsOf 35 = 1 := by kernel_rfl
theorem tab_bytes_Suint8 : Try.prog.bytesOf 35 = 24 := by kernel_rfl
theorem tab_elem_Suint8 : elemSize Try.prog 35 = some 1 := by kernel_rfl
theorem tab_zero_Suint8 : zeroA Try.prog 35 = some [.c (.slice none 0 0)] := by kernel_rfl
attribute [go_sem] Try.underlying35 tab_known_Suint8 tab_agg_Suint8 tab_info_Suint8 tab_cells_Suint8 tab_bytes_Suint8 tab_elem_Suint8 tab_zero_Suint8
theorem tab_known_SSint : knownT Try.prog 37 = true := by kernel_rfl
theorem tab_agg_SSint : aggSize Try.prog 37 = none := by kernel_rfl
theorem tab_info_SSint : (Try.prog.info? 37).isSome = true := by kernel_rfl
theorem tab_cells_SSint : Try.prog.cellsOf 37 = 1 := by kernel_rfl
theorem tab_bytes_SSint : Try.prog.bytesOf 37 = 24 := by kernel_rfl
theorem tab_elem_SSint : elemSize Try.prog 37 = some 1 := by kernel_rfl
theorem tab_zero_SSint : zeroA Try.prog 37 = some [.c (.slice none 0 0)] := by kernel_rfl
attribute [go_sem] Try.underlying37 tab_known_SSint tab_agg_SSint tab_info_SSint tab_cells_SSint tab_bytes_SSint tab_elem_SSint tab_zero_SSint
theorem tab_known_signpost_api_Algebra : knownT Try.prog 39 = true := by kernel_rfl
theorem tab_agg_signpost_api_Algebra : aggSize Try.prog 39 = some 3 := by kernel_rfl
theorem tab_info_signpost_api_Algebra : (Try.prog.info? 39).isSome = true := by kernel_rfl
theorem tab_cells_signpost_api_Algebra : Try.prog.cellsOf 39 = 3 := by kernel_rfl
theorem tab_bytes_signpost_api_Algebra : Try.prog.bytesOf 39 = 56 := by kernel_rfl
theorem tab_field0_signpost_api_Algebra : fieldAtP Try.prog 39 0 = some 0 := by kernel_rfl
theorem tab_field1_signpost_api_Algebra : fieldAtP Try.prog 39 1 = some 1 := by kernel_rfl
theorem tab_field2_signpost_api_Algebra : fieldAtP Try.prog 39 2 = some 2 := by kernel_rfl
theorem tab_places_signpost_api_Algebra : placesA Try.prog 39 = some [(0, 1), (1, 1), (2, 1)] := by kernel_rfl
theorem tab_zero_signpost_api_Algebra : zeroA Try.prog 39 = some [.c (.int .i64 0), .c (.slice none 0 0), .c (.slice none 0 0)] := by kernel_rfl
attribute [go_sem] Try.underlying39 tab_known_signpost_api_Algebra tab_agg_signpost_api_Algebra tab_info_signpost_api_Algebra tab_cells_signpost_api_Algebra tab_bytes_signpost_api_Algebra tab_field0_signpost_api_Algebra tab_field1_signpost_api_Algebra tab_field2_signpost_api_Algebra tab_places_signpost_api_Algebra tab_zero_signpost_api_Algebra
theorem tab_known_signpost_api_Broken : knownT Try.prog 41 = true := by kernel_rfl
theorem tab_agg_signpost_api_Broken : aggSize Try.prog 41 = some 5 := by kernel_rfl
theorem tab_info_signpost_api_Broken : (Try.prog.info? 41).isSome = true := by kernel_rfl
theorem tab_cells_signpost_api_Broken : Try.prog.cellsOf 41 = 5 := by kernel_rfl
theorem tab_bytes_signpost_api_Broken : Try.prog.bytesOf 41 = 40 := by kernel_rfl
theorem tab_field0_signpost_api_Broken : fieldAtP Try.prog 41 0 = some 0 := by kernel_rfl
theorem tab_field1_signpost_api_Broken : fieldAtP Try.prog 41 1 = some 1 := by kernel_rfl
theorem tab_field2_signpost_api_Broken : fieldAtP Try.prog 41 2 = some 2 := by kernel_rfl
theorem tab_field3_signpost_api_Broken : fieldAtP Try.prog 41 3 = some 3 := by kernel_rfl
theorem tab_field4_signpost_api_Broken : fieldAtP Try.prog 41 4 = some 4 := by kernel_rfl
theorem tab_places_signpost_api_Broken : placesA Try.prog 41 = some [(0, 1), (1, 1), (2, 1), (3, 1), (4, 1)] := by kernel_rfl
theorem tab_zero_signpost_api_Broken : zeroA Try.prog 41 = some [.c (.int .i64 0), .c (.int .i64 0), .c (.int .i64 0), .c (.int .i64 0), .c (.int .i64 0)] := by kernel_rfl
attribute [go_sem] Try.underlying41 tab_known_signpost_api_Broken tab_agg_signpost_api_Broken tab_info_signpost_api_Broken tab_cells_signpost_api_Broken tab_bytes_signpost_api_Broken tab_field0_signpost_api_Broken tab_field1_signpost_api_Broken tab_field2_signpost_api_Broken tab_field3_signpost_api_Broken tab_field4_signpost_api_Broken tab_places_signpost_api_Broken tab_zero_signpost_api_Broken
theorem tab_known_Sapi_Plan : knownT Try.prog 52 = true := by kernel_rfl
theorem tab_agg_Sapi_Plan : aggSize Try.prog 52 = none := by kernel_rfl
theorem tab_info_Sapi_Plan : (Try.prog.info? 52).isSome = true := by kernel_rfl
theorem tab_cells_Sapi_Plan : Try.prog.cellsOf 52 = 1 := by kernel_rfl
theorem tab_bytes_Sapi_Plan : Try.prog.bytesOf 52 = 24 := by kernel_rfl
theorem tab_elem_Sapi_Plan : elemSize Try.prog 52 = some 4 := by kernel_rfl
theorem tab_zero_Sapi_Plan : zeroA Try.prog 52 = some [.c (.slice none 0 0)] := by kernel_rfl
attribute [go_sem] Try.underlying52 tab_known_Sapi_Plan tab_agg_Sapi_Plan tab_info_Sapi_Plan tab_cells_Sapi_Plan tab_bytes_Sapi_Plan tab_elem_Sapi_Plan tab_zero_Sapi_Plan
theorem tab_known_signpost_api_Plan : knownT Try.prog 54 = true := by kernel_rfl
theorem tab_agg_signpost_api_Plan : aggSize Try.prog 54 = some 4 := by kernel_rfl
theorem tab_info_signpost_api_Plan : (Try.prog.info? 54).isSome = true := by kernel_rfl
theorem tab_cells_signpost_api_Plan : Try.prog.cellsOf 54 = 4 := by kernel_rfl
theorem tab_bytes_signpost_api_Plan : Try.prog.bytesOf 54 = 64 := by kernel_rfl
theorem tab_field0_signpost_api_Plan : fieldAtP Try.prog 54 0 = some 0 := by kernel_rfl
theorem tab_field1_signpost_api_Plan : fieldAtP Try.prog 54 1 = some 1 := by kernel_rfl
theorem tab_field2_signpost_api_Plan : fieldAtP Try.prog 54 2 = some 2 := by kernel_rfl
theorem tab_field3_signpost_api_Plan : fieldAtP Try.prog 54 3 = some 3 := by kernel_rfl
theorem tab_places_signpost_api_Plan : placesA Try.prog 54 = some [(0, 1), (1, 1), (2, 1), (3, 1)] := by kernel_rfl
theorem tab_zero_signpost_api_Plan : zeroA Try.prog 54 = some [.c (.int .i64 0), .c (.int .i64 0), .c (.slice none 0 0), .c (.slice none 0 0)] := by kernel_rfl
attribute [go_sem] Try.underlying54 tab_known_signpost_api_Plan tab_agg_signpost_api_Plan tab_info_signpost_api_Plan tab_cells_signpost_api_Plan tab_bytes_signpost_api_Plan tab_field0_signpost_api_Plan tab_field1_signpost_api_Plan tab_field2_signpost_api_Plan tab_field3_signpost_api_Plan tab_places_signpost_api_Plan tab_zero_signpost_api_Plan
theorem tab_known_Sapi_Link : knownT Try.prog 60 = true := by kernel_rfl
theorem tab_agg_Sapi_Link : aggSize Try.prog 60 = none := by kernel_rfl
theorem tab_info_Sapi_Link : (Try.prog.info? 60).isSome = true := by kernel_rfl
theorem tab_cells_Sapi_Link : Try.prog.cellsOf 60 = 1 := by kernel_rfl
theorem tab_bytes_Sapi_Link : Try.prog.bytesOf 60 = 24 := by kernel_rfl
theorem tab_elem_Sapi_Link : elemSize Try.prog 60 = some 3 := by kernel_rfl
theorem tab_zero_Sapi_Link : zeroA Try.prog 60 = some [.c (.slice none 0 0)] := by kernel_rfl
attribute [go_sem] Try.underlying60 tab_known_Sapi_Link tab_agg_Sapi_Link tab_info_Sapi_Link tab_cells_Sapi_Link tab_bytes_Sapi_Link tab_elem_Sapi_Link tab_zero_Sapi_Link
theorem tab_known_signpost_api_Net : knownT Try.prog 62 = true := by kernel_rfl
theorem tab_agg_signpost_api_Net : aggSize Try.prog 62 = some 5 := by kernel_rfl
theorem tab_info_signpost_api_Net : (Try.prog.info? 62).isSome = true := by kernel_rfl
theorem tab_cells_signpost_api_Net : Try.prog.cellsOf 62 = 5 := by kernel_rfl
theorem tab_bytes_signpost_api_Net : Try.prog.bytesOf 62 = 88 := by kernel_rfl
theorem tab_field0_signpost_api_Net : fieldAtP Try.prog 62 0 = some 0 := by kernel_rfl
theorem tab_field1_signpost_api_Net : fieldAtP Try.prog 62 1 = some 3 := by kernel_rfl
theorem tab_field2_signpost_api_Net : fieldAtP Try.prog 62 2 = some 4 := by kernel_rfl
theorem tab_places_signpost_api_Net : placesA Try.prog 62 = some [(0, 3), (3, 1), (4, 1)] := by kernel_rfl
theorem tab_zero_signpost_api_Net : zeroA Try.prog 62 = some [.c (.int .i64 0), .c (.slice none 0 0), .c (.slice none 0 0), .c (.int .i64 0), .c (.slice none 0 0)] := by kernel_rfl
attribute [go_sem] Try.underlying62 tab_known_signpost_api_Net tab_agg_signpost_api_Net tab_info_signpost_api_Net tab_cells_signpost_api_Net tab_bytes_signpost_api_Net tab_field0_signpost_api_Net tab_field1_signpost_api_Net tab_field2_signpost_api_Net tab_places_signpost_api_Net tab_zero_signpost_api_Net
theorem tab_known_uint : knownT Try.prog 91 = true := by kernel_rfl
theorem tab_agg_uint : aggSize Try.prog 91 = none := by kernel_rfl
theorem tab_info_uint : (Try.prog.info? 91).isSome = true := by kernel_rfl
theorem tab_cells_uint : Try.prog.cellsOf 91 = 1 := by kernel_rfl
theorem tab_bytes_uint : Try.prog.bytesOf 91 = 8 := by kernel_rfl
theorem tab_zero_uint : zeroA Try.prog 91 = some [.c (.int .u64 0)] := by kernel_rfl
attribute [go_sem] Try.underlying91 tab_known_uint tab_agg_uint tab_info_uint tab_cells_uint tab_bytes_uint tab_zero_uint
theorem tab_known_signpost_algebra_shape : knownT Try.prog 95 = true := by kernel_rfl
theorem tab_agg_signpost_algebra_shape : aggSize Try.prog 95 = some 2 := by kernel_rfl
theorem tab_info_signpost_algebra_shape : (Try.prog.info? 95).isSome = true := by kernel_rfl
theorem tab_cells_signpost_algebra_shape : Try.prog.cellsOf 95 = 2 := by kernel_rfl
theorem tab_bytes_signpost_algebra_shape : Try.prog.bytesOf 95 = 16 := by kernel_rfl
theorem tab_field0_signpost_algebra_shape : fieldAtP Try.prog 95 0 = some 0 := by kernel_rfl
theorem tab_field1_signpost_algebra_shape : fieldAtP Try.prog 95 1 = some 1 := by kernel_rfl
theorem tab_places_signpost_algebra_shape : placesA Try.prog 95 = some [(0, 1), (1, 1)] := by kernel_rfl
theorem tab_zero_signpost_algebra_shape : zeroA Try.prog 95 = some [.c (.int .i64 0), .c (.bool false)] := by kernel_rfl
attribute [go_sem] Try.underlying95 tab_known_signpost_algebra_shape tab_agg_signpost_algebra_shape tab_info_signpost_algebra_shape tab_cells_signpost_algebra_shape tab_bytes_signpost_algebra_shape tab_field0_signpost_algebra_shape tab_field1_signpost_algebra_shape tab_places_signpost_algebra_shape tab_zero_signpost_algebra_shape
theorem tab_known_mapSintalgebra_shape : knownT Try.prog 97 = true := by kernel_rfl
theorem tab_agg_mapSintalgebra_shape : aggSize Try.prog 97 = none := by kernel_rfl
theorem tab_info_mapSintalgebra_shape : (Try.prog.info? 97).isSome = true := by kernel_rfl
theorem tab_cells_mapSintalgebra_shape : Try.prog.cellsOf 97 = 1 := by kernel_rfl
theorem tab_bytes_mapSintalgebra_shape : Try.prog.bytesOf 97 = 8 := by kernel_rfl
theorem tab_zero_mapSintalgebra_shape : zeroA Try.prog 97 = some [.c (.map none)] := by kernel_rfl
attribute [go_sem] Try.underlying97 tab_known_mapSintalgebra_shape tab_agg_mapSintalgebra_shape tab_info_mapSintalgebra_shape tab_cells_mapSintalgebra_shape tab_bytes_mapSintalgebra_shape tab_zero_mapSintalgebra_shape
theorem tab_known_S3int : knownT Try.prog 103 = true := by kernel_rfl
theorem tab_agg_S3int : aggSize Try.prog 103 = some 3 := by kernel_rfl
theorem tab_info_S3int : (Try.prog.info? 103).isSome = true := by kernel_rfl
theorem tab_cells_S3int : Try.prog.cellsOf 103 = 3 := by kernel_rfl
theorem tab_bytes_S3int : Try.prog.bytesOf 103 = 24 := by kernel_rfl
theorem tab_zero_S3int : zeroA Try.prog 103 = some [.c (.int .i64 0), .c (.int .i64 0), .c (.int .i64 0)] := by kernel_rfl
attribute [go_sem] Try.underlying103 tab_known_S3int tab_agg_S3int tab_info_S3int tab_cells_S3int tab_bytes_S3int tab_zero_S3int
theorem tab_known_SSSint : knownT Try.prog 104 = true := by kernel_rfl
theorem tab_agg_SSSint : aggSize Try.prog 104 = none := by kernel_rfl
theorem tab_info_SSSint : (Try.prog.info? 104).isSome = true := by kernel_rfl
theorem tab_cells_SSSint : Try.prog.cellsOf 104 = 1 := by kernel_rfl
theorem tab_bytes_SSSint : Try.prog.bytesOf 104 = 24 := by kernel_rfl
theorem tab_elem_SSSint : elemSize Try.prog 104 = some 1 := by kernel_rfl
theorem tab_zero_SSSint : zeroA Try.prog 104 = some [.c (.slice none 0 0)] := by kernel_rfl
attribute [go_sem] Try.underlying104 tab_known_SSSint tab_agg_SSSint tab_info_SSSint tab_cells_SSSint tab_bytes_SSSint tab_elem_SSSint tab_zero_SSSint
theorem tab_known_Ptable_walker : knownT Try.prog 114 = true := by kernel_rfl
theorem tab_agg_Ptable_walker : aggSize Try.prog 114 = none := by kernel_rfl
theorem tab_info_Ptable_walker : (Try.prog.info? 114).isSome = true := by kernel_rfl
theorem tab_cells_Ptable_walker : Try.prog.cellsOf 114 = 1 := by kernel_rfl
theorem tab_bytes_Ptable_walker : Try.prog.bytesOf 114 = 8 := by kernel_rfl
attribute [go_sem] Try.underlying114 tab_known_Ptable_walker tab_agg_Ptable_walker tab_info_Ptable_walker tab_cells_Ptable_walker tab_bytes_Ptable_walker
theorem tab_known_Sbool : knownT Try.prog 115 = true := by kernel_rfl
theorem tab_agg_Sbool : aggSize Try.prog 115 = none := by kernel_rfl
theorem tab_info_Sbool : (Try.prog.info? 115).isSome = true := by kernel_rfl
theorem tab_cells_Sbool : Try.prog.cellsOf 115 = 1 := by kernel_rfl
theorem tab_bytes_Sbool : Try.prog.bytesOf 115 = 24 := by kernel_rfl
theorem tab_elem_Sbool : elemSize Try.prog 115 = some 1 := by kernel_rfl
theorem tab_zero_Sbool : zeroA Try.prog 115 = some [.c (.slice none 0 0)] := by kernel_rfl
attribute [go_sem] Try.underlying115 tab_known_Sbool tab_agg_Sbool tab_info_Sbool tab_cells_Sbool tab_bytes_Sbool tab_elem_Sbool tab_zero_Sbool
theorem tab_known_signpost_table_walker : knownT Try.prog 118 = true := by kernel_rfl
theorem tab_agg_signpost_table_walker : aggSize Try.prog 118 = some 8 := by kernel_rfl
theorem tab_info_signpost_table_walker : (Try.prog.info? 118).isSome = true := by kernel_rfl
theorem tab_cells_signpost_table_walker : Try.prog.cellsOf 118 = 8 := by kernel_rfl
theorem tab_bytes_signpost_table_walker : Try.prog.bytesOf 118 = 128 := by kernel_rfl
theorem tab_field0_signpost_table_walker : fieldAtP Try.prog 118 0 = some 0 := by kernel_rfl
theorem tab_field1_signpost_table_walker : fieldAtP Try.prog 118 1 = some 5 := by kernel_rfl
theorem tab_field2_signpost_table_walker : fieldAtP Try.prog 118 2 = some 6 := by kernel_rfl
theorem tab_field3_signpost_table_walker : fieldAtP Try.prog 118 3 = some 7 := by kernel_rfl
theorem tab_places_signpost_table_walker : placesA Try.prog 118 = some [(0, 5), (5, 1), (6, 1), (7, 1)] := by kernel_rfl
theorem tab_zero_signpost_table_walker : zeroA Try.prog 118 = some [.c (.int .i64 0), .c (.slice none 0 0), .c (.slice none 0 0), .c (.int .i64 0), .c (.slice none 0 0), .c (.int .i64 0), .c (.slice none 0 0), .c (.int .i64 0)] := by kernel_rfl
attribute [go_sem] Try.underlying118 tab_known_signpost_table_walker tab_agg_signpost_table_walker tab_info_signpost_table_walker tab_cells_signpost_table_walker tab_bytes_signpost_table_walker tab_field0_signpost_table_walker tab_field1_signpost_table_walker tab_field2_signpost_table_walker tab_field3_signpost_table_walker tab_places_signpost_table_walker tab_zero_signpost_table_walker
theorem tab_known_signpost_api_Link : knownT Try.prog 121 = true := by kernel_rfl
theorem tab_agg_signpost_api_Link : aggSize Try.prog 121 = some 3 := by kernel_rfl
theorem tab_info_signpost_api_Link : (Try.prog.info? 121).isSome = true := by kernel_rfl
theorem tab_cells_signpost_api_Link : Try.prog.cellsOf 121 = 3 := by kernel_rfl
theorem tab_bytes_signpost_api_Link : Try.prog.bytesOf 121 = 24 := by kernel_rfl
theorem tab_field0_signpost_api_Link : fieldAtP Try.prog 121 0 = some 0 := by kernel_rfl
theorem tab_field1_signpost_api_Link : fieldAtP Try.prog 121 1 = some 1 := by kernel_rfl
theorem tab_field2_signpost_api_Link : fieldAtP Try.prog 121 2 = some 2 := by kernel_rfl
theorem tab_places_signpost_api_Link : placesA Try.prog 121 = some [(0, 1), (1, 1), (2, 1)] := by kernel_rfl
theorem tab_zero_signpost_api_Link : zeroA Try.prog 121 = some [.c (.int .i64 0), .c (.int .i64 0), .c (.int .i64 0)] := by kernel_rfl
attribute [go_sem] Try.underlying121 tab_known_signpost_api_Link tab_agg_signpost_api_Link tab_info_signpost_api_Link tab_cells_signpost_api_Link tab_bytes_signpost_api_Link tab_field0_signpost_api_Link tab_field1_signpost_api_Link tab_field2_signpost_api_Link tab_places_signpost_api_Link tab_zero_signpost_api_Link
theorem tab_known_Sapi_Algebra : knownT Try.prog 128 = true := by kernel_rfl
theorem tab_agg_Sapi_Algebra : aggSize Try.prog 128 = none := by kernel_rfl
theorem tab_info_Sapi_Algebra : (Try.prog.info? 128).isSome = true := by kernel_rfl
theorem tab_cells_Sapi_Algebra : Try.prog.cellsOf 128 = 1 := by kernel_rfl
theorem tab_bytes_Sapi_Algebra : Try.prog.bytesOf 128 = 24 := by kernel_rfl
theorem tab_elem_Sapi_Algebra : elemSize Try.prog 128 = some 3 := by kernel_rfl
theorem tab_zero_Sapi_Algebra : zeroA Try.prog 128 = some [.c (.slice none 0 0)] := by kernel_rfl
attribute [go_sem] Try.underlying128 tab_known_Sapi_Algebra tab_agg_Sapi_Algebra tab_info_Sapi_Algebra tab_cells_Sapi_Algebra tab_bytes_Sapi_Algebra tab_elem_Sapi_Algebra tab_zero_Sapi_Algebra
theorem tab_known_mapSintint : knownT Try.prog 129 = true := by kernel_rfl
theorem tab_agg_mapSintint : aggSize Try.prog 129 = none := by kernel_rfl
theorem tab_info_mapSintint : (Try.prog.info? 129).isSome = true := by kernel_rfl
theorem tab_cells_mapSintint : Try.prog.cellsOf 129 = 1 := by kernel_rfl
theorem tab_bytes_mapSintint : Try.prog.bytesOf 129 = 8 := by kernel_rfl
theorem tab_zero_mapSintint : zeroA Try.prog 129 = some [.c (.map none)] := by kernel_rfl
attribute [go_sem] Try.underlying129 tab_known_mapSintint tab_agg_mapSintint tab_info_mapSintint tab_cells_mapSintint tab_bytes_mapSintint tab_zero_mapSintint
theorem tab_known_mapSS2intbool : knownT Try.prog 143 = true := by kernel_rfl
theorem tab_agg_mapSS2intbool : aggSize Try.prog 143 = none := by kernel_rfl
theorem tab_info_mapSS2intbool : (Try.prog.info? 143).isSome = true := by kernel_rfl
theorem tab_cells_mapSS2intbool : Try.prog.cellsOf 143 = 1 := by kernel_rfl
theorem tab_bytes_mapSS2intbool : Try.prog.bytesOf 143 = 8 := by kernel_rfl
theorem tab_zero_mapSS2intbool : zeroA Try.prog 143 = some [.c (.map none)] := by kernel_rfl
attribute [go_sem] Try.underlying143 tab_known_mapSS2intbool tab_agg_mapSS2intbool tab_info_mapSS2intbool tab_cells_mapSS2intbool tab_bytes_mapSS2intbool tab_zero_mapSS2intbool
theorem tab_known_S2int : knownT Try.prog 144 = true := by kernel_rfl
theorem tab_agg_S2int : aggSize Try.prog 144 = some 2 := by kernel_rfl
theorem tab_info_S2int : (Try.prog.info? 144).isSome = true := by kernel_rfl
theorem tab_cells_S2int : Try.prog.cellsOf 144 = 2 := by kernel_rfl
theorem tab_bytes_S2int : Try.prog.bytesOf 144 = 16 := by kernel_rfl
theorem tab_zero_S2int : zeroA Try.prog 144 = some [.c (.int .i64 0), .c (.int .i64 0)] := by kernel_rfl
attribute [go_sem] Try.underlying144 tab_known_S2int tab_agg_S2int tab_info_S2int tab_cells_S2int tab_bytes_S2int tab_zero_S2int
theorem tab_known_uint32 : knownT Try.prog 150 = true := by kernel_rfl
theorem tab_agg_uint32 : aggSize Try.prog 150 = none := by kernel_rfl
theorem tab_info_uint32 : (Try.prog.info? 150).isSome = true := by kernel_rfl
theorem tab_cells_uint32 : Try.prog.cellsOf 150 = 1 := by kernel_rfl
theorem tab_bytes_uint32 : Try.prog.bytesOf 150 = 4 := by kernel_rfl
theorem tab_zero_uint32 : zeroA Try.prog 150 = some [.c (.int .u32 0)] := by kernel_rfl
attribute [go_sem] Try.underlying150 tab_known_uint32 tab_agg_uint32 tab_info_uint32 tab_cells_uint32 tab_bytes_uint32 tab_zero_uint32
theorem tab_known_uint64 : knownT Try.prog 153 = true := by kernel_rfl
theorem tab_agg_uint64 : aggSize Try.prog 153 = none := by kernel_rfl
theorem tab_info_uint64 : (Try.prog.info? 153).isSome = true := by kernel_rfl
theorem tab_cells_uint64 : Try.prog.cellsOf 153 = 1 := by kernel_rfl
theorem tab_bytes_uint64 : Try.prog.bytesOf 153 = 8 := by kernel_rfl
theorem tab_zero_uint64 : zeroA Try.prog 153 = some [.c (.int .u64 0)] := by kernel_rfl
attribute [go_sem] Try.underlying153 tab_known_uint64 tab_agg_uint64 tab_info_uint64 tab_cells_uint64 tab_bytes_uint64 tab_zero_uint64
theorem tab_known_Puint8 : knownT Try.prog 166 = true := by kernel_rfl
theorem tab_agg_Puint8 : aggSize Try.prog 166 = none := by kernel_rfl
theorem tab_info_Puint8 : (Try.prog.info? 166).isSome = true := by kernel_rfl
theorem tab_cells_Puint8 : Try.prog.cellsOf 166 = 1 := by kernel_rfl
theorem tab_bytes_Puint8 : Try.prog.bytesOf 166 = 8 := by kernel_rfl
attribute [go_sem] Try.underlying166 tab_known_Puint8 tab_agg_Puint8 tab_info_Puint8 tab_cells_Puint8 tab_bytes_Puint8
theorem tab_known_unsafe_Pointer : knownT Try.prog 171 = true := by kernel_rfl
theorem tab_agg_unsafe_Pointer : aggSize Try.prog 171 = none := by kernel_rfl
theorem tab_info_unsafe_Pointer : (Try.prog.info? 171).isSome = true := by kernel_rfl
theorem tab_cells_unsafe_Pointer : Try.prog.cellsOf 171 = 1 := by kernel_rfl
theorem tab_bytes_unsafe_Pointer : Try.prog.bytesOf 171 = 8 := by kernel_rfl
theorem tab_zero_unsafe_Pointer : zeroA Try.prog 171 = some [.c (.pointer none)] := by kernel_rfl
attribute [go_sem] Try.underlying171 tab_known_unsafe_Pointer tab_agg_unsafe_Pointer tab_info_unsafe_Pointer tab_cells_unsafe_Pointer tab_bytes_unsafe_Pointer tab_zero_unsafe_Pointer
theorem ok_signpost_signpostlaw_WireWrites : callOk Try.prog 3 = true := by kernel_rfl
attribute [go_sem] ok_signpost_signpostlaw_WireWrites
theorem ok_signpost_signpostlaw_WireReads : callOk Try.prog 4 = true := by kernel_rfl
attribute [go_sem] ok_signpost_signpostlaw_WireReads
theorem ok_signpost_signpostlaw_WireBack : callOk Try.prog 5 = true := by kernel_rfl
attribute [go_sem] ok_signpost_signpostlaw_WireBack
theorem ok_signpost_signpostlaw_AlgebraHolds : callOk Try.prog 6 = true := by kernel_rfl
attribute [go_sem] ok_signpost_signpostlaw_AlgebraHolds
theorem ok_signpost_signpostlaw_AlgebraTrue : callOk Try.prog 7 = true := by kernel_rfl
attribute [go_sem] ok_signpost_signpostlaw_AlgebraTrue
theorem ok_signpost_signpostlaw_AlgebraLaws : callOk Try.prog 8 = true := by kernel_rfl
attribute [go_sem] ok_signpost_signpostlaw_AlgebraLaws
theorem ok_signpost_signpostlaw_PlanBuilds : callOk Try.prog 9 = true := by kernel_rfl
attribute [go_sem] ok_signpost_signpostlaw_PlanBuilds
theorem ok_signpost_signpostlaw_TableTells : callOk Try.prog 10 = true := by kernel_rfl
attribute [go_sem] ok_signpost_signpostlaw_TableTells
theorem ok_signpost_signpostlaw_TableWeighs : callOk Try.prog 11 = true := by kernel_rfl
attribute [go_sem] ok_signpost_signpostlaw_TableWeighs
theorem ok_signpost_signpostlaw_NetSettles : callOk Try.prog 12 = true := by kernel_rfl
attribute [go_sem] ok_signpost_signpostlaw_NetSettles
theorem ok_signpost_wire_Write : callOk Try.prog 13 = true := by kernel_rfl
attribute [go_sem] ok_signpost_wire_Write
theorem ok_signpost_signpostref_WriteOf : callOk Try.prog 14 = true := by kernel_rfl
attribute [go_sem] ok_signpost_signpostref_WriteOf
theorem ok_signpost_signpostlaw_wireBegun : callOk Try.prog 15 = true := by kernel_rfl
attribute [go_sem] ok_signpost_signpostlaw_wireBegun
theorem ok_signpost_wire_Read : callOk Try.prog 16 = true := by kernel_rfl
attribute [go_sem] ok_signpost_wire_Read
theorem ok_signpost_signpostref_ReadOf : callOk Try.prog 17 = true := by kernel_rfl
attribute [go_sem] ok_signpost_signpostref_ReadOf
theorem ok_signpost_signpostref_SamePacket : callOk Try.prog 18 = true := by kernel_rfl
attribute [go_sem] ok_signpost_signpostref_SamePacket
theorem ok_signpost_signpostlaw_choose : callOk Try.prog 19 = true := by kernel_rfl
attribute [go_sem] ok_signpost_signpostlaw_choose
theorem ok_signpost_algebra_Holds : callOk Try.prog 20 = true := by kernel_rfl
attribute [go_sem] ok_signpost_algebra_Holds
theorem ok_signpost_signpostref_CheckAlgebra : callOk Try.prog 21 = true := by kernel_rfl
attribute [go_sem] ok_signpost_signpostref_CheckAlgebra
theorem ok_signpost_signpostref_CheckBroken : callOk Try.prog 22 = true := by kernel_rfl
attribute [go_sem] ok_signpost_signpostref_CheckBroken
theorem ok_signpost_signpostref_HoldsOf : callOk Try.prog 23 = true := by kernel_rfl
attribute [go_sem] ok_signpost_signpostref_HoldsOf
theorem ok_signpost_signpostlaw_algebraBegun : callOk Try.prog 24 = true := by kernel_rfl
attribute [go_sem] ok_signpost_signpostlaw_algebraBegun
theorem ok_signpost_algebra_Laws : callOk Try.prog 25 = true := by kernel_rfl
attribute [go_sem] ok_signpost_algebra_Laws
theorem ok_signpost_algebra_Strict : callOk Try.prog 26 = true := by kernel_rfl
attribute [go_sem] ok_signpost_algebra_Strict
theorem ok_signpost_algebra_Distributive : callOk Try.prog 27 = true := by kernel_rfl
attribute [go_sem] ok_signpost_algebra_Distributive
theorem ok_signpost_signpostref_BrokenOf : callOk Try.prog 28 = true := by kernel_rfl
attribute [go_sem] ok_signpost_signpostref_BrokenOf
theorem ok_signpost_signpostref_AllLaws : callOk Try.prog 29 = true := by kernel_rfl
attribute [go_sem] ok_signpost_signpostref_AllLaws
theorem ok_signpost_algebra_Check : callOk Try.prog 30 = true := by kernel_rfl
attribute [go_sem] ok_signpost_algebra_Check
theorem ok_signpost_plan_Build : callOk Try.prog 31 = true := by kernel_rfl
attribute [go_sem] ok_signpost_plan_Build
theorem ok_signpost_signpostref_BuildOf : callOk Try.prog 32 = true := by kernel_rfl
attribute [go_sem] ok_signpost_signpostref_BuildOf
theorem ok_signpost_signpostlaw_planBegun : callOk Try.prog 33 = true := by kernel_rfl
attribute [go_sem] ok_signpost_signpostlaw_planBegun
theorem ok_signpost_plan_Check : callOk Try.prog 34 = true := by kernel_rfl
attribute [go_sem] ok_signpost_plan_Check
theorem ok_signpost_signpostref_SameAlgebra : callOk Try.prog 35 = true := by kernel_rfl
attribute [go_sem] ok_signpost_signpostref_SameAlgebra
theorem ok_signpost_table_Table : callOk Try.prog 36 = true := by kernel_rfl
attribute [go_sem] ok_signpost_table_Table
theorem ok_signpost_table_Walk : callOk Try.prog 37 = true := by kernel_rfl
attribute [go_sem] ok_signpost_table_Walk
theorem ok_signpost_signpostref_FitOf : callOk Try.prog 38 = true := by kernel_rfl
attribute [go_sem] ok_signpost_signpostref_FitOf
theorem ok_signpost_signpostref_CheckTable : callOk Try.prog 39 = true := by kernel_rfl
attribute [go_sem] ok_signpost_signpostref_CheckTable
theorem ok_signpost_signpostref_TableOf : callOk Try.prog 40 = true := by kernel_rfl
attribute [go_sem] ok_signpost_signpostref_TableOf
theorem ok_signpost_signpostref_IsNode : callOk Try.prog 41 = true := by kernel_rfl
attribute [go_sem] ok_signpost_signpostref_IsNode
theorem ok_signpost_signpostref_WalkOf : callOk Try.prog 42 = true := by kernel_rfl
attribute [go_sem] ok_signpost_signpostref_WalkOf
theorem ok_signpost_signpostlaw_tableBegun : callOk Try.prog 43 = true := by kernel_rfl
attribute [go_sem] ok_signpost_signpostlaw_tableBegun
theorem ok_signpost_signpostlaw_stateIs : callOk Try.prog 44 = true := by kernel_rfl
attribute [go_sem] ok_signpost_signpostlaw_stateIs
theorem ok_signpost_signpostref_SameInts : callOk Try.prog 45 = true := by kernel_rfl
attribute [go_sem] ok_signpost_signpostref_SameInts
theorem ok_signpost_table_Weigh : callOk Try.prog 46 = true := by kernel_rfl
attribute [go_sem] ok_signpost_table_Weigh
theorem ok_signpost_table_Paths : callOk Try.prog 47 = true := by kernel_rfl
attribute [go_sem] ok_signpost_table_Paths
theorem ok_signpost_signpostref_CheckNet : callOk Try.prog 48 = true := by kernel_rfl
attribute [go_sem] ok_signpost_signpostref_CheckNet
theorem ok_signpost_signpostref_WeighOf : callOk Try.prog 49 = true := by kernel_rfl
attribute [go_sem] ok_signpost_signpostref_WeighOf
theorem ok_signpost_signpostref_PathsOf : callOk Try.prog 50 = true := by kernel_rfl
attribute [go_sem] ok_signpost_signpostref_PathsOf
theorem ok_signpost_net_Settle : callOk Try.prog 51 = true := by kernel_rfl
attribute [go_sem] ok_signpost_net_Settle
theorem ok_signpost_signpostref_SettleOf : callOk Try.prog 52 = true := by kernel_rfl
attribute [go_sem] ok_signpost_signpostref_SettleOf
theorem ok_signpost_signpostlaw_netBegun : callOk Try.prog 53 = true := by kernel_rfl
attribute [go_sem] ok_signpost_signpostlaw_netBegun
theorem ok_slices_ContainsFuncSSint_int : callOk Try.prog 54 = true := by kernel_rfl
attribute [go_sem] ok_slices_ContainsFuncSSint_int
theorem ok_signpost_wire_WriteD1 : callOk Try.prog 55 = true := by kernel_rfl
attribute [go_sem] ok_signpost_wire_WriteD1
theorem ok_signpost_wire_fits : callOk Try.prog 56 = true := by kernel_rfl
attribute [go_sem] ok_signpost_wire_fits
theorem ok_signpost_wire_sum : callOk Try.prog 57 = true := by kernel_rfl
attribute [go_sem] ok_signpost_wire_sum
theorem ok_signpost_signpostref_between : callOk Try.prog 58 = true := by kernel_rfl
attribute [go_sem] ok_signpost_signpostref_between
theorem ok_signpost_signpostref_SumOf : callOk Try.prog 59 = true := by kernel_rfl
attribute [go_sem] ok_signpost_signpostref_SumOf
theorem ok_signpost_algebra_shapes : callOk Try.prog 60 = true := by kernel_rfl
attribute [go_sem] ok_signpost_algebra_shapes
theorem ok_signpost_algebra_Is : callOk Try.prog 61 = true := by kernel_rfl
attribute [go_sem] ok_signpost_algebra_Is
theorem ok_signpost_algebra_within : callOk Try.prog 62 = true := by kernel_rfl
attribute [go_sem] ok_signpost_algebra_within
theorem ok_signpost_algebra_holds : callOk Try.prog 63 = true := by kernel_rfl
attribute [go_sem] ok_signpost_algebra_holds
theorem ok_signpost_signpostref_Names : callOk Try.prog 64 = true := by kernel_rfl
attribute [go_sem] ok_signpost_signpostref_Names
theorem ok_signpost_signpostlaw_hops : callOk Try.prog 65 = true := by kernel_rfl
attribute [go_sem] ok_signpost_signpostlaw_hops
theorem ok_signpost_algebra_asked : callOk Try.prog 66 = true := by kernel_rfl
attribute [go_sem] ok_signpost_algebra_asked
theorem ok_signpost_plan_build : callOk Try.prog 67 = true := by kernel_rfl
attribute [go_sem] ok_signpost_plan_build
theorem ok_signpost_signpostref_DeepOf : callOk Try.prog 68 = true := by kernel_rfl
attribute [go_sem] ok_signpost_signpostref_DeepOf
theorem ok_signpost_signpostref_WideOf : callOk Try.prog 69 = true := by kernel_rfl
attribute [go_sem] ok_signpost_signpostref_WideOf
theorem ok_signpost_signpostref_Built : callOk Try.prog 70 = true := by kernel_rfl
attribute [go_sem] ok_signpost_signpostref_Built
theorem ok_signpost_plan_deep : callOk Try.prog 71 = true := by kernel_rfl
attribute [go_sem] ok_signpost_plan_deep
theorem ok_signpost_plan_wide : callOk Try.prog 72 = true := by kernel_rfl
attribute [go_sem] ok_signpost_plan_wide
theorem ok_signpost_plan_check : callOk Try.prog 73 = true := by kernel_rfl
attribute [go_sem] ok_signpost_plan_check
theorem ok_signpost_signpostref_SameState : callOk Try.prog 74 = true := by kernel_rfl
attribute [go_sem] ok_signpost_signpostref_SameState
theorem ok_signpost_net_Fit : callOk Try.prog 75 = true := by kernel_rfl
attribute [go_sem] ok_signpost_net_Fit
theorem ok_signpost_table_to : callOk Try.prog 76 = true := by kernel_rfl
attribute [go_sem] ok_signpost_table_to
theorem ok_signpost_net_Check : callOk Try.prog 77 = true := by kernel_rfl
attribute [go_sem] ok_signpost_net_Check
theorem ok_slices_ContainsFuncSSSint_Sint : callOk Try.prog 78 = true := by kernel_rfl
attribute [go_sem] ok_slices_ContainsFuncSSSint_Sint
theorem ok_signpost_table_WalkD1 : callOk Try.prog 79 = true := by kernel_rfl
attribute [go_sem] ok_signpost_table_WalkD1
theorem ok_signpost_table_WalkD2 : callOk Try.prog 80 = true := by kernel_rfl
attribute [go_sem] ok_signpost_table_WalkD2
theorem ok_signpost_table_isNode : callOk Try.prog 81 = true := by kernel_rfl
attribute [go_sem] ok_signpost_table_isNode
theorem ok_slices_ContainsSSint_int : callOk Try.prog 82 = true := by kernel_rfl
attribute [go_sem] ok_slices_ContainsSSint_int
theorem ok_signpost_signpostref_RowsOf : callOk Try.prog 83 = true := by kernel_rfl
attribute [go_sem] ok_signpost_signpostref_RowsOf
theorem ok_signpost_signpostref_EdgeOf : callOk Try.prog 84 = true := by kernel_rfl
attribute [go_sem] ok_signpost_signpostref_EdgeOf
theorem ok_signpost_signpostref_Has : callOk Try.prog 85 = true := by kernel_rfl
attribute [go_sem] ok_signpost_signpostref_Has
theorem ok_signpost_signpostlaw_two : callOk Try.prog 86 = true := by kernel_rfl
attribute [go_sem] ok_signpost_signpostlaw_two
theorem ok_signpost_table_WeighD1 : callOk Try.prog 87 = true := by kernel_rfl
attribute [go_sem] ok_signpost_table_WeighD1
theorem ok_signpost_table_edge : callOk Try.prog 88 = true := by kernel_rfl
attribute [go_sem] ok_signpost_table_edge
theorem ok_signpost_algebra_Invalid : callOk Try.prog 89 = true := by kernel_rfl
attribute [go_sem] ok_signpost_algebra_Invalid
theorem ok_Psignpost_table_walker_visit : callOk Try.prog 90 = true := by kernel_rfl
attribute [go_sem] ok_Psignpost_table_walker_visit
theorem ok_signpost_signpostref_IsLawful : callOk Try.prog 91 = true := by kernel_rfl
attribute [go_sem] ok_signpost_signpostref_IsLawful
theorem ok_signpost_net_within : callOk Try.prog 92 = true := by kernel_rfl
attribute [go_sem] ok_signpost_net_within
theorem ok_signpost_net_Own : callOk Try.prog 93 = true := by kernel_rfl
attribute [go_sem] ok_signpost_net_Own
theorem ok_signpost_net_Next : callOk Try.prog 94 = true := by kernel_rfl
attribute [go_sem] ok_signpost_net_Next
theorem ok_signpost_net_Same : callOk Try.prog 95 = true := by kernel_rfl
attribute [go_sem] ok_signpost_net_Same
theorem ok_signpost_signpostref_RoundOf : callOk Try.prog 96 = true := by kernel_rfl
attribute [go_sem] ok_signpost_signpostref_RoundOf
theorem ok_signpost_net_Begin : callOk Try.prog 97 = true := by kernel_rfl
attribute [go_sem] ok_signpost_net_Begin
theorem ok_slices_IndexFuncSSint_int : callOk Try.prog 98 = true := by kernel_rfl
attribute [go_sem] ok_slices_IndexFuncSSint_int
theorem ok_signpost_algebra_holdsD1 : callOk Try.prog 99 = true := by kernel_rfl
attribute [go_sem] ok_signpost_algebra_holdsD1
theorem ok_signpost_algebra_broken : callOk Try.prog 100 = true := by kernel_rfl
attribute [go_sem] ok_signpost_algebra_broken
theorem ok_signpost_plan_simple : callOk Try.prog 101 = true := by kernel_rfl
attribute [go_sem] ok_signpost_plan_simple
theorem ok_signpost_plan_buildD1 : callOk Try.prog 102 = true := by kernel_rfl
attribute [go_sem] ok_signpost_plan_buildD1
theorem ok_signpost_plan_buildD2 : callOk Try.prog 103 = true := by kernel_rfl
attribute [go_sem] ok_signpost_plan_buildD2
theorem ok_signpost_plan_pair : callOk Try.prog 104 = true := by kernel_rfl
attribute [go_sem] ok_signpost_plan_pair
theorem ok_signpost_signpostref_PairOf : callOk Try.prog 105 = true := by kernel_rfl
attribute [go_sem] ok_signpost_signpostref_PairOf
theorem ok_signpost_plan_own : callOk Try.prog 106 = true := by kernel_rfl
attribute [go_sem] ok_signpost_plan_own
theorem ok_signpost_net_Rows : callOk Try.prog 107 = true := by kernel_rfl
attribute [go_sem] ok_signpost_net_Rows
theorem ok_signpost_algebra_Lawful : callOk Try.prog 108 = true := by kernel_rfl
attribute [go_sem] ok_signpost_algebra_Lawful
theorem ok_signpost_net_links : callOk Try.prog 109 = true := by kernel_rfl
attribute [go_sem] ok_signpost_net_links
theorem ok_slices_IndexFuncSSSint_Sint : callOk Try.prog 110 = true := by kernel_rfl
attribute [go_sem] ok_slices_IndexFuncSSSint_Sint
theorem ok_slices_IndexSSint_int : callOk Try.prog 111 = true := by kernel_rfl
attribute [go_sem] ok_slices_IndexSSint_int
theorem ok_slices_CloneSSint_int : callOk Try.prog 112 = true := by kernel_rfl
attribute [go_sem] ok_slices_CloneSSint_int
theorem ok_signpost_net_Look : callOk Try.prog 113 = true := by kernel_rfl
attribute [go_sem] ok_signpost_net_Look
theorem ok_signpost_net_NextD1 : callOk Try.prog 114 = true := by kernel_rfl
attribute [go_sem] ok_signpost_net_NextD1
theorem ok_slices_EqualFuncSSSint_SSint_Sint_Sint : callOk Try.prog 115 = true := by kernel_rfl
attribute [go_sem] ok_slices_EqualFuncSSSint_SSint_Sint_Sint
theorem ok_slices_EqualSSint_int : callOk Try.prog 116 = true := by kernel_rfl
attribute [go_sem] ok_slices_EqualSSint_int
theorem ok_signpost_signpostref_RouteOf : callOk Try.prog 117 = true := by kernel_rfl
attribute [go_sem] ok_signpost_signpostref_RouteOf
theorem ok_signpost_signpostref_Column : callOk Try.prog 118 = true := by kernel_rfl
attribute [go_sem] ok_signpost_signpostref_Column
theorem ok_signpost_net_Trivial : callOk Try.prog 119 = true := by kernel_rfl
attribute [go_sem] ok_signpost_net_Trivial
theorem ok_signpost_algebra_cases : callOk Try.prog 120 = true := by kernel_rfl
attribute [go_sem] ok_signpost_algebra_cases
theorem ok_signpost_plan_table : callOk Try.prog 121 = true := by kernel_rfl
attribute [go_sem] ok_signpost_plan_table
theorem ok_signpost_plan_simpleD1 : callOk Try.prog 122 = true := by kernel_rfl
attribute [go_sem] ok_signpost_plan_simpleD1
theorem ok_signpost_plan_simpleD2 : callOk Try.prog 123 = true := by kernel_rfl
attribute [go_sem] ok_signpost_plan_simpleD2
theorem ok_signpost_plan_pairD1 : callOk Try.prog 124 = true := by kernel_rfl
attribute [go_sem] ok_signpost_plan_pairD1
theorem ok_signpost_plan_pairD2 : callOk Try.prog 125 = true := by kernel_rfl
attribute [go_sem] ok_signpost_plan_pairD2
theorem ok_signpost_plan_pairD3 : callOk Try.prog 126 = true := by kernel_rfl
attribute [go_sem] ok_signpost_plan_pairD3
theorem ok_signpost_signpostref_PairOfD1 : callOk Try.prog 127 = true := by kernel_rfl
attribute [go_sem] ok_signpost_signpostref_PairOfD1
theorem ok_signpost_plan_within : callOk Try.prog 128 = true := by kernel_rfl
attribute [go_sem] ok_signpost_plan_within
theorem ok_signpost_plan_parts : callOk Try.prog 129 = true := by kernel_rfl
attribute [go_sem] ok_signpost_plan_parts
theorem ok_signpost_plan_edges : callOk Try.prog 130 = true := by kernel_rfl
attribute [go_sem] ok_signpost_plan_edges
theorem ok_signpost_plan_size : callOk Try.prog 131 = true := by kernel_rfl
attribute [go_sem] ok_signpost_plan_size
theorem ok_signpost_net_RowsD1 : callOk Try.prog 132 = true := by kernel_rfl
attribute [go_sem] ok_signpost_net_RowsD1
theorem ok_signpost_net_RowsD2 : callOk Try.prog 133 = true := by kernel_rfl
attribute [go_sem] ok_signpost_net_RowsD2
theorem ok_slices_RepeatSSint_int : callOk Try.prog 134 = true := by kernel_rfl
attribute [go_sem] ok_slices_RepeatSSint_int
theorem ok_signpost_algebra_casesD1 : callOk Try.prog 135 = true := by kernel_rfl
attribute [go_sem] ok_signpost_algebra_casesD1
theorem ok_signpost_algebra_upTo : callOk Try.prog 136 = true := by kernel_rfl
attribute [go_sem] ok_signpost_algebra_upTo
theorem tab_mixed : Try.prog.follows .mixedOrders = true := by kernel_rfl
end Go.Proofs.Ytephecognbbaoaa
