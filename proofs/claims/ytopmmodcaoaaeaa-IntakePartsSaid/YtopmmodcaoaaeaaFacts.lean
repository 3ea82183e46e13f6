/- Facts on the types and functions of this translation, printed by a program of this claim (facts.py). No condition. -/
import Derived.Test.YtopmmodcaoaaeaaRows
import Derived.Test.YtopmmodcaoaaeaaSyR
namespace Go.Proofs.Ytopmmodcaoaaeaa
set_option linter.unusedVariables false
open Sy
@[go_sem] theorem fact_sz1 : szB Try.prog 1 = some 1 := by kernel_rfl
@[go_sem] theorem fact_nz1 : nzB Try.prog 1 = true := by kernel_rfl
@[go_sem] theorem fact_ag1 : aggO Try.prog 1 = some false := by kernel_rfl
@[go_sem] theorem fact_noint1 : intB Try.prog 1 = none := by kernel_rfl
@[go_sem] theorem fact_noelem1 : elemB Try.prog 1 = none := by kernel_rfl
@[go_sem] theorem fact_sz2 : szB Try.prog 2 = some 1 := by kernel_rfl
@[go_sem] theorem fact_nz2 : nzB Try.prog 2 = true := by kernel_rfl
@[go_sem] theorem fact_ag2 : aggO Try.prog 2 = some false := by kernel_rfl
@[go_sem] theorem fact_int2 : intB Try.prog 2 = some .i64 := by kernel_rfl
@[go_sem] theorem fact_noelem2 : elemB Try.prog 2 = none := by kernel_rfl
@[go_sem] theorem fact_el2 : elI Try.prog 2 = some (1, 8) := by kernel_rfl
@[go_sem] theorem fact_zero2 : zeroOf Try.prog 2 = some (.lit (.int .i64 0)) := by kernel_rfl
@[go_sem] theorem fact_sz3 : szB Try.prog 3 = some 1 := by kernel_rfl
@[go_sem] theorem fact_nz3 : nzB Try.prog 3 = true := by kernel_rfl
@[go_sem] theorem fact_ag3 : aggO Try.prog 3 = some false := by kernel_rfl
@[go_sem] theorem fact_int3 : intB Try.prog 3 = some .i64 := by kernel_rfl
@[go_sem] theorem fact_noelem3 : elemB Try.prog 3 = none := by kernel_rfl
@[go_sem] theorem fact_el3 : elI Try.prog 3 = some (1, 8) := by kernel_rfl
@[go_sem] theorem fact_zero3 : zeroOf Try.prog 3 = some (.lit (.int .i64 0)) := by kernel_rfl
@[go_sem] theorem fact_sz4 : szB Try.prog 4 = some 1 := by kernel_rfl
@[go_sem] theorem fact_nz4 : nzB Try.prog 4 = true := by kernel_rfl
@[go_sem] theorem fact_ag4 : aggO Try.prog 4 = some false := by kernel_rfl
@[go_sem] theorem fact_noint4 : intB Try.prog 4 = none := by kernel_rfl
@[go_sem] theorem fact_bool4 : boolB Try.prog 4 = true := by kernel_rfl
@[go_sem] theorem fact_noelem4 : elemB Try.prog 4 = none := by kernel_rfl
@[go_sem] theorem fact_el4 : elI Try.prog 4 = some (1, 1) := by kernel_rfl
@[go_sem] theorem fact_zero4 : zeroOf Try.prog 4 = some (.lit (.bool false)) := by kernel_rfl
@[go_sem] theorem fact_sz5 : szB Try.prog 5 = some 1 := by kernel_rfl
@[go_sem] theorem fact_nz5 : nzB Try.prog 5 = true := by kernel_rfl
@[go_sem] theorem fact_ag5 : aggO Try.prog 5 = some false := by kernel_rfl
@[go_sem] theorem fact_int5 : intB Try.prog 5 = some .u8 := by kernel_rfl
@[go_sem] theorem fact_noelem5 : elemB Try.prog 5 = none := by kernel_rfl
@[go_sem] theorem fact_el5 : elI Try.prog 5 = some (1, 1) := by kernel_rfl
@[go_sem] theorem fact_zero5 : zeroOf Try.prog 5 = some (.lit (.int .u8 0)) := by kernel_rfl
@[go_sem] theorem fact_sz6 : szB Try.prog 6 = some 1 := by kernel_rfl
@[go_sem] theorem fact_nz6 : nzB Try.prog 6 = true := by kernel_rfl
@[go_sem] theorem fact_ag6 : aggO Try.prog 6 = some false := by kernel_rfl
@[go_sem] theorem fact_int6 : intB Try.prog 6 = some .u8 := by kernel_rfl
@[go_sem] theorem fact_noelem6 : elemB Try.prog 6 = none := by kernel_rfl
@[go_sem] theorem fact_el6 : elI Try.prog 6 = some (1, 1) := by kernel_rfl
@[go_sem] theorem fact_zero6 : zeroOf Try.prog 6 = some (.lit (.int .u8 0)) := by kernel_rfl
@[go_sem] theorem fact_sz7 : szB Try.prog 7 = some 4 := by kernel_rfl
@[go_sem] theorem fact_nz7 : nzB Try.prog 7 = true := by kernel_rfl
@[go_sem] theorem fact_ag7 : aggO Try.prog 7 = some true := by kernel_rfl
@[go_sem] theorem fact_noint7 : intB Try.prog 7 = none := by kernel_rfl
@[go_sem] theorem fact_noelem7 : elemB Try.prog 7 = none := by kernel_rfl
@[go_sem] theorem fact_noarr7 : arrB Try.prog 7 = none := by kernel_rfl
@[go_sem] theorem fact_fld7_0 : fldB Try.prog 7 0 = some (0, 2) := by kernel_rfl
@[go_sem] theorem fact_fld7_1 : fldB Try.prog 7 1 = some (1, 3) := by kernel_rfl
@[go_sem] theorem fact_fld7_2 : fldB Try.prog 7 2 = some (2, 4) := by kernel_rfl
@[go_sem] theorem fact_fld7_3 : fldB Try.prog 7 3 = some (3, 6) := by kernel_rfl
@[go_sem] theorem fact_pl7 : plB Try.prog 7 = some [(0, 1), (1, 1), (2, 1), (3, 1)] := by kernel_rfl
@[go_sem] theorem fact_flds7 : fldsB Try.prog 7 = some [(0, 2), (1, 3), (2, 4), (3, 6)] := by kernel_rfl
@[go_sem] theorem fact_sz8 : szB Try.prog 8 = some 4 := by kernel_rfl
@[go_sem] theorem fact_nz8 : nzB Try.prog 8 = true := by kernel_rfl
@[go_sem] theorem fact_ag8 : aggO Try.prog 8 = some true := by kernel_rfl
@[go_sem] theorem fact_noint8 : intB Try.prog 8 = none := by kernel_rfl
@[go_sem] theorem fact_noelem8 : elemB Try.prog 8 = none := by kernel_rfl
@[go_sem] theorem fact_noarr8 : arrB Try.prog 8 = none := by kernel_rfl
@[go_sem] theorem fact_fld8_0 : fldB Try.prog 8 0 = some (0, 2) := by kernel_rfl
@[go_sem] theorem fact_fld8_1 : fldB Try.prog 8 1 = some (1, 3) := by kernel_rfl
@[go_sem] theorem fact_fld8_2 : fldB Try.prog 8 2 = some (2, 4) := by kernel_rfl
@[go_sem] theorem fact_fld8_3 : fldB Try.prog 8 3 = some (3, 6) := by kernel_rfl
@[go_sem] theorem fact_pl8 : plB Try.prog 8 = some [(0, 1), (1, 1), (2, 1), (3, 1)] := by kernel_rfl
@[go_sem] theorem fact_flds8 : fldsB Try.prog 8 = some [(0, 2), (1, 3), (2, 4), (3, 6)] := by kernel_rfl
@[go_sem] theorem fact_sz9 : szB Try.prog 9 = some 1 := by kernel_rfl
@[go_sem] theorem fact_nz9 : nzB Try.prog 9 = true := by kernel_rfl
@[go_sem] theorem fact_ag9 : aggO Try.prog 9 = some false := by kernel_rfl
@[go_sem] theorem fact_noint9 : intB Try.prog 9 = none := by kernel_rfl
@[go_sem] theorem fact_str9 : strB Try.prog 9 = true := by kernel_rfl
@[go_sem] theorem fact_noelem9 : elemB Try.prog 9 = none := by kernel_rfl
@[go_sem] theorem fact_el9 : elI Try.prog 9 = some (1, 16) := by kernel_rfl
@[go_sem] theorem fact_zero9 : zeroOf Try.prog 9 = some (.lit (.string ByteArray.empty)) := by kernel_rfl
@[go_sem] theorem fact_sz10 : szB Try.prog 10 = some 1 := by kernel_rfl
@[go_sem] theorem fact_nz10 : nzB Try.prog 10 = true := by kernel_rfl
@[go_sem] theorem fact_ag10 : aggO Try.prog 10 = some false := by kernel_rfl
@[go_sem] theorem fact_noint10 : intB Try.prog 10 = none := by kernel_rfl
@[go_sem] theorem fact_str10 : strB Try.prog 10 = true := by kernel_rfl
@[go_sem] theorem fact_noelem10 : elemB Try.prog 10 = none := by kernel_rfl
@[go_sem] theorem fact_el10 : elI Try.prog 10 = some (1, 16) := by kernel_rfl
@[go_sem] theorem fact_zero10 : zeroOf Try.prog 10 = some (.lit (.string ByteArray.empty)) := by kernel_rfl
@[go_sem] theorem fact_sz11 : szB Try.prog 11 = some 1 := by kernel_rfl
@[go_sem] theorem fact_nz11 : nzB Try.prog 11 = true := by kernel_rfl
@[go_sem] theorem fact_ag11 : aggO Try.prog 11 = some false := by kernel_rfl
@[go_sem] theorem fact_noint11 : intB Try.prog 11 = none := by kernel_rfl
@[go_sem] theorem fact_str11 : strB Try.prog 11 = true := by kernel_rfl
@[go_sem] theorem fact_noelem11 : elemB Try.prog 11 = none := by kernel_rfl
@[go_sem] theorem fact_el11 : elI Try.prog 11 = some (1, 16) := by kernel_rfl
@[go_sem] theorem fact_zero11 : zeroOf Try.prog 11 = some (.lit (.string ByteArray.empty)) := by kernel_rfl
@[go_sem] theorem fact_sz12 : szB Try.prog 12 = some 1 := by kernel_rfl
@[go_sem] theorem fact_nz12 : nzB Try.prog 12 = true := by kernel_rfl
@[go_sem] theorem fact_ag12 : aggO Try.prog 12 = some false := by kernel_rfl
@[go_sem] theorem fact_int12 : intB Try.prog 12 = some .u64 := by kernel_rfl
@[go_sem] theorem fact_noelem12 : elemB Try.prog 12 = none := by kernel_rfl
@[go_sem] theorem fact_el12 : elI Try.prog 12 = some (1, 8) := by kernel_rfl
@[go_sem] theorem fact_zero12 : zeroOf Try.prog 12 = some (.lit (.int .u64 0)) := by kernel_rfl
@[go_sem] theorem fact_sz13 : szB Try.prog 13 = some 2 := by kernel_rfl
@[go_sem] theorem fact_nz13 : nzB Try.prog 13 = true := by kernel_rfl
@[go_sem] theorem fact_ag13 : aggO Try.prog 13 = some true := by kernel_rfl
@[go_sem] theorem fact_noint13 : intB Try.prog 13 = none := by kernel_rfl
@[go_sem] theorem fact_noelem13 : elemB Try.prog 13 = none := by kernel_rfl
@[go_sem] theorem fact_noarr13 : arrB Try.prog 13 = none := by kernel_rfl
@[go_sem] theorem fact_fld13_0 : fldB Try.prog 13 0 = some (0, 9) := by kernel_rfl
@[go_sem] theorem fact_fld13_1 : fldB Try.prog 13 1 = some (1, 12) := by kernel_rfl
@[go_sem] theorem fact_pl13 : plB Try.prog 13 = some [(0, 1), (1, 1)] := by kernel_rfl
@[go_sem] theorem fact_flds13 : fldsB Try.prog 13 = some [(0, 9), (1, 12)] := by kernel_rfl
@[go_sem] theorem fact_sz14 : szB Try.prog 14 = some 2 := by kernel_rfl
@[go_sem] theorem fact_nz14 : nzB Try.prog 14 = true := by kernel_rfl
@[go_sem] theorem fact_ag14 : aggO Try.prog 14 = some true := by kernel_rfl
@[go_sem] theorem fact_noint14 : intB Try.prog 14 = none := by kernel_rfl
@[go_sem] theorem fact_noelem14 : elemB Try.prog 14 = none := by kernel_rfl
@[go_sem] theorem fact_noarr14 : arrB Try.prog 14 = none := by kernel_rfl
@[go_sem] theorem fact_fld14_0 : fldB Try.prog 14 0 = some (0, 9) := by kernel_rfl
@[go_sem] theorem fact_fld14_1 : fldB Try.prog 14 1 = some (1, 12) := by kernel_rfl
@[go_sem] theorem fact_pl14 : plB Try.prog 14 = some [(0, 1), (1, 1)] := by kernel_rfl
@[go_sem] theorem fact_flds14 : fldsB Try.prog 14 = some [(0, 9), (1, 12)] := by kernel_rfl
@[go_sem] theorem fact_sz15 : szB Try.prog 15 = some 1 := by kernel_rfl
@[go_sem] theorem fact_nz15 : nzB Try.prog 15 = true := by kernel_rfl
@[go_sem] theorem fact_ag15 : aggO Try.prog 15 = some false := by kernel_rfl
@[go_sem] theorem fact_noint15 : intB Try.prog 15 = none := by kernel_rfl
@[go_sem] theorem fact_noelem15 : elemB Try.prog 15 = none := by kernel_rfl
@[go_sem] theorem fact_el15 : elI Try.prog 15 = some (1, 8) := by kernel_rfl
@[go_sem] theorem fact_zero15 : zeroOf Try.prog 15 = some (.lit (.pointer none)) := by kernel_rfl
@[go_sem] theorem fact_sz16 : szB Try.prog 16 = some 1 := by kernel_rfl
@[go_sem] theorem fact_nz16 : nzB Try.prog 16 = true := by kernel_rfl
@[go_sem] theorem fact_ag16 : aggO Try.prog 16 = some false := by kernel_rfl
@[go_sem] theorem fact_noint16 : intB Try.prog 16 = none := by kernel_rfl
@[go_sem] theorem fact_noelem16 : elemB Try.prog 16 = none := by kernel_rfl
@[go_sem] theorem fact_el16 : elI Try.prog 16 = some (1, 8) := by kernel_rfl
@[go_sem] theorem fact_zero16 : zeroOf Try.prog 16 = some (.lit (.pointer none)) := by kernel_rfl
@[go_sem] theorem fact_sz17 : szB Try.prog 17 = some 1 := by kernel_rfl
@[go_sem] theorem fact_nz17 : nzB Try.prog 17 = true := by kernel_rfl
@[go_sem] theorem fact_ag17 : aggO Try.prog 17 = some false := by kernel_rfl
@[go_sem] theorem fact_noint17 : intB Try.prog 17 = none := by kernel_rfl
@[go_sem] theorem fact_noelem17 : elemB Try.prog 17 = none := by kernel_rfl
@[go_sem] theorem fact_el17 : elI Try.prog 17 = some (1, 8) := by kernel_rfl
@[go_sem] theorem fact_zero17 : zeroOf Try.prog 17 = some (.lit (.pointer none)) := by kernel_rfl
@[go_sem] theorem fact_sz18 : szB Try.prog 18 = some 1 := by kernel_rfl
@[go_sem] theorem fact_nz18 : nzB Try.prog 18 = true := by kernel_rfl
@[go_sem] theorem fact_ag18 : aggO Try.prog 18 = some true := by kernel_rfl
@[go_sem] theorem fact_noint18 : intB Try.prog 18 = none := by kernel_rfl
@[go_sem] theorem fact_noelem18 : elemB Try.prog 18 = none := by kernel_rfl
@[go_sem] theorem fact_noarr18 : arrB Try.prog 18 = none := by kernel_rfl
@[go_sem] theorem fact_fld18_0 : fldB Try.prog 18 0 = some (0, 17) := by kernel_rfl
@[go_sem] theorem fact_pl18 : plB Try.prog 18 = some [(0, 1)] := by kernel_rfl
@[go_sem] theorem fact_flds18 : fldsB Try.prog 18 = some [(0, 17)] := by kernel_rfl
@[go_sem] theorem fact_sz19 : szB Try.prog 19 = some 1 := by kernel_rfl
@[go_sem] theorem fact_nz19 : nzB Try.prog 19 = true := by kernel_rfl
@[go_sem] theorem fact_ag19 : aggO Try.prog 19 = some true := by kernel_rfl
@[go_sem] theorem fact_noint19 : intB Try.prog 19 = none := by kernel_rfl
@[go_sem] theorem fact_noelem19 : elemB Try.prog 19 = none := by kernel_rfl
@[go_sem] theorem fact_noarr19 : arrB Try.prog 19 = none := by kernel_rfl
@[go_sem] theorem fact_fld19_0 : fldB Try.prog 19 0 = some (0, 17) := by kernel_rfl
@[go_sem] theorem fact_pl19 : plB Try.prog 19 = some [(0, 1)] := by kernel_rfl
@[go_sem] theorem fact_flds19 : fldsB Try.prog 19 = some [(0, 17)] := by kernel_rfl
@[go_sem] theorem fact_sz21 : szB Try.prog 21 = some 1 := by kernel_rfl
@[go_sem] theorem fact_nz21 : nzB Try.prog 21 = true := by kernel_rfl
@[go_sem] theorem fact_ag21 : aggO Try.prog 21 = some false := by kernel_rfl
@[go_sem] theorem fact_int21 : intB Try.prog 21 = some .i32 := by kernel_rfl
@[go_sem] theorem fact_noelem21 : elemB Try.prog 21 = none := by kernel_rfl
@[go_sem] theorem fact_el21 : elI Try.prog 21 = some (1, 4) := by kernel_rfl
@[go_sem] theorem fact_zero21 : zeroOf Try.prog 21 = some (.lit (.int .i32 0)) := by kernel_rfl
@[go_sem] theorem fact_sz22 : szB Try.prog 22 = some 1 := by kernel_rfl
@[go_sem] theorem fact_nz22 : nzB Try.prog 22 = true := by kernel_rfl
@[go_sem] theorem fact_ag22 : aggO Try.prog 22 = some false := by kernel_rfl
@[go_sem] theorem fact_noint22 : intB Try.prog 22 = none := by kernel_rfl
@[go_sem] theorem fact_elem22 : elemB Try.prog 22 = some 3 := by kernel_rfl
@[go_sem] theorem fact_el22 : elI Try.prog 22 = some (1, 24) := by kernel_rfl
@[go_sem] theorem fact_zero22 : zeroOf Try.prog 22 = some (.lit (.slice none 0 0)) := by kernel_rfl
@[go_sem] theorem fact_sz23 : szB Try.prog 23 = some 1 := by kernel_rfl
@[go_sem] theorem fact_nz23 : nzB Try.prog 23 = true := by kernel_rfl
@[go_sem] theorem fact_ag23 : aggO Try.prog 23 = some false := by kernel_rfl
@[go_sem] theorem fact_noint23 : intB Try.prog 23 = none := by kernel_rfl
@[go_sem] theorem fact_noelem23 : elemB Try.prog 23 = none := by kernel_rfl
@[go_sem] theorem fact_el23 : elI Try.prog 23 = some (1, 8) := by kernel_rfl
@[go_sem] theorem fact_zero23 : zeroOf Try.prog 23 = some (.lit (.pointer none)) := by kernel_rfl
@[go_sem] theorem fact_sz24 : szB Try.prog 24 = some 1 := by kernel_rfl
@[go_sem] theorem fact_nz24 : nzB Try.prog 24 = true := by kernel_rfl
@[go_sem] theorem fact_ag24 : aggO Try.prog 24 = some false := by kernel_rfl
@[go_sem] theorem fact_noint24 : intB Try.prog 24 = none := by kernel_rfl
@[go_sem] theorem fact_noelem24 : elemB Try.prog 24 = none := by kernel_rfl
@[go_sem] theorem fact_sz25 : szB Try.prog 25 = some 1 := by kernel_rfl
@[go_sem] theorem fact_nz25 : nzB Try.prog 25 = true := by kernel_rfl
@[go_sem] theorem fact_ag25 : aggO Try.prog 25 = some false := by kernel_rfl
@[go_sem] theorem fact_noint25 : intB Try.prog 25 = none := by kernel_rfl
@[go_sem] theorem fact_noelem25 : elemB Try.prog 25 = none := by kernel_rfl
@[go_sem] theorem fact_sz26 : szB Try.prog 26 = some 1 := by kernel_rfl
@[go_sem] theorem fact_nz26 : nzB Try.prog 26 = true := by kernel_rfl
@[go_sem] theorem fact_ag26 : aggO Try.prog 26 = some false := by kernel_rfl
@[go_sem] theorem fact_noint26 : intB Try.prog 26 = none := by kernel_rfl
@[go_sem] theorem fact_elem26 : elemB Try.prog 26 = some 5 := by kernel_rfl
@[go_sem] theorem fact_el26 : elI Try.prog 26 = some (1, 24) := by kernel_rfl
@[go_sem] theorem fact_zero26 : zeroOf Try.prog 26 = some (.lit (.slice none 0 0)) := by kernel_rfl
@[go_sem] theorem fact_sz27 : szB Try.prog 27 = some 1 := by kernel_rfl
@[go_sem] theorem fact_nz27 : nzB Try.prog 27 = true := by kernel_rfl
@[go_sem] theorem fact_ag27 : aggO Try.prog 27 = some false := by kernel_rfl
@[go_sem] theorem fact_noint27 : intB Try.prog 27 = none := by kernel_rfl
@[go_sem] theorem fact_elem27 : elemB Try.prog 27 = some 47 := by kernel_rfl
@[go_sem] theorem fact_el27 : elI Try.prog 27 = some (1, 24) := by kernel_rfl
@[go_sem] theorem fact_zero27 : zeroOf Try.prog 27 = some (.lit (.slice none 0 0)) := by kernel_rfl
@[go_sem] theorem fact_sz28 : szB Try.prog 28 = some 3 := by kernel_rfl
@[go_sem] theorem fact_nz28 : nzB Try.prog 28 = true := by kernel_rfl
@[go_sem] theorem fact_ag28 : aggO Try.prog 28 = some true := by kernel_rfl
@[go_sem] theorem fact_noint28 : intB Try.prog 28 = none := by kernel_rfl
@[go_sem] theorem fact_noelem28 : elemB Try.prog 28 = none := by kernel_rfl
@[go_sem] theorem fact_noarr28 : arrB Try.prog 28 = none := by kernel_rfl
@[go_sem] theorem fact_fld28_0 : fldB Try.prog 28 0 = some (0, 3) := by kernel_rfl
@[go_sem] theorem fact_fld28_1 : fldB Try.prog 28 1 = some (1, 26) := by kernel_rfl
@[go_sem] theorem fact_fld28_2 : fldB Try.prog 28 2 = some (2, 27) := by kernel_rfl
@[go_sem] theorem fact_pl28 : plB Try.prog 28 = some [(0, 1), (1, 1), (2, 1)] := by kernel_rfl
@[go_sem] theorem fact_flds28 : fldsB Try.prog 28 = some [(0, 3), (1, 26), (2, 27)] := by kernel_rfl
@[go_sem] theorem fact_held28 : Try.prog.stoodInHeld 28 = false := by kernel_rfl
@[go_sem] theorem fact_guard28 : Try.prog.eqGuardType Try.prog.depth 28 = false := by kernel_rfl
@[go_sem] theorem fact_el28 : elI Try.prog 28 = some (3, 56) := by kernel_rfl
@[go_sem] theorem fact_zero28 : zeroOf Try.prog 28 = some (.agg [.lit (.int .i64 0), .lit (.slice none 0 0), .lit (.slice none 0 0)]) := by kernel_rfl
@[go_sem] theorem fact_sz29 : szB Try.prog 29 = some 3 := by kernel_rfl
@[go_sem] theorem fact_nz29 : nzB Try.prog 29 = true := by kernel_rfl
@[go_sem] theorem fact_ag29 : aggO Try.prog 29 = some true := by kernel_rfl
@[go_sem] theorem fact_noint29 : intB Try.prog 29 = none := by kernel_rfl
@[go_sem] theorem fact_noelem29 : elemB Try.prog 29 = none := by kernel_rfl
@[go_sem] theorem fact_noarr29 : arrB Try.prog 29 = none := by kernel_rfl
@[go_sem] theorem fact_fld29_0 : fldB Try.prog 29 0 = some (0, 3) := by kernel_rfl
@[go_sem] theorem fact_fld29_1 : fldB Try.prog 29 1 = some (1, 26) := by kernel_rfl
@[go_sem] theorem fact_fld29_2 : fldB Try.prog 29 2 = some (2, 27) := by kernel_rfl
@[go_sem] theorem fact_pl29 : plB Try.prog 29 = some [(0, 1), (1, 1), (2, 1)] := by kernel_rfl
@[go_sem] theorem fact_flds29 : fldsB Try.prog 29 = some [(0, 3), (1, 26), (2, 27)] := by kernel_rfl
@[go_sem] theorem fact_held29 : Try.prog.stoodInHeld 29 = false := by kernel_rfl
@[go_sem] theorem fact_guard29 : Try.prog.eqGuardType Try.prog.depth 29 = false := by kernel_rfl
@[go_sem] theorem fact_el29 : elI Try.prog 29 = some (3, 56) := by kernel_rfl
@[go_sem] theorem fact_zero29 : zeroOf Try.prog 29 = some (.agg [.lit (.int .i64 0), .lit (.slice none 0 0), .lit (.slice none 0 0)]) := by kernel_rfl
@[go_sem] theorem fact_sz30 : szB Try.prog 30 = some 1 := by kernel_rfl
@[go_sem] theorem fact_nz30 : nzB Try.prog 30 = true := by kernel_rfl
@[go_sem] theorem fact_ag30 : aggO Try.prog 30 = some false := by kernel_rfl
@[go_sem] theorem fact_int30 : intB Try.prog 30 = some .i64 := by kernel_rfl
@[go_sem] theorem fact_noelem30 : elemB Try.prog 30 = none := by kernel_rfl
@[go_sem] theorem fact_el30 : elI Try.prog 30 = some (1, 8) := by kernel_rfl
@[go_sem] theorem fact_zero30 : zeroOf Try.prog 30 = some (.lit (.int .i64 0)) := by kernel_rfl
@[go_sem] theorem fact_sz32 : szB Try.prog 32 = some 1 := by kernel_rfl
@[go_sem] theorem fact_nz32 : nzB Try.prog 32 = true := by kernel_rfl
@[go_sem] theorem fact_ag32 : aggO Try.prog 32 = some false := by kernel_rfl
@[go_sem] theorem fact_noint32 : intB Try.prog 32 = none := by kernel_rfl
@[go_sem] theorem fact_noelem32 : elemB Try.prog 32 = none := by kernel_rfl
@[go_sem] theorem fact_sz33 : szB Try.prog 33 = some 1 := by kernel_rfl
@[go_sem] theorem fact_nz33 : nzB Try.prog 33 = true := by kernel_rfl
@[go_sem] theorem fact_ag33 : aggO Try.prog 33 = some false := by kernel_rfl
@[go_sem] theorem fact_noint33 : intB Try.prog 33 = none := by kernel_rfl
@[go_sem] theorem fact_elem33 : elemB Try.prog 33 = some 4 := by kernel_rfl
@[go_sem] theorem fact_el33 : elI Try.prog 33 = some (1, 24) := by kernel_rfl
@[go_sem] theorem fact_zero33 : zeroOf Try.prog 33 = some (.lit (.slice none 0 0)) := by kernel_rfl
@[go_sem] theorem fact_sz34 : szB Try.prog 34 = some 1 := by kernel_rfl
@[go_sem] theorem fact_nz34 : nzB Try.prog 34 = true := by kernel_rfl
@[go_sem] theorem fact_ag34 : aggO Try.prog 34 = some false := by kernel_rfl
@[go_sem] theorem fact_noint34 : intB Try.prog 34 = none := by kernel_rfl
@[go_sem] theorem fact_elem34 : elemB Try.prog 34 = some 38 := by kernel_rfl
@[go_sem] theorem fact_el34 : elI Try.prog 34 = some (1, 24) := by kernel_rfl
@[go_sem] theorem fact_zero34 : zeroOf Try.prog 34 = some (.lit (.slice none 0 0)) := by kernel_rfl
@[go_sem] theorem fact_sz36 : szB Try.prog 36 = some 1 := by kernel_rfl
@[go_sem] theorem fact_nz36 : nzB Try.prog 36 = true := by kernel_rfl
@[go_sem] theorem fact_ag36 : aggO Try.prog 36 = some false := by kernel_rfl
@[go_sem] theorem fact_noint36 : intB Try.prog 36 = none := by kernel_rfl
@[go_sem] theorem fact_noelem36 : elemB Try.prog 36 = none := by kernel_rfl
@[go_sem] theorem fact_sz37 : szB Try.prog 37 = some 6 := by kernel_rfl
@[go_sem] theorem fact_nz37 : nzB Try.prog 37 = true := by kernel_rfl
@[go_sem] theorem fact_ag37 : aggO Try.prog 37 = some true := by kernel_rfl
@[go_sem] theorem fact_noint37 : intB Try.prog 37 = none := by kernel_rfl
@[go_sem] theorem fact_noelem37 : elemB Try.prog 37 = none := by kernel_rfl
@[go_sem] theorem fact_noarr37 : arrB Try.prog 37 = none := by kernel_rfl
@[go_sem] theorem fact_fld37_0 : fldB Try.prog 37 0 = some (0, 3) := by kernel_rfl
@[go_sem] theorem fact_fld37_1 : fldB Try.prog 37 1 = some (1, 3) := by kernel_rfl
@[go_sem] theorem fact_fld37_2 : fldB Try.prog 37 2 = some (2, 3) := by kernel_rfl
@[go_sem] theorem fact_fld37_3 : fldB Try.prog 37 3 = some (3, 3) := by kernel_rfl
@[go_sem] theorem fact_fld37_4 : fldB Try.prog 37 4 = some (4, 3) := by kernel_rfl
@[go_sem] theorem fact_fld37_5 : fldB Try.prog 37 5 = some (5, 22) := by kernel_rfl
@[go_sem] theorem fact_pl37 : plB Try.prog 37 = some [(0, 1), (1, 1), (2, 1), (3, 1), (4, 1), (5, 1)] := by kernel_rfl
@[go_sem] theorem fact_flds37 : fldsB Try.prog 37 = some [(0, 3), (1, 3), (2, 3), (3, 3), (4, 3), (5, 22)] := by kernel_rfl
@[go_sem] theorem fact_held37 : Try.prog.stoodInHeld 37 = false := by kernel_rfl
@[go_sem] theorem fact_guard37 : Try.prog.eqGuardType Try.prog.depth 37 = false := by kernel_rfl
@[go_sem] theorem fact_el37 : elI Try.prog 37 = some (6, 64) := by kernel_rfl
@[go_sem] theorem fact_zero37 : zeroOf Try.prog 37 = some (.agg [.lit (.int .i64 0), .lit (.int .i64 0), .lit (.int .i64 0), .lit (.int .i64 0), .lit (.int .i64 0), .lit (.slice none 0 0)]) := by kernel_rfl
@[go_sem] theorem fact_sz38 : szB Try.prog 38 = some 6 := by kernel_rfl
@[go_sem] theorem fact_nz38 : nzB Try.prog 38 = true := by kernel_rfl
@[go_sem] theorem fact_ag38 : aggO Try.prog 38 = some true := by kernel_rfl
@[go_sem] theorem fact_noint38 : intB Try.prog 38 = none := by kernel_rfl
@[go_sem] theorem fact_noelem38 : elemB Try.prog 38 = none := by kernel_rfl
@[go_sem] theorem fact_noarr38 : arrB Try.prog 38 = none := by kernel_rfl
@[go_sem] theorem fact_fld38_0 : fldB Try.prog 38 0 = some (0, 3) := by kernel_rfl
@[go_sem] theorem fact_fld38_1 : fldB Try.prog 38 1 = some (1, 3) := by kernel_rfl
@[go_sem] theorem fact_fld38_2 : fldB Try.prog 38 2 = some (2, 3) := by kernel_rfl
@[go_sem] theorem fact_fld38_3 : fldB Try.prog 38 3 = some (3, 3) := by kernel_rfl
@[go_sem] theorem fact_fld38_4 : fldB Try.prog 38 4 = some (4, 3) := by kernel_rfl
@[go_sem] theorem fact_fld38_5 : fldB Try.prog 38 5 = some (5, 22) := by kernel_rfl
@[go_sem] theorem fact_pl38 : plB Try.prog 38 = some [(0, 1), (1, 1), (2, 1), (3, 1), (4, 1), (5, 1)] := by kernel_rfl
@[go_sem] theorem fact_flds38 : fldsB Try.prog 38 = some [(0, 3), (1, 3), (2, 3), (3, 3), (4, 3), (5, 22)] := by kernel_rfl
@[go_sem] theorem fact_held38 : Try.prog.stoodInHeld 38 = false := by kernel_rfl
@[go_sem] theorem fact_guard38 : Try.prog.eqGuardType Try.prog.depth 38 = false := by kernel_rfl
@[go_sem] theorem fact_el38 : elI Try.prog 38 = some (6, 64) := by kernel_rfl
@[go_sem] theorem fact_zero38 : zeroOf Try.prog 38 = some (.agg [.lit (.int .i64 0), .lit (.int .i64 0), .lit (.int .i64 0), .lit (.int .i64 0), .lit (.int .i64 0), .lit (.slice none 0 0)]) := by kernel_rfl
@[go_sem] theorem fact_sz39 : szB Try.prog 39 = some 1 := by kernel_rfl
@[go_sem] theorem fact_nz39 : nzB Try.prog 39 = true := by kernel_rfl
@[go_sem] theorem fact_ag39 : aggO Try.prog 39 = some false := by kernel_rfl
@[go_sem] theorem fact_noint39 : intB Try.prog 39 = none := by kernel_rfl
@[go_sem] theorem fact_noelem39 : elemB Try.prog 39 = none := by kernel_rfl
@[go_sem] theorem fact_sz40 : szB Try.prog 40 = some 1 := by kernel_rfl
@[go_sem] theorem fact_nz40 : nzB Try.prog 40 = true := by kernel_rfl
@[go_sem] theorem fact_ag40 : aggO Try.prog 40 = some false := by kernel_rfl
@[go_sem] theorem fact_noint40 : intB Try.prog 40 = none := by kernel_rfl
@[go_sem] theorem fact_noelem40 : elemB Try.prog 40 = none := by kernel_rfl
@[go_sem] theorem fact_sz41 : szB Try.prog 41 = some 1 := by kernel_rfl
@[go_sem] theorem fact_nz41 : nzB Try.prog 41 = true := by kernel_rfl
@[go_sem] theorem fact_ag41 : aggO Try.prog 41 = some false := by kernel_rfl
@[go_sem] theorem fact_noint41 : intB Try.prog 41 = none := by kernel_rfl
@[go_sem] theorem fact_noelem41 : elemB Try.prog 41 = none := by kernel_rfl
@[go_sem] theorem fact_sz42 : szB Try.prog 42 = some 1 := by kernel_rfl
@[go_sem] theorem fact_nz42 : nzB Try.prog 42 = true := by kernel_rfl
@[go_sem] theorem fact_ag42 : aggO Try.prog 42 = some false := by kernel_rfl
@[go_sem] theorem fact_noint42 : intB Try.prog 42 = none := by kernel_rfl
@[go_sem] theorem fact_noelem42 : elemB Try.prog 42 = none := by kernel_rfl
@[go_sem] theorem fact_sz43 : szB Try.prog 43 = some 1 := by kernel_rfl
@[go_sem] theorem fact_nz43 : nzB Try.prog 43 = true := by kernel_rfl
@[go_sem] theorem fact_ag43 : aggO Try.prog 43 = some false := by kernel_rfl
@[go_sem] theorem fact_noint43 : intB Try.prog 43 = none := by kernel_rfl
@[go_sem] theorem fact_noelem43 : elemB Try.prog 43 = none := by kernel_rfl
@[go_sem] theorem fact_sz44 : szB Try.prog 44 = some 1 := by kernel_rfl
@[go_sem] theorem fact_nz44 : nzB Try.prog 44 = true := by kernel_rfl
@[go_sem] theorem fact_ag44 : aggO Try.prog 44 = some false := by kernel_rfl
@[go_sem] theorem fact_noint44 : intB Try.prog 44 = none := by kernel_rfl
@[go_sem] theorem fact_noelem44 : elemB Try.prog 44 = none := by kernel_rfl
@[go_sem] theorem fact_sz45 : szB Try.prog 45 = some 1 := by kernel_rfl
@[go_sem] theorem fact_nz45 : nzB Try.prog 45 = true := by kernel_rfl
@[go_sem] theorem fact_ag45 : aggO Try.prog 45 = some false := by kernel_rfl
@[go_sem] theorem fact_noint45 : intB Try.prog 45 = none := by kernel_rfl
@[go_sem] theorem fact_noelem45 : elemB Try.prog 45 = none := by kernel_rfl
@[go_sem] theorem fact_sz46 : szB Try.prog 46 = some 4 := by kernel_rfl
@[go_sem] theorem fact_nz46 : nzB Try.prog 46 = true := by kernel_rfl
@[go_sem] theorem fact_ag46 : aggO Try.prog 46 = some true := by kernel_rfl
@[go_sem] theorem fact_noint46 : intB Try.prog 46 = none := by kernel_rfl
@[go_sem] theorem fact_noelem46 : elemB Try.prog 46 = none := by kernel_rfl
@[go_sem] theorem fact_noarr46 : arrB Try.prog 46 = none := by kernel_rfl
@[go_sem] theorem fact_fld46_0 : fldB Try.prog 46 0 = some (0, 3) := by kernel_rfl
@[go_sem] theorem fact_fld46_1 : fldB Try.prog 46 1 = some (1, 3) := by kernel_rfl
@[go_sem] theorem fact_fld46_2 : fldB Try.prog 46 2 = some (2, 3) := by kernel_rfl
@[go_sem] theorem fact_fld46_3 : fldB Try.prog 46 3 = some (3, 34) := by kernel_rfl
@[go_sem] theorem fact_pl46 : plB Try.prog 46 = some [(0, 1), (1, 1), (2, 1), (3, 1)] := by kernel_rfl
@[go_sem] theorem fact_flds46 : fldsB Try.prog 46 = some [(0, 3), (1, 3), (2, 3), (3, 34)] := by kernel_rfl
@[go_sem] theorem fact_held46 : Try.prog.stoodInHeld 46 = false := by kernel_rfl
@[go_sem] theorem fact_guard46 : Try.prog.eqGuardType Try.prog.depth 46 = false := by kernel_rfl
@[go_sem] theorem fact_el46 : elI Try.prog 46 = some (4, 48) := by kernel_rfl
@[go_sem] theorem fact_zero46 : zeroOf Try.prog 46 = some (.agg [.lit (.int .i64 0), .lit (.int .i64 0), .lit (.int .i64 0), .lit (.slice none 0 0)]) := by kernel_rfl
@[go_sem] theorem fact_sz47 : szB Try.prog 47 = some 4 := by kernel_rfl
@[go_sem] theorem fact_nz47 : nzB Try.prog 47 = true := by kernel_rfl
@[go_sem] theorem fact_ag47 : aggO Try.prog 47 = some true := by kernel_rfl
@[go_sem] theorem fact_noint47 : intB Try.prog 47 = none := by kernel_rfl
@[go_sem] theorem fact_noelem47 : elemB Try.prog 47 = none := by kernel_rfl
@[go_sem] theorem fact_noarr47 : arrB Try.prog 47 = none := by kernel_rfl
@[go_sem] theorem fact_fld47_0 : fldB Try.prog 47 0 = some (0, 3) := by kernel_rfl
@[go_sem] theorem fact_fld47_1 : fldB Try.prog 47 1 = some (1, 3) := by kernel_rfl
@[go_sem] theorem fact_fld47_2 : fldB Try.prog 47 2 = some (2, 3) := by kernel_rfl
@[go_sem] theorem fact_fld47_3 : fldB Try.prog 47 3 = some (3, 34) := by kernel_rfl
@[go_sem] theorem fact_pl47 : plB Try.prog 47 = some [(0, 1), (1, 1), (2, 1), (3, 1)] := by kernel_rfl
@[go_sem] theorem fact_flds47 : fldsB Try.prog 47 = some [(0, 3), (1, 3), (2, 3), (3, 34)] := by kernel_rfl
@[go_sem] theorem fact_held47 : Try.prog.stoodInHeld 47 = false := by kernel_rfl
@[go_sem] theorem fact_guard47 : Try.prog.eqGuardType Try.prog.depth 47 = false := by kernel_rfl
@[go_sem] theorem fact_el47 : elI Try.prog 47 = some (4, 48) := by kernel_rfl
@[go_sem] theorem fact_zero47 : zeroOf Try.prog 47 = some (.agg [.lit (.int .i64 0), .lit (.int .i64 0), .lit (.int .i64 0), .lit (.slice none 0 0)]) := by kernel_rfl
@[go_sem] theorem fact_sz48 : szB Try.prog 48 = some 1 := by kernel_rfl
@[go_sem] theorem fact_nz48 : nzB Try.prog 48 = true := by kernel_rfl
@[go_sem] theorem fact_ag48 : aggO Try.prog 48 = some false := by kernel_rfl
@[go_sem] theorem fact_noint48 : intB Try.prog 48 = none := by kernel_rfl
@[go_sem] theorem fact_noelem48 : elemB Try.prog 48 = none := by kernel_rfl
@[go_sem] theorem fact_sz49 : szB Try.prog 49 = some 1 := by kernel_rfl
@[go_sem] theorem fact_nz49 : nzB Try.prog 49 = true := by kernel_rfl
@[go_sem] theorem fact_ag49 : aggO Try.prog 49 = some false := by kernel_rfl
@[go_sem] theorem fact_noint49 : intB Try.prog 49 = none := by kernel_rfl
@[go_sem] theorem fact_elem49 : elemB Try.prog 49 = some 26 := by kernel_rfl
@[go_sem] theorem fact_el49 : elI Try.prog 49 = some (1, 24) := by kernel_rfl
@[go_sem] theorem fact_zero49 : zeroOf Try.prog 49 = some (.lit (.slice none 0 0)) := by kernel_rfl
@[go_sem] theorem fact_sz51 : szB Try.prog 51 = some 1 := by kernel_rfl
@[go_sem] theorem fact_nz51 : nzB Try.prog 51 = true := by kernel_rfl
@[go_sem] theorem fact_ag51 : aggO Try.prog 51 = some false := by kernel_rfl
@[go_sem] theorem fact_noint51 : intB Try.prog 51 = none := by kernel_rfl
@[go_sem] theorem fact_noelem51 : elemB Try.prog 51 = none := by kernel_rfl
@[go_sem] theorem fact_sz52 : szB Try.prog 52 = some 1 := by kernel_rfl
@[go_sem] theorem fact_nz52 : nzB Try.prog 52 = true := by kernel_rfl
@[go_sem] theorem fact_ag52 : aggO Try.prog 52 = some false := by kernel_rfl
@[go_sem] theorem fact_noint52 : intB Try.prog 52 = none := by kernel_rfl
@[go_sem] theorem fact_noelem52 : elemB Try.prog 52 = none := by kernel_rfl
@[go_sem] theorem fact_sz53 : szB Try.prog 53 = some 1 := by kernel_rfl
@[go_sem] theorem fact_nz53 : nzB Try.prog 53 = true := by kernel_rfl
@[go_sem] theorem fact_ag53 : aggO Try.prog 53 = some false := by kernel_rfl
@[go_sem] theorem fact_noint53 : intB Try.prog 53 = none := by kernel_rfl
@[go_sem] theorem fact_noelem53 : elemB Try.prog 53 = none := by kernel_rfl
@[go_sem] theorem fact_sz54 : szB Try.prog 54 = some 1 := by kernel_rfl
@[go_sem] theorem fact_nz54 : nzB Try.prog 54 = true := by kernel_rfl
@[go_sem] theorem fact_ag54 : aggO Try.prog 54 = some false := by kernel_rfl
@[go_sem] theorem fact_noint54 : intB Try.prog 54 = none := by kernel_rfl
@[go_sem] theorem fact_elem54 : elemB Try.prog 54 = some 29 := by kernel_rfl
@[go_sem] theorem fact_el54 : elI Try.prog 54 = some (1, 24) := by kernel_rfl
@[go_sem] theorem fact_zero54 : zeroOf Try.prog 54 = some (.lit (.slice none 0 0)) := by kernel_rfl
@[go_sem] theorem fact_sz55 : szB Try.prog 55 = some 1 := by kernel_rfl
@[go_sem] theorem fact_nz55 : nzB Try.prog 55 = true := by kernel_rfl
@[go_sem] theorem fact_ag55 : aggO Try.prog 55 = some false := by kernel_rfl
@[go_sem] theorem fact_noint55 : intB Try.prog 55 = none := by kernel_rfl
@[go_sem] theorem fact_noelem55 : elemB Try.prog 55 = none := by kernel_rfl
@[go_sem] theorem fact_sz56 : szB Try.prog 56 = some 1 := by kernel_rfl
@[go_sem] theorem fact_nz56 : nzB Try.prog 56 = true := by kernel_rfl
@[go_sem] theorem fact_ag56 : aggO Try.prog 56 = some false := by kernel_rfl
@[go_sem] theorem fact_noint56 : intB Try.prog 56 = none := by kernel_rfl
@[go_sem] theorem fact_noelem56 : elemB Try.prog 56 = none := by kernel_rfl
@[go_sem] theorem fact_sz57 : szB Try.prog 57 = some 1 := by kernel_rfl
@[go_sem] theorem fact_nz57 : nzB Try.prog 57 = true := by kernel_rfl
@[go_sem] theorem fact_ag57 : aggO Try.prog 57 = some false := by kernel_rfl
@[go_sem] theorem fact_noint57 : intB Try.prog 57 = none := by kernel_rfl
@[go_sem] theorem fact_noelem57 : elemB Try.prog 57 = none := by kernel_rfl
@[go_sem] theorem fact_sz58 : szB Try.prog 58 = some 1 := by kernel_rfl
@[go_sem] theorem fact_nz58 : nzB Try.prog 58 = true := by kernel_rfl
@[go_sem] theorem fact_ag58 : aggO Try.prog 58 = some false := by kernel_rfl
@[go_sem] theorem fact_noint58 : intB Try.prog 58 = none := by kernel_rfl
@[go_sem] theorem fact_noelem58 : elemB Try.prog 58 = none := by kernel_rfl
@[go_sem] theorem fact_sz59 : szB Try.prog 59 = some 1 := by kernel_rfl
@[go_sem] theorem fact_nz59 : nzB Try.prog 59 = true := by kernel_rfl
@[go_sem] theorem fact_ag59 : aggO Try.prog 59 = some false := by kernel_rfl
@[go_sem] theorem fact_noint59 : intB Try.prog 59 = none := by kernel_rfl
@[go_sem] theorem fact_noelem59 : elemB Try.prog 59 = none := by kernel_rfl
@[go_sem] theorem fact_sz60 : szB Try.prog 60 = some 1 := by kernel_rfl
@[go_sem] theorem fact_nz60 : nzB Try.prog 60 = true := by kernel_rfl
@[go_sem] theorem fact_ag60 : aggO Try.prog 60 = some false := by kernel_rfl
@[go_sem] theorem fact_noint60 : intB Try.prog 60 = none := by kernel_rfl
@[go_sem] theorem fact_noelem60 : elemB Try.prog 60 = none := by kernel_rfl
@[go_sem] theorem fact_sz61 : szB Try.prog 61 = some 1 := by kernel_rfl
@[go_sem] theorem fact_nz61 : nzB Try.prog 61 = true := by kernel_rfl
@[go_sem] theorem fact_ag61 : aggO Try.prog 61 = some false := by kernel_rfl
@[go_sem] theorem fact_noint61 : intB Try.prog 61 = none := by kernel_rfl
@[go_sem] theorem fact_noelem61 : elemB Try.prog 61 = none := by kernel_rfl
@[go_sem] theorem fact_sz62 : szB Try.prog 62 = some 1 := by kernel_rfl
@[go_sem] theorem fact_nz62 : nzB Try.prog 62 = true := by kernel_rfl
@[go_sem] theorem fact_ag62 : aggO Try.prog 62 = some false := by kernel_rfl
@[go_sem] theorem fact_noint62 : intB Try.prog 62 = none := by kernel_rfl
@[go_sem] theorem fact_noelem62 : elemB Try.prog 62 = none := by kernel_rfl
@[go_sem] theorem fact_sz63 : szB Try.prog 63 = some 2 := by kernel_rfl
@[go_sem] theorem fact_nz63 : nzB Try.prog 63 = true := by kernel_rfl
@[go_sem] theorem fact_ag63 : aggO Try.prog 63 = some true := by kernel_rfl
@[go_sem] theorem fact_noint63 : intB Try.prog 63 = none := by kernel_rfl
@[go_sem] theorem fact_noelem63 : elemB Try.prog 63 = none := by kernel_rfl
@[go_sem] theorem fact_noarr63 : arrB Try.prog 63 = none := by kernel_rfl
@[go_sem] theorem fact_fld63_0 : fldB Try.prog 63 0 = some (0, 22) := by kernel_rfl
@[go_sem] theorem fact_fld63_1 : fldB Try.prog 63 1 = some (1, 3) := by kernel_rfl
@[go_sem] theorem fact_pl63 : plB Try.prog 63 = some [(0, 1), (1, 1)] := by kernel_rfl
@[go_sem] theorem fact_flds63 : fldsB Try.prog 63 = some [(0, 22), (1, 3)] := by kernel_rfl
@[go_sem] theorem fact_held63 : Try.prog.stoodInHeld 63 = false := by kernel_rfl
@[go_sem] theorem fact_guard63 : Try.prog.eqGuardType Try.prog.depth 63 = false := by kernel_rfl
@[go_sem] theorem fact_el63 : elI Try.prog 63 = some (2, 32) := by kernel_rfl
@[go_sem] theorem fact_zero63 : zeroOf Try.prog 63 = some (.agg [.lit (.slice none 0 0), .lit (.int .i64 0)]) := by kernel_rfl
@[go_sem] theorem fact_sz64 : szB Try.prog 64 = some 2 := by kernel_rfl
@[go_sem] theorem fact_nz64 : nzB Try.prog 64 = true := by kernel_rfl
@[go_sem] theorem fact_ag64 : aggO Try.prog 64 = some true := by kernel_rfl
@[go_sem] theorem fact_noint64 : intB Try.prog 64 = none := by kernel_rfl
@[go_sem] theorem fact_noelem64 : elemB Try.prog 64 = none := by kernel_rfl
@[go_sem] theorem fact_noarr64 : arrB Try.prog 64 = none := by kernel_rfl
@[go_sem] theorem fact_fld64_0 : fldB Try.prog 64 0 = some (0, 22) := by kernel_rfl
@[go_sem] theorem fact_fld64_1 : fldB Try.prog 64 1 = some (1, 3) := by kernel_rfl
@[go_sem] theorem fact_pl64 : plB Try.prog 64 = some [(0, 1), (1, 1)] := by kernel_rfl
@[go_sem] theorem fact_flds64 : fldsB Try.prog 64 = some [(0, 22), (1, 3)] := by kernel_rfl
@[go_sem] theorem fact_held64 : Try.prog.stoodInHeld 64 = false := by kernel_rfl
@[go_sem] theorem fact_guard64 : Try.prog.eqGuardType Try.prog.depth 64 = false := by kernel_rfl
@[go_sem] theorem fact_el64 : elI Try.prog 64 = some (2, 32) := by kernel_rfl
@[go_sem] theorem fact_zero64 : zeroOf Try.prog 64 = some (.agg [.lit (.slice none 0 0), .lit (.int .i64 0)]) := by kernel_rfl
@[go_sem] theorem fact_sz65 : szB Try.prog 65 = some 1 := by kernel_rfl
@[go_sem] theorem fact_nz65 : nzB Try.prog 65 = true := by kernel_rfl
@[go_sem] theorem fact_ag65 : aggO Try.prog 65 = some false := by kernel_rfl
@[go_sem] theorem fact_noint65 : intB Try.prog 65 = none := by kernel_rfl
@[go_sem] theorem fact_noelem65 : elemB Try.prog 65 = none := by kernel_rfl
@[go_sem] theorem fact_sz66 : szB Try.prog 66 = some 1 := by kernel_rfl
@[go_sem] theorem fact_nz66 : nzB Try.prog 66 = true := by kernel_rfl
@[go_sem] theorem fact_ag66 : aggO Try.prog 66 = some false := by kernel_rfl
@[go_sem] theorem fact_noint66 : intB Try.prog 66 = none := by kernel_rfl
@[go_sem] theorem fact_noelem66 : elemB Try.prog 66 = none := by kernel_rfl
@[go_sem] theorem fact_sz67 : szB Try.prog 67 = some 1 := by kernel_rfl
@[go_sem] theorem fact_nz67 : nzB Try.prog 67 = true := by kernel_rfl
@[go_sem] theorem fact_ag67 : aggO Try.prog 67 = some false := by kernel_rfl
@[go_sem] theorem fact_noint67 : intB Try.prog 67 = none := by kernel_rfl
@[go_sem] theorem fact_noelem67 : elemB Try.prog 67 = none := by kernel_rfl
@[go_sem] theorem fact_sz69 : szB Try.prog 69 = some 1 := by kernel_rfl
@[go_sem] theorem fact_nz69 : nzB Try.prog 69 = true := by kernel_rfl
@[go_sem] theorem fact_ag69 : aggO Try.prog 69 = some false := by kernel_rfl
@[go_sem] theorem fact_noint69 : intB Try.prog 69 = none := by kernel_rfl
@[go_sem] theorem fact_noelem69 : elemB Try.prog 69 = none := by kernel_rfl
@[go_sem] theorem fact_sz70 : szB Try.prog 70 = some 1 := by kernel_rfl
@[go_sem] theorem fact_nz70 : nzB Try.prog 70 = true := by kernel_rfl
@[go_sem] theorem fact_ag70 : aggO Try.prog 70 = some false := by kernel_rfl
@[go_sem] theorem fact_noint70 : intB Try.prog 70 = none := by kernel_rfl
@[go_sem] theorem fact_noelem70 : elemB Try.prog 70 = none := by kernel_rfl
@[go_sem] theorem fact_el70 : elI Try.prog 70 = some (1, 8) := by kernel_rfl
@[go_sem] theorem fact_zero70 : zeroOf Try.prog 70 = some (.lit (.pointer none)) := by kernel_rfl
@[go_sem] theorem fact_sz71 : szB Try.prog 71 = some 1 := by kernel_rfl
@[go_sem] theorem fact_nz71 : nzB Try.prog 71 = true := by kernel_rfl
@[go_sem] theorem fact_ag71 : aggO Try.prog 71 = some false := by kernel_rfl
@[go_sem] theorem fact_noint71 : intB Try.prog 71 = none := by kernel_rfl
@[go_sem] theorem fact_noelem71 : elemB Try.prog 71 = none := by kernel_rfl
@[go_sem] theorem fact_sz72 : szB Try.prog 72 = some 1 := by kernel_rfl
@[go_sem] theorem fact_nz72 : nzB Try.prog 72 = true := by kernel_rfl
@[go_sem] theorem fact_ag72 : aggO Try.prog 72 = some false := by kernel_rfl
@[go_sem] theorem fact_noint72 : intB Try.prog 72 = none := by kernel_rfl
@[go_sem] theorem fact_noelem72 : elemB Try.prog 72 = none := by kernel_rfl
@[go_sem] theorem fact_sz73 : szB Try.prog 73 = some 1 := by kernel_rfl
@[go_sem] theorem fact_nz73 : nzB Try.prog 73 = true := by kernel_rfl
@[go_sem] theorem fact_ag73 : aggO Try.prog 73 = some false := by kernel_rfl
@[go_sem] theorem fact_noint73 : intB Try.prog 73 = none := by kernel_rfl
@[go_sem] theorem fact_noelem73 : elemB Try.prog 73 = none := by kernel_rfl
@[go_sem] theorem fact_sz74 : szB Try.prog 74 = some 2 := by kernel_rfl
@[go_sem] theorem fact_nz74 : nzB Try.prog 74 = true := by kernel_rfl
@[go_sem] theorem fact_ag74 : aggO Try.prog 74 = some true := by kernel_rfl
@[go_sem] theorem fact_noint74 : intB Try.prog 74 = none := by kernel_rfl
@[go_sem] theorem fact_noelem74 : elemB Try.prog 74 = none := by kernel_rfl
@[go_sem] theorem fact_noarr74 : arrB Try.prog 74 = none := by kernel_rfl
@[go_sem] theorem fact_fld74_0 : fldB Try.prog 74 0 = some (0, 3) := by kernel_rfl
@[go_sem] theorem fact_fld74_1 : fldB Try.prog 74 1 = some (1, 3) := by kernel_rfl
@[go_sem] theorem fact_pl74 : plB Try.prog 74 = some [(0, 1), (1, 1)] := by kernel_rfl
@[go_sem] theorem fact_flds74 : fldsB Try.prog 74 = some [(0, 3), (1, 3)] := by kernel_rfl
@[go_sem] theorem fact_held74 : Try.prog.stoodInHeld 74 = false := by kernel_rfl
@[go_sem] theorem fact_guard74 : Try.prog.eqGuardType Try.prog.depth 74 = false := by kernel_rfl
@[go_sem] theorem fact_el74 : elI Try.prog 74 = some (2, 16) := by kernel_rfl
@[go_sem] theorem fact_zero74 : zeroOf Try.prog 74 = some (.agg [.lit (.int .i64 0), .lit (.int .i64 0)]) := by kernel_rfl
@[go_sem] theorem fact_sz75 : szB Try.prog 75 = some 2 := by kernel_rfl
@[go_sem] theorem fact_nz75 : nzB Try.prog 75 = true := by kernel_rfl
@[go_sem] theorem fact_ag75 : aggO Try.prog 75 = some true := by kernel_rfl
@[go_sem] theorem fact_noint75 : intB Try.prog 75 = none := by kernel_rfl
@[go_sem] theorem fact_noelem75 : elemB Try.prog 75 = none := by kernel_rfl
@[go_sem] theorem fact_noarr75 : arrB Try.prog 75 = none := by kernel_rfl
@[go_sem] theorem fact_fld75_0 : fldB Try.prog 75 0 = some (0, 3) := by kernel_rfl
@[go_sem] theorem fact_fld75_1 : fldB Try.prog 75 1 = some (1, 3) := by kernel_rfl
@[go_sem] theorem fact_pl75 : plB Try.prog 75 = some [(0, 1), (1, 1)] := by kernel_rfl
@[go_sem] theorem fact_flds75 : fldsB Try.prog 75 = some [(0, 3), (1, 3)] := by kernel_rfl
@[go_sem] theorem fact_held75 : Try.prog.stoodInHeld 75 = false := by kernel_rfl
@[go_sem] theorem fact_guard75 : Try.prog.eqGuardType Try.prog.depth 75 = false := by kernel_rfl
@[go_sem] theorem fact_el75 : elI Try.prog 75 = some (2, 16) := by kernel_rfl
@[go_sem] theorem fact_zero75 : zeroOf Try.prog 75 = some (.agg [.lit (.int .i64 0), .lit (.int .i64 0)]) := by kernel_rfl
@[go_sem] theorem fact_sz76 : szB Try.prog 76 = some 1 := by kernel_rfl
@[go_sem] theorem fact_nz76 : nzB Try.prog 76 = true := by kernel_rfl
@[go_sem] theorem fact_ag76 : aggO Try.prog 76 = some false := by kernel_rfl
@[go_sem] theorem fact_noint76 : intB Try.prog 76 = none := by kernel_rfl
@[go_sem] theorem fact_noelem76 : elemB Try.prog 76 = none := by kernel_rfl
@[go_sem] theorem fact_sz78 : szB Try.prog 78 = some 1 := by kernel_rfl
@[go_sem] theorem fact_nz78 : nzB Try.prog 78 = true := by kernel_rfl
@[go_sem] theorem fact_ag78 : aggO Try.prog 78 = some false := by kernel_rfl
@[go_sem] theorem fact_noint78 : intB Try.prog 78 = none := by kernel_rfl
@[go_sem] theorem fact_noelem78 : elemB Try.prog 78 = none := by kernel_rfl
@[go_sem] theorem fact_sz79 : szB Try.prog 79 = some 1 := by kernel_rfl
@[go_sem] theorem fact_nz79 : nzB Try.prog 79 = true := by kernel_rfl
@[go_sem] theorem fact_ag79 : aggO Try.prog 79 = some false := by kernel_rfl
@[go_sem] theorem fact_noint79 : intB Try.prog 79 = none := by kernel_rfl
@[go_sem] theorem fact_noelem79 : elemB Try.prog 79 = none := by kernel_rfl
@[go_sem] theorem fact_sz81 : szB Try.prog 81 = some 1 := by kernel_rfl
@[go_sem] theorem fact_nz81 : nzB Try.prog 81 = true := by kernel_rfl
@[go_sem] theorem fact_ag81 : aggO Try.prog 81 = some false := by kernel_rfl
@[go_sem] theorem fact_noint81 : intB Try.prog 81 = none := by kernel_rfl
@[go_sem] theorem fact_noelem81 : elemB Try.prog 81 = none := by kernel_rfl
@[go_sem] theorem fact_sz82 : szB Try.prog 82 = some 1 := by kernel_rfl
@[go_sem] theorem fact_nz82 : nzB Try.prog 82 = true := by kernel_rfl
@[go_sem] theorem fact_ag82 : aggO Try.prog 82 = some false := by kernel_rfl
@[go_sem] theorem fact_noint82 : intB Try.prog 82 = none := by kernel_rfl
@[go_sem] theorem fact_noelem82 : elemB Try.prog 82 = none := by kernel_rfl
@[go_sem] theorem fact_sz83 : szB Try.prog 83 = some 1 := by kernel_rfl
@[go_sem] theorem fact_nz83 : nzB Try.prog 83 = true := by kernel_rfl
@[go_sem] theorem fact_ag83 : aggO Try.prog 83 = some false := by kernel_rfl
@[go_sem] theorem fact_noint83 : intB Try.prog 83 = none := by kernel_rfl
@[go_sem] theorem fact_noelem83 : elemB Try.prog 83 = none := by kernel_rfl
@[go_sem] theorem fact_sz84 : szB Try.prog 84 = some 1 := by kernel_rfl
@[go_sem] theorem fact_nz84 : nzB Try.prog 84 = true := by kernel_rfl
@[go_sem] theorem fact_ag84 : aggO Try.prog 84 = some false := by kernel_rfl
@[go_sem] theorem fact_noint84 : intB Try.prog 84 = none := by kernel_rfl
@[go_sem] theorem fact_noelem84 : elemB Try.prog 84 = none := by kernel_rfl
@[go_sem] theorem fact_sz85 : szB Try.prog 85 = some 1 := by kernel_rfl
@[go_sem] theorem fact_nz85 : nzB Try.prog 85 = true := by kernel_rfl
@[go_sem] theorem fact_ag85 : aggO Try.prog 85 = some false := by kernel_rfl
@[go_sem] theorem fact_noint85 : intB Try.prog 85 = none := by kernel_rfl
@[go_sem] theorem fact_noelem85 : elemB Try.prog 85 = none := by kernel_rfl
@[go_sem] theorem fact_sz86 : szB Try.prog 86 = some 1 := by kernel_rfl
@[go_sem] theorem fact_nz86 : nzB Try.prog 86 = true := by kernel_rfl
@[go_sem] theorem fact_ag86 : aggO Try.prog 86 = some false := by kernel_rfl
@[go_sem] theorem fact_noint86 : intB Try.prog 86 = none := by kernel_rfl
@[go_sem] theorem fact_noelem86 : elemB Try.prog 86 = none := by kernel_rfl
@[go_sem] theorem fact_sz87 : szB Try.prog 87 = some 1 := by kernel_rfl
@[go_sem] theorem fact_nz87 : nzB Try.prog 87 = true := by kernel_rfl
@[go_sem] theorem fact_ag87 : aggO Try.prog 87 = some false := by kernel_rfl
@[go_sem] theorem fact_noint87 : intB Try.prog 87 = none := by kernel_rfl
@[go_sem] theorem fact_noelem87 : elemB Try.prog 87 = none := by kernel_rfl
@[go_sem] theorem fact_sz88 : szB Try.prog 88 = some 1 := by kernel_rfl
@[go_sem] theorem fact_nz88 : nzB Try.prog 88 = true := by kernel_rfl
@[go_sem] theorem fact_ag88 : aggO Try.prog 88 = some false := by kernel_rfl
@[go_sem] theorem fact_noint88 : intB Try.prog 88 = none := by kernel_rfl
@[go_sem] theorem fact_noelem88 : elemB Try.prog 88 = none := by kernel_rfl
@[go_sem] theorem fact_sz90 : szB Try.prog 90 = some 1 := by kernel_rfl
@[go_sem] theorem fact_nz90 : nzB Try.prog 90 = true := by kernel_rfl
@[go_sem] theorem fact_ag90 : aggO Try.prog 90 = some false := by kernel_rfl
@[go_sem] theorem fact_noint90 : intB Try.prog 90 = none := by kernel_rfl
@[go_sem] theorem fact_noelem90 : elemB Try.prog 90 = none := by kernel_rfl
@[go_sem] theorem fact_sz91 : szB Try.prog 91 = some 1 := by kernel_rfl
@[go_sem] theorem fact_nz91 : nzB Try.prog 91 = true := by kernel_rfl
@[go_sem] theorem fact_ag91 : aggO Try.prog 91 = some false := by kernel_rfl
@[go_sem] theorem fact_noint91 : intB Try.prog 91 = none := by kernel_rfl
@[go_sem] theorem fact_noelem91 : elemB Try.prog 91 = none := by kernel_rfl
@[go_sem] theorem fact_sz92 : szB Try.prog 92 = some 1 := by kernel_rfl
@[go_sem] theorem fact_nz92 : nzB Try.prog 92 = true := by kernel_rfl
@[go_sem] theorem fact_ag92 : aggO Try.prog 92 = some false := by kernel_rfl
@[go_sem] theorem fact_noint92 : intB Try.prog 92 = none := by kernel_rfl
@[go_sem] theorem fact_noelem92 : elemB Try.prog 92 = none := by kernel_rfl
@[go_sem] theorem fact_sz93 : szB Try.prog 93 = some 1 := by kernel_rfl
@[go_sem] theorem fact_nz93 : nzB Try.prog 93 = true := by kernel_rfl
@[go_sem] theorem fact_ag93 : aggO Try.prog 93 = some false := by kernel_rfl
@[go_sem] theorem fact_noint93 : intB Try.prog 93 = none := by kernel_rfl
@[go_sem] theorem fact_noelem93 : elemB Try.prog 93 = none := by kernel_rfl
@[go_sem] theorem fact_sz94 : szB Try.prog 94 = some 1 := by kernel_rfl
@[go_sem] theorem fact_nz94 : nzB Try.prog 94 = true := by kernel_rfl
@[go_sem] theorem fact_ag94 : aggO Try.prog 94 = some false := by kernel_rfl
@[go_sem] theorem fact_noint94 : intB Try.prog 94 = none := by kernel_rfl
@[go_sem] theorem fact_noelem94 : elemB Try.prog 94 = none := by kernel_rfl
@[go_sem] theorem fact_el94 : elI Try.prog 94 = some (1, 8) := by kernel_rfl
@[go_sem] theorem fact_zero94 : zeroOf Try.prog 94 = some (.lit (.pointer none)) := by kernel_rfl
@[go_sem] theorem fact_sz95 : szB Try.prog 95 = some 1 := by kernel_rfl
@[go_sem] theorem fact_nz95 : nzB Try.prog 95 = true := by kernel_rfl
@[go_sem] theorem fact_ag95 : aggO Try.prog 95 = some false := by kernel_rfl
@[go_sem] theorem fact_noint95 : intB Try.prog 95 = none := by kernel_rfl
@[go_sem] theorem fact_noelem95 : elemB Try.prog 95 = none := by kernel_rfl
@[go_sem] theorem fact_sz96 : szB Try.prog 96 = some 1 := by kernel_rfl
@[go_sem] theorem fact_nz96 : nzB Try.prog 96 = true := by kernel_rfl
@[go_sem] theorem fact_ag96 : aggO Try.prog 96 = some false := by kernel_rfl
@[go_sem] theorem fact_noint96 : intB Try.prog 96 = none := by kernel_rfl
@[go_sem] theorem fact_noelem96 : elemB Try.prog 96 = none := by kernel_rfl
@[go_sem] theorem fact_sz97 : szB Try.prog 97 = some 1 := by kernel_rfl
@[go_sem] theorem fact_nz97 : nzB Try.prog 97 = true := by kernel_rfl
@[go_sem] theorem fact_ag97 : aggO Try.prog 97 = some false := by kernel_rfl
@[go_sem] theorem fact_noint97 : intB Try.prog 97 = none := by kernel_rfl
@[go_sem] theorem fact_noelem97 : elemB Try.prog 97 = none := by kernel_rfl
@[go_sem] theorem fact_sz98 : szB Try.prog 98 = some 1 := by kernel_rfl
@[go_sem] theorem fact_nz98 : nzB Try.prog 98 = true := by kernel_rfl
@[go_sem] theorem fact_ag98 : aggO Try.prog 98 = some false := by kernel_rfl
@[go_sem] theorem fact_noint98 : intB Try.prog 98 = none := by kernel_rfl
@[go_sem] theorem fact_noelem98 : elemB Try.prog 98 = none := by kernel_rfl
@[go_sem] theorem fact_sz100 : szB Try.prog 100 = some 1 := by kernel_rfl
@[go_sem] theorem fact_nz100 : nzB Try.prog 100 = true := by kernel_rfl
@[go_sem] theorem fact_ag100 : aggO Try.prog 100 = some false := by kernel_rfl
@[go_sem] theorem fact_noint100 : intB Try.prog 100 = none := by kernel_rfl
@[go_sem] theorem fact_noelem100 : elemB Try.prog 100 = none := by kernel_rfl
@[go_sem] theorem fact_sz101 : szB Try.prog 101 = some 1 := by kernel_rfl
@[go_sem] theorem fact_nz101 : nzB Try.prog 101 = true := by kernel_rfl
@[go_sem] theorem fact_ag101 : aggO Try.prog 101 = some false := by kernel_rfl
@[go_sem] theorem fact_noint101 : intB Try.prog 101 = none := by kernel_rfl
@[go_sem] theorem fact_noelem101 : elemB Try.prog 101 = none := by kernel_rfl
@[go_sem] theorem fact_sz103 : szB Try.prog 103 = some 1 := by kernel_rfl
@[go_sem] theorem fact_nz103 : nzB Try.prog 103 = true := by kernel_rfl
@[go_sem] theorem fact_ag103 : aggO Try.prog 103 = some false := by kernel_rfl
@[go_sem] theorem fact_noint103 : intB Try.prog 103 = none := by kernel_rfl
@[go_sem] theorem fact_noelem103 : elemB Try.prog 103 = none := by kernel_rfl
@[go_sem] theorem fact_sz105 : szB Try.prog 105 = some 1 := by kernel_rfl
@[go_sem] theorem fact_nz105 : nzB Try.prog 105 = true := by kernel_rfl
@[go_sem] theorem fact_ag105 : aggO Try.prog 105 = some false := by kernel_rfl
@[go_sem] theorem fact_noint105 : intB Try.prog 105 = none := by kernel_rfl
@[go_sem] theorem fact_noelem105 : elemB Try.prog 105 = none := by kernel_rfl
@[go_sem] theorem fact_sz106 : szB Try.prog 106 = some 1 := by kernel_rfl
@[go_sem] theorem fact_nz106 : nzB Try.prog 106 = true := by kernel_rfl
@[go_sem] theorem fact_ag106 : aggO Try.prog 106 = some false := by kernel_rfl
@[go_sem] theorem fact_int106 : intB Try.prog 106 = some .u64 := by kernel_rfl
@[go_sem] theorem fact_noelem106 : elemB Try.prog 106 = none := by kernel_rfl
@[go_sem] theorem fact_el106 : elI Try.prog 106 = some (1, 8) := by kernel_rfl
@[go_sem] theorem fact_zero106 : zeroOf Try.prog 106 = some (.lit (.int .u64 0)) := by kernel_rfl
@[go_sem] theorem fact_sz107 : szB Try.prog 107 = some 1 := by kernel_rfl
@[go_sem] theorem fact_nz107 : nzB Try.prog 107 = true := by kernel_rfl
@[go_sem] theorem fact_ag107 : aggO Try.prog 107 = some false := by kernel_rfl
@[go_sem] theorem fact_noint107 : intB Try.prog 107 = none := by kernel_rfl
@[go_sem] theorem fact_noelem107 : elemB Try.prog 107 = none := by kernel_rfl
@[go_sem] theorem fact_sz108 : szB Try.prog 108 = some 1 := by kernel_rfl
@[go_sem] theorem fact_nz108 : nzB Try.prog 108 = true := by kernel_rfl
@[go_sem] theorem fact_ag108 : aggO Try.prog 108 = some false := by kernel_rfl
@[go_sem] theorem fact_int108 : intB Try.prog 108 = some .u32 := by kernel_rfl
@[go_sem] theorem fact_noelem108 : elemB Try.prog 108 = none := by kernel_rfl
@[go_sem] theorem fact_el108 : elI Try.prog 108 = some (1, 4) := by kernel_rfl
@[go_sem] theorem fact_zero108 : zeroOf Try.prog 108 = some (.lit (.int .u32 0)) := by kernel_rfl
@[go_sem] theorem fact_sz109 : szB Try.prog 109 = some 1 := by kernel_rfl
@[go_sem] theorem fact_nz109 : nzB Try.prog 109 = true := by kernel_rfl
@[go_sem] theorem fact_ag109 : aggO Try.prog 109 = some false := by kernel_rfl
@[go_sem] theorem fact_noint109 : intB Try.prog 109 = none := by kernel_rfl
@[go_sem] theorem fact_noelem109 : elemB Try.prog 109 = none := by kernel_rfl
@[go_sem] theorem fact_sz110 : szB Try.prog 110 = some 1 := by kernel_rfl
@[go_sem] theorem fact_nz110 : nzB Try.prog 110 = true := by kernel_rfl
@[go_sem] theorem fact_ag110 : aggO Try.prog 110 = some false := by kernel_rfl
@[go_sem] theorem fact_int110 : intB Try.prog 110 = some .u64 := by kernel_rfl
@[go_sem] theorem fact_noelem110 : elemB Try.prog 110 = none := by kernel_rfl
@[go_sem] theorem fact_el110 : elI Try.prog 110 = some (1, 8) := by kernel_rfl
@[go_sem] theorem fact_zero110 : zeroOf Try.prog 110 = some (.lit (.int .u64 0)) := by kernel_rfl
@[go_sem] theorem fact_sz111 : szB Try.prog 111 = some 1 := by kernel_rfl
@[go_sem] theorem fact_nz111 : nzB Try.prog 111 = true := by kernel_rfl
@[go_sem] theorem fact_ag111 : aggO Try.prog 111 = some false := by kernel_rfl
@[go_sem] theorem fact_noint111 : intB Try.prog 111 = none := by kernel_rfl
@[go_sem] theorem fact_noelem111 : elemB Try.prog 111 = none := by kernel_rfl
@[go_sem] theorem fact_sz112 : szB Try.prog 112 = some 1 := by kernel_rfl
@[go_sem] theorem fact_nz112 : nzB Try.prog 112 = true := by kernel_rfl
@[go_sem] theorem fact_ag112 : aggO Try.prog 112 = some false := by kernel_rfl
@[go_sem] theorem fact_noint112 : intB Try.prog 112 = none := by kernel_rfl
@[go_sem] theorem fact_noelem112 : elemB Try.prog 112 = none := by kernel_rfl
@[go_sem] theorem fact_sz113 : szB Try.prog 113 = some 1 := by kernel_rfl
@[go_sem] theorem fact_nz113 : nzB Try.prog 113 = true := by kernel_rfl
@[go_sem] theorem fact_ag113 : aggO Try.prog 113 = some false := by kernel_rfl
@[go_sem] theorem fact_noint113 : intB Try.prog 113 = none := by kernel_rfl
@[go_sem] theorem fact_noelem113 : elemB Try.prog 113 = none := by kernel_rfl
@[go_sem] theorem fact_sz114 : szB Try.prog 114 = some 1 := by kernel_rfl
@[go_sem] theorem fact_nz114 : nzB Try.prog 114 = true := by kernel_rfl
@[go_sem] theorem fact_ag114 : aggO Try.prog 114 = some false := by kernel_rfl
@[go_sem] theorem fact_noint114 : intB Try.prog 114 = none := by kernel_rfl
@[go_sem] theorem fact_noelem114 : elemB Try.prog 114 = none := by kernel_rfl
@[go_sem] theorem fact_sz115 : szB Try.prog 115 = some 1 := by kernel_rfl
@[go_sem] theorem fact_nz115 : nzB Try.prog 115 = true := by kernel_rfl
@[go_sem] theorem fact_ag115 : aggO Try.prog 115 = some false := by kernel_rfl
@[go_sem] theorem fact_noint115 : intB Try.prog 115 = none := by kernel_rfl
@[go_sem] theorem fact_noelem115 : elemB Try.prog 115 = none := by kernel_rfl
@[go_sem] theorem fact_sz116 : szB Try.prog 116 = some 1 := by kernel_rfl
@[go_sem] theorem fact_nz116 : nzB Try.prog 116 = true := by kernel_rfl
@[go_sem] theorem fact_ag116 : aggO Try.prog 116 = some false := by kernel_rfl
@[go_sem] theorem fact_noint116 : intB Try.prog 116 = none := by kernel_rfl
@[go_sem] theorem fact_noelem116 : elemB Try.prog 116 = none := by kernel_rfl
@[go_sem] theorem fact_sz117 : szB Try.prog 117 = some 1 := by kernel_rfl
@[go_sem] theorem fact_nz117 : nzB Try.prog 117 = true := by kernel_rfl
@[go_sem] theorem fact_ag117 : aggO Try.prog 117 = some false := by kernel_rfl
@[go_sem] theorem fact_noint117 : intB Try.prog 117 = none := by kernel_rfl
@[go_sem] theorem fact_noelem117 : elemB Try.prog 117 = none := by kernel_rfl
@[go_sem] theorem fact_sz118 : szB Try.prog 118 = some 1 := by kernel_rfl
@[go_sem] theorem fact_nz118 : nzB Try.prog 118 = true := by kernel_rfl
@[go_sem] theorem fact_ag118 : aggO Try.prog 118 = some false := by kernel_rfl
@[go_sem] theorem fact_noint118 : intB Try.prog 118 = none := by kernel_rfl
@[go_sem] theorem fact_noelem118 : elemB Try.prog 118 = none := by kernel_rfl
@[go_sem] theorem fact_sz119 : szB Try.prog 119 = some 1 := by kernel_rfl
@[go_sem] theorem fact_nz119 : nzB Try.prog 119 = true := by kernel_rfl
@[go_sem] theorem fact_ag119 : aggO Try.prog 119 = some false := by kernel_rfl
@[go_sem] theorem fact_noint119 : intB Try.prog 119 = none := by kernel_rfl
@[go_sem] theorem fact_noelem119 : elemB Try.prog 119 = none := by kernel_rfl
@[go_sem] theorem fact_sz120 : szB Try.prog 120 = some 1 := by kernel_rfl
@[go_sem] theorem fact_nz120 : nzB Try.prog 120 = true := by kernel_rfl
@[go_sem] theorem fact_ag120 : aggO Try.prog 120 = some false := by kernel_rfl
@[go_sem] theorem fact_noint120 : intB Try.prog 120 = none := by kernel_rfl
@[go_sem] theorem fact_noelem120 : elemB Try.prog 120 = none := by kernel_rfl
@[go_sem] theorem fact_el120 : elI Try.prog 120 = some (1, 8) := by kernel_rfl
@[go_sem] theorem fact_zero120 : zeroOf Try.prog 120 = some (.lit (.pointer none)) := by kernel_rfl
@[go_sem] theorem fact_sz121 : szB Try.prog 121 = some 1 := by kernel_rfl
@[go_sem] theorem fact_nz121 : nzB Try.prog 121 = true := by kernel_rfl
@[go_sem] theorem fact_ag121 : aggO Try.prog 121 = some false := by kernel_rfl
@[go_sem] theorem fact_noint121 : intB Try.prog 121 = none := by kernel_rfl
@[go_sem] theorem fact_elem121 : elemB Try.prog 121 = some 120 := by kernel_rfl
@[go_sem] theorem fact_el121 : elI Try.prog 121 = some (1, 24) := by kernel_rfl
@[go_sem] theorem fact_zero121 : zeroOf Try.prog 121 = some (.lit (.slice none 0 0)) := by kernel_rfl
@[go_sem] theorem fact_sz122 : szB Try.prog 122 = some 1 := by kernel_rfl
@[go_sem] theorem fact_nz122 : nzB Try.prog 122 = true := by kernel_rfl
@[go_sem] theorem fact_ag122 : aggO Try.prog 122 = some false := by kernel_rfl
@[go_sem] theorem fact_noint122 : intB Try.prog 122 = none := by kernel_rfl
@[go_sem] theorem fact_noelem122 : elemB Try.prog 122 = none := by kernel_rfl
@[go_sem] theorem fact_sz123 : szB Try.prog 123 = some 1 := by kernel_rfl
@[go_sem] theorem fact_nz123 : nzB Try.prog 123 = true := by kernel_rfl
@[go_sem] theorem fact_ag123 : aggO Try.prog 123 = some false := by kernel_rfl
@[go_sem] theorem fact_noint123 : intB Try.prog 123 = none := by kernel_rfl
@[go_sem] theorem fact_noelem123 : elemB Try.prog 123 = none := by kernel_rfl
@[go_sem] theorem fact_sz124 : szB Try.prog 124 = some 1 := by kernel_rfl
@[go_sem] theorem fact_nz124 : nzB Try.prog 124 = true := by kernel_rfl
@[go_sem] theorem fact_ag124 : aggO Try.prog 124 = some false := by kernel_rfl
@[go_sem] theorem fact_noint124 : intB Try.prog 124 = none := by kernel_rfl
@[go_sem] theorem fact_noelem124 : elemB Try.prog 124 = none := by kernel_rfl
@[go_sem] theorem fact_sz125 : szB Try.prog 125 = some 256 := by kernel_rfl
@[go_sem] theorem fact_nz125 : nzB Try.prog 125 = true := by kernel_rfl
@[go_sem] theorem fact_ag125 : aggO Try.prog 125 = some true := by kernel_rfl
@[go_sem] theorem fact_noint125 : intB Try.prog 125 = none := by kernel_rfl
@[go_sem] theorem fact_noelem125 : elemB Try.prog 125 = none := by kernel_rfl
@[go_sem] theorem fact_arr125 : arrB Try.prog 125 = some (256, 108) := by kernel_rfl
@[go_sem] theorem fact_el125 : elI Try.prog 125 = some (256, 1024) := by kernel_rfl
@[go_sem] theorem fact_zero125 : zeroOf Try.prog 125 = some (.agg (List.replicate 256 (.lit (.int .u32 0)))) := by kernel_rfl
@[go_sem] theorem fact_sz126 : szB Try.prog 126 = some 1 := by kernel_rfl
@[go_sem] theorem fact_nz126 : nzB Try.prog 126 = true := by kernel_rfl
@[go_sem] theorem fact_ag126 : aggO Try.prog 126 = some false := by kernel_rfl
@[go_sem] theorem fact_noint126 : intB Try.prog 126 = none := by kernel_rfl
@[go_sem] theorem fact_noelem126 : elemB Try.prog 126 = none := by kernel_rfl
@[go_sem] theorem fact_sz127 : szB Try.prog 127 = some 1 := by kernel_rfl
@[go_sem] theorem fact_nz127 : nzB Try.prog 127 = true := by kernel_rfl
@[go_sem] theorem fact_ag127 : aggO Try.prog 127 = some false := by kernel_rfl
@[go_sem] theorem fact_noint127 : intB Try.prog 127 = none := by kernel_rfl
@[go_sem] theorem fact_noelem127 : elemB Try.prog 127 = none := by kernel_rfl
@[go_sem] theorem fact_sz128 : szB Try.prog 128 = some 1 := by kernel_rfl
@[go_sem] theorem fact_nz128 : nzB Try.prog 128 = true := by kernel_rfl
@[go_sem] theorem fact_ag128 : aggO Try.prog 128 = some false := by kernel_rfl
@[go_sem] theorem fact_noint128 : intB Try.prog 128 = none := by kernel_rfl
@[go_sem] theorem fact_noelem128 : elemB Try.prog 128 = none := by kernel_rfl
@[go_sem] theorem fact_sz129 : szB Try.prog 129 = some 4 := by kernel_rfl
@[go_sem] theorem fact_nz129 : nzB Try.prog 129 = true := by kernel_rfl
@[go_sem] theorem fact_ag129 : aggO Try.prog 129 = some true := by kernel_rfl
@[go_sem] theorem fact_noint129 : intB Try.prog 129 = none := by kernel_rfl
@[go_sem] theorem fact_noelem129 : elemB Try.prog 129 = none := by kernel_rfl
@[go_sem] theorem fact_noarr129 : arrB Try.prog 129 = none := by kernel_rfl
@[go_sem] theorem fact_fld129_0 : fldB Try.prog 129 0 = some (0, 17) := by kernel_rfl
@[go_sem] theorem fact_fld129_1 : fldB Try.prog 129 1 = some (1, 17) := by kernel_rfl
@[go_sem] theorem fact_fld129_2 : fldB Try.prog 129 2 = some (2, 17) := by kernel_rfl
@[go_sem] theorem fact_fld129_3 : fldB Try.prog 129 3 = some (3, 9) := by kernel_rfl
@[go_sem] theorem fact_pl129 : plB Try.prog 129 = some [(0, 1), (1, 1), (2, 1), (3, 1)] := by kernel_rfl
@[go_sem] theorem fact_flds129 : fldsB Try.prog 129 = some [(0, 17), (1, 17), (2, 17), (3, 9)] := by kernel_rfl
@[go_sem] theorem fact_sz130 : szB Try.prog 130 = some 4 := by kernel_rfl
@[go_sem] theorem fact_nz130 : nzB Try.prog 130 = true := by kernel_rfl
@[go_sem] theorem fact_ag130 : aggO Try.prog 130 = some true := by kernel_rfl
@[go_sem] theorem fact_noint130 : intB Try.prog 130 = none := by kernel_rfl
@[go_sem] theorem fact_noelem130 : elemB Try.prog 130 = none := by kernel_rfl
@[go_sem] theorem fact_noarr130 : arrB Try.prog 130 = none := by kernel_rfl
@[go_sem] theorem fact_fld130_0 : fldB Try.prog 130 0 = some (0, 17) := by kernel_rfl
@[go_sem] theorem fact_fld130_1 : fldB Try.prog 130 1 = some (1, 17) := by kernel_rfl
@[go_sem] theorem fact_fld130_2 : fldB Try.prog 130 2 = some (2, 17) := by kernel_rfl
@[go_sem] theorem fact_fld130_3 : fldB Try.prog 130 3 = some (3, 9) := by kernel_rfl
@[go_sem] theorem fact_pl130 : plB Try.prog 130 = some [(0, 1), (1, 1), (2, 1), (3, 1)] := by kernel_rfl
@[go_sem] theorem fact_flds130 : fldsB Try.prog 130 = some [(0, 17), (1, 17), (2, 17), (3, 9)] := by kernel_rfl
@[go_sem] theorem fact_sz134 : szB Try.prog 134 = some 1 := by kernel_rfl
@[go_sem] theorem fact_nz134 : nzB Try.prog 134 = true := by kernel_rfl
@[go_sem] theorem fact_ag134 : aggO Try.prog 134 = some false := by kernel_rfl
@[go_sem] theorem fact_int134 : intB Try.prog 134 = some .u8 := by kernel_rfl
@[go_sem] theorem fact_noelem134 : elemB Try.prog 134 = none := by kernel_rfl
@[go_sem] theorem fact_el134 : elI Try.prog 134 = some (1, 1) := by kernel_rfl
@[go_sem] theorem fact_zero134 : zeroOf Try.prog 134 = some (.lit (.int .u8 0)) := by kernel_rfl
@[go_sem] theorem fact_sz135 : szB Try.prog 135 = some 1 := by kernel_rfl
@[go_sem] theorem fact_nz135 : nzB Try.prog 135 = true := by kernel_rfl
@[go_sem] theorem fact_ag135 : aggO Try.prog 135 = some false := by kernel_rfl
@[go_sem] theorem fact_int135 : intB Try.prog 135 = some .u8 := by kernel_rfl
@[go_sem] theorem fact_noelem135 : elemB Try.prog 135 = none := by kernel_rfl
@[go_sem] theorem fact_el135 : elI Try.prog 135 = some (1, 1) := by kernel_rfl
@[go_sem] theorem fact_zero135 : zeroOf Try.prog 135 = some (.lit (.int .u8 0)) := by kernel_rfl
@[go_sem] theorem fact_sz136 : szB Try.prog 136 = some 1 := by kernel_rfl
@[go_sem] theorem fact_nz136 : nzB Try.prog 136 = true := by kernel_rfl
@[go_sem] theorem fact_ag136 : aggO Try.prog 136 = some false := by kernel_rfl
@[go_sem] theorem fact_noint136 : intB Try.prog 136 = none := by kernel_rfl
@[go_sem] theorem fact_noelem136 : elemB Try.prog 136 = none := by kernel_rfl
@[go_sem] theorem fact_sz137 : szB Try.prog 137 = some 1 := by kernel_rfl
@[go_sem] theorem fact_nz137 : nzB Try.prog 137 = true := by kernel_rfl
@[go_sem] theorem fact_ag137 : aggO Try.prog 137 = some false := by kernel_rfl
@[go_sem] theorem fact_noint137 : intB Try.prog 137 = none := by kernel_rfl
@[go_sem] theorem fact_noelem137 : elemB Try.prog 137 = none := by kernel_rfl
@[go_sem] theorem fact_el137 : elI Try.prog 137 = some (1, 8) := by kernel_rfl
@[go_sem] theorem fact_zero137 : zeroOf Try.prog 137 = some (.lit (.pointer none)) := by kernel_rfl
@[go_sem] theorem fact_sz138 : szB Try.prog 138 = some 1 := by kernel_rfl
@[go_sem] theorem fact_nz138 : nzB Try.prog 138 = true := by kernel_rfl
@[go_sem] theorem fact_ag138 : aggO Try.prog 138 = some false := by kernel_rfl
@[go_sem] theorem fact_int138 : intB Try.prog 138 = some .i32 := by kernel_rfl
@[go_sem] theorem fact_noelem138 : elemB Try.prog 138 = none := by kernel_rfl
@[go_sem] theorem fact_el138 : elI Try.prog 138 = some (1, 4) := by kernel_rfl
@[go_sem] theorem fact_zero138 : zeroOf Try.prog 138 = some (.lit (.int .i32 0)) := by kernel_rfl
@[go_sem] theorem fact_sz139 : szB Try.prog 139 = some 1 := by kernel_rfl
@[go_sem] theorem fact_nz139 : nzB Try.prog 139 = true := by kernel_rfl
@[go_sem] theorem fact_ag139 : aggO Try.prog 139 = some false := by kernel_rfl
@[go_sem] theorem fact_int139 : intB Try.prog 139 = some .i32 := by kernel_rfl
@[go_sem] theorem fact_noelem139 : elemB Try.prog 139 = none := by kernel_rfl
@[go_sem] theorem fact_el139 : elI Try.prog 139 = some (1, 4) := by kernel_rfl
@[go_sem] theorem fact_zero139 : zeroOf Try.prog 139 = some (.lit (.int .i32 0)) := by kernel_rfl
@[go_sem] theorem fact_sz140 : szB Try.prog 140 = some 11 := by kernel_rfl
@[go_sem] theorem fact_nz140 : nzB Try.prog 140 = true := by kernel_rfl
@[go_sem] theorem fact_ag140 : aggO Try.prog 140 = some true := by kernel_rfl
@[go_sem] theorem fact_noint140 : intB Try.prog 140 = none := by kernel_rfl
@[go_sem] theorem fact_noelem140 : elemB Try.prog 140 = none := by kernel_rfl
@[go_sem] theorem fact_noarr140 : arrB Try.prog 140 = none := by kernel_rfl
@[go_sem] theorem fact_fld140_0 : fldB Try.prog 140 0 = some (0, 12) := by kernel_rfl
@[go_sem] theorem fact_fld140_1 : fldB Try.prog 140 1 = some (1, 12) := by kernel_rfl
@[go_sem] theorem fact_fld140_2 : fldB Try.prog 140 2 = some (2, 108) := by kernel_rfl
@[go_sem] theorem fact_fld140_3 : fldB Try.prog 140 3 = some (3, 134) := by kernel_rfl
@[go_sem] theorem fact_fld140_4 : fldB Try.prog 140 4 = some (4, 5) := by kernel_rfl
@[go_sem] theorem fact_fld140_5 : fldB Try.prog 140 5 = some (5, 5) := by kernel_rfl
@[go_sem] theorem fact_fld140_6 : fldB Try.prog 140 6 = some (6, 135) := by kernel_rfl
@[go_sem] theorem fact_fld140_7 : fldB Try.prog 140 7 = some (7, 136) := by kernel_rfl
@[go_sem] theorem fact_fld140_8 : fldB Try.prog 140 8 = some (8, 137) := by kernel_rfl
@[go_sem] theorem fact_fld140_9 : fldB Try.prog 140 9 = some (9, 138) := by kernel_rfl
@[go_sem] theorem fact_fld140_10 : fldB Try.prog 140 10 = some (10, 139) := by kernel_rfl
@[go_sem] theorem fact_pl140 : plB Try.prog 140 = some [(0, 1), (1, 1), (2, 1), (3, 1), (4, 1), (5, 1), (6, 1), (7, 1), (8, 1), (9, 1), (10, 1)] := by kernel_rfl
@[go_sem] theorem fact_flds140 : fldsB Try.prog 140 = some [(0, 12), (1, 12), (2, 108), (3, 134), (4, 5), (5, 5), (6, 135), (7, 136), (8, 137), (9, 138), (10, 139)] := by kernel_rfl
@[go_sem] theorem fact_sz141 : szB Try.prog 141 = some 11 := by kernel_rfl
@[go_sem] theorem fact_nz141 : nzB Try.prog 141 = true := by kernel_rfl
@[go_sem] theorem fact_ag141 : aggO Try.prog 141 = some true := by kernel_rfl
@[go_sem] theorem fact_noint141 : intB Try.prog 141 = none := by kernel_rfl
@[go_sem] theorem fact_noelem141 : elemB Try.prog 141 = none := by kernel_rfl
@[go_sem] theorem fact_noarr141 : arrB Try.prog 141 = none := by kernel_rfl
@[go_sem] theorem fact_fld141_0 : fldB Try.prog 141 0 = some (0, 12) := by kernel_rfl
@[go_sem] theorem fact_fld141_1 : fldB Try.prog 141 1 = some (1, 12) := by kernel_rfl
@[go_sem] theorem fact_fld141_2 : fldB Try.prog 141 2 = some (2, 108) := by kernel_rfl
@[go_sem] theorem fact_fld141_3 : fldB Try.prog 141 3 = some (3, 134) := by kernel_rfl
@[go_sem] theorem fact_fld141_4 : fldB Try.prog 141 4 = some (4, 5) := by kernel_rfl
@[go_sem] theorem fact_fld141_5 : fldB Try.prog 141 5 = some (5, 5) := by kernel_rfl
@[go_sem] theorem fact_fld141_6 : fldB Try.prog 141 6 = some (6, 135) := by kernel_rfl
@[go_sem] theorem fact_fld141_7 : fldB Try.prog 141 7 = some (7, 136) := by kernel_rfl
@[go_sem] theorem fact_fld141_8 : fldB Try.prog 141 8 = some (8, 137) := by kernel_rfl
@[go_sem] theorem fact_fld141_9 : fldB Try.prog 141 9 = some (9, 138) := by kernel_rfl
@[go_sem] theorem fact_fld141_10 : fldB Try.prog 141 10 = some (10, 139) := by kernel_rfl
@[go_sem] theorem fact_pl141 : plB Try.prog 141 = some [(0, 1), (1, 1), (2, 1), (3, 1), (4, 1), (5, 1), (6, 1), (7, 1), (8, 1), (9, 1), (10, 1)] := by kernel_rfl
@[go_sem] theorem fact_flds141 : fldsB Try.prog 141 = some [(0, 12), (1, 12), (2, 108), (3, 134), (4, 5), (5, 5), (6, 135), (7, 136), (8, 137), (9, 138), (10, 139)] := by kernel_rfl
@[go_sem] theorem fact_ent3 : entB Try.prog 3 = true := by kernel_rfl
@[go_sem] theorem fact_ent4 : entB Try.prog 4 = true := by kernel_rfl
@[go_sem] theorem fact_ent5 : entB Try.prog 5 = true := by kernel_rfl
@[go_sem] theorem fact_ent6 : entB Try.prog 6 = true := by kernel_rfl
@[go_sem] theorem fact_ent7 : entB Try.prog 7 = true := by kernel_rfl
@[go_sem] theorem fact_ent8 : entB Try.prog 8 = true := by kernel_rfl
@[go_sem] theorem fact_ent9 : entB Try.prog 9 = true := by kernel_rfl
@[go_sem] theorem fact_ent10 : entB Try.prog 10 = true := by kernel_rfl
@[go_sem] theorem fact_ent11 : entB Try.prog 11 = true := by kernel_rfl
@[go_sem] theorem fact_ent12 : entB Try.prog 12 = true := by kernel_rfl
@[go_sem] theorem fact_ent13 : entB Try.prog 13 = true := by kernel_rfl
@[go_sem] theorem fact_ent14 : entB Try.prog 14 = true := by kernel_rfl
@[go_sem] theorem fact_ent15 : entB Try.prog 15 = true := by kernel_rfl
@[go_sem] theorem fact_ent16 : entB Try.prog 16 = true := by kernel_rfl
@[go_sem] theorem fact_ent17 : entB Try.prog 17 = true := by kernel_rfl
@[go_sem] theorem fact_ent18 : entB Try.prog 18 = true := by kernel_rfl
@[go_sem] theorem fact_ent19 : entB Try.prog 19 = true := by kernel_rfl
@[go_sem] theorem fact_ent20 : entB Try.prog 20 = true := by kernel_rfl
@[go_sem] theorem fact_ent21 : entB Try.prog 21 = true := by kernel_rfl
@[go_sem] theorem fact_ent22 : entB Try.prog 22 = true := by kernel_rfl
@[go_sem] theorem fact_ent23 : entB Try.prog 23 = true := by kernel_rfl
@[go_sem] theorem fact_ent24 : entB Try.prog 24 = true := by kernel_rfl
@[go_sem] theorem fact_ent25 : entB Try.prog 25 = true := by kernel_rfl
@[go_sem] theorem fact_ent26 : entB Try.prog 26 = true := by kernel_rfl
@[go_sem] theorem fact_ent27 : entB Try.prog 27 = true := by kernel_rfl
@[go_sem] theorem fact_ent28 : entB Try.prog 28 = true := by kernel_rfl
@[go_sem] theorem fact_ent29 : entB Try.prog 29 = true := by kernel_rfl
@[go_sem] theorem fact_ent30 : entB Try.prog 30 = true := by kernel_rfl
@[go_sem] theorem fact_ent31 : entB Try.prog 31 = true := by kernel_rfl
@[go_sem] theorem fact_ent32 : entB Try.prog 32 = true := by kernel_rfl
@[go_sem] theorem fact_ent33 : entB Try.prog 33 = true := by kernel_rfl
@[go_sem] theorem fact_ent34 : entB Try.prog 34 = true := by kernel_rfl
@[go_sem] theorem fact_ent35 : entB Try.prog 35 = true := by kernel_rfl
@[go_sem] theorem fact_ent36 : entB Try.prog 36 = true := by kernel_rfl
@[go_sem] theorem fact_ent37 : entB Try.prog 37 = true := by kernel_rfl
@[go_sem] theorem fact_ent38 : entB Try.prog 38 = true := by kernel_rfl
@[go_sem] theorem fact_ent39 : entB Try.prog 39 = true := by kernel_rfl
@[go_sem] theorem fact_ent40 : entB Try.prog 40 = true := by kernel_rfl
@[go_sem] theorem fact_ent41 : entB Try.prog 41 = true := by kernel_rfl
@[go_sem] theorem fact_ent42 : entB Try.prog 42 = true := by kernel_rfl
@[go_sem] theorem fact_ent43 : entB Try.prog 43 = true := by kernel_rfl
@[go_sem] theorem fact_ent44 : entB Try.prog 44 = true := by kernel_rfl
@[go_sem] theorem fact_ent45 : entB Try.prog 45 = true := by kernel_rfl
@[go_sem] theorem fact_ent46 : entB Try.prog 46 = true := by kernel_rfl
@[go_sem] theorem fact_ent47 : entB Try.prog 47 = true := by kernel_rfl
@[go_sem] theorem fact_ent48 : entB Try.prog 48 = true := by kernel_rfl
@[go_sem] theorem fact_ent49 : entB Try.prog 49 = true := by kernel_rfl
@[go_sem] theorem fact_ent50 : entB Try.prog 50 = true := by kernel_rfl
@[go_sem] theorem fact_ent51 : entB Try.prog 51 = true := by kernel_rfl
@[go_sem] theorem fact_ent52 : entB Try.prog 52 = true := by kernel_rfl
@[go_sem] theorem fact_ent53 : entB Try.prog 53 = true := by kernel_rfl
@[go_sem] theorem fact_ent54 : entB Try.prog 54 = true := by kernel_rfl
@[go_sem] theorem fact_ent55 : entB Try.prog 55 = true := by kernel_rfl
@[go_sem] theorem fact_ent56 : entB Try.prog 56 = true := by kernel_rfl
@[go_sem] theorem fact_ent57 : entB Try.prog 57 = true := by kernel_rfl
@[go_sem] theorem fact_ent58 : entB Try.prog 58 = true := by kernel_rfl
@[go_sem] theorem fact_ent59 : entB Try.prog 59 = true := by kernel_rfl
@[go_sem] theorem fact_ent60 : entB Try.prog 60 = true := by kernel_rfl
@[go_sem] theorem fact_ent61 : entB Try.prog 61 = true := by kernel_rfl
@[go_sem] theorem fact_ent62 : entB Try.prog 62 = true := by kernel_rfl
@[go_sem] theorem fact_ent63 : entB Try.prog 63 = true := by kernel_rfl
@[go_sem] theorem fact_ent64 : entB Try.prog 64 = true := by kernel_rfl
@[go_sem] theorem fact_ent65 : entB Try.prog 65 = true := by kernel_rfl
@[go_sem] theorem fact_ent66 : entB Try.prog 66 = true := by kernel_rfl
@[go_sem] theorem fact_ent67 : entB Try.prog 67 = true := by kernel_rfl
@[go_sem] theorem fact_ent68 : entB Try.prog 68 = true := by kernel_rfl
@[go_sem] theorem fact_ent69 : entB Try.prog 69 = true := by kernel_rfl
@[go_sem] theorem fact_ent70 : entB Try.prog 70 = true := by kernel_rfl
@[go_sem] theorem fact_ent71 : entB Try.prog 71 = true := by kernel_rfl
@[go_sem] theorem fact_ent72 : entB Try.prog 72 = true := by kernel_rfl
@[go_sem] theorem fact_ent73 : entB Try.prog 73 = true := by kernel_rfl
@[go_sem] theorem fact_ent74 : entB Try.prog 74 = true := by kernel_rfl
@[go_sem] theorem fact_ent77 : entB Try.prog 77 = true := by kernel_rfl
@[go_sem] theorem fact_ent78 : entB Try.prog 78 = true := by kernel_rfl
@[go_sem] theorem fact_ent79 : entB Try.prog 79 = true := by kernel_rfl
@[go_sem] theorem fact_ent80 : entB Try.prog 80 = true := by kernel_rfl
@[go_sem] theorem fact_ent82 : entB Try.prog 82 = true := by kernel_rfl
@[go_sem] theorem fact_ent83 : entB Try.prog 83 = true := by kernel_rfl
@[go_sem] theorem fact_ent84 : entB Try.prog 84 = true := by kernel_rfl
@[go_sem] theorem fact_ent85 : entB Try.prog 85 = true := by kernel_rfl
@[go_sem] theorem fact_ent86 : entB Try.prog 86 = true := by kernel_rfl
@[go_sem] theorem fact_ent87 : entB Try.prog 87 = true := by kernel_rfl
@[go_sem] theorem fact_ent88 : entB Try.prog 88 = true := by kernel_rfl
@[go_sem] theorem fact_ent89 : entB Try.prog 89 = true := by kernel_rfl
@[go_sem] theorem fact_ent90 : entB Try.prog 90 = true := by kernel_rfl
@[go_sem] theorem fact_ent91 : entB Try.prog 91 = true := by kernel_rfl
@[go_sem] theorem fact_ent92 : entB Try.prog 92 = true := by kernel_rfl
@[go_sem] theorem fact_ent94 : entB Try.prog 94 = true := by kernel_rfl
@[go_sem] theorem fact_ent95 : entB Try.prog 95 = true := by kernel_rfl
@[go_sem] theorem fact_ent96 : entB Try.prog 96 = true := by kernel_rfl
@[go_sem] theorem fact_ent97 : entB Try.prog 97 = true := by kernel_rfl
@[go_sem] theorem fact_mixed : Try.prog.follows .mixedOrders = true := by kernel_rfl
end Go.Proofs.Ytopmmodcaoaaeaa
