/- Facts on the types and functions of this translation, printed by a program of this claim (facts.py). No condition. -/
import Derived.Test.YtgjfkklemelejaaRows
import Derived.Test.YtgjfkklemelejaaSyR
namespace Go.Proofs.Ytgjfkklemelejaa
set_option linter.unusedVariables false
open Sy
@[go_sem] theorem fact_sz1 : szB Try.prog 1 = some 1 := by kernel_rfl
@[go_sem] theorem fact_nz1 : nzB Try.prog 1 = true := by kernel_rfl
@[go_sem] theorem fact_ag1 : aggO Try.prog 1 = some false := by kernel_rfl
@[go_sem] theorem fact_noint1 : intB Try.prog 1 = none := by kernel_rfl
@[go_sem] theorem fact_noelem1 : elemB Try.prog 1 = none := by kernel_rfl
@[go_sem] theorem fact_sz2 : szB Try.prog 2 = some 1 := by kernel_rfl
@[go_sem] theorem fact_nz2 : nzB Try.prog 2 = true := by kernel_rfl
@[go_sem] theorem fact_ag2 : aggO Try.prog 2 = some false := by kernel_rfl
@[go_sem] theorem fact_int2 : intB Try.prog 2 = some .i64 := by kernel_rfl
@[go_sem] theorem fact_noelem2 : elemB Try.prog 2 = none := by kernel_rfl
@[go_sem] theorem fact_el2 : elI Try.prog 2 = some (1, 8) := by kernel_rfl
@[go_sem] theorem fact_zero2 : zeroOf Try.prog 2 = some (.lit (.int .i64 0)) := by kernel_rfl
@[go_sem] theorem fact_sz3 : szB Try.prog 3 = some 1 := by kernel_rfl
@[go_sem] theorem fact_nz3 : nzB Try.prog 3 = true := by kernel_rfl
@[go_sem] theorem fact_ag3 : aggO Try.prog 3 = some false := by kernel_rfl
@[go_sem] theorem fact_int3 : intB Try.prog 3 = some .i64 := by kernel_rfl
@[go_sem] theorem fact_noelem3 : elemB Try.prog 3 = none := by kernel_rfl
@[go_sem] theorem fact_el3 : elI Try.prog 3 = some (1, 8) := by kernel_rfl
@[go_sem] theorem fact_zero3 : zeroOf Try.prog 3 = some (.lit (.int .i64 0)) := by kernel_rfl
@[go_sem] theorem fact_sz4 : szB Try.prog 4 = some 1 := by kernel_rfl
@[go_sem] theorem fact_nz4 : nzB Try.prog 4 = true := by kernel_rfl
@[go_sem] theorem fact_ag4 : aggO Try.prog 4 = some false := by kernel_rfl
@[go_sem] theorem fact_noint4 : intB Try.prog 4 = none := by kernel_rfl
@[go_sem] theorem fact_bool4 : boolB Try.prog 4 = true := by kernel_rfl
@[go_sem] theorem fact_noelem4 : elemB Try.prog 4 = none := by kernel_rfl
@[go_sem] theorem fact_el4 : elI Try.prog 4 = some (1, 1) := by kernel_rfl
@[go_sem] theorem fact_zero4 : zeroOf Try.prog 4 = some (.lit (.bool false)) := by kernel_rfl
@[go_sem] theorem fact_sz5 : szB Try.prog 5 = some 1 := by kernel_rfl
@[go_sem] theorem fact_nz5 : nzB Try.prog 5 = true := by kernel_rfl
@[go_sem] theorem fact_ag5 : aggO Try.prog 5 = some false := by kernel_rfl
@[go_sem] theorem fact_int5 : intB Try.prog 5 = some .u8 := by kernel_rfl
@[go_sem] theorem fact_noelem5 : elemB Try.prog 5 = none := by kernel_rfl
@[go_sem] theorem fact_el5 : elI Try.prog 5 = some (1, 1) := by kernel_rfl
@[go_sem] theorem fact_zero5 : zeroOf Try.prog 5 = some (.lit (.int .u8 0)) := by kernel_rfl
@[go_sem] theorem fact_sz6 : szB Try.prog 6 = some 1 := by kernel_rfl
@[go_sem] theorem fact_nz6 : nzB Try.prog 6 = true := by kernel_rfl
@[go_sem] theorem fact_ag6 : aggO Try.prog 6 = some false := by kernel_rfl
@[go_sem] theorem fact_int6 : intB Try.prog 6 = some .u8 := by kernel_rfl
@[go_sem] theorem fact_noelem6 : elemB Try.prog 6 = none := by kernel_rfl
@[go_sem] theorem fact_el6 : elI Try.prog 6 = some (1, 1) := by kernel_rfl
@[go_sem] theorem fact_zero6 : zeroOf Try.prog 6 = some (.lit (.int .u8 0)) := by kernel_rfl
@[go_sem] theorem fact_sz7 : szB Try.prog 7 = some 4 := by kernel_rfl
@[go_sem] theorem fact_nz7 : nzB Try.prog 7 = true := by kernel_rfl
@[go_sem] theorem fact_ag7 : aggO Try.prog 7 = some true := by kernel_rfl
@[go_sem] theorem fact_noint7 : intB Try.prog 7 = none := by kernel_rfl
@[go_sem] theorem fact_noelem7 : elemB Try.prog 7 = none := by kernel_rfl
@[go_sem] theorem fact_noarr7 : arrB Try.prog 7 = none := by kernel_rfl
@[go_sem] theorem fact_fld7_0 : fldB Try.prog 7 0 = some (0, 2) := by kernel_rfl
@[go_sem] theorem fact_fld7_1 : fldB Try.prog 7 1 = some (1, 3) := by kernel_rfl
@[go_sem] theorem fact_fld7_2 : fldB Try.prog 7 2 = some (2, 4) := by kernel_rfl
@[go_sem] theorem fact_fld7_3 : fldB Try.prog 7 3 = some (3, 6) := by kernel_rfl
@[go_sem] theorem fact_pl7 : plB Try.prog 7 = some [(0, 1), (1, 1), (2, 1), (3, 1)] := by kernel_rfl
@[go_sem] theorem fact_flds7 : fldsB Try.prog 7 = some [(0, 2), (1, 3), (2, 4), (3, 6)] := by kernel_rfl
@[go_sem] theorem fact_sz8 : szB Try.prog 8 = some 4 := by kernel_rfl
@[go_sem] theorem fact_nz8 : nzB Try.prog 8 = true := by kernel_rfl
@[go_sem] theorem fact_ag8 : aggO Try.prog 8 = some true := by kernel_rfl
@[go_sem] theorem fact_noint8 : intB Try.prog 8 = none := by kernel_rfl
@[go_sem] theorem fact_noelem8 : elemB Try.prog 8 = none := by kernel_rfl
@[go_sem] theorem fact_noarr8 : arrB Try.prog 8 = none := by kernel_rfl
@[go_sem] theorem fact_fld8_0 : fldB Try.prog 8 0 = some (0, 2) := by kernel_rfl
@[go_sem] theorem fact_fld8_1 : fldB Try.prog 8 1 = some (1, 3) := by kernel_rfl
@[go_sem] theorem fact_fld8_2 : fldB Try.prog 8 2 = some (2, 4) := by kernel_rfl
@[go_sem] theorem fact_fld8_3 : fldB Try.prog 8 3 = some (3, 6) := by kernel_rfl
@[go_sem] theorem fact_pl8 : plB Try.prog 8 = some [(0, 1), (1, 1), (2, 1), (3, 1)] := by kernel_rfl
@[go_sem] theorem fact_flds8 : fldsB Try.prog 8 = some [(0, 2), (1, 3), (2, 4), (3, 6)] := by kernel_rfl
@[go_sem] theorem fact_sz9 : szB Try.prog 9 = some 1 := by kernel_rfl
@[go_sem] theorem fact_nz9 : nzB Try.prog 9 = true := by kernel_rfl
@[go_sem] theorem fact_ag9 : aggO Try.prog 9 = some false := by kernel_rfl
@[go_sem] theorem fact_noint9 : intB Try.prog 9 = none := by kernel_rfl
@[go_sem] theorem fact_str9 : strB Try.prog 9 = true := by kernel_rfl
@[go_sem] theorem fact_noelem9 : elemB Try.prog 9 = none := by kernel_rfl
@[go_sem] theorem fact_el9 : elI Try.prog 9 = some (1, 16) := by kernel_rfl
@[go_sem] theorem fact_zero9 : zeroOf Try.prog 9 = some (.lit (.string ByteArray.empty)) := by kernel_rfl
@[go_sem] theorem fact_sz10 : szB Try.prog 10 = some 1 := by kernel_rfl
@[go_sem] theorem fact_nz10 : nzB Try.prog 10 = true := by kernel_rfl
@[go_sem] theorem fact_ag10 : aggO Try.prog 10 = some false := by kernel_rfl
@[go_sem] theorem fact_noint10 : intB Try.prog 10 = none := by kernel_rfl
@[go_sem] theorem fact_str10 : strB Try.prog 10 = true := by kernel_rfl
@[go_sem] theorem fact_noelem10 : elemB Try.prog 10 = none := by kernel_rfl
@[go_sem] theorem fact_el10 : elI Try.prog 10 = some (1, 16) := by kernel_rfl
@[go_sem] theorem fact_zero10 : zeroOf Try.prog 10 = some (.lit (.string ByteArray.empty)) := by kernel_rfl
@[go_sem] theorem fact_sz11 : szB Try.prog 11 = some 1 := by kernel_rfl
@[go_sem] theorem fact_nz11 : nzB Try.prog 11 = true := by kernel_rfl
@[go_sem] theorem fact_ag11 : aggO Try.prog 11 = some false := by kernel_rfl
@[go_sem] theorem fact_noint11 : intB Try.prog 11 = none := by kernel_rfl
@[go_sem] theorem fact_str11 : strB Try.prog 11 = true := by kernel_rfl
@[go_sem] theorem fact_noelem11 : elemB Try.prog 11 = none := by kernel_rfl
@[go_sem] theorem fact_el11 : elI Try.prog 11 = some (1, 16) := by kernel_rfl
@[go_sem] theorem fact_zero11 : zeroOf Try.prog 11 = some (.lit (.string ByteArray.empty)) := by kernel_rfl
@[go_sem] theorem fact_sz12 : szB Try.prog 12 = some 1 := by kernel_rfl
@[go_sem] theorem fact_nz12 : nzB Try.prog 12 = true := by kernel_rfl
@[go_sem] theorem fact_ag12 : aggO Try.prog 12 = some false := by kernel_rfl
@[go_sem] theorem fact_int12 : intB Try.prog 12 = some .u64 := by kernel_rfl
@[go_sem] theorem fact_noelem12 : elemB Try.prog 12 = none := by kernel_rfl
@[go_sem] theorem fact_el12 : elI Try.prog 12 = some (1, 8) := by kernel_rfl
@[go_sem] theorem fact_zero12 : zeroOf Try.prog 12 = some (.lit (.int .u64 0)) := by kernel_rfl
@[go_sem] theorem fact_sz13 : szB Try.prog 13 = some 2 := by kernel_rfl
@[go_sem] theorem fact_nz13 : nzB Try.prog 13 = true := by kernel_rfl
@[go_sem] theorem fact_ag13 : aggO Try.prog 13 = some true := by kernel_rfl
@[go_sem] theorem fact_noint13 : intB Try.prog 13 = none := by kernel_rfl
@[go_sem] theorem fact_noelem13 : elemB Try.prog 13 = none := by kernel_rfl
@[go_sem] theorem fact_noarr13 : arrB Try.prog 13 = none := by kernel_rfl
@[go_sem] theorem fact_fld13_0 : fldB Try.prog 13 0 = some (0, 9) := by kernel_rfl
@[go_sem] theorem fact_fld13_1 : fldB Try.prog 13 1 = some (1, 12) := by kernel_rfl
@[go_sem] theorem fact_pl13 : plB Try.prog 13 = some [(0, 1), (1, 1)] := by kernel_rfl
@[go_sem] theorem fact_flds13 : fldsB Try.prog 13 = some [(0, 9), (1, 12)] := by kernel_rfl
@[go_sem] theorem fact_sz14 : szB Try.prog 14 = some 2 := by kernel_rfl
@[go_sem] theorem fact_nz14 : nzB Try.prog 14 = true := by kernel_rfl
@[go_sem] theorem fact_ag14 : aggO Try.prog 14 = some true := by kernel_rfl
@[go_sem] theorem fact_noint14 : intB Try.prog 14 = none := by kernel_rfl
@[go_sem] theorem fact_noelem14 : elemB Try.prog 14 = none := by kernel_rfl
@[go_sem] theorem fact_noarr14 : arrB Try.prog 14 = none := by kernel_rfl
@[go_sem] theorem fact_fld14_0 : fldB Try.prog 14 0 = some (0, 9) := by kernel_rfl
@[go_sem] theorem fact_fld14_1 : fldB Try.prog 14 1 = some (1, 12) := by kernel_rfl
@[go_sem] theorem fact_pl14 : plB Try.prog 14 = some [(0, 1), (1, 1)] := by kernel_rfl
@[go_sem] theorem fact_flds14 : fldsB Try.prog 14 = some [(0, 9), (1, 12)] := by kernel_rfl
@[go_sem] theorem fact_sz15 : szB Try.prog 15 = some 1 := by kernel_rfl
@[go_sem] theorem fact_nz15 : nzB Try.prog 15 = true := by kernel_rfl
@[go_sem] theorem fact_ag15 : aggO Try.prog 15 = some false := by kernel_rfl
@[go_sem] theorem fact_noint15 : intB Try.prog 15 = none := by kernel_rfl
@[go_sem] theorem fact_noelem15 : elemB Try.prog 15 = none := by kernel_rfl
@[go_sem] theorem fact_el15 : elI Try.prog 15 = some (1, 8) := by kernel_rfl
@[go_sem] theorem fact_zero15 : zeroOf Try.prog 15 = some (.lit (.pointer none)) := by kernel_rfl
@[go_sem] theorem fact_sz16 : szB Try.prog 16 = some 1 := by kernel_rfl
@[go_sem] theorem fact_nz16 : nzB Try.prog 16 = true := by kernel_rfl
@[go_sem] theorem fact_ag16 : aggO Try.prog 16 = some false := by kernel_rfl
@[go_sem] theorem fact_noint16 : intB Try.prog 16 = none := by kernel_rfl
@[go_sem] theorem fact_noelem16 : elemB Try.prog 16 = none := by kernel_rfl
@[go_sem] theorem fact_el16 : elI Try.prog 16 = some (1, 8) := by kernel_rfl
@[go_sem] theorem fact_zero16 : zeroOf Try.prog 16 = some (.lit (.pointer none)) := by kernel_rfl
@[go_sem] theorem fact_sz17 : szB Try.prog 17 = some 1 := by kernel_rfl
@[go_sem] theorem fact_nz17 : nzB Try.prog 17 = true := by kernel_rfl
@[go_sem] theorem fact_ag17 : aggO Try.prog 17 = some false := by kernel_rfl
@[go_sem] theorem fact_noint17 : intB Try.prog 17 = none := by kernel_rfl
@[go_sem] theorem fact_noelem17 : elemB Try.prog 17 = none := by kernel_rfl
@[go_sem] theorem fact_el17 : elI Try.prog 17 = some (1, 8) := by kernel_rfl
@[go_sem] theorem fact_zero17 : zeroOf Try.prog 17 = some (.lit (.pointer none)) := by kernel_rfl
@[go_sem] theorem fact_sz18 : szB Try.prog 18 = some 1 := by kernel_rfl
@[go_sem] theorem fact_nz18 : nzB Try.prog 18 = true := by kernel_rfl
@[go_sem] theorem fact_ag18 : aggO Try.prog 18 = some true := by kernel_rfl
@[go_sem] theorem fact_noint18 : intB Try.prog 18 = none := by kernel_rfl
@[go_sem] theorem fact_noelem18 : elemB Try.prog 18 = none := by kernel_rfl
@[go_sem] theorem fact_noarr18 : arrB Try.prog 18 = none := by kernel_rfl
@[go_sem] theorem fact_fld18_0 : fldB Try.prog 18 0 = some (0, 17) := by kernel_rfl
@[go_sem] theorem fact_pl18 : plB Try.prog 18 = some [(0, 1)] := by kernel_rfl
@[go_sem] theorem fact_flds18 : fldsB Try.prog 18 = some [(0, 17)] := by kernel_rfl
@[go_sem] theorem fact_sz19 : szB Try.prog 19 = some 1 := by kernel_rfl
@[go_sem] theorem fact_nz19 : nzB Try.prog 19 = true := by kernel_rfl
@[go_sem] theorem fact_ag19 : aggO Try.prog 19 = some true := by kernel_rfl
@[go_sem] theorem fact_noint19 : intB Try.prog 19 = none := by kernel_rfl
@[go_sem] theorem fact_noelem19 : elemB Try.prog 19 = none := by kernel_rfl
@[go_sem] theorem fact_noarr19 : arrB Try.prog 19 = none := by kernel_rfl
@[go_sem] theorem fact_fld19_0 : fldB Try.prog 19 0 = some (0, 17) := by kernel_rfl
@[go_sem] theorem fact_pl19 : plB Try.prog 19 = some [(0, 1)] := by kernel_rfl
@[go_sem] theorem fact_flds19 : fldsB Try.prog 19 = some [(0, 17)] := by kernel_rfl
@[go_sem] theorem fact_sz21 : szB Try.prog 21 = some 1 := by kernel_rfl
@[go_sem] theorem fact_nz21 : nzB Try.prog 21 = true := by kernel_rfl
@[go_sem] theorem fact_ag21 : aggO Try.prog 21 = some false := by kernel_rfl
@[go_sem] theorem fact_int21 : intB Try.prog 21 = some .i32 := by kernel_rfl
@[go_sem] theorem fact_noelem21 : elemB Try.prog 21 = none := by kernel_rfl
@[go_sem] theorem fact_el21 : elI Try.prog 21 = some (1, 4) := by kernel_rfl
@[go_sem] theorem fact_zero21 : zeroOf Try.prog 21 = some (.lit (.int .i32 0)) := by kernel_rfl
@[go_sem] theorem fact_sz22 : szB Try.prog 22 = some 1 := by kernel_rfl
@[go_sem] theorem fact_nz22 : nzB Try.prog 22 = true := by kernel_rfl
@[go_sem] theorem fact_ag22 : aggO Try.prog 22 = some false := by kernel_rfl
@[go_sem] theorem fact_noint22 : intB Try.prog 22 = none := by kernel_rfl
@[go_sem] theorem fact_elem22 : elemB Try.prog 22 = some 3 := by kernel_rfl
@[go_sem] theorem fact_el22 : elI Try.prog 22 = some (1, 24) := by kernel_rfl
@[go_sem] theorem fact_zero22 : zeroOf Try.prog 22 = some (.lit (.slice none 0 0)) := by kernel_rfl
@[go_sem] theorem fact_sz23 : szB Try.prog 23 = some 1 := by kernel_rfl
@[go_sem] theorem fact_nz23 : nzB Try.prog 23 = true := by kernel_rfl
@[go_sem] theorem fact_ag23 : aggO Try.prog 23 = some false := by kernel_rfl
@[go_sem] theorem fact_noint23 : intB Try.prog 23 = none := by kernel_rfl
@[go_sem] theorem fact_noelem23 : elemB Try.prog 23 = none := by kernel_rfl
@[go_sem] theorem fact_sz24 : szB Try.prog 24 = some 1 := by kernel_rfl
@[go_sem] theorem fact_nz24 : nzB Try.prog 24 = true := by kernel_rfl
@[go_sem] theorem fact_ag24 : aggO Try.prog 24 = some false := by kernel_rfl
@[go_sem] theorem fact_noint24 : intB Try.prog 24 = none := by kernel_rfl
@[go_sem] theorem fact_noelem24 : elemB Try.prog 24 = none := by kernel_rfl
@[go_sem] theorem fact_sz25 : szB Try.prog 25 = some 1 := by kernel_rfl
@[go_sem] theorem fact_nz25 : nzB Try.prog 25 = true := by kernel_rfl
@[go_sem] theorem fact_ag25 : aggO Try.prog 25 = some false := by kernel_rfl
@[go_sem] theorem fact_noint25 : intB Try.prog 25 = none := by kernel_rfl
@[go_sem] theorem fact_noelem25 : elemB Try.prog 25 = none := by kernel_rfl
@[go_sem] theorem fact_el25 : elI Try.prog 25 = some (1, 8) := by kernel_rfl
@[go_sem] theorem fact_zero25 : zeroOf Try.prog 25 = some (.lit (.pointer none)) := by kernel_rfl
@[go_sem] theorem fact_sz26 : szB Try.prog 26 = some 1 := by kernel_rfl
@[go_sem] theorem fact_nz26 : nzB Try.prog 26 = true := by kernel_rfl
@[go_sem] theorem fact_ag26 : aggO Try.prog 26 = some false := by kernel_rfl
@[go_sem] theorem fact_noint26 : intB Try.prog 26 = none := by kernel_rfl
@[go_sem] theorem fact_noelem26 : elemB Try.prog 26 = none := by kernel_rfl
@[go_sem] theorem fact_sz27 : szB Try.prog 27 = some 1 := by kernel_rfl
@[go_sem] theorem fact_nz27 : nzB Try.prog 27 = true := by kernel_rfl
@[go_sem] theorem fact_ag27 : aggO Try.prog 27 = some false := by kernel_rfl
@[go_sem] theorem fact_noint27 : intB Try.prog 27 = none := by kernel_rfl
@[go_sem] theorem fact_elem27 : elemB Try.prog 27 = some 38 := by kernel_rfl
@[go_sem] theorem fact_el27 : elI Try.prog 27 = some (1, 24) := by kernel_rfl
@[go_sem] theorem fact_zero27 : zeroOf Try.prog 27 = some (.lit (.slice none 0 0)) := by kernel_rfl
@[go_sem] theorem fact_sz29 : szB Try.prog 29 = some 1 := by kernel_rfl
@[go_sem] theorem fact_nz29 : nzB Try.prog 29 = true := by kernel_rfl
@[go_sem] theorem fact_ag29 : aggO Try.prog 29 = some false := by kernel_rfl
@[go_sem] theorem fact_noint29 : intB Try.prog 29 = none := by kernel_rfl
@[go_sem] theorem fact_noelem29 : elemB Try.prog 29 = none := by kernel_rfl
@[go_sem] theorem fact_sz30 : szB Try.prog 30 = some 1 := by kernel_rfl
@[go_sem] theorem fact_nz30 : nzB Try.prog 30 = true := by kernel_rfl
@[go_sem] theorem fact_ag30 : aggO Try.prog 30 = some false := by kernel_rfl
@[go_sem] theorem fact_noint30 : intB Try.prog 30 = none := by kernel_rfl
@[go_sem] theorem fact_elem30 : elemB Try.prog 30 = some 36 := by kernel_rfl
@[go_sem] theorem fact_el30 : elI Try.prog 30 = some (1, 24) := by kernel_rfl
@[go_sem] theorem fact_zero30 : zeroOf Try.prog 30 = some (.lit (.slice none 0 0)) := by kernel_rfl
@[go_sem] theorem fact_sz31 : szB Try.prog 31 = some 1 := by kernel_rfl
@[go_sem] theorem fact_nz31 : nzB Try.prog 31 = true := by kernel_rfl
@[go_sem] theorem fact_ag31 : aggO Try.prog 31 = some false := by kernel_rfl
@[go_sem] theorem fact_int31 : intB Try.prog 31 = some .i64 := by kernel_rfl
@[go_sem] theorem fact_noelem31 : elemB Try.prog 31 = none := by kernel_rfl
@[go_sem] theorem fact_el31 : elI Try.prog 31 = some (1, 8) := by kernel_rfl
@[go_sem] theorem fact_zero31 : zeroOf Try.prog 31 = some (.lit (.int .i64 0)) := by kernel_rfl
@[go_sem] theorem fact_sz33 : szB Try.prog 33 = some 1 := by kernel_rfl
@[go_sem] theorem fact_nz33 : nzB Try.prog 33 = true := by kernel_rfl
@[go_sem] theorem fact_ag33 : aggO Try.prog 33 = some false := by kernel_rfl
@[go_sem] theorem fact_noint33 : intB Try.prog 33 = none := by kernel_rfl
@[go_sem] theorem fact_noelem33 : elemB Try.prog 33 = none := by kernel_rfl
@[go_sem] theorem fact_sz34 : szB Try.prog 34 = some 1 := by kernel_rfl
@[go_sem] theorem fact_nz34 : nzB Try.prog 34 = true := by kernel_rfl
@[go_sem] theorem fact_ag34 : aggO Try.prog 34 = some false := by kernel_rfl
@[go_sem] theorem fact_noint34 : intB Try.prog 34 = none := by kernel_rfl
@[go_sem] theorem fact_noelem34 : elemB Try.prog 34 = none := by kernel_rfl
@[go_sem] theorem fact_sz35 : szB Try.prog 35 = some 3 := by kernel_rfl
@[go_sem] theorem fact_nz35 : nzB Try.prog 35 = true := by kernel_rfl
@[go_sem] theorem fact_ag35 : aggO Try.prog 35 = some true := by kernel_rfl
@[go_sem] theorem fact_noint35 : intB Try.prog 35 = none := by kernel_rfl
@[go_sem] theorem fact_noelem35 : elemB Try.prog 35 = none := by kernel_rfl
@[go_sem] theorem fact_noarr35 : arrB Try.prog 35 = none := by kernel_rfl
@[go_sem] theorem fact_fld35_0 : fldB Try.prog 35 0 = some (0, 3) := by kernel_rfl
@[go_sem] theorem fact_fld35_1 : fldB Try.prog 35 1 = some (1, 3) := by kernel_rfl
@[go_sem] theorem fact_fld35_2 : fldB Try.prog 35 2 = some (2, 4) := by kernel_rfl
@[go_sem] theorem fact_pl35 : plB Try.prog 35 = some [(0, 1), (1, 1), (2, 1)] := by kernel_rfl
@[go_sem] theorem fact_flds35 : fldsB Try.prog 35 = some [(0, 3), (1, 3), (2, 4)] := by kernel_rfl
@[go_sem] theorem fact_held35 : Try.prog.stoodInHeld 35 = false := by kernel_rfl
@[go_sem] theorem fact_guard35 : Try.prog.eqGuardType Try.prog.depth 35 = false := by kernel_rfl
@[go_sem] theorem fact_el35 : elI Try.prog 35 = some (3, 24) := by kernel_rfl
@[go_sem] theorem fact_zero35 : zeroOf Try.prog 35 = some (.agg [.lit (.int .i64 0), .lit (.int .i64 0), .lit (.bool false)]) := by kernel_rfl
@[go_sem] theorem fact_sz36 : szB Try.prog 36 = some 3 := by kernel_rfl
@[go_sem] theorem fact_nz36 : nzB Try.prog 36 = true := by kernel_rfl
@[go_sem] theorem fact_ag36 : aggO Try.prog 36 = some true := by kernel_rfl
@[go_sem] theorem fact_noint36 : intB Try.prog 36 = none := by kernel_rfl
@[go_sem] theorem fact_noelem36 : elemB Try.prog 36 = none := by kernel_rfl
@[go_sem] theorem fact_noarr36 : arrB Try.prog 36 = none := by kernel_rfl
@[go_sem] theorem fact_fld36_0 : fldB Try.prog 36 0 = some (0, 3) := by kernel_rfl
@[go_sem] theorem fact_fld36_1 : fldB Try.prog 36 1 = some (1, 3) := by kernel_rfl
@[go_sem] theorem fact_fld36_2 : fldB Try.prog 36 2 = some (2, 4) := by kernel_rfl
@[go_sem] theorem fact_pl36 : plB Try.prog 36 = some [(0, 1), (1, 1), (2, 1)] := by kernel_rfl
@[go_sem] theorem fact_flds36 : fldsB Try.prog 36 = some [(0, 3), (1, 3), (2, 4)] := by kernel_rfl
@[go_sem] theorem fact_held36 : Try.prog.stoodInHeld 36 = false := by kernel_rfl
@[go_sem] theorem fact_guard36 : Try.prog.eqGuardType Try.prog.depth 36 = false := by kernel_rfl
@[go_sem] theorem fact_el36 : elI Try.prog 36 = some (3, 24) := by kernel_rfl
@[go_sem] theorem fact_zero36 : zeroOf Try.prog 36 = some (.agg [.lit (.int .i64 0), .lit (.int .i64 0), .lit (.bool false)]) := by kernel_rfl
@[go_sem] theorem fact_sz37 : szB Try.prog 37 = some 2 := by kernel_rfl
@[go_sem] theorem fact_nz37 : nzB Try.prog 37 = true := by kernel_rfl
@[go_sem] theorem fact_ag37 : aggO Try.prog 37 = some true := by kernel_rfl
@[go_sem] theorem fact_noint37 : intB Try.prog 37 = none := by kernel_rfl
@[go_sem] theorem fact_noelem37 : elemB Try.prog 37 = none := by kernel_rfl
@[go_sem] theorem fact_noarr37 : arrB Try.prog 37 = none := by kernel_rfl
@[go_sem] theorem fact_fld37_0 : fldB Try.prog 37 0 = some (0, 3) := by kernel_rfl
@[go_sem] theorem fact_fld37_1 : fldB Try.prog 37 1 = some (1, 3) := by kernel_rfl
@[go_sem] theorem fact_pl37 : plB Try.prog 37 = some [(0, 1), (1, 1)] := by kernel_rfl
@[go_sem] theorem fact_flds37 : fldsB Try.prog 37 = some [(0, 3), (1, 3)] := by kernel_rfl
@[go_sem] theorem fact_held37 : Try.prog.stoodInHeld 37 = false := by kernel_rfl
@[go_sem] theorem fact_guard37 : Try.prog.eqGuardType Try.prog.depth 37 = false := by kernel_rfl
@[go_sem] theorem fact_el37 : elI Try.prog 37 = some (2, 16) := by kernel_rfl
@[go_sem] theorem fact_zero37 : zeroOf Try.prog 37 = some (.agg [.lit (.int .i64 0), .lit (.int .i64 0)]) := by kernel_rfl
@[go_sem] theorem fact_sz38 : szB Try.prog 38 = some 2 := by kernel_rfl
@[go_sem] theorem fact_nz38 : nzB Try.prog 38 = true := by kernel_rfl
@[go_sem] theorem fact_ag38 : aggO Try.prog 38 = some true := by kernel_rfl
@[go_sem] theorem fact_noint38 : intB Try.prog 38 = none := by kernel_rfl
@[go_sem] theorem fact_noelem38 : elemB Try.prog 38 = none := by kernel_rfl
@[go_sem] theorem fact_noarr38 : arrB Try.prog 38 = none := by kernel_rfl
@[go_sem] theorem fact_fld38_0 : fldB Try.prog 38 0 = some (0, 3) := by kernel_rfl
@[go_sem] theorem fact_fld38_1 : fldB Try.prog 38 1 = some (1, 3) := by kernel_rfl
@[go_sem] theorem fact_pl38 : plB Try.prog 38 = some [(0, 1), (1, 1)] := by kernel_rfl
@[go_sem] theorem fact_flds38 : fldsB Try.prog 38 = some [(0, 3), (1, 3)] := by kernel_rfl
@[go_sem] theorem fact_held38 : Try.prog.stoodInHeld 38 = false := by kernel_rfl
@[go_sem] theorem fact_guard38 : Try.prog.eqGuardType Try.prog.depth 38 = false := by kernel_rfl
@[go_sem] theorem fact_el38 : elI Try.prog 38 = some (2, 16) := by kernel_rfl
@[go_sem] theorem fact_zero38 : zeroOf Try.prog 38 = some (.agg [.lit (.int .i64 0), .lit (.int .i64 0)]) := by kernel_rfl
@[go_sem] theorem fact_sz39 : szB Try.prog 39 = some 1 := by kernel_rfl
@[go_sem] theorem fact_nz39 : nzB Try.prog 39 = true := by kernel_rfl
@[go_sem] theorem fact_ag39 : aggO Try.prog 39 = some false := by kernel_rfl
@[go_sem] theorem fact_noint39 : intB Try.prog 39 = none := by kernel_rfl
@[go_sem] theorem fact_noelem39 : elemB Try.prog 39 = none := by kernel_rfl
@[go_sem] theorem fact_sz40 : szB Try.prog 40 = some 1 := by kernel_rfl
@[go_sem] theorem fact_nz40 : nzB Try.prog 40 = true := by kernel_rfl
@[go_sem] theorem fact_ag40 : aggO Try.prog 40 = some false := by kernel_rfl
@[go_sem] theorem fact_noint40 : intB Try.prog 40 = none := by kernel_rfl
@[go_sem] theorem fact_noelem40 : elemB Try.prog 40 = none := by kernel_rfl
@[go_sem] theorem fact_sz41 : szB Try.prog 41 = some 1 := by kernel_rfl
@[go_sem] theorem fact_nz41 : nzB Try.prog 41 = true := by kernel_rfl
@[go_sem] theorem fact_ag41 : aggO Try.prog 41 = some false := by kernel_rfl
@[go_sem] theorem fact_noint41 : intB Try.prog 41 = none := by kernel_rfl
@[go_sem] theorem fact_noelem41 : elemB Try.prog 41 = none := by kernel_rfl
@[go_sem] theorem fact_sz42 : szB Try.prog 42 = some 1 := by kernel_rfl
@[go_sem] theorem fact_nz42 : nzB Try.prog 42 = true := by kernel_rfl
@[go_sem] theorem fact_ag42 : aggO Try.prog 42 = some false := by kernel_rfl
@[go_sem] theorem fact_noint42 : intB Try.prog 42 = none := by kernel_rfl
@[go_sem] theorem fact_noelem42 : elemB Try.prog 42 = none := by kernel_rfl
@[go_sem] theorem fact_sz44 : szB Try.prog 44 = some 1 := by kernel_rfl
@[go_sem] theorem fact_nz44 : nzB Try.prog 44 = true := by kernel_rfl
@[go_sem] theorem fact_ag44 : aggO Try.prog 44 = some false := by kernel_rfl
@[go_sem] theorem fact_noint44 : intB Try.prog 44 = none := by kernel_rfl
@[go_sem] theorem fact_noelem44 : elemB Try.prog 44 = none := by kernel_rfl
@[go_sem] theorem fact_sz45 : szB Try.prog 45 = some 1 := by kernel_rfl
@[go_sem] theorem fact_nz45 : nzB Try.prog 45 = true := by kernel_rfl
@[go_sem] theorem fact_ag45 : aggO Try.prog 45 = some false := by kernel_rfl
@[go_sem] theorem fact_noint45 : intB Try.prog 45 = none := by kernel_rfl
@[go_sem] theorem fact_elem45 : elemB Try.prog 45 = some 50 := by kernel_rfl
@[go_sem] theorem fact_el45 : elI Try.prog 45 = some (1, 24) := by kernel_rfl
@[go_sem] theorem fact_zero45 : zeroOf Try.prog 45 = some (.lit (.slice none 0 0)) := by kernel_rfl
@[go_sem] theorem fact_sz46 : szB Try.prog 46 = some 1 := by kernel_rfl
@[go_sem] theorem fact_nz46 : nzB Try.prog 46 = true := by kernel_rfl
@[go_sem] theorem fact_ag46 : aggO Try.prog 46 = some false := by kernel_rfl
@[go_sem] theorem fact_noint46 : intB Try.prog 46 = none := by kernel_rfl
@[go_sem] theorem fact_noelem46 : elemB Try.prog 46 = none := by kernel_rfl
@[go_sem] theorem fact_sz48 : szB Try.prog 48 = some 1 := by kernel_rfl
@[go_sem] theorem fact_nz48 : nzB Try.prog 48 = true := by kernel_rfl
@[go_sem] theorem fact_ag48 : aggO Try.prog 48 = some false := by kernel_rfl
@[go_sem] theorem fact_noint48 : intB Try.prog 48 = none := by kernel_rfl
@[go_sem] theorem fact_noelem48 : elemB Try.prog 48 = none := by kernel_rfl
@[go_sem] theorem fact_sz49 : szB Try.prog 49 = some 4 := by kernel_rfl
@[go_sem] theorem fact_nz49 : nzB Try.prog 49 = true := by kernel_rfl
@[go_sem] theorem fact_ag49 : aggO Try.prog 49 = some true := by kernel_rfl
@[go_sem] theorem fact_noint49 : intB Try.prog 49 = none := by kernel_rfl
@[go_sem] theorem fact_noelem49 : elemB Try.prog 49 = none := by kernel_rfl
@[go_sem] theorem fact_noarr49 : arrB Try.prog 49 = none := by kernel_rfl
@[go_sem] theorem fact_fld49_0 : fldB Try.prog 49 0 = some (0, 3) := by kernel_rfl
@[go_sem] theorem fact_fld49_1 : fldB Try.prog 49 1 = some (1, 9) := by kernel_rfl
@[go_sem] theorem fact_fld49_2 : fldB Try.prog 49 2 = some (2, 3) := by kernel_rfl
@[go_sem] theorem fact_fld49_3 : fldB Try.prog 49 3 = some (3, 3) := by kernel_rfl
@[go_sem] theorem fact_pl49 : plB Try.prog 49 = some [(0, 1), (1, 1), (2, 1), (3, 1)] := by kernel_rfl
@[go_sem] theorem fact_flds49 : fldsB Try.prog 49 = some [(0, 3), (1, 9), (2, 3), (3, 3)] := by kernel_rfl
@[go_sem] theorem fact_held49 : Try.prog.stoodInHeld 49 = false := by kernel_rfl
@[go_sem] theorem fact_guard49 : Try.prog.eqGuardType Try.prog.depth 49 = false := by kernel_rfl
@[go_sem] theorem fact_el49 : elI Try.prog 49 = some (4, 40) := by kernel_rfl
@[go_sem] theorem fact_zero49 : zeroOf Try.prog 49 = some (.agg [.lit (.int .i64 0), .lit (.string ByteArray.empty), .lit (.int .i64 0), .lit (.int .i64 0)]) := by kernel_rfl
@[go_sem] theorem fact_sz50 : szB Try.prog 50 = some 4 := by kernel_rfl
@[go_sem] theorem fact_nz50 : nzB Try.prog 50 = true := by kernel_rfl
@[go_sem] theorem fact_ag50 : aggO Try.prog 50 = some true := by kernel_rfl
@[go_sem] theorem fact_noint50 : intB Try.prog 50 = none := by kernel_rfl
@[go_sem] theorem fact_noelem50 : elemB Try.prog 50 = none := by kernel_rfl
@[go_sem] theorem fact_noarr50 : arrB Try.prog 50 = none := by kernel_rfl
@[go_sem] theorem fact_fld50_0 : fldB Try.prog 50 0 = some (0, 3) := by kernel_rfl
@[go_sem] theorem fact_fld50_1 : fldB Try.prog 50 1 = some (1, 9) := by kernel_rfl
@[go_sem] theorem fact_fld50_2 : fldB Try.prog 50 2 = some (2, 3) := by kernel_rfl
@[go_sem] theorem fact_fld50_3 : fldB Try.prog 50 3 = some (3, 3) := by kernel_rfl
@[go_sem] theorem fact_pl50 : plB Try.prog 50 = some [(0, 1), (1, 1), (2, 1), (3, 1)] := by kernel_rfl
@[go_sem] theorem fact_flds50 : fldsB Try.prog 50 = some [(0, 3), (1, 9), (2, 3), (3, 3)] := by kernel_rfl
@[go_sem] theorem fact_held50 : Try.prog.stoodInHeld 50 = false := by kernel_rfl
@[go_sem] theorem fact_guard50 : Try.prog.eqGuardType Try.prog.depth 50 = false := by kernel_rfl
@[go_sem] theorem fact_el50 : elI Try.prog 50 = some (4, 40) := by kernel_rfl
@[go_sem] theorem fact_zero50 : zeroOf Try.prog 50 = some (.agg [.lit (.int .i64 0), .lit (.string ByteArray.empty), .lit (.int .i64 0), .lit (.int .i64 0)]) := by kernel_rfl
@[go_sem] theorem fact_sz51 : szB Try.prog 51 = some 1 := by kernel_rfl
@[go_sem] theorem fact_nz51 : nzB Try.prog 51 = true := by kernel_rfl
@[go_sem] theorem fact_ag51 : aggO Try.prog 51 = some false := by kernel_rfl
@[go_sem] theorem fact_noint51 : intB Try.prog 51 = none := by kernel_rfl
@[go_sem] theorem fact_noelem51 : elemB Try.prog 51 = none := by kernel_rfl
@[go_sem] theorem fact_sz52 : szB Try.prog 52 = some 1 := by kernel_rfl
@[go_sem] theorem fact_nz52 : nzB Try.prog 52 = true := by kernel_rfl
@[go_sem] theorem fact_ag52 : aggO Try.prog 52 = some false := by kernel_rfl
@[go_sem] theorem fact_noint52 : intB Try.prog 52 = none := by kernel_rfl
@[go_sem] theorem fact_noelem52 : elemB Try.prog 52 = none := by kernel_rfl
@[go_sem] theorem fact_sz53 : szB Try.prog 53 = some 1 := by kernel_rfl
@[go_sem] theorem fact_nz53 : nzB Try.prog 53 = true := by kernel_rfl
@[go_sem] theorem fact_ag53 : aggO Try.prog 53 = some false := by kernel_rfl
@[go_sem] theorem fact_noint53 : intB Try.prog 53 = none := by kernel_rfl
@[go_sem] theorem fact_noelem53 : elemB Try.prog 53 = none := by kernel_rfl
@[go_sem] theorem fact_sz54 : szB Try.prog 54 = some 1 := by kernel_rfl
@[go_sem] theorem fact_nz54 : nzB Try.prog 54 = true := by kernel_rfl
@[go_sem] theorem fact_ag54 : aggO Try.prog 54 = some false := by kernel_rfl
@[go_sem] theorem fact_noint54 : intB Try.prog 54 = none := by kernel_rfl
@[go_sem] theorem fact_noelem54 : elemB Try.prog 54 = none := by kernel_rfl
@[go_sem] theorem fact_sz55 : szB Try.prog 55 = some 1 := by kernel_rfl
@[go_sem] theorem fact_nz55 : nzB Try.prog 55 = true := by kernel_rfl
@[go_sem] theorem fact_ag55 : aggO Try.prog 55 = some false := by kernel_rfl
@[go_sem] theorem fact_noint55 : intB Try.prog 55 = none := by kernel_rfl
@[go_sem] theorem fact_noelem55 : elemB Try.prog 55 = none := by kernel_rfl
@[go_sem] theorem fact_sz56 : szB Try.prog 56 = some 1 := by kernel_rfl
@[go_sem] theorem fact_nz56 : nzB Try.prog 56 = true := by kernel_rfl
@[go_sem] theorem fact_ag56 : aggO Try.prog 56 = some false := by kernel_rfl
@[go_sem] theorem fact_noint56 : intB Try.prog 56 = none := by kernel_rfl
@[go_sem] theorem fact_noelem56 : elemB Try.prog 56 = none := by kernel_rfl
@[go_sem] theorem fact_sz57 : szB Try.prog 57 = some 1 := by kernel_rfl
@[go_sem] theorem fact_nz57 : nzB Try.prog 57 = true := by kernel_rfl
@[go_sem] theorem fact_ag57 : aggO Try.prog 57 = some false := by kernel_rfl
@[go_sem] theorem fact_noint57 : intB Try.prog 57 = none := by kernel_rfl
@[go_sem] theorem fact_noelem57 : elemB Try.prog 57 = none := by kernel_rfl
@[go_sem] theorem fact_sz58 : szB Try.prog 58 = some 2 := by kernel_rfl
@[go_sem] theorem fact_nz58 : nzB Try.prog 58 = true := by kernel_rfl
@[go_sem] theorem fact_ag58 : aggO Try.prog 58 = some true := by kernel_rfl
@[go_sem] theorem fact_noint58 : intB Try.prog 58 = none := by kernel_rfl
@[go_sem] theorem fact_noelem58 : elemB Try.prog 58 = none := by kernel_rfl
@[go_sem] theorem fact_noarr58 : arrB Try.prog 58 = none := by kernel_rfl
@[go_sem] theorem fact_fld58_0 : fldB Try.prog 58 0 = some (0, 22) := by kernel_rfl
@[go_sem] theorem fact_fld58_1 : fldB Try.prog 58 1 = some (1, 3) := by kernel_rfl
@[go_sem] theorem fact_pl58 : plB Try.prog 58 = some [(0, 1), (1, 1)] := by kernel_rfl
@[go_sem] theorem fact_flds58 : fldsB Try.prog 58 = some [(0, 22), (1, 3)] := by kernel_rfl
@[go_sem] theorem fact_held58 : Try.prog.stoodInHeld 58 = false := by kernel_rfl
@[go_sem] theorem fact_guard58 : Try.prog.eqGuardType Try.prog.depth 58 = false := by kernel_rfl
@[go_sem] theorem fact_el58 : elI Try.prog 58 = some (2, 32) := by kernel_rfl
@[go_sem] theorem fact_zero58 : zeroOf Try.prog 58 = some (.agg [.lit (.slice none 0 0), .lit (.int .i64 0)]) := by kernel_rfl
@[go_sem] theorem fact_sz59 : szB Try.prog 59 = some 2 := by kernel_rfl
@[go_sem] theorem fact_nz59 : nzB Try.prog 59 = true := by kernel_rfl
@[go_sem] theorem fact_ag59 : aggO Try.prog 59 = some true := by kernel_rfl
@[go_sem] theorem fact_noint59 : intB Try.prog 59 = none := by kernel_rfl
@[go_sem] theorem fact_noelem59 : elemB Try.prog 59 = none := by kernel_rfl
@[go_sem] theorem fact_noarr59 : arrB Try.prog 59 = none := by kernel_rfl
@[go_sem] theorem fact_fld59_0 : fldB Try.prog 59 0 = some (0, 22) := by kernel_rfl
@[go_sem] theorem fact_fld59_1 : fldB Try.prog 59 1 = some (1, 3) := by kernel_rfl
@[go_sem] theorem fact_pl59 : plB Try.prog 59 = some [(0, 1), (1, 1)] := by kernel_rfl
@[go_sem] theorem fact_flds59 : fldsB Try.prog 59 = some [(0, 22), (1, 3)] := by kernel_rfl
@[go_sem] theorem fact_held59 : Try.prog.stoodInHeld 59 = false := by kernel_rfl
@[go_sem] theorem fact_guard59 : Try.prog.eqGuardType Try.prog.depth 59 = false := by kernel_rfl
@[go_sem] theorem fact_el59 : elI Try.prog 59 = some (2, 32) := by kernel_rfl
@[go_sem] theorem fact_zero59 : zeroOf Try.prog 59 = some (.agg [.lit (.slice none 0 0), .lit (.int .i64 0)]) := by kernel_rfl
@[go_sem] theorem fact_sz60 : szB Try.prog 60 = some 1 := by kernel_rfl
@[go_sem] theorem fact_nz60 : nzB Try.prog 60 = true := by kernel_rfl
@[go_sem] theorem fact_ag60 : aggO Try.prog 60 = some false := by kernel_rfl
@[go_sem] theorem fact_noint60 : intB Try.prog 60 = none := by kernel_rfl
@[go_sem] theorem fact_noelem60 : elemB Try.prog 60 = none := by kernel_rfl
@[go_sem] theorem fact_sz61 : szB Try.prog 61 = some 1 := by kernel_rfl
@[go_sem] theorem fact_nz61 : nzB Try.prog 61 = true := by kernel_rfl
@[go_sem] theorem fact_ag61 : aggO Try.prog 61 = some false := by kernel_rfl
@[go_sem] theorem fact_noint61 : intB Try.prog 61 = none := by kernel_rfl
@[go_sem] theorem fact_noelem61 : elemB Try.prog 61 = none := by kernel_rfl
@[go_sem] theorem fact_sz62 : szB Try.prog 62 = some 1 := by kernel_rfl
@[go_sem] theorem fact_nz62 : nzB Try.prog 62 = true := by kernel_rfl
@[go_sem] theorem fact_ag62 : aggO Try.prog 62 = some false := by kernel_rfl
@[go_sem] theorem fact_noint62 : intB Try.prog 62 = none := by kernel_rfl
@[go_sem] theorem fact_noelem62 : elemB Try.prog 62 = none := by kernel_rfl
@[go_sem] theorem fact_sz64 : szB Try.prog 64 = some 1 := by kernel_rfl
@[go_sem] theorem fact_nz64 : nzB Try.prog 64 = true := by kernel_rfl
@[go_sem] theorem fact_ag64 : aggO Try.prog 64 = some false := by kernel_rfl
@[go_sem] theorem fact_noint64 : intB Try.prog 64 = none := by kernel_rfl
@[go_sem] theorem fact_noelem64 : elemB Try.prog 64 = none := by kernel_rfl
@[go_sem] theorem fact_sz65 : szB Try.prog 65 = some 1 := by kernel_rfl
@[go_sem] theorem fact_nz65 : nzB Try.prog 65 = true := by kernel_rfl
@[go_sem] theorem fact_ag65 : aggO Try.prog 65 = some false := by kernel_rfl
@[go_sem] theorem fact_noint65 : intB Try.prog 65 = none := by kernel_rfl
@[go_sem] theorem fact_noelem65 : elemB Try.prog 65 = none := by kernel_rfl
@[go_sem] theorem fact_sz66 : szB Try.prog 66 = some 1 := by kernel_rfl
@[go_sem] theorem fact_nz66 : nzB Try.prog 66 = true := by kernel_rfl
@[go_sem] theorem fact_ag66 : aggO Try.prog 66 = some false := by kernel_rfl
@[go_sem] theorem fact_noint66 : intB Try.prog 66 = none := by kernel_rfl
@[go_sem] theorem fact_noelem66 : elemB Try.prog 66 = none := by kernel_rfl
@[go_sem] theorem fact_el66 : elI Try.prog 66 = some (1, 8) := by kernel_rfl
@[go_sem] theorem fact_zero66 : zeroOf Try.prog 66 = some (.lit (.pointer none)) := by kernel_rfl
@[go_sem] theorem fact_sz67 : szB Try.prog 67 = some 1 := by kernel_rfl
@[go_sem] theorem fact_nz67 : nzB Try.prog 67 = true := by kernel_rfl
@[go_sem] theorem fact_ag67 : aggO Try.prog 67 = some true := by kernel_rfl
@[go_sem] theorem fact_noint67 : intB Try.prog 67 = none := by kernel_rfl
@[go_sem] theorem fact_noelem67 : elemB Try.prog 67 = none := by kernel_rfl
@[go_sem] theorem fact_noarr67 : arrB Try.prog 67 = none := by kernel_rfl
@[go_sem] theorem fact_fld67_0 : fldB Try.prog 67 0 = some (0, 3) := by kernel_rfl
@[go_sem] theorem fact_pl67 : plB Try.prog 67 = some [(0, 1)] := by kernel_rfl
@[go_sem] theorem fact_flds67 : fldsB Try.prog 67 = some [(0, 3)] := by kernel_rfl
@[go_sem] theorem fact_held67 : Try.prog.stoodInHeld 67 = false := by kernel_rfl
@[go_sem] theorem fact_guard67 : Try.prog.eqGuardType Try.prog.depth 67 = false := by kernel_rfl
@[go_sem] theorem fact_el67 : elI Try.prog 67 = some (1, 8) := by kernel_rfl
@[go_sem] theorem fact_zero67 : zeroOf Try.prog 67 = some (.agg [.lit (.int .i64 0)]) := by kernel_rfl
@[go_sem] theorem fact_sz68 : szB Try.prog 68 = some 1 := by kernel_rfl
@[go_sem] theorem fact_nz68 : nzB Try.prog 68 = true := by kernel_rfl
@[go_sem] theorem fact_ag68 : aggO Try.prog 68 = some true := by kernel_rfl
@[go_sem] theorem fact_noint68 : intB Try.prog 68 = none := by kernel_rfl
@[go_sem] theorem fact_noelem68 : elemB Try.prog 68 = none := by kernel_rfl
@[go_sem] theorem fact_noarr68 : arrB Try.prog 68 = none := by kernel_rfl
@[go_sem] theorem fact_fld68_0 : fldB Try.prog 68 0 = some (0, 3) := by kernel_rfl
@[go_sem] theorem fact_pl68 : plB Try.prog 68 = some [(0, 1)] := by kernel_rfl
@[go_sem] theorem fact_flds68 : fldsB Try.prog 68 = some [(0, 3)] := by kernel_rfl
@[go_sem] theorem fact_held68 : Try.prog.stoodInHeld 68 = false := by kernel_rfl
@[go_sem] theorem fact_guard68 : Try.prog.eqGuardType Try.prog.depth 68 = false := by kernel_rfl
@[go_sem] theorem fact_el68 : elI Try.prog 68 = some (1, 8) := by kernel_rfl
@[go_sem] theorem fact_zero68 : zeroOf Try.prog 68 = some (.agg [.lit (.int .i64 0)]) := by kernel_rfl
@[go_sem] theorem fact_sz69 : szB Try.prog 69 = some 1 := by kernel_rfl
@[go_sem] theorem fact_nz69 : nzB Try.prog 69 = true := by kernel_rfl
@[go_sem] theorem fact_ag69 : aggO Try.prog 69 = some false := by kernel_rfl
@[go_sem] theorem fact_noint69 : intB Try.prog 69 = none := by kernel_rfl
@[go_sem] theorem fact_noelem69 : elemB Try.prog 69 = none := by kernel_rfl
@[go_sem] theorem fact_sz70 : szB Try.prog 70 = some 1 := by kernel_rfl
@[go_sem] theorem fact_nz70 : nzB Try.prog 70 = true := by kernel_rfl
@[go_sem] theorem fact_ag70 : aggO Try.prog 70 = some false := by kernel_rfl
@[go_sem] theorem fact_noint70 : intB Try.prog 70 = none := by kernel_rfl
@[go_sem] theorem fact_noelem70 : elemB Try.prog 70 = none := by kernel_rfl
@[go_sem] theorem fact_sz71 : szB Try.prog 71 = some 1 := by kernel_rfl
@[go_sem] theorem fact_nz71 : nzB Try.prog 71 = true := by kernel_rfl
@[go_sem] theorem fact_ag71 : aggO Try.prog 71 = some false := by kernel_rfl
@[go_sem] theorem fact_noint71 : intB Try.prog 71 = none := by kernel_rfl
@[go_sem] theorem fact_noelem71 : elemB Try.prog 71 = none := by kernel_rfl
@[go_sem] theorem fact_sz72 : szB Try.prog 72 = some 1 := by kernel_rfl
@[go_sem] theorem fact_nz72 : nzB Try.prog 72 = true := by kernel_rfl
@[go_sem] theorem fact_ag72 : aggO Try.prog 72 = some false := by kernel_rfl
@[go_sem] theorem fact_noint72 : intB Try.prog 72 = none := by kernel_rfl
@[go_sem] theorem fact_noelem72 : elemB Try.prog 72 = none := by kernel_rfl
@[go_sem] theorem fact_sz73 : szB Try.prog 73 = some 1 := by kernel_rfl
@[go_sem] theorem fact_nz73 : nzB Try.prog 73 = true := by kernel_rfl
@[go_sem] theorem fact_ag73 : aggO Try.prog 73 = some false := by kernel_rfl
@[go_sem] theorem fact_noint73 : intB Try.prog 73 = none := by kernel_rfl
@[go_sem] theorem fact_noelem73 : elemB Try.prog 73 = none := by kernel_rfl
@[go_sem] theorem fact_sz74 : szB Try.prog 74 = some 1 := by kernel_rfl
@[go_sem] theorem fact_nz74 : nzB Try.prog 74 = true := by kernel_rfl
@[go_sem] theorem fact_ag74 : aggO Try.prog 74 = some false := by kernel_rfl
@[go_sem] theorem fact_noint74 : intB Try.prog 74 = none := by kernel_rfl
@[go_sem] theorem fact_noelem74 : elemB Try.prog 74 = none := by kernel_rfl
@[go_sem] theorem fact_sz75 : szB Try.prog 75 = some 1 := by kernel_rfl
@[go_sem] theorem fact_nz75 : nzB Try.prog 75 = true := by kernel_rfl
@[go_sem] theorem fact_ag75 : aggO Try.prog 75 = some false := by kernel_rfl
@[go_sem] theorem fact_noint75 : intB Try.prog 75 = none := by kernel_rfl
@[go_sem] theorem fact_noelem75 : elemB Try.prog 75 = none := by kernel_rfl
@[go_sem] theorem fact_sz76 : szB Try.prog 76 = some 1 := by kernel_rfl
@[go_sem] theorem fact_nz76 : nzB Try.prog 76 = true := by kernel_rfl
@[go_sem] theorem fact_ag76 : aggO Try.prog 76 = some false := by kernel_rfl
@[go_sem] theorem fact_noint76 : intB Try.prog 76 = none := by kernel_rfl
@[go_sem] theorem fact_noelem76 : elemB Try.prog 76 = none := by kernel_rfl
@[go_sem] theorem fact_sz78 : szB Try.prog 78 = some 1 := by kernel_rfl
@[go_sem] theorem fact_nz78 : nzB Try.prog 78 = true := by kernel_rfl
@[go_sem] theorem fact_ag78 : aggO Try.prog 78 = some false := by kernel_rfl
@[go_sem] theorem fact_noint78 : intB Try.prog 78 = none := by kernel_rfl
@[go_sem] theorem fact_noelem78 : elemB Try.prog 78 = none := by kernel_rfl
@[go_sem] theorem fact_sz79 : szB Try.prog 79 = some 1 := by kernel_rfl
@[go_sem] theorem fact_nz79 : nzB Try.prog 79 = true := by kernel_rfl
@[go_sem] theorem fact_ag79 : aggO Try.prog 79 = some false := by kernel_rfl
@[go_sem] theorem fact_noint79 : intB Try.prog 79 = none := by kernel_rfl
@[go_sem] theorem fact_noelem79 : elemB Try.prog 79 = none := by kernel_rfl
@[go_sem] theorem fact_sz80 : szB Try.prog 80 = some 1 := by kernel_rfl
@[go_sem] theorem fact_nz80 : nzB Try.prog 80 = true := by kernel_rfl
@[go_sem] theorem fact_ag80 : aggO Try.prog 80 = some false := by kernel_rfl
@[go_sem] theorem fact_noint80 : intB Try.prog 80 = none := by kernel_rfl
@[go_sem] theorem fact_noelem80 : elemB Try.prog 80 = none := by kernel_rfl
@[go_sem] theorem fact_sz81 : szB Try.prog 81 = some 1 := by kernel_rfl
@[go_sem] theorem fact_nz81 : nzB Try.prog 81 = true := by kernel_rfl
@[go_sem] theorem fact_ag81 : aggO Try.prog 81 = some false := by kernel_rfl
@[go_sem] theorem fact_noint81 : intB Try.prog 81 = none := by kernel_rfl
@[go_sem] theorem fact_noelem81 : elemB Try.prog 81 = none := by kernel_rfl
@[go_sem] theorem fact_sz82 : szB Try.prog 82 = some 1 := by kernel_rfl
@[go_sem] theorem fact_nz82 : nzB Try.prog 82 = true := by kernel_rfl
@[go_sem] theorem fact_ag82 : aggO Try.prog 82 = some false := by kernel_rfl
@[go_sem] theorem fact_noint82 : intB Try.prog 82 = none := by kernel_rfl
@[go_sem] theorem fact_noelem82 : elemB Try.prog 82 = none := by kernel_rfl
@[go_sem] theorem fact_sz83 : szB Try.prog 83 = some 1 := by kernel_rfl
@[go_sem] theorem fact_nz83 : nzB Try.prog 83 = true := by kernel_rfl
@[go_sem] theorem fact_ag83 : aggO Try.prog 83 = some false := by kernel_rfl
@[go_sem] theorem fact_noint83 : intB Try.prog 83 = none := by kernel_rfl
@[go_sem] theorem fact_elem83 : elemB Try.prog 83 = some 5 := by kernel_rfl
@[go_sem] theorem fact_el83 : elI Try.prog 83 = some (1, 24) := by kernel_rfl
@[go_sem] theorem fact_zero83 : zeroOf Try.prog 83 = some (.lit (.slice none 0 0)) := by kernel_rfl
@[go_sem] theorem fact_sz84 : szB Try.prog 84 = some 1 := by kernel_rfl
@[go_sem] theorem fact_nz84 : nzB Try.prog 84 = true := by kernel_rfl
@[go_sem] theorem fact_ag84 : aggO Try.prog 84 = some false := by kernel_rfl
@[go_sem] theorem fact_noint84 : intB Try.prog 84 = none := by kernel_rfl
@[go_sem] theorem fact_noelem84 : elemB Try.prog 84 = none := by kernel_rfl
@[go_sem] theorem fact_sz85 : szB Try.prog 85 = some 1 := by kernel_rfl
@[go_sem] theorem fact_nz85 : nzB Try.prog 85 = true := by kernel_rfl
@[go_sem] theorem fact_ag85 : aggO Try.prog 85 = some false := by kernel_rfl
@[go_sem] theorem fact_noint85 : intB Try.prog 85 = none := by kernel_rfl
@[go_sem] theorem fact_noelem85 : elemB Try.prog 85 = none := by kernel_rfl
@[go_sem] theorem fact_sz86 : szB Try.prog 86 = some 1 := by kernel_rfl
@[go_sem] theorem fact_nz86 : nzB Try.prog 86 = true := by kernel_rfl
@[go_sem] theorem fact_ag86 : aggO Try.prog 86 = some false := by kernel_rfl
@[go_sem] theorem fact_noint86 : intB Try.prog 86 = none := by kernel_rfl
@[go_sem] theorem fact_elem86 : elemB Try.prog 86 = some 91 := by kernel_rfl
@[go_sem] theorem fact_el86 : elI Try.prog 86 = some (1, 24) := by kernel_rfl
@[go_sem] theorem fact_zero86 : zeroOf Try.prog 86 = some (.lit (.slice none 0 0)) := by kernel_rfl
@[go_sem] theorem fact_sz87 : szB Try.prog 87 = some 1 := by kernel_rfl
@[go_sem] theorem fact_nz87 : nzB Try.prog 87 = true := by kernel_rfl
@[go_sem] theorem fact_ag87 : aggO Try.prog 87 = some false := by kernel_rfl
@[go_sem] theorem fact_noint87 : intB Try.prog 87 = none := by kernel_rfl
@[go_sem] theorem fact_noelem87 : elemB Try.prog 87 = none := by kernel_rfl
@[go_sem] theorem fact_sz88 : szB Try.prog 88 = some 1 := by kernel_rfl
@[go_sem] theorem fact_nz88 : nzB Try.prog 88 = true := by kernel_rfl
@[go_sem] theorem fact_ag88 : aggO Try.prog 88 = some false := by kernel_rfl
@[go_sem] theorem fact_noint88 : intB Try.prog 88 = none := by kernel_rfl
@[go_sem] theorem fact_noelem88 : elemB Try.prog 88 = none := by kernel_rfl
@[go_sem] theorem fact_sz89 : szB Try.prog 89 = some 1 := by kernel_rfl
@[go_sem] theorem fact_nz89 : nzB Try.prog 89 = true := by kernel_rfl
@[go_sem] theorem fact_ag89 : aggO Try.prog 89 = some false := by kernel_rfl
@[go_sem] theorem fact_noint89 : intB Try.prog 89 = none := by kernel_rfl
@[go_sem] theorem fact_noelem89 : elemB Try.prog 89 = none := by kernel_rfl
@[go_sem] theorem fact_sz90 : szB Try.prog 90 = some 2 := by kernel_rfl
@[go_sem] theorem fact_nz90 : nzB Try.prog 90 = true := by kernel_rfl
@[go_sem] theorem fact_ag90 : aggO Try.prog 90 = some true := by kernel_rfl
@[go_sem] theorem fact_noint90 : intB Try.prog 90 = none := by kernel_rfl
@[go_sem] theorem fact_noelem90 : elemB Try.prog 90 = none := by kernel_rfl
@[go_sem] theorem fact_noarr90 : arrB Try.prog 90 = none := by kernel_rfl
@[go_sem] theorem fact_fld90_0 : fldB Try.prog 90 0 = some (0, 3) := by kernel_rfl
@[go_sem] theorem fact_fld90_1 : fldB Try.prog 90 1 = some (1, 89) := by kernel_rfl
@[go_sem] theorem fact_pl90 : plB Try.prog 90 = some [(0, 1), (1, 1)] := by kernel_rfl
@[go_sem] theorem fact_flds90 : fldsB Try.prog 90 = some [(0, 3), (1, 89)] := by kernel_rfl
@[go_sem] theorem fact_held90 : Try.prog.stoodInHeld 90 = false := by kernel_rfl
@[go_sem] theorem fact_guard90 : Try.prog.eqGuardType Try.prog.depth 90 = false := by kernel_rfl
@[go_sem] theorem fact_el90 : elI Try.prog 90 = some (2, 16) := by kernel_rfl
@[go_sem] theorem fact_zero90 : zeroOf Try.prog 90 = some (.agg [.lit (.int .i64 0), .lit .nilFunc]) := by kernel_rfl
@[go_sem] theorem fact_sz91 : szB Try.prog 91 = some 2 := by kernel_rfl
@[go_sem] theorem fact_nz91 : nzB Try.prog 91 = true := by kernel_rfl
@[go_sem] theorem fact_ag91 : aggO Try.prog 91 = some true := by kernel_rfl
@[go_sem] theorem fact_noint91 : intB Try.prog 91 = none := by kernel_rfl
@[go_sem] theorem fact_noelem91 : elemB Try.prog 91 = none := by kernel_rfl
@[go_sem] theorem fact_noarr91 : arrB Try.prog 91 = none := by kernel_rfl
@[go_sem] theorem fact_fld91_0 : fldB Try.prog 91 0 = some (0, 3) := by kernel_rfl
@[go_sem] theorem fact_fld91_1 : fldB Try.prog 91 1 = some (1, 89) := by kernel_rfl
@[go_sem] theorem fact_pl91 : plB Try.prog 91 = some [(0, 1), (1, 1)] := by kernel_rfl
@[go_sem] theorem fact_flds91 : fldsB Try.prog 91 = some [(0, 3), (1, 89)] := by kernel_rfl
@[go_sem] theorem fact_held91 : Try.prog.stoodInHeld 91 = false := by kernel_rfl
@[go_sem] theorem fact_guard91 : Try.prog.eqGuardType Try.prog.depth 91 = false := by kernel_rfl
@[go_sem] theorem fact_el91 : elI Try.prog 91 = some (2, 16) := by kernel_rfl
@[go_sem] theorem fact_zero91 : zeroOf Try.prog 91 = some (.agg [.lit (.int .i64 0), .lit .nilFunc]) := by kernel_rfl
@[go_sem] theorem fact_sz92 : szB Try.prog 92 = some 1 := by kernel_rfl
@[go_sem] theorem fact_nz92 : nzB Try.prog 92 = true := by kernel_rfl
@[go_sem] theorem fact_ag92 : aggO Try.prog 92 = some false := by kernel_rfl
@[go_sem] theorem fact_noint92 : intB Try.prog 92 = none := by kernel_rfl
@[go_sem] theorem fact_noelem92 : elemB Try.prog 92 = none := by kernel_rfl
@[go_sem] theorem fact_sz93 : szB Try.prog 93 = some 3 := by kernel_rfl
@[go_sem] theorem fact_nz93 : nzB Try.prog 93 = true := by kernel_rfl
@[go_sem] theorem fact_ag93 : aggO Try.prog 93 = some true := by kernel_rfl
@[go_sem] theorem fact_noint93 : intB Try.prog 93 = none := by kernel_rfl
@[go_sem] theorem fact_noelem93 : elemB Try.prog 93 = none := by kernel_rfl
@[go_sem] theorem fact_noarr93 : arrB Try.prog 93 = none := by kernel_rfl
@[go_sem] theorem fact_fld93_0 : fldB Try.prog 93 0 = some (0, 3) := by kernel_rfl
@[go_sem] theorem fact_fld93_1 : fldB Try.prog 93 1 = some (1, 3) := by kernel_rfl
@[go_sem] theorem fact_fld93_2 : fldB Try.prog 93 2 = some (2, 3) := by kernel_rfl
@[go_sem] theorem fact_pl93 : plB Try.prog 93 = some [(0, 1), (1, 1), (2, 1)] := by kernel_rfl
@[go_sem] theorem fact_flds93 : fldsB Try.prog 93 = some [(0, 3), (1, 3), (2, 3)] := by kernel_rfl
@[go_sem] theorem fact_held93 : Try.prog.stoodInHeld 93 = false := by kernel_rfl
@[go_sem] theorem fact_guard93 : Try.prog.eqGuardType Try.prog.depth 93 = false := by kernel_rfl
@[go_sem] theorem fact_el93 : elI Try.prog 93 = some (3, 24) := by kernel_rfl
@[go_sem] theorem fact_zero93 : zeroOf Try.prog 93 = some (.agg [.lit (.int .i64 0), .lit (.int .i64 0), .lit (.int .i64 0)]) := by kernel_rfl
@[go_sem] theorem fact_sz94 : szB Try.prog 94 = some 3 := by kernel_rfl
@[go_sem] theorem fact_nz94 : nzB Try.prog 94 = true := by kernel_rfl
@[go_sem] theorem fact_ag94 : aggO Try.prog 94 = some true := by kernel_rfl
@[go_sem] theorem fact_noint94 : intB Try.prog 94 = none := by kernel_rfl
@[go_sem] theorem fact_noelem94 : elemB Try.prog 94 = none := by kernel_rfl
@[go_sem] theorem fact_noarr94 : arrB Try.prog 94 = none := by kernel_rfl
@[go_sem] theorem fact_fld94_0 : fldB Try.prog 94 0 = some (0, 3) := by kernel_rfl
@[go_sem] theorem fact_fld94_1 : fldB Try.prog 94 1 = some (1, 3) := by kernel_rfl
@[go_sem] theorem fact_fld94_2 : fldB Try.prog 94 2 = some (2, 3) := by kernel_rfl
@[go_sem] theorem fact_pl94 : plB Try.prog 94 = some [(0, 1), (1, 1), (2, 1)] := by kernel_rfl
@[go_sem] theorem fact_flds94 : fldsB Try.prog 94 = some [(0, 3), (1, 3), (2, 3)] := by kernel_rfl
@[go_sem] theorem fact_held94 : Try.prog.stoodInHeld 94 = false := by kernel_rfl
@[go_sem] theorem fact_guard94 : Try.prog.eqGuardType Try.prog.depth 94 = false := by kernel_rfl
@[go_sem] theorem fact_el94 : elI Try.prog 94 = some (3, 24) := by kernel_rfl
@[go_sem] theorem fact_zero94 : zeroOf Try.prog 94 = some (.agg [.lit (.int .i64 0), .lit (.int .i64 0), .lit (.int .i64 0)]) := by kernel_rfl
@[go_sem] theorem fact_sz95 : szB Try.prog 95 = some 1 := by kernel_rfl
@[go_sem] theorem fact_nz95 : nzB Try.prog 95 = true := by kernel_rfl
@[go_sem] theorem fact_ag95 : aggO Try.prog 95 = some false := by kernel_rfl
@[go_sem] theorem fact_int95 : intB Try.prog 95 = some .i64 := by kernel_rfl
@[go_sem] theorem fact_noelem95 : elemB Try.prog 95 = none := by kernel_rfl
@[go_sem] theorem fact_el95 : elI Try.prog 95 = some (1, 8) := by kernel_rfl
@[go_sem] theorem fact_zero95 : zeroOf Try.prog 95 = some (.lit (.int .i64 0)) := by kernel_rfl
@[go_sem] theorem fact_sz96 : szB Try.prog 96 = some 1 := by kernel_rfl
@[go_sem] theorem fact_nz96 : nzB Try.prog 96 = true := by kernel_rfl
@[go_sem] theorem fact_ag96 : aggO Try.prog 96 = some false := by kernel_rfl
@[go_sem] theorem fact_int96 : intB Try.prog 96 = some .u64 := by kernel_rfl
@[go_sem] theorem fact_noelem96 : elemB Try.prog 96 = none := by kernel_rfl
@[go_sem] theorem fact_el96 : elI Try.prog 96 = some (1, 8) := by kernel_rfl
@[go_sem] theorem fact_zero96 : zeroOf Try.prog 96 = some (.lit (.int .u64 0)) := by kernel_rfl
@[go_sem] theorem fact_sz97 : szB Try.prog 97 = some 1 := by kernel_rfl
@[go_sem] theorem fact_nz97 : nzB Try.prog 97 = true := by kernel_rfl
@[go_sem] theorem fact_ag97 : aggO Try.prog 97 = some false := by kernel_rfl
@[go_sem] theorem fact_noint97 : intB Try.prog 97 = none := by kernel_rfl
@[go_sem] theorem fact_noelem97 : elemB Try.prog 97 = none := by kernel_rfl
@[go_sem] theorem fact_sz99 : szB Try.prog 99 = some 1 := by kernel_rfl
@[go_sem] theorem fact_nz99 : nzB Try.prog 99 = true := by kernel_rfl
@[go_sem] theorem fact_ag99 : aggO Try.prog 99 = some false := by kernel_rfl
@[go_sem] theorem fact_noint99 : intB Try.prog 99 = none := by kernel_rfl
@[go_sem] theorem fact_noelem99 : elemB Try.prog 99 = none := by kernel_rfl
@[go_sem] theorem fact_sz100 : szB Try.prog 100 = some 1 := by kernel_rfl
@[go_sem] theorem fact_nz100 : nzB Try.prog 100 = true := by kernel_rfl
@[go_sem] theorem fact_ag100 : aggO Try.prog 100 = some false := by kernel_rfl
@[go_sem] theorem fact_noint100 : intB Try.prog 100 = none := by kernel_rfl
@[go_sem] theorem fact_noelem100 : elemB Try.prog 100 = none := by kernel_rfl
@[go_sem] theorem fact_sz101 : szB Try.prog 101 = some 4 := by kernel_rfl
@[go_sem] theorem fact_nz101 : nzB Try.prog 101 = true := by kernel_rfl
@[go_sem] theorem fact_ag101 : aggO Try.prog 101 = some true := by kernel_rfl
@[go_sem] theorem fact_noint101 : intB Try.prog 101 = none := by kernel_rfl
@[go_sem] theorem fact_noelem101 : elemB Try.prog 101 = none := by kernel_rfl
@[go_sem] theorem fact_noarr101 : arrB Try.prog 101 = none := by kernel_rfl
@[go_sem] theorem fact_fld101_0 : fldB Try.prog 101 0 = some (0, 17) := by kernel_rfl
@[go_sem] theorem fact_fld101_1 : fldB Try.prog 101 1 = some (1, 17) := by kernel_rfl
@[go_sem] theorem fact_fld101_2 : fldB Try.prog 101 2 = some (2, 17) := by kernel_rfl
@[go_sem] theorem fact_fld101_3 : fldB Try.prog 101 3 = some (3, 9) := by kernel_rfl
@[go_sem] theorem fact_pl101 : plB Try.prog 101 = some [(0, 1), (1, 1), (2, 1), (3, 1)] := by kernel_rfl
@[go_sem] theorem fact_flds101 : fldsB Try.prog 101 = some [(0, 17), (1, 17), (2, 17), (3, 9)] := by kernel_rfl
@[go_sem] theorem fact_sz102 : szB Try.prog 102 = some 4 := by kernel_rfl
@[go_sem] theorem fact_nz102 : nzB Try.prog 102 = true := by kernel_rfl
@[go_sem] theorem fact_ag102 : aggO Try.prog 102 = some true := by kernel_rfl
@[go_sem] theorem fact_noint102 : intB Try.prog 102 = none := by kernel_rfl
@[go_sem] theorem fact_noelem102 : elemB Try.prog 102 = none := by kernel_rfl
@[go_sem] theorem fact_noarr102 : arrB Try.prog 102 = none := by kernel_rfl
@[go_sem] theorem fact_fld102_0 : fldB Try.prog 102 0 = some (0, 17) := by kernel_rfl
@[go_sem] theorem fact_fld102_1 : fldB Try.prog 102 1 = some (1, 17) := by kernel_rfl
@[go_sem] theorem fact_fld102_2 : fldB Try.prog 102 2 = some (2, 17) := by kernel_rfl
@[go_sem] theorem fact_fld102_3 : fldB Try.prog 102 3 = some (3, 9) := by kernel_rfl
@[go_sem] theorem fact_pl102 : plB Try.prog 102 = some [(0, 1), (1, 1), (2, 1), (3, 1)] := by kernel_rfl
@[go_sem] theorem fact_flds102 : fldsB Try.prog 102 = some [(0, 17), (1, 17), (2, 17), (3, 9)] := by kernel_rfl
@[go_sem] theorem fact_sz106 : szB Try.prog 106 = some 1 := by kernel_rfl
@[go_sem] theorem fact_nz106 : nzB Try.prog 106 = true := by kernel_rfl
@[go_sem] theorem fact_ag106 : aggO Try.prog 106 = some false := by kernel_rfl
@[go_sem] theorem fact_int106 : intB Try.prog 106 = some .u32 := by kernel_rfl
@[go_sem] theorem fact_noelem106 : elemB Try.prog 106 = none := by kernel_rfl
@[go_sem] theorem fact_el106 : elI Try.prog 106 = some (1, 4) := by kernel_rfl
@[go_sem] theorem fact_zero106 : zeroOf Try.prog 106 = some (.lit (.int .u32 0)) := by kernel_rfl
@[go_sem] theorem fact_sz107 : szB Try.prog 107 = some 1 := by kernel_rfl
@[go_sem] theorem fact_nz107 : nzB Try.prog 107 = true := by kernel_rfl
@[go_sem] theorem fact_ag107 : aggO Try.prog 107 = some false := by kernel_rfl
@[go_sem] theorem fact_int107 : intB Try.prog 107 = some .u8 := by kernel_rfl
@[go_sem] theorem fact_noelem107 : elemB Try.prog 107 = none := by kernel_rfl
@[go_sem] theorem fact_el107 : elI Try.prog 107 = some (1, 1) := by kernel_rfl
@[go_sem] theorem fact_zero107 : zeroOf Try.prog 107 = some (.lit (.int .u8 0)) := by kernel_rfl
@[go_sem] theorem fact_sz108 : szB Try.prog 108 = some 1 := by kernel_rfl
@[go_sem] theorem fact_nz108 : nzB Try.prog 108 = true := by kernel_rfl
@[go_sem] theorem fact_ag108 : aggO Try.prog 108 = some false := by kernel_rfl
@[go_sem] theorem fact_int108 : intB Try.prog 108 = some .u8 := by kernel_rfl
@[go_sem] theorem fact_noelem108 : elemB Try.prog 108 = none := by kernel_rfl
@[go_sem] theorem fact_el108 : elI Try.prog 108 = some (1, 1) := by kernel_rfl
@[go_sem] theorem fact_zero108 : zeroOf Try.prog 108 = some (.lit (.int .u8 0)) := by kernel_rfl
@[go_sem] theorem fact_sz109 : szB Try.prog 109 = some 1 := by kernel_rfl
@[go_sem] theorem fact_nz109 : nzB Try.prog 109 = true := by kernel_rfl
@[go_sem] theorem fact_ag109 : aggO Try.prog 109 = some false := by kernel_rfl
@[go_sem] theorem fact_noint109 : intB Try.prog 109 = none := by kernel_rfl
@[go_sem] theorem fact_noelem109 : elemB Try.prog 109 = none := by kernel_rfl
@[go_sem] theorem fact_sz110 : szB Try.prog 110 = some 1 := by kernel_rfl
@[go_sem] theorem fact_nz110 : nzB Try.prog 110 = true := by kernel_rfl
@[go_sem] theorem fact_ag110 : aggO Try.prog 110 = some false := by kernel_rfl
@[go_sem] theorem fact_noint110 : intB Try.prog 110 = none := by kernel_rfl
@[go_sem] theorem fact_noelem110 : elemB Try.prog 110 = none := by kernel_rfl
@[go_sem] theorem fact_el110 : elI Try.prog 110 = some (1, 8) := by kernel_rfl
@[go_sem] theorem fact_zero110 : zeroOf Try.prog 110 = some (.lit (.pointer none)) := by kernel_rfl
@[go_sem] theorem fact_sz111 : szB Try.prog 111 = some 1 := by kernel_rfl
@[go_sem] theorem fact_nz111 : nzB Try.prog 111 = true := by kernel_rfl
@[go_sem] theorem fact_ag111 : aggO Try.prog 111 = some false := by kernel_rfl
@[go_sem] theorem fact_int111 : intB Try.prog 111 = some .i32 := by kernel_rfl
@[go_sem] theorem fact_noelem111 : elemB Try.prog 111 = none := by kernel_rfl
@[go_sem] theorem fact_el111 : elI Try.prog 111 = some (1, 4) := by kernel_rfl
@[go_sem] theorem fact_zero111 : zeroOf Try.prog 111 = some (.lit (.int .i32 0)) := by kernel_rfl
@[go_sem] theorem fact_sz112 : szB Try.prog 112 = some 1 := by kernel_rfl
@[go_sem] theorem fact_nz112 : nzB Try.prog 112 = true := by kernel_rfl
@[go_sem] theorem fact_ag112 : aggO Try.prog 112 = some false := by kernel_rfl
@[go_sem] theorem fact_int112 : intB Try.prog 112 = some .i32 := by kernel_rfl
@[go_sem] theorem fact_noelem112 : elemB Try.prog 112 = none := by kernel_rfl
@[go_sem] theorem fact_el112 : elI Try.prog 112 = some (1, 4) := by kernel_rfl
@[go_sem] theorem fact_zero112 : zeroOf Try.prog 112 = some (.lit (.int .i32 0)) := by kernel_rfl
@[go_sem] theorem fact_sz113 : szB Try.prog 113 = some 11 := by kernel_rfl
@[go_sem] theorem fact_nz113 : nzB Try.prog 113 = true := by kernel_rfl
@[go_sem] theorem fact_ag113 : aggO Try.prog 113 = some true := by kernel_rfl
@[go_sem] theorem fact_noint113 : intB Try.prog 113 = none := by kernel_rfl
@[go_sem] theorem fact_noelem113 : elemB Try.prog 113 = none := by kernel_rfl
@[go_sem] theorem fact_noarr113 : arrB Try.prog 113 = none := by kernel_rfl
@[go_sem] theorem fact_fld113_0 : fldB Try.prog 113 0 = some (0, 12) := by kernel_rfl
@[go_sem] theorem fact_fld113_1 : fldB Try.prog 113 1 = some (1, 12) := by kernel_rfl
@[go_sem] theorem fact_fld113_2 : fldB Try.prog 113 2 = some (2, 106) := by kernel_rfl
@[go_sem] theorem fact_fld113_3 : fldB Try.prog 113 3 = some (3, 107) := by kernel_rfl
@[go_sem] theorem fact_fld113_4 : fldB Try.prog 113 4 = some (4, 5) := by kernel_rfl
@[go_sem] theorem fact_fld113_5 : fldB Try.prog 113 5 = some (5, 5) := by kernel_rfl
@[go_sem] theorem fact_fld113_6 : fldB Try.prog 113 6 = some (6, 108) := by kernel_rfl
@[go_sem] theorem fact_fld113_7 : fldB Try.prog 113 7 = some (7, 109) := by kernel_rfl
@[go_sem] theorem fact_fld113_8 : fldB Try.prog 113 8 = some (8, 110) := by kernel_rfl
@[go_sem] theorem fact_fld113_9 : fldB Try.prog 113 9 = some (9, 111) := by kernel_rfl
@[go_sem] theorem fact_fld113_10 : fldB Try.prog 113 10 = some (10, 112) := by kernel_rfl
@[go_sem] theorem fact_pl113 : plB Try.prog 113 = some [(0, 1), (1, 1), (2, 1), (3, 1), (4, 1), (5, 1), (6, 1), (7, 1), (8, 1), (9, 1), (10, 1)] := by kernel_rfl
@[go_sem] theorem fact_flds113 : fldsB Try.prog 113 = some [(0, 12), (1, 12), (2, 106), (3, 107), (4, 5), (5, 5), (6, 108), (7, 109), (8, 110), (9, 111), (10, 112)] := by kernel_rfl
@[go_sem] theorem fact_sz114 : szB Try.prog 114 = some 11 := by kernel_rfl
@[go_sem] theorem fact_nz114 : nzB Try.prog 114 = true := by kernel_rfl
@[go_sem] theorem fact_ag114 : aggO Try.prog 114 = some true := by kernel_rfl
@[go_sem] theorem fact_noint114 : intB Try.prog 114 = none := by kernel_rfl
@[go_sem] theorem fact_noelem114 : elemB Try.prog 114 = none := by kernel_rfl
@[go_sem] theorem fact_noarr114 : arrB Try.prog 114 = none := by kernel_rfl
@[go_sem] theorem fact_fld114_0 : fldB Try.prog 114 0 = some (0, 12) := by kernel_rfl
@[go_sem] theorem fact_fld114_1 : fldB Try.prog 114 1 = some (1, 12) := by kernel_rfl
@[go_sem] theorem fact_fld114_2 : fldB Try.prog 114 2 = some (2, 106) := by kernel_rfl
@[go_sem] theorem fact_fld114_3 : fldB Try.prog 114 3 = some (3, 107) := by kernel_rfl
@[go_sem] theorem fact_fld114_4 : fldB Try.prog 114 4 = some (4, 5) := by kernel_rfl
@[go_sem] theorem fact_fld114_5 : fldB Try.prog 114 5 = some (5, 5) := by kernel_rfl
@[go_sem] theorem fact_fld114_6 : fldB Try.prog 114 6 = some (6, 108) := by kernel_rfl
@[go_sem] theorem fact_fld114_7 : fldB Try.prog 114 7 = some (7, 109) := by kernel_rfl
@[go_sem] theorem fact_fld114_8 : fldB Try.prog 114 8 = some (8, 110) := by kernel_rfl
@[go_sem] theorem fact_fld114_9 : fldB Try.prog 114 9 = some (9, 111) := by kernel_rfl
@[go_sem] theorem fact_fld114_10 : fldB Try.prog 114 10 = some (10, 112) := by kernel_rfl
@[go_sem] theorem fact_pl114 : plB Try.prog 114 = some [(0, 1), (1, 1), (2, 1), (3, 1), (4, 1), (5, 1), (6, 1), (7, 1), (8, 1), (9, 1), (10, 1)] := by kernel_rfl
@[go_sem] theorem fact_flds114 : fldsB Try.prog 114 = some [(0, 12), (1, 12), (2, 106), (3, 107), (4, 5), (5, 5), (6, 108), (7, 109), (8, 110), (9, 111), (10, 112)] := by kernel_rfl
@[go_sem] theorem fact_ent3 : entB Try.prog 3 = true := by kernel_rfl
@[go_sem] theorem fact_ent4 : entB Try.prog 4 = true := by kernel_rfl
@[go_sem] theorem fact_ent5 : entB Try.prog 5 = true := by kernel_rfl
@[go_sem] theorem fact_ent6 : entB Try.prog 6 = true := by kernel_rfl
@[go_sem] theorem fact_ent7 : entB Try.prog 7 = true := by kernel_rfl
@[go_sem] theorem fact_ent8 : entB Try.prog 8 = true := by kernel_rfl
@[go_sem] theorem fact_ent9 : entB Try.prog 9 = true := by kernel_rfl
@[go_sem] theorem fact_ent10 : entB Try.prog 10 = true := by kernel_rfl
@[go_sem] theorem fact_ent11 : entB Try.prog 11 = true := by kernel_rfl
@[go_sem] theorem fact_ent12 : entB Try.prog 12 = true := by kernel_rfl
@[go_sem] theorem fact_ent13 : entB Try.prog 13 = true := by kernel_rfl
@[go_sem] theorem fact_ent14 : entB Try.prog 14 = true := by kernel_rfl
@[go_sem] theorem fact_ent15 : entB Try.prog 15 = true := by kernel_rfl
@[go_sem] theorem fact_ent16 : entB Try.prog 16 = true := by kernel_rfl
@[go_sem] theorem fact_ent17 : entB Try.prog 17 = true := by kernel_rfl
@[go_sem] theorem fact_ent18 : entB Try.prog 18 = true := by kernel_rfl
@[go_sem] theorem fact_ent19 : entB Try.prog 19 = true := by kernel_rfl
@[go_sem] theorem fact_ent20 : entB Try.prog 20 = true := by kernel_rfl
@[go_sem] theorem fact_ent21 : entB Try.prog 21 = true := by kernel_rfl
@[go_sem] theorem fact_ent22 : entB Try.prog 22 = true := by kernel_rfl
@[go_sem] theorem fact_ent23 : entB Try.prog 23 = true := by kernel_rfl
@[go_sem] theorem fact_ent24 : entB Try.prog 24 = true := by kernel_rfl
@[go_sem] theorem fact_ent25 : entB Try.prog 25 = true := by kernel_rfl
@[go_sem] theorem fact_ent26 : entB Try.prog 26 = true := by kernel_rfl
@[go_sem] theorem fact_ent27 : entB Try.prog 27 = true := by kernel_rfl
@[go_sem] theorem fact_ent28 : entB Try.prog 28 = true := by kernel_rfl
@[go_sem] theorem fact_ent29 : entB Try.prog 29 = true := by kernel_rfl
@[go_sem] theorem fact_ent30 : entB Try.prog 30 = true := by kernel_rfl
@[go_sem] theorem fact_ent31 : entB Try.prog 31 = true := by kernel_rfl
@[go_sem] theorem fact_ent32 : entB Try.prog 32 = true := by kernel_rfl
@[go_sem] theorem fact_ent33 : entB Try.prog 33 = true := by kernel_rfl
@[go_sem] theorem fact_ent34 : entB Try.prog 34 = true := by kernel_rfl
@[go_sem] theorem fact_ent35 : entB Try.prog 35 = true := by kernel_rfl
@[go_sem] theorem fact_ent36 : entB Try.prog 36 = true := by kernel_rfl
@[go_sem] theorem fact_ent37 : entB Try.prog 37 = true := by kernel_rfl
@[go_sem] theorem fact_ent38 : entB Try.prog 38 = true := by kernel_rfl
@[go_sem] theorem fact_ent39 : entB Try.prog 39 = true := by kernel_rfl
@[go_sem] theorem fact_ent40 : entB Try.prog 40 = true := by kernel_rfl
@[go_sem] theorem fact_ent41 : entB Try.prog 41 = true := by kernel_rfl
@[go_sem] theorem fact_ent42 : entB Try.prog 42 = true := by kernel_rfl
@[go_sem] theorem fact_ent43 : entB Try.prog 43 = true := by kernel_rfl
@[go_sem] theorem fact_ent44 : entB Try.prog 44 = true := by kernel_rfl
@[go_sem] theorem fact_ent45 : entB Try.prog 45 = true := by kernel_rfl
@[go_sem] theorem fact_ent46 : entB Try.prog 46 = true := by kernel_rfl
@[go_sem] theorem fact_ent47 : entB Try.prog 47 = true := by kernel_rfl
@[go_sem] theorem fact_ent48 : entB Try.prog 48 = true := by kernel_rfl
@[go_sem] theorem fact_ent49 : entB Try.prog 49 = true := by kernel_rfl
@[go_sem] theorem fact_ent50 : entB Try.prog 50 = true := by kernel_rfl
@[go_sem] theorem fact_ent51 : entB Try.prog 51 = true := by kernel_rfl
@[go_sem] theorem fact_ent52 : entB Try.prog 52 = true := by kernel_rfl
@[go_sem] theorem fact_ent53 : entB Try.prog 53 = true := by kernel_rfl
@[go_sem] theorem fact_ent54 : entB Try.prog 54 = true := by kernel_rfl
@[go_sem] theorem fact_ent55 : entB Try.prog 55 = true := by kernel_rfl
@[go_sem] theorem fact_ent56 : entB Try.prog 56 = true := by kernel_rfl
@[go_sem] theorem fact_ent57 : entB Try.prog 57 = true := by kernel_rfl
@[go_sem] theorem fact_ent58 : entB Try.prog 58 = true := by kernel_rfl
@[go_sem] theorem fact_ent59 : entB Try.prog 59 = true := by kernel_rfl
@[go_sem] theorem fact_ent60 : entB Try.prog 60 = true := by kernel_rfl
@[go_sem] theorem fact_ent61 : entB Try.prog 61 = true := by kernel_rfl
@[go_sem] theorem fact_ent62 : entB Try.prog 62 = true := by kernel_rfl
@[go_sem] theorem fact_ent63 : entB Try.prog 63 = true := by kernel_rfl
@[go_sem] theorem fact_ent64 : entB Try.prog 64 = true := by kernel_rfl
@[go_sem] theorem fact_ent65 : entB Try.prog 65 = true := by kernel_rfl
@[go_sem] theorem fact_ent66 : entB Try.prog 66 = true := by kernel_rfl
@[go_sem] theorem fact_ent67 : entB Try.prog 67 = true := by kernel_rfl
@[go_sem] theorem fact_ent68 : entB Try.prog 68 = true := by kernel_rfl
@[go_sem] theorem fact_ent69 : entB Try.prog 69 = true := by kernel_rfl
@[go_sem] theorem fact_ent70 : entB Try.prog 70 = true := by kernel_rfl
@[go_sem] theorem fact_ent71 : entB Try.prog 71 = true := by kernel_rfl
@[go_sem] theorem fact_ent72 : entB Try.prog 72 = true := by kernel_rfl
@[go_sem] theorem fact_ent73 : entB Try.prog 73 = true := by kernel_rfl
@[go_sem] theorem fact_ent74 : entB Try.prog 74 = true := by kernel_rfl
@[go_sem] theorem fact_ent75 : entB Try.prog 75 = true := by kernel_rfl
@[go_sem] theorem fact_ent76 : entB Try.prog 76 = true := by kernel_rfl
@[go_sem] theorem fact_ent77 : entB Try.prog 77 = true := by kernel_rfl
@[go_sem] theorem fact_ent78 : entB Try.prog 78 = true := by kernel_rfl
@[go_sem] theorem fact_ent79 : entB Try.prog 79 = true := by kernel_rfl
@[go_sem] theorem fact_ent80 : entB Try.prog 80 = true := by kernel_rfl
@[go_sem] theorem fact_mixed : Try.prog.follows .mixedOrders = true := by kernel_rfl
end Go.Proofs.Ytgjfkklemelejaa
