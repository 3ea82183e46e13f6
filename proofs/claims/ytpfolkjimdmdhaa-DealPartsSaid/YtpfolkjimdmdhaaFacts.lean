/- Facts on the types and functions of this translation, printed by a program of this claim (facts.py). No condition. -/
import Derived.Test.YtpfolkjimdmdhaaRows
import Derived.Test.YtpfolkjimdmdhaaSyR
namespace Go.Proofs.Ytpfolkjimdmdhaa
set_option linter.unusedVariables false
open Sy
@[go_sem] theorem fact_sz1 : szB Try.prog 1 = some 1 := by kernel_rfl
@[go_sem] theorem fact_nz1 : nzB Try.prog 1 = true := by kernel_rfl
@[go_sem] theorem fact_ag1 : aggO Try.prog 1 = some false := by kernel_rfl
@[go_sem] theorem fact_noint1 : intB Try.prog 1 = none := by kernel_rfl
@[go_sem] theorem fact_noelem1 : elemB Try.prog 1 = none := by kernel_rfl
@[go_sem] theorem fact_sz2 : szB Try.prog 2 = some 1 := by kernel_rfl
@[go_sem] theorem fact_nz2 : nzB Try.prog 2 = true := by kernel_rfl
@[go_sem] theorem fact_ag2 : aggO Try.prog 2 = some false := by kernel_rfl
@[go_sem] theorem fact_int2 : intB Try.prog 2 = some .i64 := by kernel_rfl
@[go_sem] theorem fact_noelem2 : elemB Try.prog 2 = none := by kernel_rfl
@[go_sem] theorem fact_el2 : elI Try.prog 2 = some (1, 8) := by kernel_rfl
@[go_sem] theorem fact_zero2 : zeroOf Try.prog 2 = some (.lit (.int .i64 0)) := by kernel_rfl
@[go_sem] theorem fact_sz3 : szB Try.prog 3 = some 1 := by kernel_rfl
@[go_sem] theorem fact_nz3 : nzB Try.prog 3 = true := by kernel_rfl
@[go_sem] theorem fact_ag3 : aggO Try.prog 3 = some false := by kernel_rfl
@[go_sem] theorem fact_int3 : intB Try.prog 3 = some .i64 := by kernel_rfl
@[go_sem] theorem fact_noelem3 : elemB Try.prog 3 = none := by kernel_rfl
@[go_sem] theorem fact_el3 : elI Try.prog 3 = some (1, 8) := by kernel_rfl
@[go_sem] theorem fact_zero3 : zeroOf Try.prog 3 = some (.lit (.int .i64 0)) := by kernel_rfl
@[go_sem] theorem fact_sz4 : szB Try.prog 4 = some 1 := by kernel_rfl
@[go_sem] theorem fact_nz4 : nzB Try.prog 4 = true := by kernel_rfl
@[go_sem] theorem fact_ag4 : aggO Try.prog 4 = some false := by kernel_rfl
@[go_sem] theorem fact_noint4 : intB Try.prog 4 = none := by kernel_rfl
@[go_sem] theorem fact_bool4 : boolB Try.prog 4 = true := by kernel_rfl
@[go_sem] theorem fact_noelem4 : elemB Try.prog 4 = none := by kernel_rfl
@[go_sem] theorem fact_el4 : elI Try.prog 4 = some (1, 1) := by kernel_rfl
@[go_sem] theorem fact_zero4 : zeroOf Try.prog 4 = some (.lit (.bool false)) := by kernel_rfl
@[go_sem] theorem fact_sz5 : szB Try.prog 5 = some 1 := by kernel_rfl
@[go_sem] theorem fact_nz5 : nzB Try.prog 5 = true := by kernel_rfl
@[go_sem] theorem fact_ag5 : aggO Try.prog 5 = some false := by kernel_rfl
@[go_sem] theorem fact_int5 : intB Try.prog 5 = some .u8 := by kernel_rfl
@[go_sem] theorem fact_noelem5 : elemB Try.prog 5 = none := by kernel_rfl
@[go_sem] theorem fact_el5 : elI Try.prog 5 = some (1, 1) := by kernel_rfl
@[go_sem] theorem fact_zero5 : zeroOf Try.prog 5 = some (.lit (.int .u8 0)) := by kernel_rfl
@[go_sem] theorem fact_sz6 : szB Try.prog 6 = some 1 := by kernel_rfl
@[go_sem] theorem fact_nz6 : nzB Try.prog 6 = true := by kernel_rfl
@[go_sem] theorem fact_ag6 : aggO Try.prog 6 = some false := by kernel_rfl
@[go_sem] theorem fact_int6 : intB Try.prog 6 = some .u8 := by kernel_rfl
@[go_sem] theorem fact_noelem6 : elemB Try.prog 6 = none := by kernel_rfl
@[go_sem] theorem fact_el6 : elI Try.prog 6 = some (1, 1) := by kernel_rfl
@[go_sem] theorem fact_zero6 : zeroOf Try.prog 6 = some (.lit (.int .u8 0)) := by kernel_rfl
@[go_sem] theorem fact_sz7 : szB Try.prog 7 = some 4 := by kernel_rfl
@[go_sem] theorem fact_nz7 : nzB Try.prog 7 = true := by kernel_rfl
@[go_sem] theorem fact_ag7 : aggO Try.prog 7 = some true := by kernel_rfl
@[go_sem] theorem fact_noint7 : intB Try.prog 7 = none := by kernel_rfl
@[go_sem] theorem fact_noelem7 : elemB Try.prog 7 = none := by kernel_rfl
@[go_sem] theorem fact_noarr7 : arrB Try.prog 7 = none := by kernel_rfl
@[go_sem] theorem fact_fld7_0 : fldB Try.prog 7 0 = some (0, 2) := by kernel_rfl
@[go_sem] theorem fact_fld7_1 : fldB Try.prog 7 1 = some (1, 3) := by kernel_rfl
@[go_sem] theorem fact_fld7_2 : fldB Try.prog 7 2 = some (2, 4) := by kernel_rfl
@[go_sem] theorem fact_fld7_3 : fldB Try.prog 7 3 = some (3, 6) := by kernel_rfl
@[go_sem] theorem fact_pl7 : plB Try.prog 7 = some [(0, 1), (1, 1), (2, 1), (3, 1)] := by kernel_rfl
@[go_sem] theorem fact_flds7 : fldsB Try.prog 7 = some [(0, 2), (1, 3), (2, 4), (3, 6)] := by kernel_rfl
@[go_sem] theorem fact_sz8 : szB Try.prog 8 = some 4 := by kernel_rfl
@[go_sem] theorem fact_nz8 : nzB Try.prog 8 = true := by kernel_rfl
@[go_sem] theorem fact_ag8 : aggO Try.prog 8 = some true := by kernel_rfl
@[go_sem] theorem fact_noint8 : intB Try.prog 8 = none := by kernel_rfl
@[go_sem] theorem fact_noelem8 : elemB Try.prog 8 = none := by kernel_rfl
@[go_sem] theorem fact_noarr8 : arrB Try.prog 8 = none := by kernel_rfl
@[go_sem] theorem fact_fld8_0 : fldB Try.prog 8 0 = some (0, 2) := by kernel_rfl
@[go_sem] theorem fact_fld8_1 : fldB Try.prog 8 1 = some (1, 3) := by kernel_rfl
@[go_sem] theorem fact_fld8_2 : fldB Try.prog 8 2 = some (2, 4) := by kernel_rfl
@[go_sem] theorem fact_fld8_3 : fldB Try.prog 8 3 = some (3, 6) := by kernel_rfl
@[go_sem] theorem fact_pl8 : plB Try.prog 8 = some [(0, 1), (1, 1), (2, 1), (3, 1)] := by kernel_rfl
@[go_sem] theorem fact_flds8 : fldsB Try.prog 8 = some [(0, 2), (1, 3), (2, 4), (3, 6)] := by kernel_rfl
@[go_sem] theorem fact_sz9 : szB Try.prog 9 = some 1 := by kernel_rfl
@[go_sem] theorem fact_nz9 : nzB Try.prog 9 = true := by kernel_rfl
@[go_sem] theorem fact_ag9 : aggO Try.prog 9 = some false := by kernel_rfl
@[go_sem] theorem fact_noint9 : intB Try.prog 9 = none := by kernel_rfl
@[go_sem] theorem fact_str9 : strB Try.prog 9 = true := by kernel_rfl
@[go_sem] theorem fact_noelem9 : elemB Try.prog 9 = none := by kernel_rfl
@[go_sem] theorem fact_el9 : elI Try.prog 9 = some (1, 16) := by kernel_rfl
@[go_sem] theorem fact_zero9 : zeroOf Try.prog 9 = some (.lit (.string ByteArray.empty)) := by kernel_rfl
@[go_sem] theorem fact_sz10 : szB Try.prog 10 = some 1 := by kernel_rfl
@[go_sem] theorem fact_nz10 : nzB Try.prog 10 = true := by kernel_rfl
@[go_sem] theorem fact_ag10 : aggO Try.prog 10 = some false := by kernel_rfl
@[go_sem] theorem fact_noint10 : intB Try.prog 10 = none := by kernel_rfl
@[go_sem] theorem fact_str10 : strB Try.prog 10 = true := by kernel_rfl
@[go_sem] theorem fact_noelem10 : elemB Try.prog 10 = none := by kernel_rfl
@[go_sem] theorem fact_el10 : elI Try.prog 10 = some (1, 16) := by kernel_rfl
@[go_sem] theorem fact_zero10 : zeroOf Try.prog 10 = some (.lit (.string ByteArray.empty)) := by kernel_rfl
@[go_sem] theorem fact_sz11 : szB Try.prog 11 = some 1 := by kernel_rfl
@[go_sem] theorem fact_nz11 : nzB Try.prog 11 = true := by kernel_rfl
@[go_sem] theorem fact_ag11 : aggO Try.prog 11 = some false := by kernel_rfl
@[go_sem] theorem fact_noint11 : intB Try.prog 11 = none := by kernel_rfl
@[go_sem] theorem fact_str11 : strB Try.prog 11 = true := by kernel_rfl
@[go_sem] theorem fact_noelem11 : elemB Try.prog 11 = none := by kernel_rfl
@[go_sem] theorem fact_el11 : elI Try.prog 11 = some (1, 16) := by kernel_rfl
@[go_sem] theorem fact_zero11 : zeroOf Try.prog 11 = some (.lit (.string ByteArray.empty)) := by kernel_rfl
@[go_sem] theorem fact_sz12 : szB Try.prog 12 = some 1 := by kernel_rfl
@[go_sem] theorem fact_nz12 : nzB Try.prog 12 = true := by kernel_rfl
@[go_sem] theorem fact_ag12 : aggO Try.prog 12 = some false := by kernel_rfl
@[go_sem] theorem fact_int12 : intB Try.prog 12 = some .u64 := by kernel_rfl
@[go_sem] theorem fact_noelem12 : elemB Try.prog 12 = none := by kernel_rfl
@[go_sem] theorem fact_el12 : elI Try.prog 12 = some (1, 8) := by kernel_rfl
@[go_sem] theorem fact_zero12 : zeroOf Try.prog 12 = some (.lit (.int .u64 0)) := by kernel_rfl
@[go_sem] theorem fact_sz13 : szB Try.prog 13 = some 2 := by kernel_rfl
@[go_sem] theorem fact_nz13 : nzB Try.prog 13 = true := by kernel_rfl
@[go_sem] theorem fact_ag13 : aggO Try.prog 13 = some true := by kernel_rfl
@[go_sem] theorem fact_noint13 : intB Try.prog 13 = none := by kernel_rfl
@[go_sem] theorem fact_noelem13 : elemB Try.prog 13 = none := by kernel_rfl
@[go_sem] theorem fact_noarr13 : arrB Try.prog 13 = none := by kernel_rfl
@[go_sem] theorem fact_fld13_0 : fldB Try.prog 13 0 = some (0, 9) := by kernel_rfl
@[go_sem] theorem fact_fld13_1 : fldB Try.prog 13 1 = some (1, 12) := by kernel_rfl
@[go_sem] theorem fact_pl13 : plB Try.prog 13 = some [(0, 1), (1, 1)] := by kernel_rfl
@[go_sem] theorem fact_flds13 : fldsB Try.prog 13 = some [(0, 9), (1, 12)] := by kernel_rfl
@[go_sem] theorem fact_sz14 : szB Try.prog 14 = some 2 := by kernel_rfl
@[go_sem] theorem fact_nz14 : nzB Try.prog 14 = true := by kernel_rfl
@[go_sem] theorem fact_ag14 : aggO Try.prog 14 = some true := by kernel_rfl
@[go_sem] theorem fact_noint14 : intB Try.prog 14 = none := by kernel_rfl
@[go_sem] theorem fact_noelem14 : elemB Try.prog 14 = none := by kernel_rfl
@[go_sem] theorem fact_noarr14 : arrB Try.prog 14 = none := by kernel_rfl
@[go_sem] theorem fact_fld14_0 : fldB Try.prog 14 0 = some (0, 9) := by kernel_rfl
@[go_sem] theorem fact_fld14_1 : fldB Try.prog 14 1 = some (1, 12) := by kernel_rfl
@[go_sem] theorem fact_pl14 : plB Try.prog 14 = some [(0, 1), (1, 1)] := by kernel_rfl
@[go_sem] theorem fact_flds14 : fldsB Try.prog 14 = some [(0, 9), (1, 12)] := by kernel_rfl
@[go_sem] theorem fact_sz15 : szB Try.prog 15 = some 1 := by kernel_rfl
@[go_sem] theorem fact_nz15 : nzB Try.prog 15 = true := by kernel_rfl
@[go_sem] theorem fact_ag15 : aggO Try.prog 15 = some false := by kernel_rfl
@[go_sem] theorem fact_noint15 : intB Try.prog 15 = none := by kernel_rfl
@[go_sem] theorem fact_noelem15 : elemB Try.prog 15 = none := by kernel_rfl
@[go_sem] theorem fact_el15 : elI Try.prog 15 = some (1, 8) := by kernel_rfl
@[go_sem] theorem fact_zero15 : zeroOf Try.prog 15 = some (.lit (.pointer none)) := by kernel_rfl
@[go_sem] theorem fact_sz16 : szB Try.prog 16 = some 1 := by kernel_rfl
@[go_sem] theorem fact_nz16 : nzB Try.prog 16 = true := by kernel_rfl
@[go_sem] theorem fact_ag16 : aggO Try.prog 16 = some false := by kernel_rfl
@[go_sem] theorem fact_noint16 : intB Try.prog 16 = none := by kernel_rfl
@[go_sem] theorem fact_noelem16 : elemB Try.prog 16 = none := by kernel_rfl
@[go_sem] theorem fact_el16 : elI Try.prog 16 = some (1, 8) := by kernel_rfl
@[go_sem] theorem fact_zero16 : zeroOf Try.prog 16 = some (.lit (.pointer none)) := by kernel_rfl
@[go_sem] theorem fact_sz17 : szB Try.prog 17 = some 1 := by kernel_rfl
@[go_sem] theorem fact_nz17 : nzB Try.prog 17 = true := by kernel_rfl
@[go_sem] theorem fact_ag17 : aggO Try.prog 17 = some false := by kernel_rfl
@[go_sem] theorem fact_noint17 : intB Try.prog 17 = none := by kernel_rfl
@[go_sem] theorem fact_noelem17 : elemB Try.prog 17 = none := by kernel_rfl
@[go_sem] theorem fact_el17 : elI Try.prog 17 = some (1, 8) := by kernel_rfl
@[go_sem] theorem fact_zero17 : zeroOf Try.prog 17 = some (.lit (.pointer none)) := by kernel_rfl
@[go_sem] theorem fact_sz18 : szB Try.prog 18 = some 1 := by kernel_rfl
@[go_sem] theorem fact_nz18 : nzB Try.prog 18 = true := by kernel_rfl
@[go_sem] theorem fact_ag18 : aggO Try.prog 18 = some true := by kernel_rfl
@[go_sem] theorem fact_noint18 : intB Try.prog 18 = none := by kernel_rfl
@[go_sem] theorem fact_noelem18 : elemB Try.prog 18 = none := by kernel_rfl
@[go_sem] theorem fact_noarr18 : arrB Try.prog 18 = none := by kernel_rfl
@[go_sem] theorem fact_fld18_0 : fldB Try.prog 18 0 = some (0, 17) := by kernel_rfl
@[go_sem] theorem fact_pl18 : plB Try.prog 18 = some [(0, 1)] := by kernel_rfl
@[go_sem] theorem fact_flds18 : fldsB Try.prog 18 = some [(0, 17)] := by kernel_rfl
@[go_sem] theorem fact_sz19 : szB Try.prog 19 = some 1 := by kernel_rfl
@[go_sem] theorem fact_nz19 : nzB Try.prog 19 = true := by kernel_rfl
@[go_sem] theorem fact_ag19 : aggO Try.prog 19 = some true := by kernel_rfl
@[go_sem] theorem fact_noint19 : intB Try.prog 19 = none := by kernel_rfl
@[go_sem] theorem fact_noelem19 : elemB Try.prog 19 = none := by kernel_rfl
@[go_sem] theorem fact_noarr19 : arrB Try.prog 19 = none := by kernel_rfl
@[go_sem] theorem fact_fld19_0 : fldB Try.prog 19 0 = some (0, 17) := by kernel_rfl
@[go_sem] theorem fact_pl19 : plB Try.prog 19 = some [(0, 1)] := by kernel_rfl
@[go_sem] theorem fact_flds19 : fldsB Try.prog 19 = some [(0, 17)] := by kernel_rfl
@[go_sem] theorem fact_sz21 : szB Try.prog 21 = some 1 := by kernel_rfl
@[go_sem] theorem fact_nz21 : nzB Try.prog 21 = true := by kernel_rfl
@[go_sem] theorem fact_ag21 : aggO Try.prog 21 = some false := by kernel_rfl
@[go_sem] theorem fact_int21 : intB Try.prog 21 = some .i32 := by kernel_rfl
@[go_sem] theorem fact_noelem21 : elemB Try.prog 21 = none := by kernel_rfl
@[go_sem] theorem fact_el21 : elI Try.prog 21 = some (1, 4) := by kernel_rfl
@[go_sem] theorem fact_zero21 : zeroOf Try.prog 21 = some (.lit (.int .i32 0)) := by kernel_rfl
@[go_sem] theorem fact_sz22 : szB Try.prog 22 = some 1 := by kernel_rfl
@[go_sem] theorem fact_nz22 : nzB Try.prog 22 = true := by kernel_rfl
@[go_sem] theorem fact_ag22 : aggO Try.prog 22 = some false := by kernel_rfl
@[go_sem] theorem fact_noint22 : intB Try.prog 22 = none := by kernel_rfl
@[go_sem] theorem fact_elem22 : elemB Try.prog 22 = some 3 := by kernel_rfl
@[go_sem] theorem fact_el22 : elI Try.prog 22 = some (1, 24) := by kernel_rfl
@[go_sem] theorem fact_zero22 : zeroOf Try.prog 22 = some (.lit (.slice none 0 0)) := by kernel_rfl
@[go_sem] theorem fact_sz23 : szB Try.prog 23 = some 1 := by kernel_rfl
@[go_sem] theorem fact_nz23 : nzB Try.prog 23 = true := by kernel_rfl
@[go_sem] theorem fact_ag23 : aggO Try.prog 23 = some false := by kernel_rfl
@[go_sem] theorem fact_noint23 : intB Try.prog 23 = none := by kernel_rfl
@[go_sem] theorem fact_elem23 : elemB Try.prog 23 = some 38 := by kernel_rfl
@[go_sem] theorem fact_el23 : elI Try.prog 23 = some (1, 24) := by kernel_rfl
@[go_sem] theorem fact_zero23 : zeroOf Try.prog 23 = some (.lit (.slice none 0 0)) := by kernel_rfl
@[go_sem] theorem fact_sz24 : szB Try.prog 24 = some 1 := by kernel_rfl
@[go_sem] theorem fact_nz24 : nzB Try.prog 24 = true := by kernel_rfl
@[go_sem] theorem fact_ag24 : aggO Try.prog 24 = some false := by kernel_rfl
@[go_sem] theorem fact_noint24 : intB Try.prog 24 = none := by kernel_rfl
@[go_sem] theorem fact_noelem24 : elemB Try.prog 24 = none := by kernel_rfl
@[go_sem] theorem fact_sz25 : szB Try.prog 25 = some 1 := by kernel_rfl
@[go_sem] theorem fact_nz25 : nzB Try.prog 25 = true := by kernel_rfl
@[go_sem] theorem fact_ag25 : aggO Try.prog 25 = some false := by kernel_rfl
@[go_sem] theorem fact_noint25 : intB Try.prog 25 = none := by kernel_rfl
@[go_sem] theorem fact_noelem25 : elemB Try.prog 25 = none := by kernel_rfl
@[go_sem] theorem fact_el25 : elI Try.prog 25 = some (1, 8) := by kernel_rfl
@[go_sem] theorem fact_zero25 : zeroOf Try.prog 25 = some (.lit (.pointer none)) := by kernel_rfl
@[go_sem] theorem fact_sz26 : szB Try.prog 26 = some 1 := by kernel_rfl
@[go_sem] theorem fact_nz26 : nzB Try.prog 26 = true := by kernel_rfl
@[go_sem] theorem fact_ag26 : aggO Try.prog 26 = some false := by kernel_rfl
@[go_sem] theorem fact_noint26 : intB Try.prog 26 = none := by kernel_rfl
@[go_sem] theorem fact_noelem26 : elemB Try.prog 26 = none := by kernel_rfl
@[go_sem] theorem fact_sz28 : szB Try.prog 28 = some 1 := by kernel_rfl
@[go_sem] theorem fact_nz28 : nzB Try.prog 28 = true := by kernel_rfl
@[go_sem] theorem fact_ag28 : aggO Try.prog 28 = some false := by kernel_rfl
@[go_sem] theorem fact_noint28 : intB Try.prog 28 = none := by kernel_rfl
@[go_sem] theorem fact_noelem28 : elemB Try.prog 28 = none := by kernel_rfl
@[go_sem] theorem fact_sz29 : szB Try.prog 29 = some 1 := by kernel_rfl
@[go_sem] theorem fact_nz29 : nzB Try.prog 29 = true := by kernel_rfl
@[go_sem] theorem fact_ag29 : aggO Try.prog 29 = some false := by kernel_rfl
@[go_sem] theorem fact_noint29 : intB Try.prog 29 = none := by kernel_rfl
@[go_sem] theorem fact_noelem29 : elemB Try.prog 29 = none := by kernel_rfl
@[go_sem] theorem fact_sz30 : szB Try.prog 30 = some 1 := by kernel_rfl
@[go_sem] theorem fact_nz30 : nzB Try.prog 30 = true := by kernel_rfl
@[go_sem] theorem fact_ag30 : aggO Try.prog 30 = some false := by kernel_rfl
@[go_sem] theorem fact_noint30 : intB Try.prog 30 = none := by kernel_rfl
@[go_sem] theorem fact_elem30 : elemB Try.prog 30 = some 22 := by kernel_rfl
@[go_sem] theorem fact_el30 : elI Try.prog 30 = some (1, 24) := by kernel_rfl
@[go_sem] theorem fact_zero30 : zeroOf Try.prog 30 = some (.lit (.slice none 0 0)) := by kernel_rfl
@[go_sem] theorem fact_sz31 : szB Try.prog 31 = some 1 := by kernel_rfl
@[go_sem] theorem fact_nz31 : nzB Try.prog 31 = true := by kernel_rfl
@[go_sem] theorem fact_ag31 : aggO Try.prog 31 = some false := by kernel_rfl
@[go_sem] theorem fact_noint31 : intB Try.prog 31 = none := by kernel_rfl
@[go_sem] theorem fact_noelem31 : elemB Try.prog 31 = none := by kernel_rfl
@[go_sem] theorem fact_sz32 : szB Try.prog 32 = some 1 := by kernel_rfl
@[go_sem] theorem fact_nz32 : nzB Try.prog 32 = true := by kernel_rfl
@[go_sem] theorem fact_ag32 : aggO Try.prog 32 = some false := by kernel_rfl
@[go_sem] theorem fact_int32 : intB Try.prog 32 = some .i64 := by kernel_rfl
@[go_sem] theorem fact_noelem32 : elemB Try.prog 32 = none := by kernel_rfl
@[go_sem] theorem fact_el32 : elI Try.prog 32 = some (1, 8) := by kernel_rfl
@[go_sem] theorem fact_zero32 : zeroOf Try.prog 32 = some (.lit (.int .i64 0)) := by kernel_rfl
@[go_sem] theorem fact_sz34 : szB Try.prog 34 = some 1 := by kernel_rfl
@[go_sem] theorem fact_nz34 : nzB Try.prog 34 = true := by kernel_rfl
@[go_sem] theorem fact_ag34 : aggO Try.prog 34 = some false := by kernel_rfl
@[go_sem] theorem fact_noint34 : intB Try.prog 34 = none := by kernel_rfl
@[go_sem] theorem fact_noelem34 : elemB Try.prog 34 = none := by kernel_rfl
@[go_sem] theorem fact_sz35 : szB Try.prog 35 = some 1 := by kernel_rfl
@[go_sem] theorem fact_nz35 : nzB Try.prog 35 = true := by kernel_rfl
@[go_sem] theorem fact_ag35 : aggO Try.prog 35 = some false := by kernel_rfl
@[go_sem] theorem fact_noint35 : intB Try.prog 35 = none := by kernel_rfl
@[go_sem] theorem fact_noelem35 : elemB Try.prog 35 = none := by kernel_rfl
@[go_sem] theorem fact_sz36 : szB Try.prog 36 = some 1 := by kernel_rfl
@[go_sem] theorem fact_nz36 : nzB Try.prog 36 = true := by kernel_rfl
@[go_sem] theorem fact_ag36 : aggO Try.prog 36 = some false := by kernel_rfl
@[go_sem] theorem fact_noint36 : intB Try.prog 36 = none := by kernel_rfl
@[go_sem] theorem fact_noelem36 : elemB Try.prog 36 = none := by kernel_rfl
@[go_sem] theorem fact_sz37 : szB Try.prog 37 = some 2 := by kernel_rfl
@[go_sem] theorem fact_nz37 : nzB Try.prog 37 = true := by kernel_rfl
@[go_sem] theorem fact_ag37 : aggO Try.prog 37 = some true := by kernel_rfl
@[go_sem] theorem fact_noint37 : intB Try.prog 37 = none := by kernel_rfl
@[go_sem] theorem fact_noelem37 : elemB Try.prog 37 = none := by kernel_rfl
@[go_sem] theorem fact_noarr37 : arrB Try.prog 37 = none := by kernel_rfl
@[go_sem] theorem fact_fld37_0 : fldB Try.prog 37 0 = some (0, 3) := by kernel_rfl
@[go_sem] theorem fact_fld37_1 : fldB Try.prog 37 1 = some (1, 3) := by kernel_rfl
@[go_sem] theorem fact_pl37 : plB Try.prog 37 = some [(0, 1), (1, 1)] := by kernel_rfl
@[go_sem] theorem fact_flds37 : fldsB Try.prog 37 = some [(0, 3), (1, 3)] := by kernel_rfl
@[go_sem] theorem fact_held37 : Try.prog.stoodInHeld 37 = false := by kernel_rfl
@[go_sem] theorem fact_guard37 : Try.prog.eqGuardType Try.prog.depth 37 = false := by kernel_rfl
@[go_sem] theorem fact_el37 : elI Try.prog 37 = some (2, 16) := by kernel_rfl
@[go_sem] theorem fact_zero37 : zeroOf Try.prog 37 = some (.agg [.lit (.int .i64 0), .lit (.int .i64 0)]) := by kernel_rfl
@[go_sem] theorem fact_sz38 : szB Try.prog 38 = some 2 := by kernel_rfl
@[go_sem] theorem fact_nz38 : nzB Try.prog 38 = true := by kernel_rfl
@[go_sem] theorem fact_ag38 : aggO Try.prog 38 = some true := by kernel_rfl
@[go_sem] theorem fact_noint38 : intB Try.prog 38 = none := by kernel_rfl
@[go_sem] theorem fact_noelem38 : elemB Try.prog 38 = none := by kernel_rfl
@[go_sem] theorem fact_noarr38 : arrB Try.prog 38 = none := by kernel_rfl
@[go_sem] theorem fact_fld38_0 : fldB Try.prog 38 0 = some (0, 3) := by kernel_rfl
@[go_sem] theorem fact_fld38_1 : fldB Try.prog 38 1 = some (1, 3) := by kernel_rfl
@[go_sem] theorem fact_pl38 : plB Try.prog 38 = some [(0, 1), (1, 1)] := by kernel_rfl
@[go_sem] theorem fact_flds38 : fldsB Try.prog 38 = some [(0, 3), (1, 3)] := by kernel_rfl
@[go_sem] theorem fact_held38 : Try.prog.stoodInHeld 38 = false := by kernel_rfl
@[go_sem] theorem fact_guard38 : Try.prog.eqGuardType Try.prog.depth 38 = false := by kernel_rfl
@[go_sem] theorem fact_el38 : elI Try.prog 38 = some (2, 16) := by kernel_rfl
@[go_sem] theorem fact_zero38 : zeroOf Try.prog 38 = some (.agg [.lit (.int .i64 0), .lit (.int .i64 0)]) := by kernel_rfl
@[go_sem] theorem fact_sz39 : szB Try.prog 39 = some 1 := by kernel_rfl
@[go_sem] theorem fact_nz39 : nzB Try.prog 39 = true := by kernel_rfl
@[go_sem] theorem fact_ag39 : aggO Try.prog 39 = some false := by kernel_rfl
@[go_sem] theorem fact_noint39 : intB Try.prog 39 = none := by kernel_rfl
@[go_sem] theorem fact_elem39 : elemB Try.prog 39 = some 23 := by kernel_rfl
@[go_sem] theorem fact_el39 : elI Try.prog 39 = some (1, 24) := by kernel_rfl
@[go_sem] theorem fact_zero39 : zeroOf Try.prog 39 = some (.lit (.slice none 0 0)) := by kernel_rfl
@[go_sem] theorem fact_sz41 : szB Try.prog 41 = some 1 := by kernel_rfl
@[go_sem] theorem fact_nz41 : nzB Try.prog 41 = true := by kernel_rfl
@[go_sem] theorem fact_ag41 : aggO Try.prog 41 = some false := by kernel_rfl
@[go_sem] theorem fact_noint41 : intB Try.prog 41 = none := by kernel_rfl
@[go_sem] theorem fact_noelem41 : elemB Try.prog 41 = none := by kernel_rfl
@[go_sem] theorem fact_sz42 : szB Try.prog 42 = some 1 := by kernel_rfl
@[go_sem] theorem fact_nz42 : nzB Try.prog 42 = true := by kernel_rfl
@[go_sem] theorem fact_ag42 : aggO Try.prog 42 = some false := by kernel_rfl
@[go_sem] theorem fact_noint42 : intB Try.prog 42 = none := by kernel_rfl
@[go_sem] theorem fact_noelem42 : elemB Try.prog 42 = none := by kernel_rfl
@[go_sem] theorem fact_sz43 : szB Try.prog 43 = some 1 := by kernel_rfl
@[go_sem] theorem fact_nz43 : nzB Try.prog 43 = true := by kernel_rfl
@[go_sem] theorem fact_ag43 : aggO Try.prog 43 = some false := by kernel_rfl
@[go_sem] theorem fact_noint43 : intB Try.prog 43 = none := by kernel_rfl
@[go_sem] theorem fact_noelem43 : elemB Try.prog 43 = none := by kernel_rfl
@[go_sem] theorem fact_sz44 : szB Try.prog 44 = some 1 := by kernel_rfl
@[go_sem] theorem fact_nz44 : nzB Try.prog 44 = true := by kernel_rfl
@[go_sem] theorem fact_ag44 : aggO Try.prog 44 = some false := by kernel_rfl
@[go_sem] theorem fact_noint44 : intB Try.prog 44 = none := by kernel_rfl
@[go_sem] theorem fact_noelem44 : elemB Try.prog 44 = none := by kernel_rfl
@[go_sem] theorem fact_sz45 : szB Try.prog 45 = some 1 := by kernel_rfl
@[go_sem] theorem fact_nz45 : nzB Try.prog 45 = true := by kernel_rfl
@[go_sem] theorem fact_ag45 : aggO Try.prog 45 = some false := by kernel_rfl
@[go_sem] theorem fact_int45 : intB Try.prog 45 = some .u16 := by kernel_rfl
@[go_sem] theorem fact_noelem45 : elemB Try.prog 45 = none := by kernel_rfl
@[go_sem] theorem fact_el45 : elI Try.prog 45 = some (1, 2) := by kernel_rfl
@[go_sem] theorem fact_zero45 : zeroOf Try.prog 45 = some (.lit (.int .u16 0)) := by kernel_rfl
@[go_sem] theorem fact_sz46 : szB Try.prog 46 = some 1 := by kernel_rfl
@[go_sem] theorem fact_nz46 : nzB Try.prog 46 = true := by kernel_rfl
@[go_sem] theorem fact_ag46 : aggO Try.prog 46 = some false := by kernel_rfl
@[go_sem] theorem fact_noint46 : intB Try.prog 46 = none := by kernel_rfl
@[go_sem] theorem fact_noelem46 : elemB Try.prog 46 = none := by kernel_rfl
@[go_sem] theorem fact_sz47 : szB Try.prog 47 = some 1 := by kernel_rfl
@[go_sem] theorem fact_nz47 : nzB Try.prog 47 = true := by kernel_rfl
@[go_sem] theorem fact_ag47 : aggO Try.prog 47 = some false := by kernel_rfl
@[go_sem] theorem fact_noint47 : intB Try.prog 47 = none := by kernel_rfl
@[go_sem] theorem fact_noelem47 : elemB Try.prog 47 = none := by kernel_rfl
@[go_sem] theorem fact_sz48 : szB Try.prog 48 = some 1 := by kernel_rfl
@[go_sem] theorem fact_nz48 : nzB Try.prog 48 = true := by kernel_rfl
@[go_sem] theorem fact_ag48 : aggO Try.prog 48 = some false := by kernel_rfl
@[go_sem] theorem fact_noint48 : intB Try.prog 48 = none := by kernel_rfl
@[go_sem] theorem fact_noelem48 : elemB Try.prog 48 = none := by kernel_rfl
@[go_sem] theorem fact_sz49 : szB Try.prog 49 = some 1 := by kernel_rfl
@[go_sem] theorem fact_nz49 : nzB Try.prog 49 = true := by kernel_rfl
@[go_sem] theorem fact_ag49 : aggO Try.prog 49 = some false := by kernel_rfl
@[go_sem] theorem fact_noint49 : intB Try.prog 49 = none := by kernel_rfl
@[go_sem] theorem fact_noelem49 : elemB Try.prog 49 = none := by kernel_rfl
@[go_sem] theorem fact_sz51 : szB Try.prog 51 = some 1 := by kernel_rfl
@[go_sem] theorem fact_nz51 : nzB Try.prog 51 = true := by kernel_rfl
@[go_sem] theorem fact_ag51 : aggO Try.prog 51 = some false := by kernel_rfl
@[go_sem] theorem fact_noint51 : intB Try.prog 51 = none := by kernel_rfl
@[go_sem] theorem fact_noelem51 : elemB Try.prog 51 = none := by kernel_rfl
@[go_sem] theorem fact_sz52 : szB Try.prog 52 = some 1 := by kernel_rfl
@[go_sem] theorem fact_nz52 : nzB Try.prog 52 = true := by kernel_rfl
@[go_sem] theorem fact_ag52 : aggO Try.prog 52 = some false := by kernel_rfl
@[go_sem] theorem fact_noint52 : intB Try.prog 52 = none := by kernel_rfl
@[go_sem] theorem fact_noelem52 : elemB Try.prog 52 = none := by kernel_rfl
@[go_sem] theorem fact_sz53 : szB Try.prog 53 = some 1 := by kernel_rfl
@[go_sem] theorem fact_nz53 : nzB Try.prog 53 = true := by kernel_rfl
@[go_sem] theorem fact_ag53 : aggO Try.prog 53 = some false := by kernel_rfl
@[go_sem] theorem fact_noint53 : intB Try.prog 53 = none := by kernel_rfl
@[go_sem] theorem fact_noelem53 : elemB Try.prog 53 = none := by kernel_rfl
@[go_sem] theorem fact_sz54 : szB Try.prog 54 = some 2 := by kernel_rfl
@[go_sem] theorem fact_nz54 : nzB Try.prog 54 = true := by kernel_rfl
@[go_sem] theorem fact_ag54 : aggO Try.prog 54 = some true := by kernel_rfl
@[go_sem] theorem fact_noint54 : intB Try.prog 54 = none := by kernel_rfl
@[go_sem] theorem fact_noelem54 : elemB Try.prog 54 = none := by kernel_rfl
@[go_sem] theorem fact_noarr54 : arrB Try.prog 54 = none := by kernel_rfl
@[go_sem] theorem fact_fld54_0 : fldB Try.prog 54 0 = some (0, 22) := by kernel_rfl
@[go_sem] theorem fact_fld54_1 : fldB Try.prog 54 1 = some (1, 3) := by kernel_rfl
@[go_sem] theorem fact_pl54 : plB Try.prog 54 = some [(0, 1), (1, 1)] := by kernel_rfl
@[go_sem] theorem fact_flds54 : fldsB Try.prog 54 = some [(0, 22), (1, 3)] := by kernel_rfl
@[go_sem] theorem fact_held54 : Try.prog.stoodInHeld 54 = false := by kernel_rfl
@[go_sem] theorem fact_guard54 : Try.prog.eqGuardType Try.prog.depth 54 = false := by kernel_rfl
@[go_sem] theorem fact_el54 : elI Try.prog 54 = some (2, 32) := by kernel_rfl
@[go_sem] theorem fact_zero54 : zeroOf Try.prog 54 = some (.agg [.lit (.slice none 0 0), .lit (.int .i64 0)]) := by kernel_rfl
@[go_sem] theorem fact_sz55 : szB Try.prog 55 = some 2 := by kernel_rfl
@[go_sem] theorem fact_nz55 : nzB Try.prog 55 = true := by kernel_rfl
@[go_sem] theorem fact_ag55 : aggO Try.prog 55 = some true := by kernel_rfl
@[go_sem] theorem fact_noint55 : intB Try.prog 55 = none := by kernel_rfl
@[go_sem] theorem fact_noelem55 : elemB Try.prog 55 = none := by kernel_rfl
@[go_sem] theorem fact_noarr55 : arrB Try.prog 55 = none := by kernel_rfl
@[go_sem] theorem fact_fld55_0 : fldB Try.prog 55 0 = some (0, 22) := by kernel_rfl
@[go_sem] theorem fact_fld55_1 : fldB Try.prog 55 1 = some (1, 3) := by kernel_rfl
@[go_sem] theorem fact_pl55 : plB Try.prog 55 = some [(0, 1), (1, 1)] := by kernel_rfl
@[go_sem] theorem fact_flds55 : fldsB Try.prog 55 = some [(0, 22), (1, 3)] := by kernel_rfl
@[go_sem] theorem fact_held55 : Try.prog.stoodInHeld 55 = false := by kernel_rfl
@[go_sem] theorem fact_guard55 : Try.prog.eqGuardType Try.prog.depth 55 = false := by kernel_rfl
@[go_sem] theorem fact_el55 : elI Try.prog 55 = some (2, 32) := by kernel_rfl
@[go_sem] theorem fact_zero55 : zeroOf Try.prog 55 = some (.agg [.lit (.slice none 0 0), .lit (.int .i64 0)]) := by kernel_rfl
@[go_sem] theorem fact_sz56 : szB Try.prog 56 = some 1 := by kernel_rfl
@[go_sem] theorem fact_nz56 : nzB Try.prog 56 = true := by kernel_rfl
@[go_sem] theorem fact_ag56 : aggO Try.prog 56 = some false := by kernel_rfl
@[go_sem] theorem fact_noint56 : intB Try.prog 56 = none := by kernel_rfl
@[go_sem] theorem fact_noelem56 : elemB Try.prog 56 = none := by kernel_rfl
@[go_sem] theorem fact_sz57 : szB Try.prog 57 = some 1 := by kernel_rfl
@[go_sem] theorem fact_nz57 : nzB Try.prog 57 = true := by kernel_rfl
@[go_sem] theorem fact_ag57 : aggO Try.prog 57 = some false := by kernel_rfl
@[go_sem] theorem fact_noint57 : intB Try.prog 57 = none := by kernel_rfl
@[go_sem] theorem fact_noelem57 : elemB Try.prog 57 = none := by kernel_rfl
@[go_sem] theorem fact_sz58 : szB Try.prog 58 = some 1 := by kernel_rfl
@[go_sem] theorem fact_nz58 : nzB Try.prog 58 = true := by kernel_rfl
@[go_sem] theorem fact_ag58 : aggO Try.prog 58 = some false := by kernel_rfl
@[go_sem] theorem fact_noint58 : intB Try.prog 58 = none := by kernel_rfl
@[go_sem] theorem fact_noelem58 : elemB Try.prog 58 = none := by kernel_rfl
@[go_sem] theorem fact_sz59 : szB Try.prog 59 = some 64 := by kernel_rfl
@[go_sem] theorem fact_nz59 : nzB Try.prog 59 = true := by kernel_rfl
@[go_sem] theorem fact_ag59 : aggO Try.prog 59 = some true := by kernel_rfl
@[go_sem] theorem fact_noint59 : intB Try.prog 59 = none := by kernel_rfl
@[go_sem] theorem fact_noelem59 : elemB Try.prog 59 = none := by kernel_rfl
@[go_sem] theorem fact_arr59 : arrB Try.prog 59 = some (64, 3) := by kernel_rfl
@[go_sem] theorem fact_el59 : elI Try.prog 59 = some (64, 512) := by kernel_rfl
@[go_sem] theorem fact_zero59 : zeroOf Try.prog 59 = some (.agg (List.replicate 64 (.lit (.int .i64 0)))) := by kernel_rfl
@[go_sem] theorem fact_sz60 : szB Try.prog 60 = some 129 := by kernel_rfl
@[go_sem] theorem fact_nz60 : nzB Try.prog 60 = true := by kernel_rfl
@[go_sem] theorem fact_ag60 : aggO Try.prog 60 = some true := by kernel_rfl
@[go_sem] theorem fact_noint60 : intB Try.prog 60 = none := by kernel_rfl
@[go_sem] theorem fact_noelem60 : elemB Try.prog 60 = none := by kernel_rfl
@[go_sem] theorem fact_noarr60 : arrB Try.prog 60 = none := by kernel_rfl
@[go_sem] theorem fact_fld60_0 : fldB Try.prog 60 0 = some (0, 3) := by kernel_rfl
@[go_sem] theorem fact_fld60_1 : fldB Try.prog 60 1 = some (1, 59) := by kernel_rfl
@[go_sem] theorem fact_fld60_2 : fldB Try.prog 60 2 = some (65, 59) := by kernel_rfl
@[go_sem] theorem fact_pl60 : plB Try.prog 60 = some [(0, 1), (1, 64), (65, 64)] := by kernel_rfl
@[go_sem] theorem fact_flds60 : fldsB Try.prog 60 = some [(0, 3), (1, 59), (65, 59)] := by kernel_rfl
@[go_sem] theorem fact_held60 : Try.prog.stoodInHeld 60 = false := by kernel_rfl
@[go_sem] theorem fact_guard60 : Try.prog.eqGuardType Try.prog.depth 60 = false := by kernel_rfl
@[go_sem] theorem fact_el60 : elI Try.prog 60 = some (129, 1032) := by kernel_rfl
@[go_sem] theorem fact_zero60 : zeroOf Try.prog 60 = some (.agg [.lit (.int .i64 0), .agg (List.replicate 64 (.lit (.int .i64 0))), .agg (List.replicate 64 (.lit (.int .i64 0)))]) := by kernel_rfl
@[go_sem] theorem fact_sz61 : szB Try.prog 61 = some 129 := by kernel_rfl
@[go_sem] theorem fact_nz61 : nzB Try.prog 61 = true := by kernel_rfl
@[go_sem] theorem fact_ag61 : aggO Try.prog 61 = some true := by kernel_rfl
@[go_sem] theorem fact_noint61 : intB Try.prog 61 = none := by kernel_rfl
@[go_sem] theorem fact_noelem61 : elemB Try.prog 61 = none := by kernel_rfl
@[go_sem] theorem fact_noarr61 : arrB Try.prog 61 = none := by kernel_rfl
@[go_sem] theorem fact_fld61_0 : fldB Try.prog 61 0 = some (0, 3) := by kernel_rfl
@[go_sem] theorem fact_fld61_1 : fldB Try.prog 61 1 = some (1, 59) := by kernel_rfl
@[go_sem] theorem fact_fld61_2 : fldB Try.prog 61 2 = some (65, 59) := by kernel_rfl
@[go_sem] theorem fact_pl61 : plB Try.prog 61 = some [(0, 1), (1, 64), (65, 64)] := by kernel_rfl
@[go_sem] theorem fact_flds61 : fldsB Try.prog 61 = some [(0, 3), (1, 59), (65, 59)] := by kernel_rfl
@[go_sem] theorem fact_held61 : Try.prog.stoodInHeld 61 = false := by kernel_rfl
@[go_sem] theorem fact_guard61 : Try.prog.eqGuardType Try.prog.depth 61 = false := by kernel_rfl
@[go_sem] theorem fact_el61 : elI Try.prog 61 = some (129, 1032) := by kernel_rfl
@[go_sem] theorem fact_zero61 : zeroOf Try.prog 61 = some (.agg [.lit (.int .i64 0), .agg (List.replicate 64 (.lit (.int .i64 0))), .agg (List.replicate 64 (.lit (.int .i64 0)))]) := by kernel_rfl
@[go_sem] theorem fact_sz62 : szB Try.prog 62 = some 1 := by kernel_rfl
@[go_sem] theorem fact_nz62 : nzB Try.prog 62 = true := by kernel_rfl
@[go_sem] theorem fact_ag62 : aggO Try.prog 62 = some false := by kernel_rfl
@[go_sem] theorem fact_noint62 : intB Try.prog 62 = none := by kernel_rfl
@[go_sem] theorem fact_noelem62 : elemB Try.prog 62 = none := by kernel_rfl
@[go_sem] theorem fact_sz63 : szB Try.prog 63 = some 1 := by kernel_rfl
@[go_sem] theorem fact_nz63 : nzB Try.prog 63 = true := by kernel_rfl
@[go_sem] theorem fact_ag63 : aggO Try.prog 63 = some false := by kernel_rfl
@[go_sem] theorem fact_noint63 : intB Try.prog 63 = none := by kernel_rfl
@[go_sem] theorem fact_noelem63 : elemB Try.prog 63 = none := by kernel_rfl
@[go_sem] theorem fact_sz64 : szB Try.prog 64 = some 1 := by kernel_rfl
@[go_sem] theorem fact_nz64 : nzB Try.prog 64 = true := by kernel_rfl
@[go_sem] theorem fact_ag64 : aggO Try.prog 64 = some false := by kernel_rfl
@[go_sem] theorem fact_noint64 : intB Try.prog 64 = none := by kernel_rfl
@[go_sem] theorem fact_noelem64 : elemB Try.prog 64 = none := by kernel_rfl
@[go_sem] theorem fact_sz65 : szB Try.prog 65 = some 1 := by kernel_rfl
@[go_sem] theorem fact_nz65 : nzB Try.prog 65 = true := by kernel_rfl
@[go_sem] theorem fact_ag65 : aggO Try.prog 65 = some false := by kernel_rfl
@[go_sem] theorem fact_noint65 : intB Try.prog 65 = none := by kernel_rfl
@[go_sem] theorem fact_noelem65 : elemB Try.prog 65 = none := by kernel_rfl
@[go_sem] theorem fact_sz66 : szB Try.prog 66 = some 1 := by kernel_rfl
@[go_sem] theorem fact_nz66 : nzB Try.prog 66 = true := by kernel_rfl
@[go_sem] theorem fact_ag66 : aggO Try.prog 66 = some false := by kernel_rfl
@[go_sem] theorem fact_noint66 : intB Try.prog 66 = none := by kernel_rfl
@[go_sem] theorem fact_noelem66 : elemB Try.prog 66 = none := by kernel_rfl
@[go_sem] theorem fact_sz67 : szB Try.prog 67 = some 1 := by kernel_rfl
@[go_sem] theorem fact_nz67 : nzB Try.prog 67 = true := by kernel_rfl
@[go_sem] theorem fact_ag67 : aggO Try.prog 67 = some false := by kernel_rfl
@[go_sem] theorem fact_noint67 : intB Try.prog 67 = none := by kernel_rfl
@[go_sem] theorem fact_noelem67 : elemB Try.prog 67 = none := by kernel_rfl
@[go_sem] theorem fact_sz68 : szB Try.prog 68 = some 1 := by kernel_rfl
@[go_sem] theorem fact_nz68 : nzB Try.prog 68 = true := by kernel_rfl
@[go_sem] theorem fact_ag68 : aggO Try.prog 68 = some false := by kernel_rfl
@[go_sem] theorem fact_noint68 : intB Try.prog 68 = none := by kernel_rfl
@[go_sem] theorem fact_noelem68 : elemB Try.prog 68 = none := by kernel_rfl
@[go_sem] theorem fact_el68 : elI Try.prog 68 = some (1, 8) := by kernel_rfl
@[go_sem] theorem fact_zero68 : zeroOf Try.prog 68 = some (.lit (.pointer none)) := by kernel_rfl
@[go_sem] theorem fact_sz69 : szB Try.prog 69 = some 1 := by kernel_rfl
@[go_sem] theorem fact_nz69 : nzB Try.prog 69 = true := by kernel_rfl
@[go_sem] theorem fact_ag69 : aggO Try.prog 69 = some false := by kernel_rfl
@[go_sem] theorem fact_noint69 : intB Try.prog 69 = none := by kernel_rfl
@[go_sem] theorem fact_noelem69 : elemB Try.prog 69 = none := by kernel_rfl
@[go_sem] theorem fact_sz70 : szB Try.prog 70 = some 1 := by kernel_rfl
@[go_sem] theorem fact_nz70 : nzB Try.prog 70 = true := by kernel_rfl
@[go_sem] theorem fact_ag70 : aggO Try.prog 70 = some false := by kernel_rfl
@[go_sem] theorem fact_noint70 : intB Try.prog 70 = none := by kernel_rfl
@[go_sem] theorem fact_noelem70 : elemB Try.prog 70 = none := by kernel_rfl
@[go_sem] theorem fact_sz71 : szB Try.prog 71 = some 1 := by kernel_rfl
@[go_sem] theorem fact_nz71 : nzB Try.prog 71 = true := by kernel_rfl
@[go_sem] theorem fact_ag71 : aggO Try.prog 71 = some false := by kernel_rfl
@[go_sem] theorem fact_noint71 : intB Try.prog 71 = none := by kernel_rfl
@[go_sem] theorem fact_noelem71 : elemB Try.prog 71 = none := by kernel_rfl
@[go_sem] theorem fact_sz72 : szB Try.prog 72 = some 1 := by kernel_rfl
@[go_sem] theorem fact_nz72 : nzB Try.prog 72 = true := by kernel_rfl
@[go_sem] theorem fact_ag72 : aggO Try.prog 72 = some false := by kernel_rfl
@[go_sem] theorem fact_noint72 : intB Try.prog 72 = none := by kernel_rfl
@[go_sem] theorem fact_noelem72 : elemB Try.prog 72 = none := by kernel_rfl
@[go_sem] theorem fact_sz73 : szB Try.prog 73 = some 4 := by kernel_rfl
@[go_sem] theorem fact_nz73 : nzB Try.prog 73 = true := by kernel_rfl
@[go_sem] theorem fact_ag73 : aggO Try.prog 73 = some true := by kernel_rfl
@[go_sem] theorem fact_noint73 : intB Try.prog 73 = none := by kernel_rfl
@[go_sem] theorem fact_noelem73 : elemB Try.prog 73 = none := by kernel_rfl
@[go_sem] theorem fact_noarr73 : arrB Try.prog 73 = none := by kernel_rfl
@[go_sem] theorem fact_fld73_0 : fldB Try.prog 73 0 = some (0, 17) := by kernel_rfl
@[go_sem] theorem fact_fld73_1 : fldB Try.prog 73 1 = some (1, 17) := by kernel_rfl
@[go_sem] theorem fact_fld73_2 : fldB Try.prog 73 2 = some (2, 17) := by kernel_rfl
@[go_sem] theorem fact_fld73_3 : fldB Try.prog 73 3 = some (3, 9) := by kernel_rfl
@[go_sem] theorem fact_pl73 : plB Try.prog 73 = some [(0, 1), (1, 1), (2, 1), (3, 1)] := by kernel_rfl
@[go_sem] theorem fact_flds73 : fldsB Try.prog 73 = some [(0, 17), (1, 17), (2, 17), (3, 9)] := by kernel_rfl
@[go_sem] theorem fact_sz74 : szB Try.prog 74 = some 4 := by kernel_rfl
@[go_sem] theorem fact_nz74 : nzB Try.prog 74 = true := by kernel_rfl
@[go_sem] theorem fact_ag74 : aggO Try.prog 74 = some true := by kernel_rfl
@[go_sem] theorem fact_noint74 : intB Try.prog 74 = none := by kernel_rfl
@[go_sem] theorem fact_noelem74 : elemB Try.prog 74 = none := by kernel_rfl
@[go_sem] theorem fact_noarr74 : arrB Try.prog 74 = none := by kernel_rfl
@[go_sem] theorem fact_fld74_0 : fldB Try.prog 74 0 = some (0, 17) := by kernel_rfl
@[go_sem] theorem fact_fld74_1 : fldB Try.prog 74 1 = some (1, 17) := by kernel_rfl
@[go_sem] theorem fact_fld74_2 : fldB Try.prog 74 2 = some (2, 17) := by kernel_rfl
@[go_sem] theorem fact_fld74_3 : fldB Try.prog 74 3 = some (3, 9) := by kernel_rfl
@[go_sem] theorem fact_pl74 : plB Try.prog 74 = some [(0, 1), (1, 1), (2, 1), (3, 1)] := by kernel_rfl
@[go_sem] theorem fact_flds74 : fldsB Try.prog 74 = some [(0, 17), (1, 17), (2, 17), (3, 9)] := by kernel_rfl
@[go_sem] theorem fact_sz78 : szB Try.prog 78 = some 1 := by kernel_rfl
@[go_sem] theorem fact_nz78 : nzB Try.prog 78 = true := by kernel_rfl
@[go_sem] theorem fact_ag78 : aggO Try.prog 78 = some false := by kernel_rfl
@[go_sem] theorem fact_int78 : intB Try.prog 78 = some .u32 := by kernel_rfl
@[go_sem] theorem fact_noelem78 : elemB Try.prog 78 = none := by kernel_rfl
@[go_sem] theorem fact_el78 : elI Try.prog 78 = some (1, 4) := by kernel_rfl
@[go_sem] theorem fact_zero78 : zeroOf Try.prog 78 = some (.lit (.int .u32 0)) := by kernel_rfl
@[go_sem] theorem fact_sz79 : szB Try.prog 79 = some 1 := by kernel_rfl
@[go_sem] theorem fact_nz79 : nzB Try.prog 79 = true := by kernel_rfl
@[go_sem] theorem fact_ag79 : aggO Try.prog 79 = some false := by kernel_rfl
@[go_sem] theorem fact_int79 : intB Try.prog 79 = some .u8 := by kernel_rfl
@[go_sem] theorem fact_noelem79 : elemB Try.prog 79 = none := by kernel_rfl
@[go_sem] theorem fact_el79 : elI Try.prog 79 = some (1, 1) := by kernel_rfl
@[go_sem] theorem fact_zero79 : zeroOf Try.prog 79 = some (.lit (.int .u8 0)) := by kernel_rfl
@[go_sem] theorem fact_sz80 : szB Try.prog 80 = some 1 := by kernel_rfl
@[go_sem] theorem fact_nz80 : nzB Try.prog 80 = true := by kernel_rfl
@[go_sem] theorem fact_ag80 : aggO Try.prog 80 = some false := by kernel_rfl
@[go_sem] theorem fact_int80 : intB Try.prog 80 = some .u8 := by kernel_rfl
@[go_sem] theorem fact_noelem80 : elemB Try.prog 80 = none := by kernel_rfl
@[go_sem] theorem fact_el80 : elI Try.prog 80 = some (1, 1) := by kernel_rfl
@[go_sem] theorem fact_zero80 : zeroOf Try.prog 80 = some (.lit (.int .u8 0)) := by kernel_rfl
@[go_sem] theorem fact_sz81 : szB Try.prog 81 = some 1 := by kernel_rfl
@[go_sem] theorem fact_nz81 : nzB Try.prog 81 = true := by kernel_rfl
@[go_sem] theorem fact_ag81 : aggO Try.prog 81 = some false := by kernel_rfl
@[go_sem] theorem fact_noint81 : intB Try.prog 81 = none := by kernel_rfl
@[go_sem] theorem fact_noelem81 : elemB Try.prog 81 = none := by kernel_rfl
@[go_sem] theorem fact_sz82 : szB Try.prog 82 = some 1 := by kernel_rfl
@[go_sem] theorem fact_nz82 : nzB Try.prog 82 = true := by kernel_rfl
@[go_sem] theorem fact_ag82 : aggO Try.prog 82 = some false := by kernel_rfl
@[go_sem] theorem fact_noint82 : intB Try.prog 82 = none := by kernel_rfl
@[go_sem] theorem fact_noelem82 : elemB Try.prog 82 = none := by kernel_rfl
@[go_sem] theorem fact_el82 : elI Try.prog 82 = some (1, 8) := by kernel_rfl
@[go_sem] theorem fact_zero82 : zeroOf Try.prog 82 = some (.lit (.pointer none)) := by kernel_rfl
@[go_sem] theorem fact_sz83 : szB Try.prog 83 = some 1 := by kernel_rfl
@[go_sem] theorem fact_nz83 : nzB Try.prog 83 = true := by kernel_rfl
@[go_sem] theorem fact_ag83 : aggO Try.prog 83 = some false := by kernel_rfl
@[go_sem] theorem fact_int83 : intB Try.prog 83 = some .i32 := by kernel_rfl
@[go_sem] theorem fact_noelem83 : elemB Try.prog 83 = none := by kernel_rfl
@[go_sem] theorem fact_el83 : elI Try.prog 83 = some (1, 4) := by kernel_rfl
@[go_sem] theorem fact_zero83 : zeroOf Try.prog 83 = some (.lit (.int .i32 0)) := by kernel_rfl
@[go_sem] theorem fact_sz84 : szB Try.prog 84 = some 1 := by kernel_rfl
@[go_sem] theorem fact_nz84 : nzB Try.prog 84 = true := by kernel_rfl
@[go_sem] theorem fact_ag84 : aggO Try.prog 84 = some false := by kernel_rfl
@[go_sem] theorem fact_int84 : intB Try.prog 84 = some .i32 := by kernel_rfl
@[go_sem] theorem fact_noelem84 : elemB Try.prog 84 = none := by kernel_rfl
@[go_sem] theorem fact_el84 : elI Try.prog 84 = some (1, 4) := by kernel_rfl
@[go_sem] theorem fact_zero84 : zeroOf Try.prog 84 = some (.lit (.int .i32 0)) := by kernel_rfl
@[go_sem] theorem fact_sz85 : szB Try.prog 85 = some 11 := by kernel_rfl
@[go_sem] theorem fact_nz85 : nzB Try.prog 85 = true := by kernel_rfl
@[go_sem] theorem fact_ag85 : aggO Try.prog 85 = some true := by kernel_rfl
@[go_sem] theorem fact_noint85 : intB Try.prog 85 = none := by kernel_rfl
@[go_sem] theorem fact_noelem85 : elemB Try.prog 85 = none := by kernel_rfl
@[go_sem] theorem fact_noarr85 : arrB Try.prog 85 = none := by kernel_rfl
@[go_sem] theorem fact_fld85_0 : fldB Try.prog 85 0 = some (0, 12) := by kernel_rfl
@[go_sem] theorem fact_fld85_1 : fldB Try.prog 85 1 = some (1, 12) := by kernel_rfl
@[go_sem] theorem fact_fld85_2 : fldB Try.prog 85 2 = some (2, 78) := by kernel_rfl
@[go_sem] theorem fact_fld85_3 : fldB Try.prog 85 3 = some (3, 79) := by kernel_rfl
@[go_sem] theorem fact_fld85_4 : fldB Try.prog 85 4 = some (4, 5) := by kernel_rfl
@[go_sem] theorem fact_fld85_5 : fldB Try.prog 85 5 = some (5, 5) := by kernel_rfl
@[go_sem] theorem fact_fld85_6 : fldB Try.prog 85 6 = some (6, 80) := by kernel_rfl
@[go_sem] theorem fact_fld85_7 : fldB Try.prog 85 7 = some (7, 81) := by kernel_rfl
@[go_sem] theorem fact_fld85_8 : fldB Try.prog 85 8 = some (8, 82) := by kernel_rfl
@[go_sem] theorem fact_fld85_9 : fldB Try.prog 85 9 = some (9, 83) := by kernel_rfl
@[go_sem] theorem fact_fld85_10 : fldB Try.prog 85 10 = some (10, 84) := by kernel_rfl
@[go_sem] theorem fact_pl85 : plB Try.prog 85 = some [(0, 1), (1, 1), (2, 1), (3, 1), (4, 1), (5, 1), (6, 1), (7, 1), (8, 1), (9, 1), (10, 1)] := by kernel_rfl
@[go_sem] theorem fact_flds85 : fldsB Try.prog 85 = some [(0, 12), (1, 12), (2, 78), (3, 79), (4, 5), (5, 5), (6, 80), (7, 81), (8, 82), (9, 83), (10, 84)] := by kernel_rfl
@[go_sem] theorem fact_sz86 : szB Try.prog 86 = some 11 := by kernel_rfl
@[go_sem] theorem fact_nz86 : nzB Try.prog 86 = true := by kernel_rfl
@[go_sem] theorem fact_ag86 : aggO Try.prog 86 = some true := by kernel_rfl
@[go_sem] theorem fact_noint86 : intB Try.prog 86 = none := by kernel_rfl
@[go_sem] theorem fact_noelem86 : elemB Try.prog 86 = none := by kernel_rfl
@[go_sem] theorem fact_noarr86 : arrB Try.prog 86 = none := by kernel_rfl
@[go_sem] theorem fact_fld86_0 : fldB Try.prog 86 0 = some (0, 12) := by kernel_rfl
@[go_sem] theorem fact_fld86_1 : fldB Try.prog 86 1 = some (1, 12) := by kernel_rfl
@[go_sem] theorem fact_fld86_2 : fldB Try.prog 86 2 = some (2, 78) := by kernel_rfl
@[go_sem] theorem fact_fld86_3 : fldB Try.prog 86 3 = some (3, 79) := by kernel_rfl
@[go_sem] theorem fact_fld86_4 : fldB Try.prog 86 4 = some (4, 5) := by kernel_rfl
@[go_sem] theorem fact_fld86_5 : fldB Try.prog 86 5 = some (5, 5) := by kernel_rfl
@[go_sem] theorem fact_fld86_6 : fldB Try.prog 86 6 = some (6, 80) := by kernel_rfl
@[go_sem] theorem fact_fld86_7 : fldB Try.prog 86 7 = some (7, 81) := by kernel_rfl
@[go_sem] theorem fact_fld86_8 : fldB Try.prog 86 8 = some (8, 82) := by kernel_rfl
@[go_sem] theorem fact_fld86_9 : fldB Try.prog 86 9 = some (9, 83) := by kernel_rfl
@[go_sem] theorem fact_fld86_10 : fldB Try.prog 86 10 = some (10, 84) := by kernel_rfl
@[go_sem] theorem fact_pl86 : plB Try.prog 86 = some [(0, 1), (1, 1), (2, 1), (3, 1), (4, 1), (5, 1), (6, 1), (7, 1), (8, 1), (9, 1), (10, 1)] := by kernel_rfl
@[go_sem] theorem fact_flds86 : fldsB Try.prog 86 = some [(0, 12), (1, 12), (2, 78), (3, 79), (4, 5), (5, 5), (6, 80), (7, 81), (8, 82), (9, 83), (10, 84)] := by kernel_rfl
@[go_sem] theorem fact_ent3 : entB Try.prog 3 = true := by kernel_rfl
@[go_sem] theorem fact_ent4 : entB Try.prog 4 = true := by kernel_rfl
@[go_sem] theorem fact_ent5 : entB Try.prog 5 = true := by kernel_rfl
@[go_sem] theorem fact_ent6 : entB Try.prog 6 = true := by kernel_rfl
@[go_sem] theorem fact_ent7 : entB Try.prog 7 = true := by kernel_rfl
@[go_sem] theorem fact_ent8 : entB Try.prog 8 = true := by kernel_rfl
@[go_sem] theorem fact_ent9 : entB Try.prog 9 = true := by kernel_rfl
@[go_sem] theorem fact_ent10 : entB Try.prog 10 = true := by kernel_rfl
@[go_sem] theorem fact_ent11 : entB Try.prog 11 = true := by kernel_rfl
@[go_sem] theorem fact_ent12 : entB Try.prog 12 = true := by kernel_rfl
@[go_sem] theorem fact_ent13 : entB Try.prog 13 = true := by kernel_rfl
@[go_sem] theorem fact_ent14 : entB Try.prog 14 = true := by kernel_rfl
@[go_sem] theorem fact_ent15 : entB Try.prog 15 = true := by kernel_rfl
@[go_sem] theorem fact_ent16 : entB Try.prog 16 = true := by kernel_rfl
@[go_sem] theorem fact_ent17 : entB Try.prog 17 = true := by kernel_rfl
@[go_sem] theorem fact_ent18 : entB Try.prog 18 = true := by kernel_rfl
@[go_sem] theorem fact_ent19 : entB Try.prog 19 = true := by kernel_rfl
@[go_sem] theorem fact_ent20 : entB Try.prog 20 = true := by kernel_rfl
@[go_sem] theorem fact_ent21 : entB Try.prog 21 = true := by kernel_rfl
@[go_sem] theorem fact_ent22 : entB Try.prog 22 = true := by kernel_rfl
@[go_sem] theorem fact_ent23 : entB Try.prog 23 = true := by kernel_rfl
@[go_sem] theorem fact_ent24 : entB Try.prog 24 = true := by kernel_rfl
@[go_sem] theorem fact_ent25 : entB Try.prog 25 = true := by kernel_rfl
@[go_sem] theorem fact_ent26 : entB Try.prog 26 = true := by kernel_rfl
@[go_sem] theorem fact_ent27 : entB Try.prog 27 = true := by kernel_rfl
@[go_sem] theorem fact_ent28 : entB Try.prog 28 = true := by kernel_rfl
@[go_sem] theorem fact_ent29 : entB Try.prog 29 = true := by kernel_rfl
@[go_sem] theorem fact_ent30 : entB Try.prog 30 = true := by kernel_rfl
@[go_sem] theorem fact_ent31 : entB Try.prog 31 = true := by kernel_rfl
@[go_sem] theorem fact_ent32 : entB Try.prog 32 = true := by kernel_rfl
@[go_sem] theorem fact_ent33 : entB Try.prog 33 = true := by kernel_rfl
@[go_sem] theorem fact_ent34 : entB Try.prog 34 = true := by kernel_rfl
@[go_sem] theorem fact_ent35 : entB Try.prog 35 = true := by kernel_rfl
@[go_sem] theorem fact_ent36 : entB Try.prog 36 = true := by kernel_rfl
@[go_sem] theorem fact_ent37 : entB Try.prog 37 = true := by kernel_rfl
@[go_sem] theorem fact_ent38 : entB Try.prog 38 = true := by kernel_rfl
@[go_sem] theorem fact_ent39 : entB Try.prog 39 = true := by kernel_rfl
@[go_sem] theorem fact_ent40 : entB Try.prog 40 = true := by kernel_rfl
@[go_sem] theorem fact_ent41 : entB Try.prog 41 = true := by kernel_rfl
@[go_sem] theorem fact_ent42 : entB Try.prog 42 = true := by kernel_rfl
@[go_sem] theorem fact_ent43 : entB Try.prog 43 = true := by kernel_rfl
@[go_sem] theorem fact_ent44 : entB Try.prog 44 = true := by kernel_rfl
@[go_sem] theorem fact_mixed : Try.prog.follows .mixedOrders = true := by kernel_rfl
end Go.Proofs.Ytpfolkjimdmdhaa
