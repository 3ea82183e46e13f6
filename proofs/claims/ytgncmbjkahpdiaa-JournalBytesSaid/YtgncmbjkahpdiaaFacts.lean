/- Facts on the types and functions of this translation, printed by a program of this claim (facts.py). No condition. -/
import Derived.Test.YtgncmbjkahpdiaaRows
import Derived.Test.YtgncmbjkahpdiaaSyR
namespace Go.Proofs.Ytgncmbjkahpdiaa
set_option linter.unusedVariables false
open Sy
@[go_sem] theorem fact_sz1 : szB Try.prog 1 = some 1 := by kernel_rfl
@[go_sem] theorem fact_nz1 : nzB Try.prog 1 = true := by kernel_rfl
@[go_sem] theorem fact_ag1 : aggO Try.prog 1 = some false := by kernel_rfl
@[go_sem] theorem fact_noint1 : intB Try.prog 1 = none := by kernel_rfl
@[go_sem] theorem fact_noelem1 : elemB Try.prog 1 = none := by kernel_rfl
@[go_sem] theorem fact_sz2 : szB Try.prog 2 = some 1 := by kernel_rfl
@[go_sem] theorem fact_nz2 : nzB Try.prog 2 = true := by kernel_rfl
@[go_sem] theorem fact_ag2 : aggO Try.prog 2 = some false := by kernel_rfl
@[go_sem] theorem fact_int2 : intB Try.prog 2 = some .i64 := by kernel_rfl
@[go_sem] theorem fact_noelem2 : elemB Try.prog 2 = none := by kernel_rfl
@[go_sem] theorem fact_el2 : elI Try.prog 2 = some (1, 8) := by kernel_rfl
@[go_sem] theorem fact_zero2 : zeroOf Try.prog 2 = some (.lit (.int .i64 0)) := by kernel_rfl
@[go_sem] theorem fact_sz3 : szB Try.prog 3 = some 1 := by kernel_rfl
@[go_sem] theorem fact_nz3 : nzB Try.prog 3 = true := by kernel_rfl
@[go_sem] theorem fact_ag3 : aggO Try.prog 3 = some false := by kernel_rfl
@[go_sem] theorem fact_int3 : intB Try.prog 3 = some .i64 := by kernel_rfl
@[go_sem] theorem fact_noelem3 : elemB Try.prog 3 = none := by kernel_rfl
@[go_sem] theorem fact_el3 : elI Try.prog 3 = some (1, 8) := by kernel_rfl
@[go_sem] theorem fact_zero3 : zeroOf Try.prog 3 = some (.lit (.int .i64 0)) := by kernel_rfl
@[go_sem] theorem fact_sz4 : szB Try.prog 4 = some 1 := by kernel_rfl
@[go_sem] theorem fact_nz4 : nzB Try.prog 4 = true := by kernel_rfl
@[go_sem] theorem fact_ag4 : aggO Try.prog 4 = some false := by kernel_rfl
@[go_sem] theorem fact_noint4 : intB Try.prog 4 = none := by kernel_rfl
@[go_sem] theorem fact_bool4 : boolB Try.prog 4 = true := by kernel_rfl
@[go_sem] theorem fact_noelem4 : elemB Try.prog 4 = none := by kernel_rfl
@[go_sem] theorem fact_el4 : elI Try.prog 4 = some (1, 1) := by kernel_rfl
@[go_sem] theorem fact_zero4 : zeroOf Try.prog 4 = some (.lit (.bool false)) := by kernel_rfl
@[go_sem] theorem fact_sz5 : szB Try.prog 5 = some 1 := by kernel_rfl
@[go_sem] theorem fact_nz5 : nzB Try.prog 5 = true := by kernel_rfl
@[go_sem] theorem fact_ag5 : aggO Try.prog 5 = some false := by kernel_rfl
@[go_sem] theorem fact_int5 : intB Try.prog 5 = some .u8 := by kernel_rfl
@[go_sem] theorem fact_noelem5 : elemB Try.prog 5 = none := by kernel_rfl
@[go_sem] theorem fact_el5 : elI Try.prog 5 = some (1, 1) := by kernel_rfl
@[go_sem] theorem fact_zero5 : zeroOf Try.prog 5 = some (.lit (.int .u8 0)) := by kernel_rfl
@[go_sem] theorem fact_sz6 : szB Try.prog 6 = some 1 := by kernel_rfl
@[go_sem] theorem fact_nz6 : nzB Try.prog 6 = true := by kernel_rfl
@[go_sem] theorem fact_ag6 : aggO Try.prog 6 = some false := by kernel_rfl
@[go_sem] theorem fact_int6 : intB Try.prog 6 = some .u8 := by kernel_rfl
@[go_sem] theorem fact_noelem6 : elemB Try.prog 6 = none := by kernel_rfl
@[go_sem] theorem fact_el6 : elI Try.prog 6 = some (1, 1) := by kernel_rfl
@[go_sem] theorem fact_zero6 : zeroOf Try.prog 6 = some (.lit (.int .u8 0)) := by kernel_rfl
@[go_sem] theorem fact_sz7 : szB Try.prog 7 = some 4 := by kernel_rfl
@[go_sem] theorem fact_nz7 : nzB Try.prog 7 = true := by kernel_rfl
@[go_sem] theorem fact_ag7 : aggO Try.prog 7 = some true := by kernel_rfl
@[go_sem] theorem fact_noint7 : intB Try.prog 7 = none := by kernel_rfl
@[go_sem] theorem fact_noelem7 : elemB Try.prog 7 = none := by kernel_rfl
@[go_sem] theorem fact_noarr7 : arrB Try.prog 7 = none := by kernel_rfl
@[go_sem] theorem fact_fld7_0 : fldB Try.prog 7 0 = some (0, 2) := by kernel_rfl
@[go_sem] theorem fact_fld7_1 : fldB Try.prog 7 1 = some (1, 3) := by kernel_rfl
@[go_sem] theorem fact_fld7_2 : fldB Try.prog 7 2 = some (2, 4) := by kernel_rfl
@[go_sem] theorem fact_fld7_3 : fldB Try.prog 7 3 = some (3, 6) := by kernel_rfl
@[go_sem] theorem fact_pl7 : plB Try.prog 7 = some [(0, 1), (1, 1), (2, 1), (3, 1)] := by kernel_rfl
@[go_sem] theorem fact_flds7 : fldsB Try.prog 7 = some [(0, 2), (1, 3), (2, 4), (3, 6)] := by kernel_rfl
@[go_sem] theorem fact_sz8 : szB Try.prog 8 = some 4 := by kernel_rfl
@[go_sem] theorem fact_nz8 : nzB Try.prog 8 = true := by kernel_rfl
@[go_sem] theorem fact_ag8 : aggO Try.prog 8 = some true := by kernel_rfl
@[go_sem] theorem fact_noint8 : intB Try.prog 8 = none := by kernel_rfl
@[go_sem] theorem fact_noelem8 : elemB Try.prog 8 = none := by kernel_rfl
@[go_sem] theorem fact_noarr8 : arrB Try.prog 8 = none := by kernel_rfl
@[go_sem] theorem fact_fld8_0 : fldB Try.prog 8 0 = some (0, 2) := by kernel_rfl
@[go_sem] theorem fact_fld8_1 : fldB Try.prog 8 1 = some (1, 3) := by kernel_rfl
@[go_sem] theorem fact_fld8_2 : fldB Try.prog 8 2 = some (2, 4) := by kernel_rfl
@[go_sem] theorem fact_fld8_3 : fldB Try.prog 8 3 = some (3, 6) := by kernel_rfl
@[go_sem] theorem fact_pl8 : plB Try.prog 8 = some [(0, 1), (1, 1), (2, 1), (3, 1)] := by kernel_rfl
@[go_sem] theorem fact_flds8 : fldsB Try.prog 8 = some [(0, 2), (1, 3), (2, 4), (3, 6)] := by kernel_rfl
@[go_sem] theorem fact_sz9 : szB Try.prog 9 = some 1 := by kernel_rfl
@[go_sem] theorem fact_nz9 : nzB Try.prog 9 = true := by kernel_rfl
@[go_sem] theorem fact_ag9 : aggO Try.prog 9 = some false := by kernel_rfl
@[go_sem] theorem fact_noint9 : intB Try.prog 9 = none := by kernel_rfl
@[go_sem] theorem fact_str9 : strB Try.prog 9 = true := by kernel_rfl
@[go_sem] theorem fact_noelem9 : elemB Try.prog 9 = none := by kernel_rfl
@[go_sem] theorem fact_el9 : elI Try.prog 9 = some (1, 16) := by kernel_rfl
@[go_sem] theorem fact_zero9 : zeroOf Try.prog 9 = some (.lit (.string ByteArray.empty)) := by kernel_rfl
@[go_sem] theorem fact_sz10 : szB Try.prog 10 = some 1 := by kernel_rfl
@[go_sem] theorem fact_nz10 : nzB Try.prog 10 = true := by kernel_rfl
@[go_sem] theorem fact_ag10 : aggO Try.prog 10 = some false := by kernel_rfl
@[go_sem] theorem fact_noint10 : intB Try.prog 10 = none := by kernel_rfl
@[go_sem] theorem fact_str10 : strB Try.prog 10 = true := by kernel_rfl
@[go_sem] theorem fact_noelem10 : elemB Try.prog 10 = none := by kernel_rfl
@[go_sem] theorem fact_el10 : elI Try.prog 10 = some (1, 16) := by kernel_rfl
@[go_sem] theorem fact_zero10 : zeroOf Try.prog 10 = some (.lit (.string ByteArray.empty)) := by kernel_rfl
@[go_sem] theorem fact_sz11 : szB Try.prog 11 = some 1 := by kernel_rfl
@[go_sem] theorem fact_nz11 : nzB Try.prog 11 = true := by kernel_rfl
@[go_sem] theorem fact_ag11 : aggO Try.prog 11 = some false := by kernel_rfl
@[go_sem] theorem fact_noint11 : intB Try.prog 11 = none := by kernel_rfl
@[go_sem] theorem fact_str11 : strB Try.prog 11 = true := by kernel_rfl
@[go_sem] theorem fact_noelem11 : elemB Try.prog 11 = none := by kernel_rfl
@[go_sem] theorem fact_el11 : elI Try.prog 11 = some (1, 16) := by kernel_rfl
@[go_sem] theorem fact_zero11 : zeroOf Try.prog 11 = some (.lit (.string ByteArray.empty)) := by kernel_rfl
@[go_sem] theorem fact_sz12 : szB Try.prog 12 = some 1 := by kernel_rfl
@[go_sem] theorem fact_nz12 : nzB Try.prog 12 = true := by kernel_rfl
@[go_sem] theorem fact_ag12 : aggO Try.prog 12 = some false := by kernel_rfl
@[go_sem] theorem fact_int12 : intB Try.prog 12 = some .u64 := by kernel_rfl
@[go_sem] theorem fact_noelem12 : elemB Try.prog 12 = none := by kernel_rfl
@[go_sem] theorem fact_el12 : elI Try.prog 12 = some (1, 8) := by kernel_rfl
@[go_sem] theorem fact_zero12 : zeroOf Try.prog 12 = some (.lit (.int .u64 0)) := by kernel_rfl
@[go_sem] theorem fact_sz13 : szB Try.prog 13 = some 2 := by kernel_rfl
@[go_sem] theorem fact_nz13 : nzB Try.prog 13 = true := by kernel_rfl
@[go_sem] theorem fact_ag13 : aggO Try.prog 13 = some true := by kernel_rfl
@[go_sem] theorem fact_noint13 : intB Try.prog 13 = none := by kernel_rfl
@[go_sem] theorem fact_noelem13 : elemB Try.prog 13 = none := by kernel_rfl
@[go_sem] theorem fact_noarr13 : arrB Try.prog 13 = none := by kernel_rfl
@[go_sem] theorem fact_fld13_0 : fldB Try.prog 13 0 = some (0, 9) := by kernel_rfl
@[go_sem] theorem fact_fld13_1 : fldB Try.prog 13 1 = some (1, 12) := by kernel_rfl
@[go_sem] theorem fact_pl13 : plB Try.prog 13 = some [(0, 1), (1, 1)] := by kernel_rfl
@[go_sem] theorem fact_flds13 : fldsB Try.prog 13 = some [(0, 9), (1, 12)] := by kernel_rfl
@[go_sem] theorem fact_sz14 : szB Try.prog 14 = some 2 := by kernel_rfl
@[go_sem] theorem fact_nz14 : nzB Try.prog 14 = true := by kernel_rfl
@[go_sem] theorem fact_ag14 : aggO Try.prog 14 = some true := by kernel_rfl
@[go_sem] theorem fact_noint14 : intB Try.prog 14 = none := by kernel_rfl
@[go_sem] theorem fact_noelem14 : elemB Try.prog 14 = none := by kernel_rfl
@[go_sem] theorem fact_noarr14 : arrB Try.prog 14 = none := by kernel_rfl
@[go_sem] theorem fact_fld14_0 : fldB Try.prog 14 0 = some (0, 9) := by kernel_rfl
@[go_sem] theorem fact_fld14_1 : fldB Try.prog 14 1 = some (1, 12) := by kernel_rfl
@[go_sem] theorem fact_pl14 : plB Try.prog 14 = some [(0, 1), (1, 1)] := by kernel_rfl
@[go_sem] theorem fact_flds14 : fldsB Try.prog 14 = some [(0, 9), (1, 12)] := by kernel_rfl
@[go_sem] theorem fact_sz15 : szB Try.prog 15 = some 1 := by kernel_rfl
@[go_sem] theorem fact_nz15 : nzB Try.prog 15 = true := by kernel_rfl
@[go_sem] theorem fact_ag15 : aggO Try.prog 15 = some false := by kernel_rfl
@[go_sem] theorem fact_noint15 : intB Try.prog 15 = none := by kernel_rfl
@[go_sem] theorem fact_noelem15 : elemB Try.prog 15 = none := by kernel_rfl
@[go_sem] theorem fact_el15 : elI Try.prog 15 = some (1, 8) := by kernel_rfl
@[go_sem] theorem fact_zero15 : zeroOf Try.prog 15 = some (.lit (.pointer none)) := by kernel_rfl
@[go_sem] theorem fact_sz16 : szB Try.prog 16 = some 1 := by kernel_rfl
@[go_sem] theorem fact_nz16 : nzB Try.prog 16 = true := by kernel_rfl
@[go_sem] theorem fact_ag16 : aggO Try.prog 16 = some false := by kernel_rfl
@[go_sem] theorem fact_noint16 : intB Try.prog 16 = none := by kernel_rfl
@[go_sem] theorem fact_noelem16 : elemB Try.prog 16 = none := by kernel_rfl
@[go_sem] theorem fact_el16 : elI Try.prog 16 = some (1, 8) := by kernel_rfl
@[go_sem] theorem fact_zero16 : zeroOf Try.prog 16 = some (.lit (.pointer none)) := by kernel_rfl
@[go_sem] theorem fact_sz17 : szB Try.prog 17 = some 1 := by kernel_rfl
@[go_sem] theorem fact_nz17 : nzB Try.prog 17 = true := by kernel_rfl
@[go_sem] theorem fact_ag17 : aggO Try.prog 17 = some false := by kernel_rfl
@[go_sem] theorem fact_noint17 : intB Try.prog 17 = none := by kernel_rfl
@[go_sem] theorem fact_noelem17 : elemB Try.prog 17 = none := by kernel_rfl
@[go_sem] theorem fact_el17 : elI Try.prog 17 = some (1, 8) := by kernel_rfl
@[go_sem] theorem fact_zero17 : zeroOf Try.prog 17 = some (.lit (.pointer none)) := by kernel_rfl
@[go_sem] theorem fact_sz18 : szB Try.prog 18 = some 1 := by kernel_rfl
@[go_sem] theorem fact_nz18 : nzB Try.prog 18 = true := by kernel_rfl
@[go_sem] theorem fact_ag18 : aggO Try.prog 18 = some true := by kernel_rfl
@[go_sem] theorem fact_noint18 : intB Try.prog 18 = none := by kernel_rfl
@[go_sem] theorem fact_noelem18 : elemB Try.prog 18 = none := by kernel_rfl
@[go_sem] theorem fact_noarr18 : arrB Try.prog 18 = none := by kernel_rfl
@[go_sem] theorem fact_fld18_0 : fldB Try.prog 18 0 = some (0, 17) := by kernel_rfl
@[go_sem] theorem fact_pl18 : plB Try.prog 18 = some [(0, 1)] := by kernel_rfl
@[go_sem] theorem fact_flds18 : fldsB Try.prog 18 = some [(0, 17)] := by kernel_rfl
@[go_sem] theorem fact_sz19 : szB Try.prog 19 = some 1 := by kernel_rfl
@[go_sem] theorem fact_nz19 : nzB Try.prog 19 = true := by kernel_rfl
@[go_sem] theorem fact_ag19 : aggO Try.prog 19 = some true := by kernel_rfl
@[go_sem] theorem fact_noint19 : intB Try.prog 19 = none := by kernel_rfl
@[go_sem] theorem fact_noelem19 : elemB Try.prog 19 = none := by kernel_rfl
@[go_sem] theorem fact_noarr19 : arrB Try.prog 19 = none := by kernel_rfl
@[go_sem] theorem fact_fld19_0 : fldB Try.prog 19 0 = some (0, 17) := by kernel_rfl
@[go_sem] theorem fact_pl19 : plB Try.prog 19 = some [(0, 1)] := by kernel_rfl
@[go_sem] theorem fact_flds19 : fldsB Try.prog 19 = some [(0, 17)] := by kernel_rfl
@[go_sem] theorem fact_sz21 : szB Try.prog 21 = some 1 := by kernel_rfl
@[go_sem] theorem fact_nz21 : nzB Try.prog 21 = true := by kernel_rfl
@[go_sem] theorem fact_ag21 : aggO Try.prog 21 = some false := by kernel_rfl
@[go_sem] theorem fact_int21 : intB Try.prog 21 = some .i32 := by kernel_rfl
@[go_sem] theorem fact_noelem21 : elemB Try.prog 21 = none := by kernel_rfl
@[go_sem] theorem fact_el21 : elI Try.prog 21 = some (1, 4) := by kernel_rfl
@[go_sem] theorem fact_zero21 : zeroOf Try.prog 21 = some (.lit (.int .i32 0)) := by kernel_rfl
@[go_sem] theorem fact_sz22 : szB Try.prog 22 = some 1 := by kernel_rfl
@[go_sem] theorem fact_nz22 : nzB Try.prog 22 = true := by kernel_rfl
@[go_sem] theorem fact_ag22 : aggO Try.prog 22 = some false := by kernel_rfl
@[go_sem] theorem fact_noint22 : intB Try.prog 22 = none := by kernel_rfl
@[go_sem] theorem fact_elem22 : elemB Try.prog 22 = some 5 := by kernel_rfl
@[go_sem] theorem fact_el22 : elI Try.prog 22 = some (1, 24) := by kernel_rfl
@[go_sem] theorem fact_zero22 : zeroOf Try.prog 22 = some (.lit (.slice none 0 0)) := by kernel_rfl
@[go_sem] theorem fact_sz23 : szB Try.prog 23 = some 2 := by kernel_rfl
@[go_sem] theorem fact_nz23 : nzB Try.prog 23 = true := by kernel_rfl
@[go_sem] theorem fact_ag23 : aggO Try.prog 23 = some true := by kernel_rfl
@[go_sem] theorem fact_noint23 : intB Try.prog 23 = none := by kernel_rfl
@[go_sem] theorem fact_noelem23 : elemB Try.prog 23 = none := by kernel_rfl
@[go_sem] theorem fact_noarr23 : arrB Try.prog 23 = none := by kernel_rfl
@[go_sem] theorem fact_fld23_0 : fldB Try.prog 23 0 = some (0, 22) := by kernel_rfl
@[go_sem] theorem fact_fld23_1 : fldB Try.prog 23 1 = some (1, 22) := by kernel_rfl
@[go_sem] theorem fact_pl23 : plB Try.prog 23 = some [(0, 1), (1, 1)] := by kernel_rfl
@[go_sem] theorem fact_flds23 : fldsB Try.prog 23 = some [(0, 22), (1, 22)] := by kernel_rfl
@[go_sem] theorem fact_held23 : Try.prog.stoodInHeld 23 = false := by kernel_rfl
@[go_sem] theorem fact_guard23 : Try.prog.eqGuardType Try.prog.depth 23 = false := by kernel_rfl
@[go_sem] theorem fact_el23 : elI Try.prog 23 = some (2, 48) := by kernel_rfl
@[go_sem] theorem fact_zero23 : zeroOf Try.prog 23 = some (.agg [.lit (.slice none 0 0), .lit (.slice none 0 0)]) := by kernel_rfl
@[go_sem] theorem fact_sz24 : szB Try.prog 24 = some 2 := by kernel_rfl
@[go_sem] theorem fact_nz24 : nzB Try.prog 24 = true := by kernel_rfl
@[go_sem] theorem fact_ag24 : aggO Try.prog 24 = some true := by kernel_rfl
@[go_sem] theorem fact_noint24 : intB Try.prog 24 = none := by kernel_rfl
@[go_sem] theorem fact_noelem24 : elemB Try.prog 24 = none := by kernel_rfl
@[go_sem] theorem fact_noarr24 : arrB Try.prog 24 = none := by kernel_rfl
@[go_sem] theorem fact_fld24_0 : fldB Try.prog 24 0 = some (0, 22) := by kernel_rfl
@[go_sem] theorem fact_fld24_1 : fldB Try.prog 24 1 = some (1, 22) := by kernel_rfl
@[go_sem] theorem fact_pl24 : plB Try.prog 24 = some [(0, 1), (1, 1)] := by kernel_rfl
@[go_sem] theorem fact_flds24 : fldsB Try.prog 24 = some [(0, 22), (1, 22)] := by kernel_rfl
@[go_sem] theorem fact_held24 : Try.prog.stoodInHeld 24 = false := by kernel_rfl
@[go_sem] theorem fact_guard24 : Try.prog.eqGuardType Try.prog.depth 24 = false := by kernel_rfl
@[go_sem] theorem fact_el24 : elI Try.prog 24 = some (2, 48) := by kernel_rfl
@[go_sem] theorem fact_zero24 : zeroOf Try.prog 24 = some (.agg [.lit (.slice none 0 0), .lit (.slice none 0 0)]) := by kernel_rfl
@[go_sem] theorem fact_sz25 : szB Try.prog 25 = some 1 := by kernel_rfl
@[go_sem] theorem fact_nz25 : nzB Try.prog 25 = true := by kernel_rfl
@[go_sem] theorem fact_ag25 : aggO Try.prog 25 = some false := by kernel_rfl
@[go_sem] theorem fact_noint25 : intB Try.prog 25 = none := by kernel_rfl
@[go_sem] theorem fact_noelem25 : elemB Try.prog 25 = none := by kernel_rfl
@[go_sem] theorem fact_sz26 : szB Try.prog 26 = some 1 := by kernel_rfl
@[go_sem] theorem fact_nz26 : nzB Try.prog 26 = true := by kernel_rfl
@[go_sem] theorem fact_ag26 : aggO Try.prog 26 = some false := by kernel_rfl
@[go_sem] theorem fact_noint26 : intB Try.prog 26 = none := by kernel_rfl
@[go_sem] theorem fact_noelem26 : elemB Try.prog 26 = none := by kernel_rfl
@[go_sem] theorem fact_sz27 : szB Try.prog 27 = some 1 := by kernel_rfl
@[go_sem] theorem fact_nz27 : nzB Try.prog 27 = true := by kernel_rfl
@[go_sem] theorem fact_ag27 : aggO Try.prog 27 = some false := by kernel_rfl
@[go_sem] theorem fact_noint27 : intB Try.prog 27 = none := by kernel_rfl
@[go_sem] theorem fact_elem27 : elemB Try.prog 27 = some 28 := by kernel_rfl
@[go_sem] theorem fact_el27 : elI Try.prog 27 = some (1, 24) := by kernel_rfl
@[go_sem] theorem fact_zero27 : zeroOf Try.prog 27 = some (.lit (.slice none 0 0)) := by kernel_rfl
@[go_sem] theorem fact_sz28 : szB Try.prog 28 = some 1 := by kernel_rfl
@[go_sem] theorem fact_nz28 : nzB Try.prog 28 = true := by kernel_rfl
@[go_sem] theorem fact_ag28 : aggO Try.prog 28 = some false := by kernel_rfl
@[go_sem] theorem fact_int28 : intB Try.prog 28 = some .u16 := by kernel_rfl
@[go_sem] theorem fact_noelem28 : elemB Try.prog 28 = none := by kernel_rfl
@[go_sem] theorem fact_el28 : elI Try.prog 28 = some (1, 2) := by kernel_rfl
@[go_sem] theorem fact_zero28 : zeroOf Try.prog 28 = some (.lit (.int .u16 0)) := by kernel_rfl
@[go_sem] theorem fact_sz29 : szB Try.prog 29 = some 1 := by kernel_rfl
@[go_sem] theorem fact_nz29 : nzB Try.prog 29 = true := by kernel_rfl
@[go_sem] theorem fact_ag29 : aggO Try.prog 29 = some false := by kernel_rfl
@[go_sem] theorem fact_int29 : intB Try.prog 29 = some .u64 := by kernel_rfl
@[go_sem] theorem fact_noelem29 : elemB Try.prog 29 = none := by kernel_rfl
@[go_sem] theorem fact_el29 : elI Try.prog 29 = some (1, 8) := by kernel_rfl
@[go_sem] theorem fact_zero29 : zeroOf Try.prog 29 = some (.lit (.int .u64 0)) := by kernel_rfl
@[go_sem] theorem fact_sz30 : szB Try.prog 30 = some 1 := by kernel_rfl
@[go_sem] theorem fact_nz30 : nzB Try.prog 30 = true := by kernel_rfl
@[go_sem] theorem fact_ag30 : aggO Try.prog 30 = some false := by kernel_rfl
@[go_sem] theorem fact_noint30 : intB Try.prog 30 = none := by kernel_rfl
@[go_sem] theorem fact_noelem30 : elemB Try.prog 30 = none := by kernel_rfl
@[go_sem] theorem fact_sz31 : szB Try.prog 31 = some 1 := by kernel_rfl
@[go_sem] theorem fact_nz31 : nzB Try.prog 31 = true := by kernel_rfl
@[go_sem] theorem fact_ag31 : aggO Try.prog 31 = some false := by kernel_rfl
@[go_sem] theorem fact_noint31 : intB Try.prog 31 = none := by kernel_rfl
@[go_sem] theorem fact_noelem31 : elemB Try.prog 31 = none := by kernel_rfl
@[go_sem] theorem fact_sz32 : szB Try.prog 32 = some 1 := by kernel_rfl
@[go_sem] theorem fact_nz32 : nzB Try.prog 32 = true := by kernel_rfl
@[go_sem] theorem fact_ag32 : aggO Try.prog 32 = some false := by kernel_rfl
@[go_sem] theorem fact_noint32 : intB Try.prog 32 = none := by kernel_rfl
@[go_sem] theorem fact_elem32 : elemB Try.prog 32 = some 22 := by kernel_rfl
@[go_sem] theorem fact_el32 : elI Try.prog 32 = some (1, 24) := by kernel_rfl
@[go_sem] theorem fact_zero32 : zeroOf Try.prog 32 = some (.lit (.slice none 0 0)) := by kernel_rfl
@[go_sem] theorem fact_sz34 : szB Try.prog 34 = some 1 := by kernel_rfl
@[go_sem] theorem fact_nz34 : nzB Try.prog 34 = true := by kernel_rfl
@[go_sem] theorem fact_ag34 : aggO Try.prog 34 = some false := by kernel_rfl
@[go_sem] theorem fact_noint34 : intB Try.prog 34 = none := by kernel_rfl
@[go_sem] theorem fact_noelem34 : elemB Try.prog 34 = none := by kernel_rfl
@[go_sem] theorem fact_sz35 : szB Try.prog 35 = some 1 := by kernel_rfl
@[go_sem] theorem fact_nz35 : nzB Try.prog 35 = true := by kernel_rfl
@[go_sem] theorem fact_ag35 : aggO Try.prog 35 = some false := by kernel_rfl
@[go_sem] theorem fact_int35 : intB Try.prog 35 = some .i64 := by kernel_rfl
@[go_sem] theorem fact_noelem35 : elemB Try.prog 35 = none := by kernel_rfl
@[go_sem] theorem fact_el35 : elI Try.prog 35 = some (1, 8) := by kernel_rfl
@[go_sem] theorem fact_zero35 : zeroOf Try.prog 35 = some (.lit (.int .i64 0)) := by kernel_rfl
@[go_sem] theorem fact_sz37 : szB Try.prog 37 = some 1 := by kernel_rfl
@[go_sem] theorem fact_nz37 : nzB Try.prog 37 = true := by kernel_rfl
@[go_sem] theorem fact_ag37 : aggO Try.prog 37 = some false := by kernel_rfl
@[go_sem] theorem fact_noint37 : intB Try.prog 37 = none := by kernel_rfl
@[go_sem] theorem fact_noelem37 : elemB Try.prog 37 = none := by kernel_rfl
@[go_sem] theorem fact_sz38 : szB Try.prog 38 = some 1 := by kernel_rfl
@[go_sem] theorem fact_nz38 : nzB Try.prog 38 = true := by kernel_rfl
@[go_sem] theorem fact_ag38 : aggO Try.prog 38 = some false := by kernel_rfl
@[go_sem] theorem fact_noint38 : intB Try.prog 38 = none := by kernel_rfl
@[go_sem] theorem fact_noelem38 : elemB Try.prog 38 = none := by kernel_rfl
@[go_sem] theorem fact_sz40 : szB Try.prog 40 = some 1 := by kernel_rfl
@[go_sem] theorem fact_nz40 : nzB Try.prog 40 = true := by kernel_rfl
@[go_sem] theorem fact_ag40 : aggO Try.prog 40 = some false := by kernel_rfl
@[go_sem] theorem fact_noint40 : intB Try.prog 40 = none := by kernel_rfl
@[go_sem] theorem fact_noelem40 : elemB Try.prog 40 = none := by kernel_rfl
@[go_sem] theorem fact_sz41 : szB Try.prog 41 = some 1 := by kernel_rfl
@[go_sem] theorem fact_nz41 : nzB Try.prog 41 = true := by kernel_rfl
@[go_sem] theorem fact_ag41 : aggO Try.prog 41 = some false := by kernel_rfl
@[go_sem] theorem fact_noint41 : intB Try.prog 41 = none := by kernel_rfl
@[go_sem] theorem fact_noelem41 : elemB Try.prog 41 = none := by kernel_rfl
@[go_sem] theorem fact_sz43 : szB Try.prog 43 = some 1 := by kernel_rfl
@[go_sem] theorem fact_nz43 : nzB Try.prog 43 = true := by kernel_rfl
@[go_sem] theorem fact_ag43 : aggO Try.prog 43 = some false := by kernel_rfl
@[go_sem] theorem fact_noint43 : intB Try.prog 43 = none := by kernel_rfl
@[go_sem] theorem fact_noelem43 : elemB Try.prog 43 = none := by kernel_rfl
@[go_sem] theorem fact_sz44 : szB Try.prog 44 = some 1 := by kernel_rfl
@[go_sem] theorem fact_nz44 : nzB Try.prog 44 = true := by kernel_rfl
@[go_sem] theorem fact_ag44 : aggO Try.prog 44 = some false := by kernel_rfl
@[go_sem] theorem fact_noint44 : intB Try.prog 44 = none := by kernel_rfl
@[go_sem] theorem fact_noelem44 : elemB Try.prog 44 = none := by kernel_rfl
@[go_sem] theorem fact_sz45 : szB Try.prog 45 = some 1 := by kernel_rfl
@[go_sem] theorem fact_nz45 : nzB Try.prog 45 = true := by kernel_rfl
@[go_sem] theorem fact_ag45 : aggO Try.prog 45 = some false := by kernel_rfl
@[go_sem] theorem fact_noint45 : intB Try.prog 45 = none := by kernel_rfl
@[go_sem] theorem fact_noelem45 : elemB Try.prog 45 = none := by kernel_rfl
@[go_sem] theorem fact_sz46 : szB Try.prog 46 = some 1 := by kernel_rfl
@[go_sem] theorem fact_nz46 : nzB Try.prog 46 = true := by kernel_rfl
@[go_sem] theorem fact_ag46 : aggO Try.prog 46 = some false := by kernel_rfl
@[go_sem] theorem fact_noint46 : intB Try.prog 46 = none := by kernel_rfl
@[go_sem] theorem fact_noelem46 : elemB Try.prog 46 = none := by kernel_rfl
@[go_sem] theorem fact_sz47 : szB Try.prog 47 = some 1 := by kernel_rfl
@[go_sem] theorem fact_nz47 : nzB Try.prog 47 = true := by kernel_rfl
@[go_sem] theorem fact_ag47 : aggO Try.prog 47 = some false := by kernel_rfl
@[go_sem] theorem fact_noint47 : intB Try.prog 47 = none := by kernel_rfl
@[go_sem] theorem fact_noelem47 : elemB Try.prog 47 = none := by kernel_rfl
@[go_sem] theorem fact_sz48 : szB Try.prog 48 = some 1 := by kernel_rfl
@[go_sem] theorem fact_nz48 : nzB Try.prog 48 = true := by kernel_rfl
@[go_sem] theorem fact_ag48 : aggO Try.prog 48 = some false := by kernel_rfl
@[go_sem] theorem fact_noint48 : intB Try.prog 48 = none := by kernel_rfl
@[go_sem] theorem fact_noelem48 : elemB Try.prog 48 = none := by kernel_rfl
@[go_sem] theorem fact_sz49 : szB Try.prog 49 = some 1 := by kernel_rfl
@[go_sem] theorem fact_nz49 : nzB Try.prog 49 = true := by kernel_rfl
@[go_sem] theorem fact_ag49 : aggO Try.prog 49 = some false := by kernel_rfl
@[go_sem] theorem fact_noint49 : intB Try.prog 49 = none := by kernel_rfl
@[go_sem] theorem fact_noelem49 : elemB Try.prog 49 = none := by kernel_rfl
@[go_sem] theorem fact_sz50 : szB Try.prog 50 = some 1 := by kernel_rfl
@[go_sem] theorem fact_nz50 : nzB Try.prog 50 = true := by kernel_rfl
@[go_sem] theorem fact_ag50 : aggO Try.prog 50 = some false := by kernel_rfl
@[go_sem] theorem fact_int50 : intB Try.prog 50 = some .u64 := by kernel_rfl
@[go_sem] theorem fact_noelem50 : elemB Try.prog 50 = none := by kernel_rfl
@[go_sem] theorem fact_el50 : elI Try.prog 50 = some (1, 8) := by kernel_rfl
@[go_sem] theorem fact_zero50 : zeroOf Try.prog 50 = some (.lit (.int .u64 0)) := by kernel_rfl
@[go_sem] theorem fact_sz51 : szB Try.prog 51 = some 1 := by kernel_rfl
@[go_sem] theorem fact_nz51 : nzB Try.prog 51 = true := by kernel_rfl
@[go_sem] theorem fact_ag51 : aggO Try.prog 51 = some false := by kernel_rfl
@[go_sem] theorem fact_noint51 : intB Try.prog 51 = none := by kernel_rfl
@[go_sem] theorem fact_noelem51 : elemB Try.prog 51 = none := by kernel_rfl
@[go_sem] theorem fact_sz53 : szB Try.prog 53 = some 1 := by kernel_rfl
@[go_sem] theorem fact_nz53 : nzB Try.prog 53 = true := by kernel_rfl
@[go_sem] theorem fact_ag53 : aggO Try.prog 53 = some false := by kernel_rfl
@[go_sem] theorem fact_noint53 : intB Try.prog 53 = none := by kernel_rfl
@[go_sem] theorem fact_noelem53 : elemB Try.prog 53 = none := by kernel_rfl
@[go_sem] theorem fact_sz54 : szB Try.prog 54 = some 1 := by kernel_rfl
@[go_sem] theorem fact_nz54 : nzB Try.prog 54 = true := by kernel_rfl
@[go_sem] theorem fact_ag54 : aggO Try.prog 54 = some false := by kernel_rfl
@[go_sem] theorem fact_noint54 : intB Try.prog 54 = none := by kernel_rfl
@[go_sem] theorem fact_noelem54 : elemB Try.prog 54 = none := by kernel_rfl
@[go_sem] theorem fact_sz55 : szB Try.prog 55 = some 1 := by kernel_rfl
@[go_sem] theorem fact_nz55 : nzB Try.prog 55 = true := by kernel_rfl
@[go_sem] theorem fact_ag55 : aggO Try.prog 55 = some false := by kernel_rfl
@[go_sem] theorem fact_noint55 : intB Try.prog 55 = none := by kernel_rfl
@[go_sem] theorem fact_noelem55 : elemB Try.prog 55 = none := by kernel_rfl
@[go_sem] theorem fact_sz56 : szB Try.prog 56 = some 1 := by kernel_rfl
@[go_sem] theorem fact_nz56 : nzB Try.prog 56 = true := by kernel_rfl
@[go_sem] theorem fact_ag56 : aggO Try.prog 56 = some false := by kernel_rfl
@[go_sem] theorem fact_noint56 : intB Try.prog 56 = none := by kernel_rfl
@[go_sem] theorem fact_noelem56 : elemB Try.prog 56 = none := by kernel_rfl
@[go_sem] theorem fact_sz57 : szB Try.prog 57 = some 4 := by kernel_rfl
@[go_sem] theorem fact_nz57 : nzB Try.prog 57 = true := by kernel_rfl
@[go_sem] theorem fact_ag57 : aggO Try.prog 57 = some true := by kernel_rfl
@[go_sem] theorem fact_noint57 : intB Try.prog 57 = none := by kernel_rfl
@[go_sem] theorem fact_noelem57 : elemB Try.prog 57 = none := by kernel_rfl
@[go_sem] theorem fact_noarr57 : arrB Try.prog 57 = none := by kernel_rfl
@[go_sem] theorem fact_fld57_0 : fldB Try.prog 57 0 = some (0, 17) := by kernel_rfl
@[go_sem] theorem fact_fld57_1 : fldB Try.prog 57 1 = some (1, 17) := by kernel_rfl
@[go_sem] theorem fact_fld57_2 : fldB Try.prog 57 2 = some (2, 17) := by kernel_rfl
@[go_sem] theorem fact_fld57_3 : fldB Try.prog 57 3 = some (3, 9) := by kernel_rfl
@[go_sem] theorem fact_pl57 : plB Try.prog 57 = some [(0, 1), (1, 1), (2, 1), (3, 1)] := by kernel_rfl
@[go_sem] theorem fact_flds57 : fldsB Try.prog 57 = some [(0, 17), (1, 17), (2, 17), (3, 9)] := by kernel_rfl
@[go_sem] theorem fact_sz58 : szB Try.prog 58 = some 4 := by kernel_rfl
@[go_sem] theorem fact_nz58 : nzB Try.prog 58 = true := by kernel_rfl
@[go_sem] theorem fact_ag58 : aggO Try.prog 58 = some true := by kernel_rfl
@[go_sem] theorem fact_noint58 : intB Try.prog 58 = none := by kernel_rfl
@[go_sem] theorem fact_noelem58 : elemB Try.prog 58 = none := by kernel_rfl
@[go_sem] theorem fact_noarr58 : arrB Try.prog 58 = none := by kernel_rfl
@[go_sem] theorem fact_fld58_0 : fldB Try.prog 58 0 = some (0, 17) := by kernel_rfl
@[go_sem] theorem fact_fld58_1 : fldB Try.prog 58 1 = some (1, 17) := by kernel_rfl
@[go_sem] theorem fact_fld58_2 : fldB Try.prog 58 2 = some (2, 17) := by kernel_rfl
@[go_sem] theorem fact_fld58_3 : fldB Try.prog 58 3 = some (3, 9) := by kernel_rfl
@[go_sem] theorem fact_pl58 : plB Try.prog 58 = some [(0, 1), (1, 1), (2, 1), (3, 1)] := by kernel_rfl
@[go_sem] theorem fact_flds58 : fldsB Try.prog 58 = some [(0, 17), (1, 17), (2, 17), (3, 9)] := by kernel_rfl
@[go_sem] theorem fact_sz62 : szB Try.prog 62 = some 1 := by kernel_rfl
@[go_sem] theorem fact_nz62 : nzB Try.prog 62 = true := by kernel_rfl
@[go_sem] theorem fact_ag62 : aggO Try.prog 62 = some false := by kernel_rfl
@[go_sem] theorem fact_noint62 : intB Try.prog 62 = none := by kernel_rfl
@[go_sem] theorem fact_noelem62 : elemB Try.prog 62 = none := by kernel_rfl
@[go_sem] theorem fact_sz63 : szB Try.prog 63 = some 1 := by kernel_rfl
@[go_sem] theorem fact_nz63 : nzB Try.prog 63 = true := by kernel_rfl
@[go_sem] theorem fact_ag63 : aggO Try.prog 63 = some false := by kernel_rfl
@[go_sem] theorem fact_int63 : intB Try.prog 63 = some .u32 := by kernel_rfl
@[go_sem] theorem fact_noelem63 : elemB Try.prog 63 = none := by kernel_rfl
@[go_sem] theorem fact_el63 : elI Try.prog 63 = some (1, 4) := by kernel_rfl
@[go_sem] theorem fact_zero63 : zeroOf Try.prog 63 = some (.lit (.int .u32 0)) := by kernel_rfl
@[go_sem] theorem fact_sz64 : szB Try.prog 64 = some 1 := by kernel_rfl
@[go_sem] theorem fact_nz64 : nzB Try.prog 64 = true := by kernel_rfl
@[go_sem] theorem fact_ag64 : aggO Try.prog 64 = some false := by kernel_rfl
@[go_sem] theorem fact_int64 : intB Try.prog 64 = some .u8 := by kernel_rfl
@[go_sem] theorem fact_noelem64 : elemB Try.prog 64 = none := by kernel_rfl
@[go_sem] theorem fact_el64 : elI Try.prog 64 = some (1, 1) := by kernel_rfl
@[go_sem] theorem fact_zero64 : zeroOf Try.prog 64 = some (.lit (.int .u8 0)) := by kernel_rfl
@[go_sem] theorem fact_sz65 : szB Try.prog 65 = some 1 := by kernel_rfl
@[go_sem] theorem fact_nz65 : nzB Try.prog 65 = true := by kernel_rfl
@[go_sem] theorem fact_ag65 : aggO Try.prog 65 = some false := by kernel_rfl
@[go_sem] theorem fact_int65 : intB Try.prog 65 = some .u8 := by kernel_rfl
@[go_sem] theorem fact_noelem65 : elemB Try.prog 65 = none := by kernel_rfl
@[go_sem] theorem fact_el65 : elI Try.prog 65 = some (1, 1) := by kernel_rfl
@[go_sem] theorem fact_zero65 : zeroOf Try.prog 65 = some (.lit (.int .u8 0)) := by kernel_rfl
@[go_sem] theorem fact_sz66 : szB Try.prog 66 = some 1 := by kernel_rfl
@[go_sem] theorem fact_nz66 : nzB Try.prog 66 = true := by kernel_rfl
@[go_sem] theorem fact_ag66 : aggO Try.prog 66 = some false := by kernel_rfl
@[go_sem] theorem fact_noint66 : intB Try.prog 66 = none := by kernel_rfl
@[go_sem] theorem fact_noelem66 : elemB Try.prog 66 = none := by kernel_rfl
@[go_sem] theorem fact_sz67 : szB Try.prog 67 = some 1 := by kernel_rfl
@[go_sem] theorem fact_nz67 : nzB Try.prog 67 = true := by kernel_rfl
@[go_sem] theorem fact_ag67 : aggO Try.prog 67 = some false := by kernel_rfl
@[go_sem] theorem fact_noint67 : intB Try.prog 67 = none := by kernel_rfl
@[go_sem] theorem fact_noelem67 : elemB Try.prog 67 = none := by kernel_rfl
@[go_sem] theorem fact_el67 : elI Try.prog 67 = some (1, 8) := by kernel_rfl
@[go_sem] theorem fact_zero67 : zeroOf Try.prog 67 = some (.lit (.pointer none)) := by kernel_rfl
@[go_sem] theorem fact_sz68 : szB Try.prog 68 = some 1 := by kernel_rfl
@[go_sem] theorem fact_nz68 : nzB Try.prog 68 = true := by kernel_rfl
@[go_sem] theorem fact_ag68 : aggO Try.prog 68 = some false := by kernel_rfl
@[go_sem] theorem fact_int68 : intB Try.prog 68 = some .i32 := by kernel_rfl
@[go_sem] theorem fact_noelem68 : elemB Try.prog 68 = none := by kernel_rfl
@[go_sem] theorem fact_el68 : elI Try.prog 68 = some (1, 4) := by kernel_rfl
@[go_sem] theorem fact_zero68 : zeroOf Try.prog 68 = some (.lit (.int .i32 0)) := by kernel_rfl
@[go_sem] theorem fact_sz69 : szB Try.prog 69 = some 1 := by kernel_rfl
@[go_sem] theorem fact_nz69 : nzB Try.prog 69 = true := by kernel_rfl
@[go_sem] theorem fact_ag69 : aggO Try.prog 69 = some false := by kernel_rfl
@[go_sem] theorem fact_int69 : intB Try.prog 69 = some .i32 := by kernel_rfl
@[go_sem] theorem fact_noelem69 : elemB Try.prog 69 = none := by kernel_rfl
@[go_sem] theorem fact_el69 : elI Try.prog 69 = some (1, 4) := by kernel_rfl
@[go_sem] theorem fact_zero69 : zeroOf Try.prog 69 = some (.lit (.int .i32 0)) := by kernel_rfl
@[go_sem] theorem fact_sz70 : szB Try.prog 70 = some 11 := by kernel_rfl
@[go_sem] theorem fact_nz70 : nzB Try.prog 70 = true := by kernel_rfl
@[go_sem] theorem fact_ag70 : aggO Try.prog 70 = some true := by kernel_rfl
@[go_sem] theorem fact_noint70 : intB Try.prog 70 = none := by kernel_rfl
@[go_sem] theorem fact_noelem70 : elemB Try.prog 70 = none := by kernel_rfl
@[go_sem] theorem fact_noarr70 : arrB Try.prog 70 = none := by kernel_rfl
@[go_sem] theorem fact_fld70_0 : fldB Try.prog 70 0 = some (0, 12) := by kernel_rfl
@[go_sem] theorem fact_fld70_1 : fldB Try.prog 70 1 = some (1, 12) := by kernel_rfl
@[go_sem] theorem fact_fld70_2 : fldB Try.prog 70 2 = some (2, 63) := by kernel_rfl
@[go_sem] theorem fact_fld70_3 : fldB Try.prog 70 3 = some (3, 64) := by kernel_rfl
@[go_sem] theorem fact_fld70_4 : fldB Try.prog 70 4 = some (4, 5) := by kernel_rfl
@[go_sem] theorem fact_fld70_5 : fldB Try.prog 70 5 = some (5, 5) := by kernel_rfl
@[go_sem] theorem fact_fld70_6 : fldB Try.prog 70 6 = some (6, 65) := by kernel_rfl
@[go_sem] theorem fact_fld70_7 : fldB Try.prog 70 7 = some (7, 66) := by kernel_rfl
@[go_sem] theorem fact_fld70_8 : fldB Try.prog 70 8 = some (8, 67) := by kernel_rfl
@[go_sem] theorem fact_fld70_9 : fldB Try.prog 70 9 = some (9, 68) := by kernel_rfl
@[go_sem] theorem fact_fld70_10 : fldB Try.prog 70 10 = some (10, 69) := by kernel_rfl
@[go_sem] theorem fact_pl70 : plB Try.prog 70 = some [(0, 1), (1, 1), (2, 1), (3, 1), (4, 1), (5, 1), (6, 1), (7, 1), (8, 1), (9, 1), (10, 1)] := by kernel_rfl
@[go_sem] theorem fact_flds70 : fldsB Try.prog 70 = some [(0, 12), (1, 12), (2, 63), (3, 64), (4, 5), (5, 5), (6, 65), (7, 66), (8, 67), (9, 68), (10, 69)] := by kernel_rfl
@[go_sem] theorem fact_sz71 : szB Try.prog 71 = some 11 := by kernel_rfl
@[go_sem] theorem fact_nz71 : nzB Try.prog 71 = true := by kernel_rfl
@[go_sem] theorem fact_ag71 : aggO Try.prog 71 = some true := by kernel_rfl
@[go_sem] theorem fact_noint71 : intB Try.prog 71 = none := by kernel_rfl
@[go_sem] theorem fact_noelem71 : elemB Try.prog 71 = none := by kernel_rfl
@[go_sem] theorem fact_noarr71 : arrB Try.prog 71 = none := by kernel_rfl
@[go_sem] theorem fact_fld71_0 : fldB Try.prog 71 0 = some (0, 12) := by kernel_rfl
@[go_sem] theorem fact_fld71_1 : fldB Try.prog 71 1 = some (1, 12) := by kernel_rfl
@[go_sem] theorem fact_fld71_2 : fldB Try.prog 71 2 = some (2, 63) := by kernel_rfl
@[go_sem] theorem fact_fld71_3 : fldB Try.prog 71 3 = some (3, 64) := by kernel_rfl
@[go_sem] theorem fact_fld71_4 : fldB Try.prog 71 4 = some (4, 5) := by kernel_rfl
@[go_sem] theorem fact_fld71_5 : fldB Try.prog 71 5 = some (5, 5) := by kernel_rfl
@[go_sem] theorem fact_fld71_6 : fldB Try.prog 71 6 = some (6, 65) := by kernel_rfl
@[go_sem] theorem fact_fld71_7 : fldB Try.prog 71 7 = some (7, 66) := by kernel_rfl
@[go_sem] theorem fact_fld71_8 : fldB Try.prog 71 8 = some (8, 67) := by kernel_rfl
@[go_sem] theorem fact_fld71_9 : fldB Try.prog 71 9 = some (9, 68) := by kernel_rfl
@[go_sem] theorem fact_fld71_10 : fldB Try.prog 71 10 = some (10, 69) := by kernel_rfl
@[go_sem] theorem fact_pl71 : plB Try.prog 71 = some [(0, 1), (1, 1), (2, 1), (3, 1), (4, 1), (5, 1), (6, 1), (7, 1), (8, 1), (9, 1), (10, 1)] := by kernel_rfl
@[go_sem] theorem fact_flds71 : fldsB Try.prog 71 = some [(0, 12), (1, 12), (2, 63), (3, 64), (4, 5), (5, 5), (6, 65), (7, 66), (8, 67), (9, 68), (10, 69)] := by kernel_rfl
@[go_sem] theorem fact_ent3 : entB Try.prog 3 = true := by kernel_rfl
@[go_sem] theorem fact_ent4 : entB Try.prog 4 = true := by kernel_rfl
@[go_sem] theorem fact_ent5 : entB Try.prog 5 = true := by kernel_rfl
@[go_sem] theorem fact_ent6 : entB Try.prog 6 = true := by kernel_rfl
@[go_sem] theorem fact_ent7 : entB Try.prog 7 = true := by kernel_rfl
@[go_sem] theorem fact_ent8 : entB Try.prog 8 = true := by kernel_rfl
@[go_sem] theorem fact_ent9 : entB Try.prog 9 = true := by kernel_rfl
@[go_sem] theorem fact_ent10 : entB Try.prog 10 = true := by kernel_rfl
@[go_sem] theorem fact_ent11 : entB Try.prog 11 = true := by kernel_rfl
@[go_sem] theorem fact_ent12 : entB Try.prog 12 = true := by kernel_rfl
@[go_sem] theorem fact_ent13 : entB Try.prog 13 = true := by kernel_rfl
@[go_sem] theorem fact_ent14 : entB Try.prog 14 = true := by kernel_rfl
@[go_sem] theorem fact_ent15 : entB Try.prog 15 = true := by kernel_rfl
@[go_sem] theorem fact_ent16 : entB Try.prog 16 = true := by kernel_rfl
@[go_sem] theorem fact_ent17 : entB Try.prog 17 = true := by kernel_rfl
@[go_sem] theorem fact_ent18 : entB Try.prog 18 = true := by kernel_rfl
@[go_sem] theorem fact_ent19 : entB Try.prog 19 = true := by kernel_rfl
@[go_sem] theorem fact_ent20 : entB Try.prog 20 = true := by kernel_rfl
@[go_sem] theorem fact_ent21 : entB Try.prog 21 = true := by kernel_rfl
@[go_sem] theorem fact_ent22 : entB Try.prog 22 = true := by kernel_rfl
@[go_sem] theorem fact_ent23 : entB Try.prog 23 = true := by kernel_rfl
@[go_sem] theorem fact_ent24 : entB Try.prog 24 = true := by kernel_rfl
@[go_sem] theorem fact_ent25 : entB Try.prog 25 = true := by kernel_rfl
@[go_sem] theorem fact_ent26 : entB Try.prog 26 = true := by kernel_rfl
@[go_sem] theorem fact_ent27 : entB Try.prog 27 = true := by kernel_rfl
@[go_sem] theorem fact_ent28 : entB Try.prog 28 = true := by kernel_rfl
@[go_sem] theorem fact_ent29 : entB Try.prog 29 = true := by kernel_rfl
@[go_sem] theorem fact_ent30 : entB Try.prog 30 = true := by kernel_rfl
@[go_sem] theorem fact_ent31 : entB Try.prog 31 = true := by kernel_rfl
@[go_sem] theorem fact_ent32 : entB Try.prog 32 = true := by kernel_rfl
@[go_sem] theorem fact_mixed : Try.prog.follows .mixedOrders = true := by kernel_rfl
end Go.Proofs.Ytgncmbjkahpdiaa
