import Derived.Test.YtdjmklobfjigoaaGreatDoorRows
import Derived.Test.YtdjmklobfjigoaaGreatDoorTCvesB8
import Derived.Shelf.RegionOpen
import Derived.RangeFuncBox
import Derived.Shelf.Abstract
import Derived.WalkKit
import Derived.OwnWalkIn
import Derived.TacticsInMore
import Derived.LoopNIn
import Derived.LoopIn
set_option maxRecDepth 100000
set_option maxHeartbeats 16000000
set_option linter.unusedVariables false
set_option linter.unusedSimpArgs false
namespace Go.Proofs.YtdjmklobfjigoaaGreatDoor
open Sy
@[go_sem] theorem fact_zero9:zeroOf Tryz.prog 9=some (.lit (.string ByteArray.empty)):=by kernel_rfl
@[go_sem] theorem fact_zero10:zeroOf Tryz.prog 10=some (.lit (.string ByteArray.empty)):=by kernel_rfl
@[go_sem] theorem fact_zero11:zeroOf Tryz.prog 11=some (.lit (.string ByteArray.empty)):=by kernel_rfl
@[go_sem] theorem fact_zero27:zeroOf Tryz.prog 27=some (.agg [.lit (.string ByteArray.empty),.lit (.int .i64 0),.lit (.int .i64 0)]):=by kernel_rfl
@[go_sem] theorem fact_zero28:zeroOf Tryz.prog 28=some (.agg [.lit (.string ByteArray.empty),.lit (.int .i64 0),.lit (.int .i64 0)]):=by kernel_rfl
@[go_sem] theorem fact_zero37:zeroOf Tryz.prog 37=some (.agg [.lit (.string ByteArray.empty),.lit (.int .i64 0),.lit (.int .i64 0),.lit (.int .i64 0),.lit (.int .i64 0),.lit (.int .i64 0),.lit (.slice none 0 0)]):=by kernel_rfl
@[go_sem] theorem fact_zero38:zeroOf Tryz.prog 38=some (.agg [.lit (.string ByteArray.empty),.lit (.int .i64 0),.lit (.int .i64 0),.lit (.int .i64 0),.lit (.int .i64 0),.lit (.int .i64 0),.lit (.slice none 0 0)]):=by kernel_rfl
@[go_sem] theorem fact_plA63:plA 6 1=[(0,1),(1,1),(2,1),(3,1),(4,1),(5,1)]:=by rfl
@[go_sem] theorem fact_zero89:zeroOf Tryz.prog 89=some (.agg [.lit (.string ByteArray.empty),.lit (.int .i64 0),.lit (.int .i64 0),.lit (.int .i64 0),.lit (.int .i64 0)]):=by kernel_rfl
@[go_sem] theorem fact_zero90:zeroOf Tryz.prog 90=some (.agg [.lit (.string ByteArray.empty),.lit (.int .i64 0),.lit (.int .i64 0),.lit (.int .i64 0),.lit (.int .i64 0)]):=by kernel_rfl
@[go_sem] theorem fact_zero105:zeroOf Tryz.prog 105=some (.agg [.agg [.lit (.slice none 0 0),.lit (.slice none 0 0),.lit (.slice none 0 0),.lit (.slice none 0 0),.lit (.int .i64 0),.lit (.int .i64 0)],.lit (.int .i64 0),.lit (.string ByteArray.empty)]):=by kernel_rfl
@[go_sem] theorem fact_zero106:zeroOf Tryz.prog 106=some (.agg [.agg [.lit (.slice none 0 0),.lit (.slice none 0 0),.lit (.slice none 0 0),.lit (.slice none 0 0),.lit (.int .i64 0),.lit (.int .i64 0)],.lit (.int .i64 0),.lit (.string ByteArray.empty)]):=by kernel_rfl
@[go_sem] theorem fact_plA109:plA 4 1=[(0,1),(1,1),(2,1),(3,1)]:=by rfl
@[go_sem] theorem fact_zero211:zeroOf Tryz.prog 211=some (.agg [.lit (.string ByteArray.empty)]):=by kernel_rfl
@[go_sem] theorem fact_zero212:zeroOf Tryz.prog 212=some (.agg [.lit (.string ByteArray.empty)]):=by kernel_rfl
@[go_sem] theorem fs1:szB Tryz.prog 1=some 1∧nzB Tryz.prog 1=true∧aggO Tryz.prog 1=some false∧intB Tryz.prog 1=none∧elemB Tryz.prog 1=none∧szB Tryz.prog 2=some 1∧nzB Tryz.prog 2=true∧aggO Tryz.prog 2=some false∧intB Tryz.prog 2=some .i64∧elemB Tryz.prog 2=none:=by and_intros<;>kernel_rfl
@[go_sem] theorem fs2:elI Tryz.prog 2=some (1,8)∧zeroOf Tryz.prog 2=some (.lit (.int .i64 0))∧szB Tryz.prog 3=some 1∧nzB Tryz.prog 3=true∧aggO Tryz.prog 3=some false∧intB Tryz.prog 3=some .i64∧elemB Tryz.prog 3=none∧elI Tryz.prog 3=some (1,8)∧zeroOf Tryz.prog 3=some (.lit (.int .i64 0))∧szB Tryz.prog 4=some 1:=by and_intros<;>kernel_rfl
@[go_sem] theorem fs3:nzB Tryz.prog 4=true∧aggO Tryz.prog 4=some false∧intB Tryz.prog 4=none∧boolB Tryz.prog 4=true∧elemB Tryz.prog 4=none∧elI Tryz.prog 4=some (1,1)∧zeroOf Tryz.prog 4=some (.lit (.bool false))∧szB Tryz.prog 5=some 1∧nzB Tryz.prog 5=true∧aggO Tryz.prog 5=some false:=by and_intros<;>kernel_rfl
@[go_sem] theorem fs4:intB Tryz.prog 5=some .u8∧elemB Tryz.prog 5=none∧elI Tryz.prog 5=some (1,1)∧zeroOf Tryz.prog 5=some (.lit (.int .u8 0))∧szB Tryz.prog 6=some 1∧nzB Tryz.prog 6=true∧aggO Tryz.prog 6=some false∧intB Tryz.prog 6=some .u8∧elemB Tryz.prog 6=none∧elI Tryz.prog 6=some (1,1):=by and_intros<;>kernel_rfl
@[go_sem] theorem fs5:zeroOf Tryz.prog 6=some (.lit (.int .u8 0))∧szB Tryz.prog 7=some 4∧nzB Tryz.prog 7=true∧aggO Tryz.prog 7=some true∧intB Tryz.prog 7=none∧elemB Tryz.prog 7=none∧arrB Tryz.prog 7=none∧fldB Tryz.prog 7 0=some (0,2)∧fldB Tryz.prog 7 1=some (1,3)∧fldB Tryz.prog 7 2=some (2,4):=by and_intros<;>kernel_rfl
@[go_sem] theorem fs6:fldB Tryz.prog 7 3=some (3,6)∧plB Tryz.prog 7=some [(0,1),(1,1),(2,1),(3,1)]∧fldsB Tryz.prog 7=some [(0,2),(1,3),(2,4),(3,6)]∧szB Tryz.prog 8=some 4∧nzB Tryz.prog 8=true∧aggO Tryz.prog 8=some true∧intB Tryz.prog 8=none∧elemB Tryz.prog 8=none∧arrB Tryz.prog 8=none∧fldB Tryz.prog 8 0=some (0,2):=by and_intros<;>kernel_rfl
@[go_sem] theorem fs7:fldB Tryz.prog 8 1=some (1,3)∧fldB Tryz.prog 8 2=some (2,4)∧fldB Tryz.prog 8 3=some (3,6)∧plB Tryz.prog 8=some [(0,1),(1,1),(2,1),(3,1)]∧fldsB Tryz.prog 8=some [(0,2),(1,3),(2,4),(3,6)]∧szB Tryz.prog 9=some 1∧nzB Tryz.prog 9=true∧aggO Tryz.prog 9=some false∧intB Tryz.prog 9=none∧strB Tryz.prog 9=true:=by and_intros<;>kernel_rfl
@[go_sem] theorem fs8:elemB Tryz.prog 9=none∧elI Tryz.prog 9=some (1,16)∧szB Tryz.prog 10=some 1∧nzB Tryz.prog 10=true∧aggO Tryz.prog 10=some false∧intB Tryz.prog 10=none∧strB Tryz.prog 10=true∧elemB Tryz.prog 10=none∧elI Tryz.prog 10=some (1,16)∧szB Tryz.prog 11=some 1:=by and_intros<;>kernel_rfl
@[go_sem] theorem fs9:nzB Tryz.prog 11=true∧aggO Tryz.prog 11=some false∧intB Tryz.prog 11=none∧strB Tryz.prog 11=true∧elemB Tryz.prog 11=none∧elI Tryz.prog 11=some (1,16)∧szB Tryz.prog 12=some 1∧nzB Tryz.prog 12=true∧aggO Tryz.prog 12=some false∧intB Tryz.prog 12=some .u64:=by and_intros<;>kernel_rfl
@[go_sem] theorem fs10:elemB Tryz.prog 12=none∧elI Tryz.prog 12=some (1,8)∧zeroOf Tryz.prog 12=some (.lit (.int .u64 0))∧szB Tryz.prog 13=some 2∧nzB Tryz.prog 13=true∧aggO Tryz.prog 13=some true∧intB Tryz.prog 13=none∧elemB Tryz.prog 13=none∧arrB Tryz.prog 13=none∧fldB Tryz.prog 13 0=some (0,9):=by and_intros<;>kernel_rfl
@[go_sem] theorem fs11:fldB Tryz.prog 13 1=some (1,12)∧plB Tryz.prog 13=some [(0,1),(1,1)]∧fldsB Tryz.prog 13=some [(0,9),(1,12)]∧szB Tryz.prog 14=some 2∧nzB Tryz.prog 14=true∧aggO Tryz.prog 14=some true∧intB Tryz.prog 14=none∧elemB Tryz.prog 14=none∧arrB Tryz.prog 14=none∧fldB Tryz.prog 14 0=some (0,9):=by and_intros<;>kernel_rfl
@[go_sem] theorem fs12:fldB Tryz.prog 14 1=some (1,12)∧plB Tryz.prog 14=some [(0,1),(1,1)]∧fldsB Tryz.prog 14=some [(0,9),(1,12)]∧szB Tryz.prog 15=some 1∧nzB Tryz.prog 15=true∧aggO Tryz.prog 15=some false∧intB Tryz.prog 15=none∧elemB Tryz.prog 15=none∧elI Tryz.prog 15=some (1,8)∧zeroOf Tryz.prog 15=some (.lit (.pointer none)):=by and_intros<;>kernel_rfl
@[go_sem] theorem fs13:szB Tryz.prog 16=some 1∧nzB Tryz.prog 16=true∧aggO Tryz.prog 16=some false∧intB Tryz.prog 16=none∧elemB Tryz.prog 16=none∧elI Tryz.prog 16=some (1,8)∧zeroOf Tryz.prog 16=some (.lit (.pointer none))∧szB Tryz.prog 17=some 1∧nzB Tryz.prog 17=true∧aggO Tryz.prog 17=some false:=by and_intros<;>kernel_rfl
@[go_sem] theorem fs14:intB Tryz.prog 17=none∧elemB Tryz.prog 17=none∧elI Tryz.prog 17=some (1,8)∧zeroOf Tryz.prog 17=some (.lit (.pointer none))∧szB Tryz.prog 18=some 1∧nzB Tryz.prog 18=true∧aggO Tryz.prog 18=some true∧intB Tryz.prog 18=none∧elemB Tryz.prog 18=none∧arrB Tryz.prog 18=none:=by and_intros<;>kernel_rfl
@[go_sem] theorem fs15:fldB Tryz.prog 18 0=some (0,17)∧plB Tryz.prog 18=some [(0,1)]∧fldsB Tryz.prog 18=some [(0,17)]∧szB Tryz.prog 19=some 1∧nzB Tryz.prog 19=true∧aggO Tryz.prog 19=some true∧intB Tryz.prog 19=none∧elemB Tryz.prog 19=none∧arrB Tryz.prog 19=none∧fldB Tryz.prog 19 0=some (0,17):=by and_intros<;>kernel_rfl
@[go_sem] theorem fs16:plB Tryz.prog 19=some [(0,1)]∧fldsB Tryz.prog 19=some [(0,17)]∧szB Tryz.prog 21=some 1∧nzB Tryz.prog 21=true∧aggO Tryz.prog 21=some false∧intB Tryz.prog 21=some .i32∧elemB Tryz.prog 21=none∧elI Tryz.prog 21=some (1,4)∧zeroOf Tryz.prog 21=some (.lit (.int .i32 0))∧szB Tryz.prog 22=some 1:=by and_intros<;>kernel_rfl
@[go_sem] theorem fs17:nzB Tryz.prog 22=true∧aggO Tryz.prog 22=some false∧intB Tryz.prog 22=none∧elemB Tryz.prog 22=some 3∧elI Tryz.prog 22=some (1,24)∧zeroOf Tryz.prog 22=some (.lit (.slice none 0 0))∧szB Tryz.prog 23=some 1∧nzB Tryz.prog 23=true∧aggO Tryz.prog 23=some false∧intB Tryz.prog 23=none:=by and_intros<;>kernel_rfl
@[go_sem] theorem fs18:elemB Tryz.prog 23=none∧elI Tryz.prog 23=some (1,8)∧zeroOf Tryz.prog 23=some (.lit (.pointer none))∧szB Tryz.prog 24=some 1∧nzB Tryz.prog 24=true∧aggO Tryz.prog 24=some false∧intB Tryz.prog 24=none∧elemB Tryz.prog 24=none∧szB Tryz.prog 25=some 1∧nzB Tryz.prog 25=true:=by and_intros<;>kernel_rfl
@[go_sem] theorem fs19:aggO Tryz.prog 25=some false∧intB Tryz.prog 25=none∧elemB Tryz.prog 25=none∧szB Tryz.prog 26=some 1∧nzB Tryz.prog 26=true∧aggO Tryz.prog 26=some false∧intB Tryz.prog 26=none∧elemB Tryz.prog 26=some 9∧elI Tryz.prog 26=some (1,24)∧zeroOf Tryz.prog 26=some (.lit (.slice none 0 0)):=by and_intros<;>kernel_rfl
@[go_sem] theorem fs20:szB Tryz.prog 27=some 3∧nzB Tryz.prog 27=true∧aggO Tryz.prog 27=some true∧intB Tryz.prog 27=none∧elemB Tryz.prog 27=none∧arrB Tryz.prog 27=none∧fldB Tryz.prog 27 0=some (0,9)∧fldB Tryz.prog 27 1=some (1,3)∧fldB Tryz.prog 27 2=some (2,3)∧plB Tryz.prog 27=some [(0,1),(1,1),(2,1)]:=by and_intros<;>kernel_rfl
@[go_sem] theorem fs21:fldsB Tryz.prog 27=some [(0,9),(1,3),(2,3)]∧Tryz.prog.stoodInHeld 27=false∧Tryz.prog.eqGuardType Tryz.prog.depth 27=false∧elI Tryz.prog 27=some (3,32)∧szB Tryz.prog 28=some 3∧nzB Tryz.prog 28=true∧aggO Tryz.prog 28=some true∧intB Tryz.prog 28=none∧elemB Tryz.prog 28=none∧arrB Tryz.prog 28=none:=by and_intros<;>kernel_rfl
@[go_sem] theorem fs22:fldB Tryz.prog 28 0=some (0,9)∧fldB Tryz.prog 28 1=some (1,3)∧fldB Tryz.prog 28 2=some (2,3)∧plB Tryz.prog 28=some [(0,1),(1,1),(2,1)]∧fldsB Tryz.prog 28=some [(0,9),(1,3),(2,3)]∧Tryz.prog.stoodInHeld 28=false∧Tryz.prog.eqGuardType Tryz.prog.depth 28=false∧elI Tryz.prog 28=some (3,32)∧szB Tryz.prog 29=some 1∧nzB Tryz.prog 29=true:=by and_intros<;>kernel_rfl
@[go_sem] theorem fs23:aggO Tryz.prog 29=some false∧intB Tryz.prog 29=none∧elemB Tryz.prog 29=some 28∧elI Tryz.prog 29=some (1,24)∧zeroOf Tryz.prog 29=some (.lit (.slice none 0 0))∧szB Tryz.prog 30=some 1∧nzB Tryz.prog 30=true∧aggO Tryz.prog 30=some false∧intB Tryz.prog 30=none∧elemB Tryz.prog 30=some 38:=by and_intros<;>kernel_rfl
@[go_sem] theorem fs24:elI Tryz.prog 30=some (1,24)∧zeroOf Tryz.prog 30=some (.lit (.slice none 0 0))∧szB Tryz.prog 31=some 1∧nzB Tryz.prog 31=true∧aggO Tryz.prog 31=some false∧intB Tryz.prog 31=none∧elemB Tryz.prog 31=some 90∧elI Tryz.prog 31=some (1,24)∧zeroOf Tryz.prog 31=some (.lit (.slice none 0 0))∧szB Tryz.prog 32=some 6:=by and_intros<;>kernel_rfl
@[go_sem] theorem fs25:nzB Tryz.prog 32=true∧aggO Tryz.prog 32=some true∧intB Tryz.prog 32=none∧elemB Tryz.prog 32=none∧arrB Tryz.prog 32=none∧fldB Tryz.prog 32 0=some (0,26)∧fldB Tryz.prog 32 1=some (1,30)∧fldB Tryz.prog 32 2=some (2,29)∧fldB Tryz.prog 32 3=some (3,31)∧fldB Tryz.prog 32 4=some (4,3):=by and_intros<;>kernel_rfl
@[go_sem] theorem fs26:fldB Tryz.prog 32 5=some (5,3)∧plB Tryz.prog 32=some [(0,1),(1,1),(2,1),(3,1),(4,1),(5,1)]∧fldsB Tryz.prog 32=some [(0,26),(1,30),(2,29),(3,31),(4,3),(5,3)]∧Tryz.prog.stoodInHeld 32=false∧Tryz.prog.eqGuardType Tryz.prog.depth 32=false∧elI Tryz.prog 32=some (6,112)∧zeroOf Tryz.prog 32=some (.agg [.lit (.slice none 0 0),.lit (.slice none 0 0),.lit (.slice none 0 0),.lit (.slice none 0 0),.lit (.int .i64 0),.lit (.int .i64 0)])∧szB Tryz.prog 33=some 6∧nzB Tryz.prog 33=true∧aggO Tryz.prog 33=some true:=by and_intros<;>kernel_rfl
@[go_sem] theorem fs27:intB Tryz.prog 33=none∧elemB Tryz.prog 33=none∧arrB Tryz.prog 33=none∧fldB Tryz.prog 33 0=some (0,26)∧fldB Tryz.prog 33 1=some (1,30)∧fldB Tryz.prog 33 2=some (2,29)∧fldB Tryz.prog 33 3=some (3,31)∧fldB Tryz.prog 33 4=some (4,3)∧fldB Tryz.prog 33 5=some (5,3)∧plB Tryz.prog 33=some [(0,1),(1,1),(2,1),(3,1),(4,1),(5,1)]:=by and_intros<;>kernel_rfl
@[go_sem] theorem fs28:fldsB Tryz.prog 33=some [(0,26),(1,30),(2,29),(3,31),(4,3),(5,3)]∧Tryz.prog.stoodInHeld 33=false∧Tryz.prog.eqGuardType Tryz.prog.depth 33=false∧elI Tryz.prog 33=some (6,112)∧zeroOf Tryz.prog 33=some (.agg [.lit (.slice none 0 0),.lit (.slice none 0 0),.lit (.slice none 0 0),.lit (.slice none 0 0),.lit (.int .i64 0),.lit (.int .i64 0)])∧szB Tryz.prog 34=some 3∧nzB Tryz.prog 34=true∧aggO Tryz.prog 34=some true∧intB Tryz.prog 34=none∧elemB Tryz.prog 34=none:=by and_intros<;>kernel_rfl
@[go_sem] theorem fs29:arrB Tryz.prog 34=none∧fldB Tryz.prog 34 0=some (0,3)∧fldB Tryz.prog 34 1=some (1,3)∧fldB Tryz.prog 34 2=some (2,3)∧plB Tryz.prog 34=some [(0,1),(1,1),(2,1)]∧fldsB Tryz.prog 34=some [(0,3),(1,3),(2,3)]∧Tryz.prog.stoodInHeld 34=false∧Tryz.prog.eqGuardType Tryz.prog.depth 34=false∧elI Tryz.prog 34=some (3,24)∧zeroOf Tryz.prog 34=some (.agg [.lit (.int .i64 0),.lit (.int .i64 0),.lit (.int .i64 0)]):=by and_intros<;>kernel_rfl
@[go_sem] theorem fs30:szB Tryz.prog 35=some 3∧nzB Tryz.prog 35=true∧aggO Tryz.prog 35=some true∧intB Tryz.prog 35=none∧elemB Tryz.prog 35=none∧arrB Tryz.prog 35=none∧fldB Tryz.prog 35 0=some (0,3)∧fldB Tryz.prog 35 1=some (1,3)∧fldB Tryz.prog 35 2=some (2,3)∧plB Tryz.prog 35=some [(0,1),(1,1),(2,1)]:=by and_intros<;>kernel_rfl
@[go_sem] theorem fs31:fldsB Tryz.prog 35=some [(0,3),(1,3),(2,3)]∧Tryz.prog.stoodInHeld 35=false∧Tryz.prog.eqGuardType Tryz.prog.depth 35=false∧elI Tryz.prog 35=some (3,24)∧zeroOf Tryz.prog 35=some (.agg [.lit (.int .i64 0),.lit (.int .i64 0),.lit (.int .i64 0)])∧szB Tryz.prog 36=some 1∧nzB Tryz.prog 36=true∧aggO Tryz.prog 36=some false∧intB Tryz.prog 36=none∧elemB Tryz.prog 36=some 35:=by and_intros<;>kernel_rfl
@[go_sem] theorem fs32:elI Tryz.prog 36=some (1,24)∧zeroOf Tryz.prog 36=some (.lit (.slice none 0 0))∧szB Tryz.prog 37=some 7∧nzB Tryz.prog 37=true∧aggO Tryz.prog 37=some true∧intB Tryz.prog 37=none∧elemB Tryz.prog 37=none∧arrB Tryz.prog 37=none∧fldB Tryz.prog 37 0=some (0,9)∧fldB Tryz.prog 37 1=some (1,3):=by and_intros<;>kernel_rfl
@[go_sem] theorem fs33:fldB Tryz.prog 37 2=some (2,3)∧fldB Tryz.prog 37 3=some (3,3)∧fldB Tryz.prog 37 4=some (4,3)∧fldB Tryz.prog 37 5=some (5,3)∧fldB Tryz.prog 37 6=some (6,36)∧plB Tryz.prog 37=some [(0,1),(1,1),(2,1),(3,1),(4,1),(5,1),(6,1)]∧fldsB Tryz.prog 37=some [(0,9),(1,3),(2,3),(3,3),(4,3),(5,3),(6,36)]∧Tryz.prog.stoodInHeld 37=false∧Tryz.prog.eqGuardType Tryz.prog.depth 37=false∧elI Tryz.prog 37=some (7,80):=by and_intros<;>kernel_rfl
@[go_sem] theorem fs34:szB Tryz.prog 38=some 7∧nzB Tryz.prog 38=true∧aggO Tryz.prog 38=some true∧intB Tryz.prog 38=none∧elemB Tryz.prog 38=none∧arrB Tryz.prog 38=none∧fldB Tryz.prog 38 0=some (0,9)∧fldB Tryz.prog 38 1=some (1,3)∧fldB Tryz.prog 38 2=some (2,3)∧fldB Tryz.prog 38 3=some (3,3):=by and_intros<;>kernel_rfl
@[go_sem] theorem fs35:fldB Tryz.prog 38 4=some (4,3)∧fldB Tryz.prog 38 5=some (5,3)∧fldB Tryz.prog 38 6=some (6,36)∧plB Tryz.prog 38=some [(0,1),(1,1),(2,1),(3,1),(4,1),(5,1),(6,1)]∧fldsB Tryz.prog 38=some [(0,9),(1,3),(2,3),(3,3),(4,3),(5,3),(6,36)]∧Tryz.prog.stoodInHeld 38=false∧Tryz.prog.eqGuardType Tryz.prog.depth 38=false∧elI Tryz.prog 38=some (7,80)∧szB Tryz.prog 39=some 2∧nzB Tryz.prog 39=true:=by and_intros<;>kernel_rfl
@[go_sem] theorem fs36:aggO Tryz.prog 39=some true∧intB Tryz.prog 39=none∧elemB Tryz.prog 39=none∧arrB Tryz.prog 39=none∧fldB Tryz.prog 39 0=some (0,3)∧fldB Tryz.prog 39 1=some (1,3)∧plB Tryz.prog 39=some [(0,1),(1,1)]∧fldsB Tryz.prog 39=some [(0,3),(1,3)]∧Tryz.prog.stoodInHeld 39=false∧Tryz.prog.eqGuardType Tryz.prog.depth 39=false:=by and_intros<;>kernel_rfl
@[go_sem] theorem fs37:elI Tryz.prog 39=some (2,16)∧zeroOf Tryz.prog 39=some (.agg [.lit (.int .i64 0),.lit (.int .i64 0)])∧szB Tryz.prog 40=some 2∧nzB Tryz.prog 40=true∧aggO Tryz.prog 40=some true∧intB Tryz.prog 40=none∧elemB Tryz.prog 40=none∧arrB Tryz.prog 40=none∧fldB Tryz.prog 40 0=some (0,3)∧fldB Tryz.prog 40 1=some (1,3):=by and_intros<;>kernel_rfl
@[go_sem] theorem fs38:plB Tryz.prog 40=some [(0,1),(1,1)]∧fldsB Tryz.prog 40=some [(0,3),(1,3)]∧Tryz.prog.stoodInHeld 40=false∧Tryz.prog.eqGuardType Tryz.prog.depth 40=false∧elI Tryz.prog 40=some (2,16)∧zeroOf Tryz.prog 40=some (.agg [.lit (.int .i64 0),.lit (.int .i64 0)])∧szB Tryz.prog 41=some 1∧nzB Tryz.prog 41=true∧aggO Tryz.prog 41=some false∧intB Tryz.prog 41=none:=by and_intros<;>kernel_rfl
@[go_sem] theorem fs39:elemB Tryz.prog 41=some 40∧elI Tryz.prog 41=some (1,24)∧zeroOf Tryz.prog 41=some (.lit (.slice none 0 0))∧szB Tryz.prog 42=some 1∧nzB Tryz.prog 42=true∧aggO Tryz.prog 42=some false∧intB Tryz.prog 42=none∧elemB Tryz.prog 42=some 41∧elI Tryz.prog 42=some (1,24)∧zeroOf Tryz.prog 42=some (.lit (.slice none 0 0)):=by and_intros<;>kernel_rfl
@[go_sem] theorem fs40:szB Tryz.prog 43=some 1∧nzB Tryz.prog 43=true∧aggO Tryz.prog 43=some false∧intB Tryz.prog 43=none∧elemB Tryz.prog 43=some 4∧elI Tryz.prog 43=some (1,24)∧zeroOf Tryz.prog 43=some (.lit (.slice none 0 0))∧szB Tryz.prog 44=some 3∧nzB Tryz.prog 44=true∧aggO Tryz.prog 44=some true:=by and_intros<;>kernel_rfl
@[go_sem] theorem fs41:intB Tryz.prog 44=none∧elemB Tryz.prog 44=none∧arrB Tryz.prog 44=none∧fldB Tryz.prog 44 0=some (0,22)∧fldB Tryz.prog 44 1=some (1,22)∧fldB Tryz.prog 44 2=some (2,43)∧plB Tryz.prog 44=some [(0,1),(1,1),(2,1)]∧fldsB Tryz.prog 44=some [(0,22),(1,22),(2,43)]∧Tryz.prog.stoodInHeld 44=false∧Tryz.prog.eqGuardType Tryz.prog.depth 44=false:=by and_intros<;>kernel_rfl
@[go_sem] theorem fs42:elI Tryz.prog 44=some (3,72)∧zeroOf Tryz.prog 44=some (.agg [.lit (.slice none 0 0),.lit (.slice none 0 0),.lit (.slice none 0 0)])∧szB Tryz.prog 45=some 3∧nzB Tryz.prog 45=true∧aggO Tryz.prog 45=some true∧intB Tryz.prog 45=none∧elemB Tryz.prog 45=none∧arrB Tryz.prog 45=none∧fldB Tryz.prog 45 0=some (0,22)∧fldB Tryz.prog 45 1=some (1,22):=by and_intros<;>kernel_rfl
@[go_sem] theorem fs43:fldB Tryz.prog 45 2=some (2,43)∧plB Tryz.prog 45=some [(0,1),(1,1),(2,1)]∧fldsB Tryz.prog 45=some [(0,22),(1,22),(2,43)]∧Tryz.prog.stoodInHeld 45=false∧Tryz.prog.eqGuardType Tryz.prog.depth 45=false∧elI Tryz.prog 45=some (3,72)∧zeroOf Tryz.prog 45=some (.agg [.lit (.slice none 0 0),.lit (.slice none 0 0),.lit (.slice none 0 0)])∧szB Tryz.prog 46=some 1∧nzB Tryz.prog 46=true∧aggO Tryz.prog 46=some false:=by and_intros<;>kernel_rfl
@[go_sem] theorem fs44:intB Tryz.prog 46=some .i64∧elemB Tryz.prog 46=none∧elI Tryz.prog 46=some (1,8)∧zeroOf Tryz.prog 46=some (.lit (.int .i64 0))∧szB Tryz.prog 48=some 1∧nzB Tryz.prog 48=true∧aggO Tryz.prog 48=some false∧intB Tryz.prog 48=none∧elemB Tryz.prog 48=none∧szB Tryz.prog 49=some 1:=by and_intros<;>kernel_rfl
@[go_sem] theorem fs45:nzB Tryz.prog 49=true∧aggO Tryz.prog 49=some false∧intB Tryz.prog 49=none∧elemB Tryz.prog 49=none∧szB Tryz.prog 50=some 1∧nzB Tryz.prog 50=true∧aggO Tryz.prog 50=some false∧intB Tryz.prog 50=none∧elemB Tryz.prog 50=none∧szB Tryz.prog 51=some 1:=by and_intros<;>kernel_rfl
@[go_sem] theorem fs46:nzB Tryz.prog 51=true∧aggO Tryz.prog 51=some false∧intB Tryz.prog 51=none∧elemB Tryz.prog 51=none∧szB Tryz.prog 52=some 1∧nzB Tryz.prog 52=true∧aggO Tryz.prog 52=some false∧intB Tryz.prog 52=none∧elemB Tryz.prog 52=none∧szB Tryz.prog 53=some 1:=by and_intros<;>kernel_rfl
@[go_sem] theorem fs47:nzB Tryz.prog 53=true∧aggO Tryz.prog 53=some false∧intB Tryz.prog 53=none∧elemB Tryz.prog 53=none∧szB Tryz.prog 55=some 1∧nzB Tryz.prog 55=true∧aggO Tryz.prog 55=some false∧intB Tryz.prog 55=none∧elemB Tryz.prog 55=none∧szB Tryz.prog 56=some 1:=by and_intros<;>kernel_rfl
@[go_sem] theorem fs48:nzB Tryz.prog 56=true∧aggO Tryz.prog 56=some false∧intB Tryz.prog 56=none∧elemB Tryz.prog 56=none∧szB Tryz.prog 57=some 1∧nzB Tryz.prog 57=true∧aggO Tryz.prog 57=some false∧intB Tryz.prog 57=none∧elemB Tryz.prog 57=none∧szB Tryz.prog 58=some 1:=by and_intros<;>kernel_rfl
@[go_sem] theorem fs49:nzB Tryz.prog 58=true∧aggO Tryz.prog 58=some false∧intB Tryz.prog 58=none∧elemB Tryz.prog 58=none∧szB Tryz.prog 59=some 1∧nzB Tryz.prog 59=true∧aggO Tryz.prog 59=some false∧intB Tryz.prog 59=none∧elemB Tryz.prog 59=none∧szB Tryz.prog 61=some 1:=by and_intros<;>kernel_rfl
@[go_sem] theorem fs50:nzB Tryz.prog 61=true∧aggO Tryz.prog 61=some false∧intB Tryz.prog 61=none∧elemB Tryz.prog 61=none∧szB Tryz.prog 62=some 1∧nzB Tryz.prog 62=true∧aggO Tryz.prog 62=some false∧intB Tryz.prog 62=none∧elemB Tryz.prog 62=none∧szB Tryz.prog 63=some 6:=by and_intros<;>kernel_rfl
@[go_sem] theorem fs51:nzB Tryz.prog 63=true∧aggO Tryz.prog 63=some true∧intB Tryz.prog 63=none∧elemB Tryz.prog 63=none∧arrB Tryz.prog 63=some (6,3)∧elI Tryz.prog 63=some (6,48)∧zeroOf Tryz.prog 63=some (.agg (List.replicate 6 (.lit (.int .i64 0))))∧szB Tryz.prog 64=some 1∧nzB Tryz.prog 64=true∧aggO Tryz.prog 64=some false:=by and_intros<;>kernel_rfl
@[go_sem] theorem fs52:intB Tryz.prog 64=none∧elemB Tryz.prog 64=none∧szB Tryz.prog 65=some 1∧nzB Tryz.prog 65=true∧aggO Tryz.prog 65=some false∧intB Tryz.prog 65=none∧elemB Tryz.prog 65=none∧szB Tryz.prog 66=some 1∧nzB Tryz.prog 66=true∧aggO Tryz.prog 66=some false:=by and_intros<;>kernel_rfl
@[go_sem] theorem fs53:intB Tryz.prog 66=none∧elemB Tryz.prog 66=none∧szB Tryz.prog 67=some 1∧nzB Tryz.prog 67=true∧aggO Tryz.prog 67=some false∧intB Tryz.prog 67=none∧elemB Tryz.prog 67=none∧szB Tryz.prog 68=some 1∧nzB Tryz.prog 68=true∧aggO Tryz.prog 68=some false:=by and_intros<;>kernel_rfl
@[go_sem] theorem fs54:intB Tryz.prog 68=none∧elemB Tryz.prog 68=none∧szB Tryz.prog 69=some 2∧nzB Tryz.prog 69=true∧aggO Tryz.prog 69=some true∧intB Tryz.prog 69=none∧elemB Tryz.prog 69=none∧arrB Tryz.prog 69=none∧fldB Tryz.prog 69 0=some (0,22)∧fldB Tryz.prog 69 1=some (1,3):=by and_intros<;>kernel_rfl
@[go_sem] theorem fs55:plB Tryz.prog 69=some [(0,1),(1,1)]∧fldsB Tryz.prog 69=some [(0,22),(1,3)]∧Tryz.prog.stoodInHeld 69=false∧Tryz.prog.eqGuardType Tryz.prog.depth 69=false∧elI Tryz.prog 69=some (2,32)∧zeroOf Tryz.prog 69=some (.agg [.lit (.slice none 0 0),.lit (.int .i64 0)])∧szB Tryz.prog 70=some 2∧nzB Tryz.prog 70=true∧aggO Tryz.prog 70=some true∧intB Tryz.prog 70=none:=by and_intros<;>kernel_rfl
@[go_sem] theorem fs56:elemB Tryz.prog 70=none∧arrB Tryz.prog 70=none∧fldB Tryz.prog 70 0=some (0,22)∧fldB Tryz.prog 70 1=some (1,3)∧plB Tryz.prog 70=some [(0,1),(1,1)]∧fldsB Tryz.prog 70=some [(0,22),(1,3)]∧Tryz.prog.stoodInHeld 70=false∧Tryz.prog.eqGuardType Tryz.prog.depth 70=false∧elI Tryz.prog 70=some (2,32)∧zeroOf Tryz.prog 70=some (.agg [.lit (.slice none 0 0),.lit (.int .i64 0)]):=by and_intros<;>kernel_rfl
@[go_sem] theorem fs57:szB Tryz.prog 71=some 1∧nzB Tryz.prog 71=true∧aggO Tryz.prog 71=some false∧intB Tryz.prog 71=none∧elemB Tryz.prog 71=none∧elI Tryz.prog 71=some (1,8)∧zeroOf Tryz.prog 71=some (.lit (.pointer none))∧szB Tryz.prog 73=some 1∧nzB Tryz.prog 73=true∧aggO Tryz.prog 73=some false:=by and_intros<;>kernel_rfl
@[go_sem] theorem fs58:intB Tryz.prog 73=none∧elemB Tryz.prog 73=none∧szB Tryz.prog 74=some 1∧nzB Tryz.prog 74=true∧aggO Tryz.prog 74=some false∧intB Tryz.prog 74=none∧elemB Tryz.prog 74=none∧szB Tryz.prog 75=some 14∧nzB Tryz.prog 75=true∧aggO Tryz.prog 75=some true:=by and_intros<;>kernel_rfl
@[go_sem] theorem fs59:intB Tryz.prog 75=none∧elemB Tryz.prog 75=none∧arrB Tryz.prog 75=none∧fldB Tryz.prog 75 0=some (0,33)∧fldB Tryz.prog 75 1=some (6,45)∧fldB Tryz.prog 75 2=some (9,22)∧fldB Tryz.prog 75 3=some (10,22)∧fldB Tryz.prog 75 4=some (11,42)∧fldB Tryz.prog 75 5=some (12,42)∧fldB Tryz.prog 75 6=some (13,42):=by and_intros<;>kernel_rfl
@[go_sem] theorem fs60:plB Tryz.prog 75=some [(0,6),(6,3),(9,1),(10,1),(11,1),(12,1),(13,1)]∧fldsB Tryz.prog 75=some [(0,33),(6,45),(9,22),(10,22),(11,42),(12,42),(13,42)]∧Tryz.prog.stoodInHeld 75=false∧Tryz.prog.eqGuardType Tryz.prog.depth 75=false∧elI Tryz.prog 75=some (14,304)∧zeroOf Tryz.prog 75=some (.agg [.agg [.lit (.slice none 0 0),.lit (.slice none 0 0),.lit (.slice none 0 0),.lit (.slice none 0 0),.lit (.int .i64 0),.lit (.int .i64 0)],.agg [.lit (.slice none 0 0),.lit (.slice none 0 0),.lit (.slice none 0 0)],.lit (.slice none 0 0),.lit (.slice none 0 0),.lit (.slice none 0 0),.lit (.slice none 0 0),.lit (.slice none 0 0)])∧szB Tryz.prog 76=some 14∧nzB Tryz.prog 76=true∧aggO Tryz.prog 76=some true∧intB Tryz.prog 76=none:=by and_intros<;>kernel_rfl
@[go_sem] theorem fs61:elemB Tryz.prog 76=none∧arrB Tryz.prog 76=none∧fldB Tryz.prog 76 0=some (0,33)∧fldB Tryz.prog 76 1=some (6,45)∧fldB Tryz.prog 76 2=some (9,22)∧fldB Tryz.prog 76 3=some (10,22)∧fldB Tryz.prog 76 4=some (11,42)∧fldB Tryz.prog 76 5=some (12,42)∧fldB Tryz.prog 76 6=some (13,42)∧plB Tryz.prog 76=some [(0,6),(6,3),(9,1),(10,1),(11,1),(12,1),(13,1)]:=by and_intros<;>kernel_rfl
@[go_sem] theorem fs62:fldsB Tryz.prog 76=some [(0,33),(6,45),(9,22),(10,22),(11,42),(12,42),(13,42)]∧Tryz.prog.stoodInHeld 76=false∧Tryz.prog.eqGuardType Tryz.prog.depth 76=false∧elI Tryz.prog 76=some (14,304)∧zeroOf Tryz.prog 76=some (.agg [.agg [.lit (.slice none 0 0),.lit (.slice none 0 0),.lit (.slice none 0 0),.lit (.slice none 0 0),.lit (.int .i64 0),.lit (.int .i64 0)],.agg [.lit (.slice none 0 0),.lit (.slice none 0 0),.lit (.slice none 0 0)],.lit (.slice none 0 0),.lit (.slice none 0 0),.lit (.slice none 0 0),.lit (.slice none 0 0),.lit (.slice none 0 0)])∧szB Tryz.prog 77=some 1∧nzB Tryz.prog 77=true∧aggO Tryz.prog 77=some false∧intB Tryz.prog 77=none∧elemB Tryz.prog 77=none:=by and_intros<;>kernel_rfl
@[go_sem] theorem fs63:szB Tryz.prog 78=some 1∧nzB Tryz.prog 78=true∧aggO Tryz.prog 78=some false∧intB Tryz.prog 78=none∧elemB Tryz.prog 78=none∧szB Tryz.prog 79=some 1∧nzB Tryz.prog 79=true∧aggO Tryz.prog 79=some false∧intB Tryz.prog 79=none∧elemB Tryz.prog 79=none:=by and_intros<;>kernel_rfl
@[go_sem] theorem fs64:szB Tryz.prog 81=some 1∧nzB Tryz.prog 81=true∧aggO Tryz.prog 81=some false∧intB Tryz.prog 81=none∧elemB Tryz.prog 81=none∧szB Tryz.prog 82=some 1∧nzB Tryz.prog 82=true∧aggO Tryz.prog 82=some false∧intB Tryz.prog 82=none∧elemB Tryz.prog 82=some 5:=by and_intros<;>kernel_rfl
@[go_sem] theorem fs65:elI Tryz.prog 82=some (1,24)∧zeroOf Tryz.prog 82=some (.lit (.slice none 0 0))∧szB Tryz.prog 83=some 1∧nzB Tryz.prog 83=true∧aggO Tryz.prog 83=some false∧intB Tryz.prog 83=none∧elemB Tryz.prog 83=none∧szB Tryz.prog 84=some 1∧nzB Tryz.prog 84=true∧aggO Tryz.prog 84=some false:=by and_intros<;>kernel_rfl
@[go_sem] theorem fs66:intB Tryz.prog 84=none∧elemB Tryz.prog 84=none∧szB Tryz.prog 85=some 1∧nzB Tryz.prog 85=true∧aggO Tryz.prog 85=some false∧intB Tryz.prog 85=none∧elemB Tryz.prog 85=none∧szB Tryz.prog 86=some 1∧nzB Tryz.prog 86=true∧aggO Tryz.prog 86=some false:=by and_intros<;>kernel_rfl
@[go_sem] theorem fs67:intB Tryz.prog 86=none∧elemB Tryz.prog 86=none∧szB Tryz.prog 87=some 1∧nzB Tryz.prog 87=true∧aggO Tryz.prog 87=some false∧intB Tryz.prog 87=none∧elemB Tryz.prog 87=none∧szB Tryz.prog 88=some 1∧nzB Tryz.prog 88=true∧aggO Tryz.prog 88=some false:=by and_intros<;>kernel_rfl
@[go_sem] theorem fs68:intB Tryz.prog 88=none∧elemB Tryz.prog 88=none∧szB Tryz.prog 89=some 5∧nzB Tryz.prog 89=true∧aggO Tryz.prog 89=some true∧intB Tryz.prog 89=none∧elemB Tryz.prog 89=none∧arrB Tryz.prog 89=none∧fldB Tryz.prog 89 0=some (0,9)∧fldB Tryz.prog 89 1=some (1,3):=by and_intros<;>kernel_rfl
@[go_sem] theorem fs69:fldB Tryz.prog 89 2=some (2,3)∧fldB Tryz.prog 89 3=some (3,3)∧fldB Tryz.prog 89 4=some (4,3)∧plB Tryz.prog 89=some [(0,1),(1,1),(2,1),(3,1),(4,1)]∧fldsB Tryz.prog 89=some [(0,9),(1,3),(2,3),(3,3),(4,3)]∧Tryz.prog.stoodInHeld 89=false∧Tryz.prog.eqGuardType Tryz.prog.depth 89=false∧elI Tryz.prog 89=some (5,48)∧szB Tryz.prog 90=some 5∧nzB Tryz.prog 90=true:=by and_intros<;>kernel_rfl
@[go_sem] theorem fs70:aggO Tryz.prog 90=some true∧intB Tryz.prog 90=none∧elemB Tryz.prog 90=none∧arrB Tryz.prog 90=none∧fldB Tryz.prog 90 0=some (0,9)∧fldB Tryz.prog 90 1=some (1,3)∧fldB Tryz.prog 90 2=some (2,3)∧fldB Tryz.prog 90 3=some (3,3)∧fldB Tryz.prog 90 4=some (4,3)∧plB Tryz.prog 90=some [(0,1),(1,1),(2,1),(3,1),(4,1)]:=by and_intros<;>kernel_rfl
@[go_sem] theorem fs71:fldsB Tryz.prog 90=some [(0,9),(1,3),(2,3),(3,3),(4,3)]∧Tryz.prog.stoodInHeld 90=false∧Tryz.prog.eqGuardType Tryz.prog.depth 90=false∧elI Tryz.prog 90=some (5,48)∧szB Tryz.prog 91=some 1∧nzB Tryz.prog 91=true∧aggO Tryz.prog 91=some false∧intB Tryz.prog 91=none∧elemB Tryz.prog 91=none∧szB Tryz.prog 92=some 1:=by and_intros<;>kernel_rfl
@[go_sem] theorem fs72:nzB Tryz.prog 92=true∧aggO Tryz.prog 92=some false∧intB Tryz.prog 92=none∧elemB Tryz.prog 92=none∧szB Tryz.prog 93=some 1∧nzB Tryz.prog 93=true∧aggO Tryz.prog 93=some false∧intB Tryz.prog 93=none∧elemB Tryz.prog 93=none∧szB Tryz.prog 94=some 1:=by and_intros<;>kernel_rfl
@[go_sem] theorem fs73:nzB Tryz.prog 94=true∧aggO Tryz.prog 94=some false∧intB Tryz.prog 94=none∧elemB Tryz.prog 94=none∧szB Tryz.prog 96=some 1∧nzB Tryz.prog 96=true∧aggO Tryz.prog 96=some false∧intB Tryz.prog 96=none∧elemB Tryz.prog 96=none∧szB Tryz.prog 97=some 1:=by and_intros<;>kernel_rfl
@[go_sem] theorem fs74:nzB Tryz.prog 97=true∧aggO Tryz.prog 97=some false∧intB Tryz.prog 97=none∧elemB Tryz.prog 97=none∧szB Tryz.prog 98=some 1∧nzB Tryz.prog 98=true∧aggO Tryz.prog 98=some false∧intB Tryz.prog 98=none∧elemB Tryz.prog 98=none∧szB Tryz.prog 99=some 1:=by and_intros<;>kernel_rfl
@[go_sem] theorem fs75:nzB Tryz.prog 99=true∧aggO Tryz.prog 99=some false∧intB Tryz.prog 99=none∧elemB Tryz.prog 99=none∧szB Tryz.prog 100=some 1∧nzB Tryz.prog 100=true∧aggO Tryz.prog 100=some false∧intB Tryz.prog 100=none∧elemB Tryz.prog 100=none∧szB Tryz.prog 101=some 1:=by and_intros<;>kernel_rfl
@[go_sem] theorem fs76:nzB Tryz.prog 101=true∧aggO Tryz.prog 101=some false∧intB Tryz.prog 101=none∧elemB Tryz.prog 101=some 26∧elI Tryz.prog 101=some (1,24)∧zeroOf Tryz.prog 101=some (.lit (.slice none 0 0))∧szB Tryz.prog 103=some 1∧nzB Tryz.prog 103=true∧aggO Tryz.prog 103=some false∧intB Tryz.prog 103=none:=by and_intros<;>kernel_rfl
@[go_sem] theorem fs77:elemB Tryz.prog 103=none∧szB Tryz.prog 104=some 1∧nzB Tryz.prog 104=true∧aggO Tryz.prog 104=some false∧intB Tryz.prog 104=none∧elemB Tryz.prog 104=none∧elI Tryz.prog 104=some (1,8)∧zeroOf Tryz.prog 104=some (.lit (.pointer none))∧szB Tryz.prog 105=some 8∧nzB Tryz.prog 105=true:=by and_intros<;>kernel_rfl
@[go_sem] theorem fs78:aggO Tryz.prog 105=some true∧intB Tryz.prog 105=none∧elemB Tryz.prog 105=none∧arrB Tryz.prog 105=none∧fldB Tryz.prog 105 0=some (0,33)∧fldB Tryz.prog 105 1=some (6,3)∧fldB Tryz.prog 105 2=some (7,9)∧plB Tryz.prog 105=some [(0,6),(6,1),(7,1)]∧fldsB Tryz.prog 105=some [(0,33),(6,3),(7,9)]∧Tryz.prog.stoodInHeld 105=false:=by and_intros<;>kernel_rfl
@[go_sem] theorem fs79:Tryz.prog.eqGuardType Tryz.prog.depth 105=false∧elI Tryz.prog 105=some (8,136)∧szB Tryz.prog 106=some 8∧nzB Tryz.prog 106=true∧aggO Tryz.prog 106=some true∧intB Tryz.prog 106=none∧elemB Tryz.prog 106=none∧arrB Tryz.prog 106=none∧fldB Tryz.prog 106 0=some (0,33)∧fldB Tryz.prog 106 1=some (6,3):=by and_intros<;>kernel_rfl
@[go_sem] theorem fs80:fldB Tryz.prog 106 2=some (7,9)∧plB Tryz.prog 106=some [(0,6),(6,1),(7,1)]∧fldsB Tryz.prog 106=some [(0,33),(6,3),(7,9)]∧Tryz.prog.stoodInHeld 106=false∧Tryz.prog.eqGuardType Tryz.prog.depth 106=false∧elI Tryz.prog 106=some (8,136)∧szB Tryz.prog 107=some 1∧nzB Tryz.prog 107=true∧aggO Tryz.prog 107=some false∧intB Tryz.prog 107=none:=by and_intros<;>kernel_rfl
@[go_sem] theorem fs81:elemB Tryz.prog 107=none∧szB Tryz.prog 108=some 1∧nzB Tryz.prog 108=true∧aggO Tryz.prog 108=some false∧intB Tryz.prog 108=none∧elemB Tryz.prog 108=none∧szB Tryz.prog 109=some 4∧nzB Tryz.prog 109=true∧aggO Tryz.prog 109=some true∧intB Tryz.prog 109=none:=by and_intros<;>kernel_rfl
@[go_sem] theorem fs82:elemB Tryz.prog 109=none∧arrB Tryz.prog 109=some (4,26)∧elI Tryz.prog 109=some (4,96)∧zeroOf Tryz.prog 109=some (.agg (List.replicate 4 (.lit (.slice none 0 0))))∧szB Tryz.prog 110=some 1∧nzB Tryz.prog 110=true∧aggO Tryz.prog 110=some false∧intB Tryz.prog 110=none∧elemB Tryz.prog 110=none∧szB Tryz.prog 111=some 1:=by and_intros<;>kernel_rfl
@[go_sem] theorem fs83:nzB Tryz.prog 111=true∧aggO Tryz.prog 111=some false∧intB Tryz.prog 111=none∧elemB Tryz.prog 111=none∧szB Tryz.prog 112=some 1∧nzB Tryz.prog 112=true∧aggO Tryz.prog 112=some false∧intB Tryz.prog 112=none∧elemB Tryz.prog 112=none∧szB Tryz.prog 113=some 1:=by and_intros<;>kernel_rfl
@[go_sem] theorem fs84:nzB Tryz.prog 113=true∧aggO Tryz.prog 113=some false∧intB Tryz.prog 113=none∧elemB Tryz.prog 113=none∧szB Tryz.prog 114=some 1∧nzB Tryz.prog 114=true∧aggO Tryz.prog 114=some false∧intB Tryz.prog 114=none∧elemB Tryz.prog 114=none∧szB Tryz.prog 115=some 1:=by and_intros<;>kernel_rfl
@[go_sem] theorem fs85:nzB Tryz.prog 115=true∧aggO Tryz.prog 115=some false∧intB Tryz.prog 115=none∧elemB Tryz.prog 115=none∧szB Tryz.prog 116=some 1∧nzB Tryz.prog 116=true∧aggO Tryz.prog 116=some false∧intB Tryz.prog 116=none∧elemB Tryz.prog 116=none∧szB Tryz.prog 117=some 1:=by and_intros<;>kernel_rfl
@[go_sem] theorem fs86:nzB Tryz.prog 117=true∧aggO Tryz.prog 117=some false∧intB Tryz.prog 117=none∧elemB Tryz.prog 117=none∧szB Tryz.prog 118=some 1∧nzB Tryz.prog 118=true∧aggO Tryz.prog 118=some false∧intB Tryz.prog 118=none∧elemB Tryz.prog 118=none∧szB Tryz.prog 119=some 1:=by and_intros<;>kernel_rfl
@[go_sem] theorem fs87:nzB Tryz.prog 119=true∧aggO Tryz.prog 119=some false∧intB Tryz.prog 119=none∧elemB Tryz.prog 119=none∧szB Tryz.prog 121=some 1∧nzB Tryz.prog 121=true∧aggO Tryz.prog 121=some false∧intB Tryz.prog 121=none∧elemB Tryz.prog 121=none∧szB Tryz.prog 122=some 1:=by and_intros<;>kernel_rfl
@[go_sem] theorem fs88:nzB Tryz.prog 122=true∧aggO Tryz.prog 122=some false∧intB Tryz.prog 122=none∧elemB Tryz.prog 122=none∧szB Tryz.prog 123=some 1∧nzB Tryz.prog 123=true∧aggO Tryz.prog 123=some false∧intB Tryz.prog 123=none∧elemB Tryz.prog 123=none∧szB Tryz.prog 124=some 1:=by and_intros<;>kernel_rfl
@[go_sem] theorem fs89:nzB Tryz.prog 124=true∧aggO Tryz.prog 124=some false∧intB Tryz.prog 124=none∧elemB Tryz.prog 124=none∧szB Tryz.prog 126=some 1∧nzB Tryz.prog 126=true∧aggO Tryz.prog 126=some false∧intB Tryz.prog 126=none∧elemB Tryz.prog 126=none∧szB Tryz.prog 127=some 1:=by and_intros<;>kernel_rfl
@[go_sem] theorem fs90:nzB Tryz.prog 127=true∧aggO Tryz.prog 127=some false∧intB Tryz.prog 127=none∧elemB Tryz.prog 127=none∧szB Tryz.prog 128=some 1∧nzB Tryz.prog 128=true∧aggO Tryz.prog 128=some false∧intB Tryz.prog 128=none∧elemB Tryz.prog 128=none∧szB Tryz.prog 129=some 1:=by and_intros<;>kernel_rfl
@[go_sem] theorem fs91:nzB Tryz.prog 129=true∧aggO Tryz.prog 129=some false∧intB Tryz.prog 129=none∧elemB Tryz.prog 129=none∧szB Tryz.prog 130=some 4∧nzB Tryz.prog 130=true∧aggO Tryz.prog 130=some true∧intB Tryz.prog 130=none∧elemB Tryz.prog 130=none∧arrB Tryz.prog 130=none:=by and_intros<;>kernel_rfl
@[go_sem] theorem fs92:fldB Tryz.prog 130 0=some (0,3)∧fldB Tryz.prog 130 1=some (1,3)∧fldB Tryz.prog 130 2=some (2,3)∧fldB Tryz.prog 130 3=some (3,129)∧plB Tryz.prog 130=some [(0,1),(1,1),(2,1),(3,1)]∧fldsB Tryz.prog 130=some [(0,3),(1,3),(2,3),(3,129)]∧Tryz.prog.stoodInHeld 130=false∧Tryz.prog.eqGuardType Tryz.prog.depth 130=false∧elI Tryz.prog 130=some (4,32)∧zeroOf Tryz.prog 130=some (.agg [.lit (.int .i64 0),.lit (.int .i64 0),.lit (.int .i64 0),.lit .nilFunc]):=by and_intros<;>kernel_rfl
@[go_sem] theorem fs93:szB Tryz.prog 131=some 4∧nzB Tryz.prog 131=true∧aggO Tryz.prog 131=some true∧intB Tryz.prog 131=none∧elemB Tryz.prog 131=none∧arrB Tryz.prog 131=none∧fldB Tryz.prog 131 0=some (0,3)∧fldB Tryz.prog 131 1=some (1,3)∧fldB Tryz.prog 131 2=some (2,3)∧fldB Tryz.prog 131 3=some (3,129):=by and_intros<;>kernel_rfl
@[go_sem] theorem fs94:plB Tryz.prog 131=some [(0,1),(1,1),(2,1),(3,1)]∧fldsB Tryz.prog 131=some [(0,3),(1,3),(2,3),(3,129)]∧Tryz.prog.stoodInHeld 131=false∧Tryz.prog.eqGuardType Tryz.prog.depth 131=false∧elI Tryz.prog 131=some (4,32)∧zeroOf Tryz.prog 131=some (.agg [.lit (.int .i64 0),.lit (.int .i64 0),.lit (.int .i64 0),.lit .nilFunc])∧szB Tryz.prog 133=some 1∧nzB Tryz.prog 133=true∧aggO Tryz.prog 133=some false∧intB Tryz.prog 133=none:=by and_intros<;>kernel_rfl
@[go_sem] theorem fs95:elemB Tryz.prog 133=none∧szB Tryz.prog 134=some 1∧nzB Tryz.prog 134=true∧aggO Tryz.prog 134=some false∧intB Tryz.prog 134=none∧elemB Tryz.prog 134=none∧szB Tryz.prog 135=some 1∧nzB Tryz.prog 135=true∧aggO Tryz.prog 135=some false∧intB Tryz.prog 135=none:=by and_intros<;>kernel_rfl
@[go_sem] theorem fs96:elemB Tryz.prog 135=none∧szB Tryz.prog 136=some 1∧nzB Tryz.prog 136=true∧aggO Tryz.prog 136=some false∧intB Tryz.prog 136=none∧elemB Tryz.prog 136=none∧szB Tryz.prog 137=some 1∧nzB Tryz.prog 137=true∧aggO Tryz.prog 137=some false∧intB Tryz.prog 137=none:=by and_intros<;>kernel_rfl
@[go_sem] theorem fs97:elemB Tryz.prog 137=none∧szB Tryz.prog 138=some 1∧nzB Tryz.prog 138=true∧aggO Tryz.prog 138=some false∧intB Tryz.prog 138=none∧elemB Tryz.prog 138=none∧szB Tryz.prog 139=some 1∧nzB Tryz.prog 139=true∧aggO Tryz.prog 139=some false∧intB Tryz.prog 139=none:=by and_intros<;>kernel_rfl
@[go_sem] theorem fs98:elemB Tryz.prog 139=none∧szB Tryz.prog 140=some 1∧nzB Tryz.prog 140=true∧aggO Tryz.prog 140=some false∧intB Tryz.prog 140=none∧elemB Tryz.prog 140=none∧szB Tryz.prog 141=some 1∧nzB Tryz.prog 141=true∧aggO Tryz.prog 141=some false∧intB Tryz.prog 141=none:=by and_intros<;>kernel_rfl
@[go_sem] theorem fs99:elemB Tryz.prog 141=none∧szB Tryz.prog 142=some 1∧nzB Tryz.prog 142=true∧aggO Tryz.prog 142=some false∧intB Tryz.prog 142=none∧elemB Tryz.prog 142=none∧szB Tryz.prog 143=some 1∧nzB Tryz.prog 143=true∧aggO Tryz.prog 143=some false∧intB Tryz.prog 143=none:=by and_intros<;>kernel_rfl
@[go_sem] theorem fs100:elemB Tryz.prog 143=none∧szB Tryz.prog 144=some 1∧nzB Tryz.prog 144=true∧aggO Tryz.prog 144=some false∧intB Tryz.prog 144=none∧elemB Tryz.prog 144=none∧szB Tryz.prog 145=some 1∧nzB Tryz.prog 145=true∧aggO Tryz.prog 145=some false∧intB Tryz.prog 145=none:=by and_intros<;>kernel_rfl
@[go_sem] theorem fs101:elemB Tryz.prog 145=none∧szB Tryz.prog 146=some 1∧nzB Tryz.prog 146=true∧aggO Tryz.prog 146=some false∧intB Tryz.prog 146=none∧elemB Tryz.prog 146=none∧szB Tryz.prog 147=some 1∧nzB Tryz.prog 147=true∧aggO Tryz.prog 147=some false∧intB Tryz.prog 147=none:=by and_intros<;>kernel_rfl
@[go_sem] theorem fs102:elemB Tryz.prog 147=none∧szB Tryz.prog 148=some 24∧nzB Tryz.prog 148=true∧aggO Tryz.prog 148=some true∧intB Tryz.prog 148=none∧elemB Tryz.prog 148=none∧arrB Tryz.prog 148=some (24,3)∧elI Tryz.prog 148=some (24,192)∧zeroOf Tryz.prog 148=some (.agg (List.replicate 24 (.lit (.int .i64 0))))∧szB Tryz.prog 149=some 24:=by and_intros<;>kernel_rfl
@[go_sem] theorem fs103:nzB Tryz.prog 149=true∧aggO Tryz.prog 149=some true∧intB Tryz.prog 149=none∧elemB Tryz.prog 149=none∧arrB Tryz.prog 149=some (24,3)∧elI Tryz.prog 149=some (24,192)∧zeroOf Tryz.prog 149=some (.agg (List.replicate 24 (.lit (.int .i64 0))))∧szB Tryz.prog 150=some 48∧nzB Tryz.prog 150=true∧aggO Tryz.prog 150=some true:=by and_intros<;>kernel_rfl
@[go_sem] theorem fs104:intB Tryz.prog 150=none∧elemB Tryz.prog 150=none∧arrB Tryz.prog 150=none∧fldB Tryz.prog 150 0=some (0,149)∧fldB Tryz.prog 150 1=some (24,149)∧plB Tryz.prog 150=some [(0,24),(24,24)]∧fldsB Tryz.prog 150=some [(0,149),(24,149)]∧Tryz.prog.stoodInHeld 150=false∧Tryz.prog.eqGuardType Tryz.prog.depth 150=false∧elI Tryz.prog 150=some (48,384):=by and_intros<;>kernel_rfl
@[go_sem] theorem fs105:zeroOf Tryz.prog 150=some (.agg [.agg (List.replicate 24 (.lit (.int .i64 0))),.agg (List.replicate 24 (.lit (.int .i64 0)))])∧szB Tryz.prog 151=some 48∧nzB Tryz.prog 151=true∧aggO Tryz.prog 151=some true∧intB Tryz.prog 151=none∧elemB Tryz.prog 151=none∧arrB Tryz.prog 151=none∧fldB Tryz.prog 151 0=some (0,149)∧fldB Tryz.prog 151 1=some (24,149)∧plB Tryz.prog 151=some [(0,24),(24,24)]:=by and_intros<;>kernel_rfl
@[go_sem] theorem fs106:fldsB Tryz.prog 151=some [(0,149),(24,149)]∧Tryz.prog.stoodInHeld 151=false∧Tryz.prog.eqGuardType Tryz.prog.depth 151=false∧elI Tryz.prog 151=some (48,384)∧zeroOf Tryz.prog 151=some (.agg [.agg (List.replicate 24 (.lit (.int .i64 0))),.agg (List.replicate 24 (.lit (.int .i64 0)))])∧szB Tryz.prog 152=some 1∧nzB Tryz.prog 152=true∧aggO Tryz.prog 152=some false∧intB Tryz.prog 152=none∧elemB Tryz.prog 152=none:=by and_intros<;>kernel_rfl
@[go_sem] theorem fs107:szB Tryz.prog 154=some 1∧nzB Tryz.prog 154=true∧aggO Tryz.prog 154=some false∧intB Tryz.prog 154=none∧elemB Tryz.prog 154=none∧szB Tryz.prog 155=some 1∧nzB Tryz.prog 155=true∧aggO Tryz.prog 155=some false∧intB Tryz.prog 155=none∧elemB Tryz.prog 155=none:=by and_intros<;>kernel_rfl
@[go_sem] theorem fs108:szB Tryz.prog 156=some 64∧nzB Tryz.prog 156=true∧aggO Tryz.prog 156=some true∧intB Tryz.prog 156=none∧elemB Tryz.prog 156=none∧arrB Tryz.prog 156=some (64,3)∧elI Tryz.prog 156=some (64,512)∧zeroOf Tryz.prog 156=some (.agg (List.replicate 64 (.lit (.int .i64 0))))∧szB Tryz.prog 157=some 129∧nzB Tryz.prog 157=true:=by and_intros<;>kernel_rfl
@[go_sem] theorem fs109:aggO Tryz.prog 157=some true∧intB Tryz.prog 157=none∧elemB Tryz.prog 157=none∧arrB Tryz.prog 157=none∧fldB Tryz.prog 157 0=some (0,3)∧fldB Tryz.prog 157 1=some (1,156)∧fldB Tryz.prog 157 2=some (65,156)∧plB Tryz.prog 157=some [(0,1),(1,64),(65,64)]∧fldsB Tryz.prog 157=some [(0,3),(1,156),(65,156)]∧Tryz.prog.stoodInHeld 157=false:=by and_intros<;>kernel_rfl
@[go_sem] theorem fs110:Tryz.prog.eqGuardType Tryz.prog.depth 157=false∧elI Tryz.prog 157=some (129,1032)∧zeroOf Tryz.prog 157=some (.agg [.lit (.int .i64 0),.agg (List.replicate 64 (.lit (.int .i64 0))),.agg (List.replicate 64 (.lit (.int .i64 0)))])∧szB Tryz.prog 158=some 129∧nzB Tryz.prog 158=true∧aggO Tryz.prog 158=some true∧intB Tryz.prog 158=none∧elemB Tryz.prog 158=none∧arrB Tryz.prog 158=none∧fldB Tryz.prog 158 0=some (0,3):=by and_intros<;>kernel_rfl
@[go_sem] theorem fs111:fldB Tryz.prog 158 1=some (1,156)∧fldB Tryz.prog 158 2=some (65,156)∧plB Tryz.prog 158=some [(0,1),(1,64),(65,64)]∧fldsB Tryz.prog 158=some [(0,3),(1,156),(65,156)]∧Tryz.prog.stoodInHeld 158=false∧Tryz.prog.eqGuardType Tryz.prog.depth 158=false∧elI Tryz.prog 158=some (129,1032)∧zeroOf Tryz.prog 158=some (.agg [.lit (.int .i64 0),.agg (List.replicate 64 (.lit (.int .i64 0))),.agg (List.replicate 64 (.lit (.int .i64 0)))])∧szB Tryz.prog 159=some 1∧nzB Tryz.prog 159=true:=by and_intros<;>kernel_rfl
@[go_sem] theorem fs112:aggO Tryz.prog 159=some false∧intB Tryz.prog 159=none∧elemB Tryz.prog 159=none∧szB Tryz.prog 161=some 1∧nzB Tryz.prog 161=true∧aggO Tryz.prog 161=some false∧intB Tryz.prog 161=none∧elemB Tryz.prog 161=none∧szB Tryz.prog 162=some 1∧nzB Tryz.prog 162=true:=by and_intros<;>kernel_rfl
@[go_sem] theorem fs113:aggO Tryz.prog 162=some false∧intB Tryz.prog 162=none∧elemB Tryz.prog 162=none∧szB Tryz.prog 163=some 1∧nzB Tryz.prog 163=true∧aggO Tryz.prog 163=some false∧intB Tryz.prog 163=none∧elemB Tryz.prog 163=none∧szB Tryz.prog 164=some 1∧nzB Tryz.prog 164=true:=by and_intros<;>kernel_rfl
@[go_sem] theorem fs114:aggO Tryz.prog 164=some false∧intB Tryz.prog 164=none∧elemB Tryz.prog 164=none∧szB Tryz.prog 165=some 1∧nzB Tryz.prog 165=true∧aggO Tryz.prog 165=some false∧intB Tryz.prog 165=none∧elemB Tryz.prog 165=none∧szB Tryz.prog 169=some 1∧nzB Tryz.prog 169=true:=by and_intros<;>kernel_rfl
@[go_sem] theorem fs115:aggO Tryz.prog 169=some false∧intB Tryz.prog 169=none∧elemB Tryz.prog 169=none∧szB Tryz.prog 170=some 1∧nzB Tryz.prog 170=true∧aggO Tryz.prog 170=some false∧intB Tryz.prog 170=none∧elemB Tryz.prog 170=none∧szB Tryz.prog 171=some 1∧nzB Tryz.prog 171=true:=by and_intros<;>kernel_rfl
@[go_sem] theorem fs116:aggO Tryz.prog 171=some false∧intB Tryz.prog 171=none∧elemB Tryz.prog 171=none∧szB Tryz.prog 172=some 1∧nzB Tryz.prog 172=true∧aggO Tryz.prog 172=some false∧intB Tryz.prog 172=none∧elemB Tryz.prog 172=none∧szB Tryz.prog 173=some 1∧nzB Tryz.prog 173=true:=by and_intros<;>kernel_rfl
@[go_sem] theorem fs117:aggO Tryz.prog 173=some false∧intB Tryz.prog 173=none∧elemB Tryz.prog 173=none∧elI Tryz.prog 173=some (1,8)∧zeroOf Tryz.prog 173=some (.lit (.pointer none))∧szB Tryz.prog 175=some 1∧nzB Tryz.prog 175=true∧aggO Tryz.prog 175=some false∧intB Tryz.prog 175=none∧elemB Tryz.prog 175=none:=by and_intros<;>kernel_rfl
@[go_sem] theorem fs118:szB Tryz.prog 176=some 1∧nzB Tryz.prog 176=true∧aggO Tryz.prog 176=some false∧intB Tryz.prog 176=none∧elemB Tryz.prog 176=none∧szB Tryz.prog 177=some 1∧nzB Tryz.prog 177=true∧aggO Tryz.prog 177=some false∧intB Tryz.prog 177=none∧elemB Tryz.prog 177=none:=by and_intros<;>kernel_rfl
@[go_sem] theorem fs119:szB Tryz.prog 178=some 1∧nzB Tryz.prog 178=true∧aggO Tryz.prog 178=some false∧intB Tryz.prog 178=none∧elemB Tryz.prog 178=none∧szB Tryz.prog 179=some 1∧nzB Tryz.prog 179=true∧aggO Tryz.prog 179=some false∧intB Tryz.prog 179=none∧elemB Tryz.prog 179=none:=by and_intros<;>kernel_rfl
@[go_sem] theorem fs120:elI Tryz.prog 179=some (1,8)∧zeroOf Tryz.prog 179=some (.lit (.pointer none))∧szB Tryz.prog 180=some 1∧nzB Tryz.prog 180=true∧aggO Tryz.prog 180=some false∧intB Tryz.prog 180=none∧elemB Tryz.prog 180=none∧szB Tryz.prog 181=some 1∧nzB Tryz.prog 181=true∧aggO Tryz.prog 181=some false:=by and_intros<;>kernel_rfl
@[go_sem] theorem fs121:intB Tryz.prog 181=none∧elemB Tryz.prog 181=none∧elI Tryz.prog 181=some (1,8)∧zeroOf Tryz.prog 181=some (.lit (.pointer none))∧szB Tryz.prog 182=some 1∧nzB Tryz.prog 182=true∧aggO Tryz.prog 182=some false∧intB Tryz.prog 182=some .u64∧elemB Tryz.prog 182=none∧elI Tryz.prog 182=some (1,8):=by and_intros<;>kernel_rfl
@[go_sem] theorem fs122:zeroOf Tryz.prog 182=some (.lit (.int .u64 0))∧szB Tryz.prog 184=some 1∧nzB Tryz.prog 184=true∧aggO Tryz.prog 184=some false∧intB Tryz.prog 184=none∧elemB Tryz.prog 184=none∧szB Tryz.prog 185=some 1∧nzB Tryz.prog 185=true∧aggO Tryz.prog 185=some false∧intB Tryz.prog 185=none:=by and_intros<;>kernel_rfl
@[go_sem] theorem fs123:elemB Tryz.prog 185=none∧szB Tryz.prog 186=some 1∧nzB Tryz.prog 186=true∧aggO Tryz.prog 186=some false∧intB Tryz.prog 186=some .i64∧elemB Tryz.prog 186=none∧elI Tryz.prog 186=some (1,8)∧zeroOf Tryz.prog 186=some (.lit (.int .i64 0))∧szB Tryz.prog 188=some 1∧nzB Tryz.prog 188=true:=by and_intros<;>kernel_rfl
@[go_sem] theorem fs124:aggO Tryz.prog 188=some false∧intB Tryz.prog 188=none∧elemB Tryz.prog 188=none∧szB Tryz.prog 189=some 1∧nzB Tryz.prog 189=true∧aggO Tryz.prog 189=some false∧intB Tryz.prog 189=none∧elemB Tryz.prog 189=none∧elI Tryz.prog 189=some (1,8)∧zeroOf Tryz.prog 189=some (.lit (.pointer none)):=by and_intros<;>kernel_rfl
@[go_sem] theorem fs125:szB Tryz.prog 190=some 1∧nzB Tryz.prog 190=true∧aggO Tryz.prog 190=some false∧intB Tryz.prog 190=none∧elemB Tryz.prog 190=none∧szB Tryz.prog 191=some 1∧nzB Tryz.prog 191=true∧aggO Tryz.prog 191=some false∧intB Tryz.prog 191=none∧elemB Tryz.prog 191=none:=by and_intros<;>kernel_rfl
@[go_sem] theorem fs126:szB Tryz.prog 192=some 1∧nzB Tryz.prog 192=true∧aggO Tryz.prog 192=some false∧intB Tryz.prog 192=some .u32∧elemB Tryz.prog 192=none∧elI Tryz.prog 192=some (1,4)∧zeroOf Tryz.prog 192=some (.lit (.int .u32 0))∧szB Tryz.prog 194=some 1∧nzB Tryz.prog 194=true∧aggO Tryz.prog 194=some false:=by and_intros<;>kernel_rfl
@[go_sem] theorem fs127:intB Tryz.prog 194=none∧elemB Tryz.prog 194=none∧szB Tryz.prog 195=some 1∧nzB Tryz.prog 195=true∧aggO Tryz.prog 195=some false∧intB Tryz.prog 195=none∧elemB Tryz.prog 195=none∧szB Tryz.prog 196=some 1∧nzB Tryz.prog 196=true∧aggO Tryz.prog 196=some false:=by and_intros<;>kernel_rfl
@[go_sem] theorem fs128:intB Tryz.prog 196=some .u64∧elemB Tryz.prog 196=none∧elI Tryz.prog 196=some (1,8)∧zeroOf Tryz.prog 196=some (.lit (.int .u64 0))∧szB Tryz.prog 198=some 1∧nzB Tryz.prog 198=true∧aggO Tryz.prog 198=some false∧intB Tryz.prog 198=none∧elemB Tryz.prog 198=none∧szB Tryz.prog 199=some 1:=by and_intros<;>kernel_rfl
@[go_sem] theorem fs129:nzB Tryz.prog 199=true∧aggO Tryz.prog 199=some false∧intB Tryz.prog 199=none∧elemB Tryz.prog 199=none∧szB Tryz.prog 200=some 3∧nzB Tryz.prog 200=true∧aggO Tryz.prog 200=some true∧intB Tryz.prog 200=none∧elemB Tryz.prog 200=none∧arrB Tryz.prog 200=none:=by and_intros<;>kernel_rfl
@[go_sem] theorem fs130:fldB Tryz.prog 200 0=some (0,9)∧fldB Tryz.prog 200 1=some (1,9)∧fldB Tryz.prog 200 2=some (2,167)∧plB Tryz.prog 200=some [(0,1),(1,1),(2,1)]∧fldsB Tryz.prog 200=some [(0,9),(1,9),(2,167)]∧Tryz.prog.stoodInHeld 200=false∧szB Tryz.prog 201=some 3∧nzB Tryz.prog 201=true∧aggO Tryz.prog 201=some true∧intB Tryz.prog 201=none:=by and_intros<;>kernel_rfl
@[go_sem] theorem fs131:elemB Tryz.prog 201=none∧arrB Tryz.prog 201=none∧fldB Tryz.prog 201 0=some (0,9)∧fldB Tryz.prog 201 1=some (1,9)∧fldB Tryz.prog 201 2=some (2,167)∧plB Tryz.prog 201=some [(0,1),(1,1),(2,1)]∧fldsB Tryz.prog 201=some [(0,9),(1,9),(2,167)]∧Tryz.prog.stoodInHeld 201=false∧szB Tryz.prog 202=some 1∧nzB Tryz.prog 202=true:=by and_intros<;>kernel_rfl
@[go_sem] theorem fs132:aggO Tryz.prog 202=some false∧intB Tryz.prog 202=none∧elemB Tryz.prog 202=none∧szB Tryz.prog 203=some 1∧nzB Tryz.prog 203=true∧aggO Tryz.prog 203=some false∧intB Tryz.prog 203=none∧elemB Tryz.prog 203=none∧szB Tryz.prog 204=some 256∧nzB Tryz.prog 204=true:=by and_intros<;>kernel_rfl
@[go_sem] theorem fs133:aggO Tryz.prog 204=some true∧intB Tryz.prog 204=none∧elemB Tryz.prog 204=none∧arrB Tryz.prog 204=some (256,5)∧elI Tryz.prog 204=some (256,256)∧zeroOf Tryz.prog 204=some (.agg (List.replicate 256 (.lit (.int .u8 0))))∧szB Tryz.prog 205=some 2∧nzB Tryz.prog 205=true∧aggO Tryz.prog 205=some true∧intB Tryz.prog 205=none:=by and_intros<;>kernel_rfl
@[go_sem] theorem fs134:elemB Tryz.prog 205=none∧arrB Tryz.prog 205=none∧fldB Tryz.prog 205 0=some (0,5)∧fldB Tryz.prog 205 1=some (1,5)∧plB Tryz.prog 205=some [(0,1),(1,1)]∧fldsB Tryz.prog 205=some [(0,5),(1,5)]∧Tryz.prog.stoodInHeld 205=false∧Tryz.prog.eqGuardType Tryz.prog.depth 205=false∧elI Tryz.prog 205=some (2,2)∧zeroOf Tryz.prog 205=some (.agg [.lit (.int .u8 0),.lit (.int .u8 0)]):=by and_intros<;>kernel_rfl
@[go_sem] theorem fs135:szB Tryz.prog 206=some 2∧nzB Tryz.prog 206=true∧aggO Tryz.prog 206=some true∧intB Tryz.prog 206=none∧elemB Tryz.prog 206=none∧arrB Tryz.prog 206=none∧fldB Tryz.prog 206 0=some (0,5)∧fldB Tryz.prog 206 1=some (1,5)∧plB Tryz.prog 206=some [(0,1),(1,1)]∧fldsB Tryz.prog 206=some [(0,5),(1,5)]:=by and_intros<;>kernel_rfl
@[go_sem] theorem fs136:Tryz.prog.stoodInHeld 206=false∧Tryz.prog.eqGuardType Tryz.prog.depth 206=false∧elI Tryz.prog 206=some (2,2)∧zeroOf Tryz.prog 206=some (.agg [.lit (.int .u8 0),.lit (.int .u8 0)])∧szB Tryz.prog 207=some 32∧nzB Tryz.prog 207=true∧aggO Tryz.prog 207=some true∧intB Tryz.prog 207=none∧elemB Tryz.prog 207=none∧arrB Tryz.prog 207=some (16,206):=by and_intros<;>kernel_rfl
@[go_sem] theorem fs137:elI Tryz.prog 207=some (32,32)∧zeroOf Tryz.prog 207=some (.agg (List.replicate 16 (.agg [.lit (.int .u8 0),.lit (.int .u8 0)])))∧szB Tryz.prog 208=some 1∧nzB Tryz.prog 208=true∧aggO Tryz.prog 208=some false∧intB Tryz.prog 208=none∧elemB Tryz.prog 208=none∧szB Tryz.prog 209=some 1∧nzB Tryz.prog 209=true∧aggO Tryz.prog 209=some false:=by and_intros<;>kernel_rfl
@[go_sem] theorem fs138:intB Tryz.prog 209=none∧elemB Tryz.prog 209=none∧elI Tryz.prog 209=some (1,8)∧zeroOf Tryz.prog 209=some (.lit (.pointer none))∧szB Tryz.prog 210=some 1∧nzB Tryz.prog 210=true∧aggO Tryz.prog 210=some false∧intB Tryz.prog 210=none∧elemB Tryz.prog 210=none∧elI Tryz.prog 210=some (1,8):=by and_intros<;>kernel_rfl
@[go_sem] theorem fs139:zeroOf Tryz.prog 210=some (.lit (.pointer none))∧szB Tryz.prog 211=some 1∧nzB Tryz.prog 211=true∧aggO Tryz.prog 211=some true∧intB Tryz.prog 211=none∧elemB Tryz.prog 211=none∧arrB Tryz.prog 211=none∧fldB Tryz.prog 211 0=some (0,9)∧plB Tryz.prog 211=some [(0,1)]∧fldsB Tryz.prog 211=some [(0,9)]:=by and_intros<;>kernel_rfl
@[go_sem] theorem fs140:Tryz.prog.stoodInHeld 211=false∧Tryz.prog.eqGuardType Tryz.prog.depth 211=false∧elI Tryz.prog 211=some (1,16)∧szB Tryz.prog 212=some 1∧nzB Tryz.prog 212=true∧aggO Tryz.prog 212=some true∧intB Tryz.prog 212=none∧elemB Tryz.prog 212=none∧arrB Tryz.prog 212=none∧fldB Tryz.prog 212 0=some (0,9):=by and_intros<;>kernel_rfl
@[go_sem] theorem fs141:plB Tryz.prog 212=some [(0,1)]∧fldsB Tryz.prog 212=some [(0,9)]∧Tryz.prog.stoodInHeld 212=false∧Tryz.prog.eqGuardType Tryz.prog.depth 212=false∧elI Tryz.prog 212=some (1,16)∧szB Tryz.prog 213=some 1∧nzB Tryz.prog 213=true∧aggO Tryz.prog 213=some false∧intB Tryz.prog 213=none∧elemB Tryz.prog 213=none:=by and_intros<;>kernel_rfl
@[go_sem] theorem fs142:szB Tryz.prog 214=some 24∧nzB Tryz.prog 214=true∧aggO Tryz.prog 214=some true∧intB Tryz.prog 214=none∧elemB Tryz.prog 214=none∧arrB Tryz.prog 214=some (24,5)∧elI Tryz.prog 214=some (24,24)∧zeroOf Tryz.prog 214=some (.agg (List.replicate 24 (.lit (.int .u8 0))))∧szB Tryz.prog 215=some 1∧nzB Tryz.prog 215=true:=by and_intros<;>kernel_rfl
@[go_sem] theorem fs143:aggO Tryz.prog 215=some false∧intB Tryz.prog 215=none∧elemB Tryz.prog 215=none∧szB Tryz.prog 216=some 1∧nzB Tryz.prog 216=true∧aggO Tryz.prog 216=some false∧intB Tryz.prog 216=none∧elemB Tryz.prog 216=none∧szB Tryz.prog 218=some 1∧nzB Tryz.prog 218=true:=by and_intros<;>kernel_rfl
@[go_sem] theorem fs144:aggO Tryz.prog 218=some false∧intB Tryz.prog 218=none∧elemB Tryz.prog 218=none∧szB Tryz.prog 219=some 1∧nzB Tryz.prog 219=true∧aggO Tryz.prog 219=some false∧intB Tryz.prog 219=none∧elemB Tryz.prog 219=none∧szB Tryz.prog 220=some 20∧nzB Tryz.prog 220=true:=by and_intros<;>kernel_rfl
@[go_sem] theorem fs145:aggO Tryz.prog 220=some true∧intB Tryz.prog 220=none∧elemB Tryz.prog 220=none∧arrB Tryz.prog 220=some (20,196)∧elI Tryz.prog 220=some (20,160)∧zeroOf Tryz.prog 220=some (.agg (List.replicate 20 (.lit (.int .u64 0))))∧szB Tryz.prog 221=some 65∧nzB Tryz.prog 221=true∧aggO Tryz.prog 221=some true∧intB Tryz.prog 221=none:=by and_intros<;>kernel_rfl
@[go_sem] theorem fs146:elemB Tryz.prog 221=none∧arrB Tryz.prog 221=some (65,5)∧elI Tryz.prog 221=some (65,65)∧zeroOf Tryz.prog 221=some (.agg (List.replicate 65 (.lit (.int .u8 0))))∧szB Tryz.prog 222=some 1∧nzB Tryz.prog 222=true∧aggO Tryz.prog 222=some false∧intB Tryz.prog 222=none∧elemB Tryz.prog 222=none∧szB Tryz.prog 223=some 1:=by and_intros<;>kernel_rfl
@[go_sem] theorem fs147:nzB Tryz.prog 223=true∧aggO Tryz.prog 223=some false∧intB Tryz.prog 223=none∧elemB Tryz.prog 223=none∧szB Tryz.prog 224=some 32∧nzB Tryz.prog 224=true∧aggO Tryz.prog 224=some true∧intB Tryz.prog 224=none∧elemB Tryz.prog 224=none∧arrB Tryz.prog 224=some (32,5):=by and_intros<;>kernel_rfl
@[go_sem] theorem fs148:elI Tryz.prog 224=some (32,32)∧zeroOf Tryz.prog 224=some (.agg (List.replicate 32 (.lit (.int .u8 0))))∧szB Tryz.prog 225=some 64∧nzB Tryz.prog 225=true∧aggO Tryz.prog 225=some true∧intB Tryz.prog 225=none∧elemB Tryz.prog 225=none∧arrB Tryz.prog 225=some (64,5)∧elI Tryz.prog 225=some (64,64)∧zeroOf Tryz.prog 225=some (.agg (List.replicate 64 (.lit (.int .u8 0)))):=by and_intros<;>kernel_rfl
@[go_sem] theorem fs149:szB Tryz.prog 226=some 1∧nzB Tryz.prog 226=true∧aggO Tryz.prog 226=some false∧intB Tryz.prog 226=none∧elemB Tryz.prog 226=none∧szB Tryz.prog 227=some 4∧nzB Tryz.prog 227=true∧aggO Tryz.prog 227=some true∧intB Tryz.prog 227=none∧elemB Tryz.prog 227=none:=by and_intros<;>kernel_rfl
@[go_sem] theorem fs150:arrB Tryz.prog 227=none∧fldB Tryz.prog 227 0=some (0,17)∧fldB Tryz.prog 227 1=some (1,17)∧fldB Tryz.prog 227 2=some (2,17)∧fldB Tryz.prog 227 3=some (3,9)∧plB Tryz.prog 227=some [(0,1),(1,1),(2,1),(3,1)]∧fldsB Tryz.prog 227=some [(0,17),(1,17),(2,17),(3,9)]∧szB Tryz.prog 228=some 4∧nzB Tryz.prog 228=true∧aggO Tryz.prog 228=some true:=by and_intros<;>kernel_rfl
@[go_sem] theorem fs151:intB Tryz.prog 228=none∧elemB Tryz.prog 228=none∧arrB Tryz.prog 228=none∧fldB Tryz.prog 228 0=some (0,17)∧fldB Tryz.prog 228 1=some (1,17)∧fldB Tryz.prog 228 2=some (2,17)∧fldB Tryz.prog 228 3=some (3,9)∧plB Tryz.prog 228=some [(0,1),(1,1),(2,1),(3,1)]∧fldsB Tryz.prog 228=some [(0,17),(1,17),(2,17),(3,9)]∧szB Tryz.prog 232=some 1:=by and_intros<;>kernel_rfl
@[go_sem] theorem fs152:nzB Tryz.prog 232=true∧aggO Tryz.prog 232=some false∧intB Tryz.prog 232=some .u8∧elemB Tryz.prog 232=none∧elI Tryz.prog 232=some (1,1)∧zeroOf Tryz.prog 232=some (.lit (.int .u8 0))∧szB Tryz.prog 233=some 1∧nzB Tryz.prog 233=true∧aggO Tryz.prog 233=some false∧intB Tryz.prog 233=some .u8:=by and_intros<;>kernel_rfl
@[go_sem] theorem fs153:elemB Tryz.prog 233=none∧elI Tryz.prog 233=some (1,1)∧zeroOf Tryz.prog 233=some (.lit (.int .u8 0))∧szB Tryz.prog 234=some 1∧nzB Tryz.prog 234=true∧aggO Tryz.prog 234=some false∧intB Tryz.prog 234=none∧elemB Tryz.prog 234=none∧szB Tryz.prog 235=some 1∧nzB Tryz.prog 235=true:=by and_intros<;>kernel_rfl
@[go_sem] theorem fs154:aggO Tryz.prog 235=some false∧intB Tryz.prog 235=some .i32∧elemB Tryz.prog 235=none∧elI Tryz.prog 235=some (1,4)∧zeroOf Tryz.prog 235=some (.lit (.int .i32 0))∧szB Tryz.prog 236=some 1∧nzB Tryz.prog 236=true∧aggO Tryz.prog 236=some false∧intB Tryz.prog 236=some .i32∧elemB Tryz.prog 236=none:=by and_intros<;>kernel_rfl
@[go_sem] theorem fs155:elI Tryz.prog 236=some (1,4)∧zeroOf Tryz.prog 236=some (.lit (.int .i32 0))∧szB Tryz.prog 237=some 11∧nzB Tryz.prog 237=true∧aggO Tryz.prog 237=some true∧intB Tryz.prog 237=none∧elemB Tryz.prog 237=none∧arrB Tryz.prog 237=none∧fldB Tryz.prog 237 0=some (0,12)∧fldB Tryz.prog 237 1=some (1,12):=by and_intros<;>kernel_rfl
@[go_sem] theorem fs156:fldB Tryz.prog 237 2=some (2,192)∧fldB Tryz.prog 237 3=some (3,232)∧fldB Tryz.prog 237 4=some (4,5)∧fldB Tryz.prog 237 5=some (5,5)∧fldB Tryz.prog 237 6=some (6,233)∧fldB Tryz.prog 237 7=some (7,234)∧fldB Tryz.prog 237 8=some (8,209)∧fldB Tryz.prog 237 9=some (9,235)∧fldB Tryz.prog 237 10=some (10,236)∧plB Tryz.prog 237=some [(0,1),(1,1),(2,1),(3,1),(4,1),(5,1),(6,1),(7,1),(8,1),(9,1),(10,1)]:=by and_intros<;>kernel_rfl
@[go_sem] theorem fs157:fldsB Tryz.prog 237=some [(0,12),(1,12),(2,192),(3,232),(4,5),(5,5),(6,233),(7,234),(8,209),(9,235),(10,236)]∧szB Tryz.prog 238=some 11∧nzB Tryz.prog 238=true∧aggO Tryz.prog 238=some true∧intB Tryz.prog 238=none∧elemB Tryz.prog 238=none∧arrB Tryz.prog 238=none∧fldB Tryz.prog 238 0=some (0,12)∧fldB Tryz.prog 238 1=some (1,12)∧fldB Tryz.prog 238 2=some (2,192):=by and_intros<;>kernel_rfl
@[go_sem] theorem fs158:fldB Tryz.prog 238 3=some (3,232)∧fldB Tryz.prog 238 4=some (4,5)∧fldB Tryz.prog 238 5=some (5,5)∧fldB Tryz.prog 238 6=some (6,233)∧fldB Tryz.prog 238 7=some (7,234)∧fldB Tryz.prog 238 8=some (8,209)∧fldB Tryz.prog 238 9=some (9,235)∧fldB Tryz.prog 238 10=some (10,236)∧plB Tryz.prog 238=some [(0,1),(1,1),(2,1),(3,1),(4,1),(5,1),(6,1),(7,1),(8,1),(9,1),(10,1)]∧fldsB Tryz.prog 238=some [(0,12),(1,12),(2,192),(3,232),(4,5),(5,5),(6,233),(7,234),(8,209),(9,235),(10,236)]:=by and_intros<;>kernel_rfl
@[go_sem] theorem fs159:entB Tryz.prog 3=true∧entB Tryz.prog 4=true∧entB Tryz.prog 5=true∧entB Tryz.prog 6=true∧entB Tryz.prog 7=true∧entB Tryz.prog 8=true∧entB Tryz.prog 9=true∧entB Tryz.prog 10=true∧entB Tryz.prog 11=true∧entB Tryz.prog 12=true:=by and_intros<;>kernel_rfl
@[go_sem] theorem fs160:entB Tryz.prog 13=true∧entB Tryz.prog 14=true∧entB Tryz.prog 15=true∧entB Tryz.prog 16=true∧entB Tryz.prog 17=true∧entB Tryz.prog 18=true∧entB Tryz.prog 19=true∧entB Tryz.prog 20=true∧entB Tryz.prog 21=true∧entB Tryz.prog 22=true:=by and_intros<;>kernel_rfl
@[go_sem] theorem fs161:entB Tryz.prog 23=true∧entB Tryz.prog 24=true∧entB Tryz.prog 25=true∧entB Tryz.prog 26=true∧entB Tryz.prog 27=true∧entB Tryz.prog 28=true∧entB Tryz.prog 29=true∧entB Tryz.prog 30=true∧entB Tryz.prog 31=true∧entB Tryz.prog 32=true:=by and_intros<;>kernel_rfl
@[go_sem] theorem fs162:entB Tryz.prog 33=true∧entB Tryz.prog 34=true∧entB Tryz.prog 35=true∧entB Tryz.prog 36=true∧entB Tryz.prog 37=true∧entB Tryz.prog 38=true∧entB Tryz.prog 39=true∧entB Tryz.prog 40=true∧entB Tryz.prog 41=true∧entB Tryz.prog 42=true:=by and_intros<;>kernel_rfl
@[go_sem] theorem fs163:entB Tryz.prog 43=true∧entB Tryz.prog 44=true∧entB Tryz.prog 45=true∧entB Tryz.prog 46=true∧entB Tryz.prog 47=true∧entB Tryz.prog 48=true∧entB Tryz.prog 49=true∧entB Tryz.prog 50=true∧entB Tryz.prog 51=true∧entB Tryz.prog 52=true:=by and_intros<;>kernel_rfl
@[go_sem] theorem fs164:entB Tryz.prog 53=true∧entB Tryz.prog 54=true∧entB Tryz.prog 55=true∧entB Tryz.prog 56=true∧entB Tryz.prog 57=true∧entB Tryz.prog 58=true∧entB Tryz.prog 59=true∧entB Tryz.prog 60=true∧entB Tryz.prog 61=true∧entB Tryz.prog 62=true:=by and_intros<;>kernel_rfl
@[go_sem] theorem fs165:entB Tryz.prog 63=true∧entB Tryz.prog 64=true∧entB Tryz.prog 65=true∧entB Tryz.prog 66=true∧entB Tryz.prog 67=true∧entB Tryz.prog 68=true∧entB Tryz.prog 69=true∧entB Tryz.prog 70=true∧entB Tryz.prog 71=true∧entB Tryz.prog 72=true:=by and_intros<;>kernel_rfl
@[go_sem] theorem fs166:entB Tryz.prog 73=true∧entB Tryz.prog 74=true∧entB Tryz.prog 75=true∧entB Tryz.prog 76=true∧entB Tryz.prog 77=true∧entB Tryz.prog 78=true∧entB Tryz.prog 79=true∧entB Tryz.prog 80=true∧entB Tryz.prog 81=true∧entB Tryz.prog 82=true:=by and_intros<;>kernel_rfl
@[go_sem] theorem fs167:entB Tryz.prog 83=true∧entB Tryz.prog 84=true∧entB Tryz.prog 85=true∧entB Tryz.prog 86=true∧entB Tryz.prog 87=true∧entB Tryz.prog 88=true∧entB Tryz.prog 89=true∧entB Tryz.prog 90=true∧entB Tryz.prog 91=true∧entB Tryz.prog 92=true:=by and_intros<;>kernel_rfl
@[go_sem] theorem fs168:entB Tryz.prog 93=true∧entB Tryz.prog 94=true∧entB Tryz.prog 95=true∧entB Tryz.prog 96=true∧entB Tryz.prog 97=true∧entB Tryz.prog 98=true∧entB Tryz.prog 99=true∧entB Tryz.prog 100=true∧entB Tryz.prog 101=true∧entB Tryz.prog 102=true:=by and_intros<;>kernel_rfl
@[go_sem] theorem fs169:entB Tryz.prog 103=true∧entB Tryz.prog 104=true∧entB Tryz.prog 105=true∧entB Tryz.prog 107=true∧entB Tryz.prog 110=true∧entB Tryz.prog 111=true∧entB Tryz.prog 112=true∧entB Tryz.prog 113=true∧entB Tryz.prog 114=true∧entB Tryz.prog 115=true:=by and_intros<;>kernel_rfl
@[go_sem] theorem fs170:entB Tryz.prog 116=true∧entB Tryz.prog 117=true∧entB Tryz.prog 118=true∧entB Tryz.prog 119=true∧entB Tryz.prog 120=true∧entB Tryz.prog 121=true∧entB Tryz.prog 122=true∧entB Tryz.prog 123=true∧entB Tryz.prog 125=true∧entB Tryz.prog 126=true:=by and_intros<;>kernel_rfl
@[go_sem] theorem fs171:entB Tryz.prog 127=true∧entB Tryz.prog 130=true∧entB Tryz.prog 135=true∧entB Tryz.prog 136=true∧entB Tryz.prog 139=true∧entB Tryz.prog 140=true∧entB Tryz.prog 141=true∧entB Tryz.prog 142=true∧entB Tryz.prog 145=true∧entB Tryz.prog 146=true:=by and_intros<;>kernel_rfl
@[go_sem] theorem fs172:entB Tryz.prog 149=true∧entB Tryz.prog 150=true∧entB Tryz.prog 160=true∧entB Tryz.prog 163=true∧entB Tryz.prog 164=true∧entB Tryz.prog 165=true∧entB Tryz.prog 195=true:=by and_intros<;>kernel_rfl
@[go_sem] theorem fact_mixed:Tryz.prog.follows .mixedOrders=true:=by kernel_rfl
end Go.Proofs.YtdjmklobfjigoaaGreatDoor
namespace Go.Proofs.YtdjmklobfjigoaaGreatDoor
open Go.RowKit Sy
attribute [local go_sem] Oper.semAt_some
abbrev Prt:=List Nat×Int×Int
def absI (r:Int):Int:=max r (-r)
def prtYs (node:Int) (inn:Bool):Nat→List Prt→List Int→List (Nat×Int)
 | k,p :: ps,r :: rs=>if p.2.1=node∧r≠0∧decide (r > 0)=inn then (k,absI r) :: prtYs node inn (k+1) ps rs else prtYs node inn (k+1) ps rs
 | _,_,_=>[]
def encY (y:Nat×Int):List Value:=[.int .i64 y.1,.int .i64 y.2]
structure PrtRd (b1 b2 b3:Nat) (node:Int) (inn:Bool) (rates:List Int) (A:World) (xb:Nat) (rb ro rc:Nat):Prop where
 c1:A.cell? ⟨b1,0,none⟩=some (.pointer (some ⟨xb,0,none⟩))
 c2:A.cell? ⟨b2,0,none⟩=some (.int .i64 node)
 c3:A.cell? ⟨b3,0,none⟩=some (.bool inn)
 c7:A.cell? ⟨xb,7,none⟩=some (.slice (some ⟨rb,ro,none⟩) rates.length rc)
 le:rates.length≤rc
 rs:∀ i r,rates[i]? = some r→A.cell? ⟨rb,ro+i,none⟩=some (.int .i64 r)
def PrtAt (pb po:Nat) (ports:List Prt) (A:World):Prop:=∀ i p,ports[i]? = some p→A.cell? ⟨pb,po+i * 3,none⟩=some (.string (str p.1))∧A.cell? ⟨pb,po+i * 3+1,none⟩=some (.int .i64 p.2.1)∧A.cell? ⟨pb,po+i * 3+2,none⟩=some (.int .i64 p.2.2)
theorem cell_more {A:World} (o2:Obj) {b o:Nat} {v:Value} (h:A.cell? ⟨b,o,none⟩=some v):(A.alloc o2).cell? ⟨b,o,none⟩=some v:=by
 rw[cell_block (Below.heap_alloc A _ b ?_)]
 ·exact h
 ·obtain⟨oo,h1,_⟩:=cells_of_cell h
  exact (Array.getElem?_eq_some_iff.1 h1).1
theorem PrtAt.more {pb po:Nat} {ports:List Prt} {A:World} (h:PrtAt pb po ports A) (o2:Obj):PrtAt pb po ports (A.alloc o2):=fun i p hp=>by
 obtain⟨h1,h2,h3⟩:=h i p hp
 exact⟨cell_more o2 h1,cell_more o2 h2,cell_more o2 h3⟩
theorem PrtAt.keep {pb po:Nat} {ports:List Prt} {A B:World} (h:PrtAt pb po ports A) {F0:Nat→Prop} (hF:F0 pb) (hk:∀ b o,F0 b→B.cell? ⟨b,o,none⟩=A.cell? ⟨b,o,none⟩):PrtAt pb po ports B:=fun i p hp=>by
 obtain⟨h1,h2,h3⟩:=h i p hp
 exact⟨(hk pb _ hF).trans h1,(hk pb _ hF).trans h2,(hk pb _ hF).trans h3⟩
theorem ports1_in (l:Nat) (b1 b2 b3:Nat) (node:Int) (inn:Bool) (ports:List Prt) (rates:List Int) (hlen:rates.length=ports.length) (hl2:ports.length≤1000) (hrate:∀ r∈rates,-1000000000≤r∧r≤1000000000) (F0:Nat→Prop)
  (J:Nat→World→Prop) (Jx:World→Prop) (W:World) (hJ:∀ k A B,J k A→Below A.heap.size A B→J k B) (hJx:∀ A B,Jx A→Below A.heap.size A B→Jx B)
  (hRd:∀ k A,J k A→∃ xb rb ro rc,PrtRd b1 b2 b3 node inn rates A xb rb ro rc)
  (hY:∀ k y A,(prtYs node inn 0 ports rates)[k]? = some y→J k A→YieldAt Fence.wide 7 Tryz.prog l (encY y).toArray A fun e B=>(∀ b o,F0 b→B.cell? ⟨b,o,none⟩=A.cell? ⟨b,o,none⟩)∧((e = .returned (.bool true)∧J (k+1) B)∨(e = .returned (.bool false)∧Jx B)))
  (h0:J 0 W) (xb pb po pc:Nat) (g1:W.cell? ⟨b1,0,none⟩=some (.pointer (some ⟨xb,0,none⟩))) (g2:W.cell? ⟨xb,2,none⟩=some (.slice (some ⟨pb,po,none⟩) ports.length pc)) (g3:ports.length≤pc) (g4:F0 pb)
  (g5:PrtAt pb po ports W) :
  CallsIn Fence.wide 8 Tryz.prog 98 #[.func (.yield l) #[] #[],.pointer (some ⟨b1,0,none⟩),.pointer (some ⟨b2,0,none⟩),.pointer (some ⟨b3,0,none⟩)] W fun e B=>(∃ v,e = .returned v)∧(J (prtYs node inn 0 ports rates).length B∨Jx B):=by
 obtain⟨ys,hys⟩:∃ ys,prtYs node inn 0 ports rates=ys:=⟨_,rfl⟩
 rw[hys]at hY ⊢
 have hn:(8:Nat) - 1=7:=rfl
 refine callsIn_of_wp Tryz.func98 rfl trivial ?_ rfl
 simp only[Tryz.ntmps98,List.size_toArray,List.length_cons,List.length_nil,Nat.reduceAdd,Nat.reduceSub,Array.replicate_succ,Array.replicate_zero,List.push_toArray,List.append_toArray,List.nil_append,List.cons_append]
 gi_wp2
 gi_loopw [14] (fun i wr=>∃ (k kk:Nat),k≤ports.length∧i = .int .i64 k∧ys.drop kk=prtYs node inn k (ports.drop k) (rates.drop k)∧kk≤ys.length∧J kk wr∧PrtAt pb po ports wr)
  (fun i _=>ports.length - (intOf i).toNat)
 case atStart=>exact⟨0,0,Nat.zero_le _,rfl,by simpa using hys.symm,Nat.zero_le _,h0,g5⟩
 case round=>
  obtain⟨k,kk,hk,rfl,hdr,hkk,hJk,hF⟩:=hrel
  obtain⟨xb',rb,ro,rc,R⟩:=hRd kk wr hJk
  have c1:=R.c1
  have c2:=R.c2
  have c3:=R.c3
  have c7:=R.c7
  have hle:=R.le
  by_cases hlt:k < ports.length
  ·obtain⟨⟨nm,nd,pr⟩,hp⟩:=has_get hlt
   obtain⟨r,hr⟩:∃ r,rates[k]? = some r:=has_get (by omega)
   have q1:=R.rs k r hr
   obtain⟨p1,p2,p3⟩:=hF k _ hp
   dsimp only at p1 p2 p3
   have hd1:ports.drop k=(nm,nd,pr) :: ports.drop (k+1):=drop_get hp
   have hd2:rates.drop k=r :: rates.drop (k+1):=drop_get hr
   rw[hd1,hd2]at hdr
   obtain⟨o2,ho2⟩:∃ o2:Obj,o2 = .cells #[.string (str nm),.int .i64 nd,.int .i64 pr] 28:=⟨_,rfl⟩
   have n1:(wr.alloc o2).cell? ⟨wr.heap.size,1,none⟩=some (.int .i64 nd):=by
    have:=World.alloc_heap_new wr o2
    rw[ho2]at this ⊢
    rw[cell_of_row _ _ 1 _ _ (0,0) this];rfl
   have a1:=cell_more o2 c1
   have a2:=cell_more o2 c2
   have a3:=cell_more o2 c3
   have a7:=cell_more o2 c7
   have aq:=cell_more o2 q1
   have hF2:=hF.more o2
   have hb2:Below wr.heap.size wr (wr.alloc o2):=(Below.refl _ wr).alloc (Nat.le_refl _) _
   have hJ2:=hJ kk _ _ hJk hb2
   rw[ho2]at a1 a2 a3 a7 aq n1 hF2 hJ2
   have hrb:=hrate r (List.mem_of_getElem? hr)
   have hng:IntKind.i64.wrap (0 - r)=- r:=by rw[IntKind.wrap_i64];omega
   have hng2:IntKind.i64.wrap (-r)=- r:=by rw[IntKind.wrap_i64];omega
   by_cases hnd:nd=node
   ·subst hnd
    by_cases hr0:r=0
    ·subst hr0
     gi_wp2
     go_roundw
     case rel=>exact⟨k+1,kk,by omega,by simp,by simpa [prtYs] using hdr,hkk,hJ2,hF2⟩
     case measure=>simp[intOf];omega
    ·by_cases hsg:0 < r
     ·have hx1:¬ r < -r:=by omega
      cases inn with
      | true=>
       have hab:absI r=r:=by unfold absI;omega
       have hdr2:ys.drop kk=(k,r) :: prtYs nd true (k+1) (ports.drop (k+1)) (rates.drop (k+1)):=by rw[hdr];simp only[prtYs];rw[if_pos (by simp[hr0,hsg]),hab]
       have hyk:ys[kk]? = some (k,r):=by
        have:=congrArg (fun l=>l[0]?) hdr2
        simpa using this
       have hkl:kk < ys.length:=(List.getElem?_eq_some_iff.1 hyk).1
       obtain⟨fn,tmps,assign,body,hy,hR⟩:=hY kk _ _ hyk hJ2
       unfold encY at hy
       dsimp only at hy
       gi_wp2
       refine hR.mono ?_
       rintro e W3 ⟨hk3,⟨rfl,hJ3⟩|⟨rfl,hJx3⟩⟩
       ·gi_wp2
        go_roundw
        case rel=>exact⟨k+1,kk+1,by omega,by simp,by rw[←List.drop_drop,hdr2];rfl,hkl,hJ3,hF2.keep g4 hk3⟩
        case measure=>simp[intOf];omega
       ·gi_wp2
        refine bodyPost_ret (results_none rfl _ _ _) rfl ?_
        exact⟨⟨_,rfl⟩,.inr hJx3⟩
      | false=>
       gi_wp2
       go_roundw
       case rel=>exact⟨k+1,kk,by omega,by simp,by rw[hdr];simp only[prtYs];rw[if_neg (by simp;try omega)],hkk,hJ2,hF2⟩
       case measure=>simp[intOf];omega
     ·have hx1:r < -r:=by omega
      cases inn with
      | true=>
       gi_wp2
       go_roundw
       case rel=>exact⟨k+1,kk,by omega,by simp,by rw[hdr];simp only[prtYs];rw[if_neg (by simp;try omega)],hkk,hJ2,hF2⟩
       case measure=>simp[intOf];omega
      | false=>
       have hab:absI r=(-r):=by unfold absI;omega
       have hdr2:ys.drop kk=(k,(-r)) :: prtYs nd false (k+1) (ports.drop (k+1)) (rates.drop (k+1)):=by rw[hdr];simp only[prtYs];rw[if_pos (by simp[hr0,hsg]),hab]
       have hyk:ys[kk]? = some (k,(-r)):=by
        have:=congrArg (fun l=>l[0]?) hdr2
        simpa using this
       have hkl:kk < ys.length:=(List.getElem?_eq_some_iff.1 hyk).1
       obtain⟨fn,tmps,assign,body,hy,hR⟩:=hY kk _ _ hyk hJ2
       unfold encY at hy
       dsimp only at hy
       gi_wp2
       refine hR.mono ?_
       rintro e W3 ⟨hk3,⟨rfl,hJ3⟩|⟨rfl,hJx3⟩⟩
       ·gi_wp2
        go_roundw
        case rel=>exact⟨k+1,kk+1,by omega,by simp,by rw[←List.drop_drop,hdr2];rfl,hkl,hJ3,hF2.keep g4 hk3⟩
        case measure=>simp[intOf];omega
       ·gi_wp2
        refine bodyPost_ret (results_none rfl _ _ _) rfl ?_
        exact⟨⟨_,rfl⟩,.inr hJx3⟩
   ·gi_wp2
    go_roundw
    case rel=>exact⟨k+1,kk,by omega,by simp,by simpa [prtYs,hnd] using hdr,hkk,hJ2,hF2⟩
    case measure=>simp[intOf];omega
  ·obtain rfl:k=ports.length:=by omega
   have hkl:kk=ys.length:=by
    rw[List.drop_length]at hdr
    have:=congrArg List.length hdr
    simp[prtYs]at this
    omega
   gi_wp2
   go_end0
   exact⟨⟨_,rfl⟩,.inl (by rw[←hkl];exact hJk)⟩
end Go.Proofs.YtdjmklobfjigoaaGreatDoor
namespace Go.Proofs.YtdjmklobfjigoaaGreatDoor
open Go.RowKit Sy
open Go.IntWalk renaming iteOmega → iO, toNatUp → tN
def endA (a b r:Int):Int:=if r < 0 then b else a
def endB (a b r:Int):Int:=if r < 0 then a else b
theorem ends_fn (nm v7:Value) (h1:nm.oneCell'=true) (h7:v7.oneCell'=true) (a b c d e r:Int):FnOk Tryz.prog 97 [.t (.agg [.lit nm,.int a,.int b,.int c,.int d,.int e,.lit v7]),.t (.int r)] [] (.tup [.t (.int (endA a b r)),.t (.int (endB a b r))]) []:=by
 refine FnOk.intro fact_mixed Tryz.func97 rfl Tryz.ntmps97 (by rfl) (by simp) ?_
 by_cases hr:r < 0
 ·have e1:endA a b r=b:=if_pos hr
  have e2:endB a b r=a:=if_pos hr
  repeat (first|(refine n1s rfl ?_;simp[go_sem,↓iO,iO,tN])|refine anI ?_|refine⟨dcK,?_⟩|refine iP ?_|refine iN ?_)
  first|rw[TqR]|rw[TqN]
  refine⟨[],?_⟩
  simp[go_sem,↓iO,iO,tN,e1,e2]
 ·have e1:endA a b r=a:=if_neg hr
  have e2:endB a b r=b:=if_neg hr
  repeat (first|(refine n1s rfl ?_;simp[go_sem,↓iO,iO,tN])|refine anI ?_|refine⟨dcK,?_⟩|refine iP ?_|refine iN ?_)
  first|rw[TqR]|rw[TqN]
  refine⟨[],?_⟩
  simp[go_sem,↓iO,iO,tN,e1,e2]
theorem fn_calls {P:Program} {f:FuncId} {ss:List S} {r:S} {us:List Value} {w:World} (h:FnOk P f ss [] r []) (hr:RepPs (lawG w) w ss us) :
  Calls P f us.toArray w fun e w'=>∃ v G',e = .returned v∧Below w.heap.size w w'∧RepS G' w' r v:=by
 refine (h (lawG w) w us ⟨fun l b h=>by simp[lkB]at h,fun l b h=>by simp[lkB]at h,fun l b k h=>by simp[lkB]at h,fun l l' b b' k h=>by simp[lkB]at h,fun b h=>h⟩ hr).mono ?_
 rintro e w' ⟨v,G',rfl,h1,_,h3⟩
 exact⟨v,G',rfl,⟨h1.os,h1.tape,h1.output,h1.size,fun k hk=>h1.block k hk (fun⟨l,x,h4,_⟩=>by simp[lkB]at h4)⟩,h3⟩
theorem ends_call (nm v7:Value) (h1:nm.oneCell'=true) (h7:v7.oneCell'=true) (a b c d e r:Int) (w:World) :
  Calls Tryz.prog 97 #[.agg #[nm,.int .i64 a,.int .i64 b,.int .i64 c,.int .i64 d,.int .i64 e,v7],.int .i64 r] w fun e w'=>e = .returned (.tuple #[.int .i64 (endA a b r),.int .i64 (endB a b r)])∧Below w.heap.size w w':=by
 refine (fn_calls (us:=[_,_]) (ends_fn nm v7 h1 h7 a b c d e r) ?_).mono ?_
 ·refine reps_cons ?_ (reps_cons (rep_lit rfl) reps_nil)
  unfold RepS Rep
  refine⟨[nm,.int .i64 a,.int .i64 b,.int .i64 c,.int .i64 d,.int .i64 e,v7],rfl,?_⟩
  have one:∀ {F:Nat→Prop} {w:World} {v:Value} {xs:List T} {cs:List Value},v.oneCell'=true→Reps F w xs cs→Reps F w (.lit v :: xs) (v :: cs):=fun {F w v xs cs} hv hx=>by
   show Reps _ _ (.lit v :: xs) _
   unfold Reps Rep
   exact⟨v,cs,by rw[cells_one hv];rfl,⟨rfl,hv⟩,hx⟩
  exact one h1 (one rfl (one rfl (one rfl (one rfl (one rfl (one h7 (by unfold Reps;rfl)))))))
 ·rintro e' w' ⟨v,G',rfl,hb,hr⟩
  unfold RepS at hr
  obtain⟨us,rfl,hr⟩:=hr
  unfold RepPs at hr
  obtain⟨v1,r1,rfl,k1,hr⟩:=hr
  unfold RepPs at hr
  obtain⟨v2,r2,rfl,k2,hr⟩:=hr
  unfold RepPs at hr
  subst hr
  unfold RepS Rep at k1 k2
  rw[k1.1,k2.1]
  exact⟨rfl,hb⟩
end Go.Proofs.YtdjmklobfjigoaaGreatDoor
