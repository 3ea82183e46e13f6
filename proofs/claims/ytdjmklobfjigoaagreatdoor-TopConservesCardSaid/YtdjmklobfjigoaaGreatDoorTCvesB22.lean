import Derived.Test.YtdjmklobfjigoaaGreatDoorTCvesB21
import Derived.Test.YtdjmklobfjigoaaGreatDoorTCvesB14
import Derived.Test.YtdjmklobfjigoaaGreatDoorTCvesB8
import Derived.Test.YtdjmklobfjigoaaGreatDoorTCvesB10
import Derived.Test.YtdjmklobfjigoaaGreatDoorTCvesB19
set_option maxRecDepth 100000
set_option maxHeartbeats 16000000
set_option linter.unusedVariables false
set_option linter.unusedSimpArgs false
namespace Go.Proofs.YtdjmklobfjigoaaGreatDoor
open Go.RowKit Sy
open Go.IntWalk renaming iteOmega → iO, toNatUp → tN
set_option maxRecDepth 100000
abbrev txtR:T:=.lit (.string (str [110,101,116,119,111,114,107,32,48,32,48,10,110,111,100,101,32,97,10,110,111,100,101,32,98,10,115,101,103,109,101,110,116,32,115,32,97,32,98,32,49,48,32,48,32,48,10,112,111,105,110,116,32,48,32,48,32,57,48,48,48,48,48,10,112,111,105,110,116,32,49,48,32,48,32,57,48,48,48,48,48,10,112,111,114,116,32,105,110,32,97,32,51,48,48,48,48,48,10,112,111,114,116,32,111,117,116,32,98,32,48,10]))
abbrev linesR:List T:=[.sl 1 [.lit (.string (str [110,101,116,119,111,114,107])),.lit (.string (str [48])),.lit (.string (str [48]))],.sl 1 [.lit (.string (str [110,111,100,101])),.lit (.string (str [97]))],.sl 1 [.lit (.string (str [110,111,100,101])),.lit (.string (str [98]))],.sl 1 [.lit (.string (str [115,101,103,109,101,110,116])),.lit (.string (str [115])),.lit (.string (str [97])),.lit (.string (str [98])),.lit (.string (str [49,48])),.lit (.string (str [48])),.lit (.string (str [48]))],.sl 1 [.lit (.string (str [112,111,105,110,116])),.lit (.string (str [48])),.lit (.string (str [48])),.lit (.string (str [57,48,48,48,48,48]))],.sl 1 [.lit (.string (str [112,111,105,110,116])),.lit (.string (str [49,48])),.lit (.string (str [48])),.lit (.string (str [57,48,48,48,48,48]))],.sl 1 [.lit (.string (str [112,111,114,116])),.lit (.string (str [105,110])),.lit (.string (str [97])),.lit (.string (str [51,48,48,48,48,48]))],.sl 1 [.lit (.string (str [112,111,114,116])),.lit (.string (str [111,117,116])),.lit (.string (str [98])),.lit (.string (str [48]))]]
abbrev netR:T:=.agg [.sl 1 [.lit (.string (str [97])),.lit (.string (str [98]))],.sl 7 [.agg [.lit (.string (str [115])),.int 0,.int 1,.int 10,.int 0,.int 0,.sl 3 [.agg [.int 0,.int 0,.int 900000],.agg [.int 10,.int 0,.int 900000]]]],.sl 3 [.agg [.lit (.string (str [105,110])),.int 0,.int 300000],.agg [.lit (.string (str [111,117,116])),.int 1,.int 0]],.lit (.slice none 0 0),.int 0,.int 0]
theorem split_fn:FnOk Tryz.prog 53 [.t txtR] [] (.tup [.own 500,.t (.int 0)]) [(500,.list 26 1 linesR)]:=evF_spec fact_mixed (knS_ok noKn_ok) 20 _ _ _ _ _ (by kernel_rfl:evF Tryz.prog (knS noKn) [] 200 20 53 [.t txtR] []=some (.tup [.own 500,.t (.int 0)],[(500,.list 26 1 linesR)]))
theorem ln1_fn:FnOk Tryz.prog 54 [.pt 0 [] 0,.t (.sl 1 [.lit (.string (str [110,101,116,119,111,114,107])),.lit (.string (str [48])),.lit (.string (str [48]))])] [(0,.box 106 (.t (.agg [.agg [.lit (.slice none 0 0),.lit (.slice none 0 0),.lit (.slice none 0 0),.lit (.slice none 0 0),.int 0,.int 0],.int 0,.lit (.string (str []))])))] (.t (.int 0)) [(0,.box 106 (.t (.agg [.agg [.lit (.slice none 0 0),.lit (.slice none 0 0),.lit (.slice none 0 0),.lit (.slice none 0 0),.int 0,.int 0],.int 1,.lit (.string (str [110,101,116,119,111,114,107]))])))]:=knLine_ok (kn:=knS noKn) (fz:=[]) (fuel:=200) (n:=20) (knS_ok noKn_ok) (by kernel_rfl)
theorem ln2_fn:FnOk Tryz.prog 54 [.pt 0 [] 0,.t (.sl 1 [.lit (.string (str [110,111,100,101])),.lit (.string (str [97]))])] [(0,.box 106 (.t (.agg [.agg [.lit (.slice none 0 0),.lit (.slice none 0 0),.lit (.slice none 0 0),.lit (.slice none 0 0),.int 0,.int 0],.int 1,.lit (.string (str [110,101,116,119,111,114,107]))])))] (.t (.int 0)) [(0,.box 106 (.ag [.ag [.own 1000,.t (.lit (.slice none 0 0)),.t (.lit (.slice none 0 0)),.t (.lit (.slice none 0 0)),.t (.int 0),.t (.int 0)],.t (.int 2),.t (.lit (.string (str [110,111,100,101])))])),(1000,.list 9 1 [.lit (.string (str [97]))])]:=knLine_ok (kn:=knS noKn) (fz:=[]) (fuel:=200) (n:=20) (knS_ok noKn_ok) (by kernel_rfl)
theorem ln3_fn:FnOk Tryz.prog 54 [.pt 0 [] 0,.t (.sl 1 [.lit (.string (str [110,111,100,101])),.lit (.string (str [98]))])] [(0,.box 106 (.ag [.ag [.own 1,.t (.lit (.slice none 0 0)),.t (.lit (.slice none 0 0)),.t (.lit (.slice none 0 0)),.t (.int 0),.t (.int 0)],.t (.int 2),.t (.lit (.string (str [110,111,100,101])))])),(1,.list 9 1 [.lit (.string (str [97]))])] (.t (.int 0)) [(0,.box 106 (.ag [.ag [.own 1000,.t (.lit (.slice none 0 0)),.t (.lit (.slice none 0 0)),.t (.lit (.slice none 0 0)),.t (.int 0),.t (.int 0)],.t (.int 2),.t (.lit (.string (str [110,111,100,101])))])),(1000,.list 9 1 [.lit (.string (str [97])),.lit (.string (str [98]))])]:=knLine_ok (kn:=knS noKn) (fz:=[]) (fuel:=200) (n:=20) (knS_ok noKn_ok) (by kernel_rfl)
theorem ln4_fn:FnOk Tryz.prog 54 [.pt 0 [] 0,.t (.sl 1 [.lit (.string (str [115,101,103,109,101,110,116])),.lit (.string (str [115])),.lit (.string (str [97])),.lit (.string (str [98])),.lit (.string (str [49,48])),.lit (.string (str [48])),.lit (.string (str [48]))])] [(0,.box 106 (.t (.agg [.agg [.sl 1 [.lit (.string (str [97])),.lit (.string (str [98]))],.lit (.slice none 0 0),.lit (.slice none 0 0),.lit (.slice none 0 0),.int 0,.int 0],.int 2,.lit (.string (str [110,111,100,101]))])))] (.t (.int 0)) [(0,.box 106 (.ag [.ag [.t (.sl 1 [.lit (.string (str [97])),.lit (.string (str [98]))]),.own 1000,.t (.lit (.slice none 0 0)),.t (.lit (.slice none 0 0)),.t (.int 0),.t (.int 0)],.t (.int 3),.t (.lit (.string (str [115,101,103,109,101,110,116])))])),(1000,.list 38 7 [.agg [.lit (.string (str [115])),.int 0,.int 1,.int 10,.int 0,.int 0,.lit (.slice none 0 0)]])]:=knLine_ok (kn:=knS noKn) (fz:=[]) (fuel:=200) (n:=20) (knS_ok noKn_ok) (by kernel_rfl)
theorem ln7_fn:FnOk Tryz.prog 54 [.pt 0 [] 0,.t (.sl 1 [.lit (.string (str [112,111,114,116])),.lit (.string (str [105,110])),.lit (.string (str [97])),.lit (.string (str [51,48,48,48,48,48]))])] [(0,.box 106 (.t (.agg [.agg [.sl 1 [.lit (.string (str [97])),.lit (.string (str [98]))],.sl 7 [.agg [.lit (.string (str [115])),.int 0,.int 1,.int 10,.int 0,.int 0,.sl 3 [.agg [.int 0,.int 0,.int 900000],.agg [.int 10,.int 0,.int 900000]]]],.lit (.slice none 0 0),.lit (.slice none 0 0),.int 0,.int 0],.int 3,.lit (.string (str [112,111,105,110,116]))])))] (.t (.int 0)) [(0,.box 106 (.ag [.ag [.t (.sl 1 [.lit (.string (str [97])),.lit (.string (str [98]))]),.t (.sl 7 [.agg [.lit (.string (str [115])),.int 0,.int 1,.int 10,.int 0,.int 0,.sl 3 [.agg [.int 0,.int 0,.int 900000],.agg [.int 10,.int 0,.int 900000]]]]),.own 1000,.t (.lit (.slice none 0 0)),.t (.int 0),.t (.int 0)],.t (.int 4),.t (.lit (.string (str [112,111,114,116])))])),(1000,.list 28 3 [.agg [.lit (.string (str [105,110])),.int 0,.int 300000]])]:=knLine_ok (kn:=knS noKn) (fz:=[]) (fuel:=200) (n:=20) (knS_ok noKn_ok) (by kernel_rfl)
theorem ln8_fn:FnOk Tryz.prog 54 [.pt 0 [] 0,.t (.sl 1 [.lit (.string (str [112,111,114,116])),.lit (.string (str [111,117,116])),.lit (.string (str [98])),.lit (.string (str [48]))])] [(0,.box 106 (.ag [.ag [.t (.sl 1 [.lit (.string (str [97])),.lit (.string (str [98]))]),.t (.sl 7 [.agg [.lit (.string (str [115])),.int 0,.int 1,.int 10,.int 0,.int 0,.sl 3 [.agg [.int 0,.int 0,.int 900000],.agg [.int 10,.int 0,.int 900000]]]]),.own 1,.t (.lit (.slice none 0 0)),.t (.int 0),.t (.int 0)],.t (.int 4),.t (.lit (.string (str [112,111,114,116])))])),(1,.list 28 3 [.agg [.lit (.string (str [105,110])),.int 0,.int 300000]])] (.t (.int 0)) [(0,.box 106 (.ag [.ag [.t (.sl 1 [.lit (.string (str [97])),.lit (.string (str [98]))]),.t (.sl 7 [.agg [.lit (.string (str [115])),.int 0,.int 1,.int 10,.int 0,.int 0,.sl 3 [.agg [.int 0,.int 0,.int 900000],.agg [.int 10,.int 0,.int 900000]]]]),.own 1000,.t (.lit (.slice none 0 0)),.t (.int 0),.t (.int 0)],.t (.int 4),.t (.lit (.string (str [112,111,114,116])))])),(1000,.list 28 3 [.agg [.lit (.string (str [105,110])),.int 0,.int 300000],.agg [.lit (.string (str [111,117,116])),.int 1,.int 0]])]:=knLine_ok (kn:=knS noKn) (fz:=[]) (fuel:=200) (n:=20) (knS_ok noKn_ok) (by kernel_rfl)
theorem num0_fn:NumC [48] 0:=evF_spec fact_mixed (knS_ok noKn_ok) 20 _ _ _ _ _ (by kernel_rfl:evF Tryz.prog (knS noKn) [] 200 20 78 [.t (.lit (.string (str [48])))] []=some (.tup [.t (.int 0),.t (.int 0)],[]))
theorem num10_fn:NumC [49,48] 10:=evF_spec fact_mixed (knS_ok noKn_ok) 20 _ _ _ _ _ (by kernel_rfl:evF Tryz.prog (knS noKn) [] 200 20 78 [.t (.lit (.string (str [49,48])))] []=some (.tup [.t (.int 10),.t (.int 0)],[]))
theorem num900000_fn:NumC [57,48,48,48,48,48] 900000:=evF_spec fact_mixed (knS_ok noKn_ok) 20 _ _ _ _ _ (by kernel_rfl:evF Tryz.prog (knS noKn) [] 200 20 78 [.t (.lit (.string (str [57,48,48,48,48,48])))] []=some (.tup [.t (.int 900000),.t (.int 0)],[]))
theorem chkR_fn:FnOk Tryz.prog 45 [.t netR] [] (.t (.int 0)) []:=evF_spec fact_mixed (knS_ok noKn_ok) 20 _ _ _ _ _ (by kernel_rfl:evF Tryz.prog (knS noKn) [56] 200 20 45 [.t netR] []=some (.t (.int 0),[]))
def rdH:Nat→List (Nat×Blk)
 | 0=>[(507,.box 106 (.t (.agg [.agg [.lit (.slice none 0 0),.lit (.slice none 0 0),.lit (.slice none 0 0),.lit (.slice none 0 0),.int 0,.int 0],.int 0,.lit (.string (str []))])))]
 | 1=>[(507,.box 106 (.t (.agg [.agg [.lit (.slice none 0 0),.lit (.slice none 0 0),.lit (.slice none 0 0),.lit (.slice none 0 0),.int 0,.int 0],.int 1,.lit (.string (str [110,101,116,119,111,114,107]))])))]
 | 2=>[(507,.box 106 (.ag [.ag [.own 508,.t (.lit (.slice none 0 0)),.t (.lit (.slice none 0 0)),.t (.lit (.slice none 0 0)),.t (.int 0),.t (.int 0)],.t (.int 2),.t (.lit (.string (str [110,111,100,101])))])),(508,.list 9 1 [.lit (.string (str [97]))])]
 | 3=>[(507,.box 106 (.t (.agg [.agg [.sl 1 [.lit (.string (str [97])),.lit (.string (str [98]))],.lit (.slice none 0 0),.lit (.slice none 0 0),.lit (.slice none 0 0),.int 0,.int 0],.int 2,.lit (.string (str [110,111,100,101]))])))]
 | 4=>[(507,.box 106 (.ag [.ag [.t (.sl 1 [.lit (.string (str [97])),.lit (.string (str [98]))]),.own 508,.t (.lit (.slice none 0 0)),.t (.lit (.slice none 0 0)),.t (.int 0),.t (.int 0)],.t (.int 3),.t (.lit (.string (str [115,101,103,109,101,110,116])))])),(508,.list 38 7 [.agg [.lit (.string (str [115])),.int 0,.int 1,.int 10,.int 0,.int 0,.lit (.slice none 0 0)]])]
 | 5=>[(507,.box 106 (.ag [.ag [.t (.sl 1 [.lit (.string (str [97])),.lit (.string (str [98]))]),.own 508,.t (.lit (.slice none 0 0)),.t (.lit (.slice none 0 0)),.t (.int 0),.t (.int 0)],.t (.int 3),.t (.lit (.string (str [112,111,105,110,116])))])),(508,segR [.agg [.int 0,.int 0,.int 900000]])]
 | 6=>[(507,.box 106 (.t (.agg [.agg [.sl 1 [.lit (.string (str [97])),.lit (.string (str [98]))],.sl 7 [.agg [.lit (.string (str [115])),.int 0,.int 1,.int 10,.int 0,.int 0,.sl 3 [.agg [.int 0,.int 0,.int 900000],.agg [.int 10,.int 0,.int 900000]]]],.lit (.slice none 0 0),.lit (.slice none 0 0),.int 0,.int 0],.int 3,.lit (.string (str [112,111,105,110,116]))])))]
 | 7=>[(507,.box 106 (.ag [.ag [.t (.sl 1 [.lit (.string (str [97])),.lit (.string (str [98]))]),.t (.sl 7 [.agg [.lit (.string (str [115])),.int 0,.int 1,.int 10,.int 0,.int 0,.sl 3 [.agg [.int 0,.int 0,.int 900000],.agg [.int 10,.int 0,.int 900000]]]]),.own 508,.t (.lit (.slice none 0 0)),.t (.int 0),.t (.int 0)],.t (.int 4),.t (.lit (.string (str [112,111,114,116])))])),(508,.list 28 3 [.agg [.lit (.string (str [105,110])),.int 0,.int 300000]])]
 | _=>[(507,.box 106 (.t (.agg [.agg [.sl 1 [.lit (.string (str [97])),.lit (.string (str [98]))],.sl 7 [.agg [.lit (.string (str [115])),.int 0,.int 1,.int 10,.int 0,.int 0,.sl 3 [.agg [.int 0,.int 0,.int 900000],.agg [.int 10,.int 0,.int 900000]]]],.sl 3 [.agg [.lit (.string (str [105,110])),.int 0,.int 300000],.agg [.lit (.string (str [111,117,116])),.int 1,.int 0]],.lit (.slice none 0 0),.int 0,.int 0],.int 4,.lit (.string (str [112,111,114,116]))])))]
theorem parse_fn:FnOk Tryz.prog 33 [.t txtR] [] (.tup [.t netR,.t (.int 0),.t (.int 0)]) []:=by
 have cs:=split_fn
 have cc:=chkR_fn
 refine FnOk.intro fact_mixed Tryz.func33 rfl Tryz.ntmps33 (by rfl) (by simp) ?_
 repeat (first|(refine n1s rfl ?_;simp[go_sem,↓iO,iO,tN])|refine anI ?_|refine⟨dcK,?_⟩|refine iP ?_|refine iN ?_)
 refine cF (cs) [(500,600)] ?_ ?_ ?_ ?_<;>simp[go_sem,↓iO,iO,tN]
 repeat (first|(refine n1s rfl ?_;simp[go_sem,↓iO,iO,tN])|refine anI ?_|refine⟨dcK,?_⟩|refine iP ?_|refine iN ?_)
 refine nf1_sound' _ _ _ ?_;simp only[nf1]
 refine CW.loop (ι:=Nat) (fun k=>⟨[(2,.pt 502 [] 0),(7,.pt 507 [] 0),(23,.t (.sl 1 linesR)),(24,.t (.int 8)),(25,.t (.int k))],(502,.box 33 (.t (.agg [.lit (.slice none 0 0),.lit (.slice none 0 0),.lit (.slice none 0 0),.lit (.slice none 0 0),.int 0,.int 0]))) :: rdH k⟩) (fun k=>k≤8) (fun k=>8 - k) 0 [(502,some 102),(507,some 122)] (by omega) ?_ ?_
 ·simp[go_sem,↓iO,iO,tN,rdH]
  rfl
 intro k hk
 have h9:k=0∨k=1∨k=2∨k=3∨k=4∨k=5∨k=6∨k=7∨k=8:=by omega
 rcases h9 with rfl|rfl|rfl|rfl|rfl|rfl|rfl|rfl|rfl
 ·have cl:=ln1_fn
  repeat (first|(refine n1s rfl ?_;simp[go_sem,↓iO,iO,tN,rdH])|refine anI ?_|refine⟨dcK,?_⟩|refine iP ?_|refine iN ?_)
  refine cF (cl) [(0,507)] ?_ ?_ ?_ ?_<;>simp[go_sem,↓iO,iO,tN]
  repeat (first|(refine n1s rfl ?_;simp[go_sem,↓iO,iO,tN])|refine anI ?_|refine⟨dcK,?_⟩|refine iP ?_|refine iN ?_)
  rw[RqN];refine⟨1,[(502,some 502),(507,some 507)],?_,?_,?_⟩
  ·omega
  ·omega
  simp[go_sem,↓iO,iO,tN,rdH]
 ·have cl:=ln2_fn
  repeat (first|(refine n1s rfl ?_;simp[go_sem,↓iO,iO,tN,rdH])|refine anI ?_|refine⟨dcK,?_⟩|refine iP ?_|refine iN ?_)
  refine cF (cl) [(0,507),(1000,610)] ?_ ?_ ?_ ?_<;>simp[go_sem,↓iO,iO,tN]
  repeat (first|(refine n1s rfl ?_;simp[go_sem,↓iO,iO,tN])|refine anI ?_|refine⟨dcK,?_⟩|refine iP ?_|refine iN ?_)
  rw[RqN];refine⟨2,[(502,some 502),(507,some 507),(508,some 610)],?_,?_,?_⟩
  ·omega
  ·omega
  simp[go_sem,↓iO,iO,tN,rdH]
 ·have cl:=ln3_fn
  repeat (first|(refine n1s rfl ?_;simp[go_sem,↓iO,iO,tN,rdH])|refine anI ?_|refine⟨dcK,?_⟩|refine iP ?_|refine iN ?_)
  refine cF (cl) [(0,507),(1,508),(1000,610)] ?_ ?_ ?_ ?_<;>simp[go_sem,↓iO,iO,tN]
  repeat (first|(refine n1s rfl ?_;simp[go_sem,↓iO,iO,tN])|refine anI ?_|refine⟨dcK,?_⟩|refine iP ?_|refine iN ?_)
  rw[RqN];refine⟨3,[(502,some 502),(507,some 507)],?_,?_,?_⟩
  ·omega
  ·omega
  simp[go_sem,↓iO,iO,tN,rdH]
 ·have cl:=ln4_fn
  repeat (first|(refine n1s rfl ?_;simp[go_sem,↓iO,iO,tN,rdH])|refine anI ?_|refine⟨dcK,?_⟩|refine iP ?_|refine iN ?_)
  refine cF (cl) [(0,507),(1000,610)] ?_ ?_ ?_ ?_<;>simp[go_sem,↓iO,iO,tN]
  repeat (first|(refine n1s rfl ?_;simp[go_sem,↓iO,iO,tN])|refine anI ?_|refine⟨dcK,?_⟩|refine iP ?_|refine iN ?_)
  rw[RqN];refine⟨4,[(502,some 502),(507,some 507),(508,some 610)],?_,?_,?_⟩
  ·omega
  ·omega
  simp[go_sem,↓iO,iO,tN,rdH]
 ·have cl:=pline_fn [48] [48] [57,48,48,48,48,48] 0 0 900000 num0_fn num0_fn num900000_fn [] (by simp) (by simp)
  refine CW.toRows 508 [.fw segF 35 3 []] (e:=38) (s:=7) (xs:=[.agg [.lit (.string (str [115])),.int 0,.int 1,.int 10,.int 0,.int 0,.lit (.slice none 0 0)]]) (by rfl) (by rfl) (fun i x u h1 h2=>?_) ?_
  ·match i,h1,h2 with
   | 0,h1,h2=>cases h1;cases h2;unfold relTU;rfl
   | i+1,h1,h2=>cases h1
  simp[go_sem,↓iO,iO,tN,rdH]
  repeat (first|(refine n1s rfl ?_;simp[go_sem,↓iO,iO,tN,rdH])|refine anI ?_|refine⟨dcK,?_⟩|refine iP ?_|refine iN ?_)
  refine cF (cl) [(0,507),(2,508)] ?_ ?_ ?_ ?_<;>simp[go_sem,↓iO,iO,tN]
  repeat (first|(refine n1s rfl ?_;simp[go_sem,↓iO,iO,tN])|refine anI ?_|refine⟨dcK,?_⟩|refine iP ?_|refine iN ?_)
  rw[RqN];refine⟨5,[(502,some 502),(507,some 507),(508,some 508)],?_,?_,?_⟩
  ·omega
  ·omega
  simp[go_sem,↓iO,iO,tN,rdH]
 ·have cl:=pline2_fn [49,48] [48] [57,48,48,48,48,48] 10 0 900000 num10_fn num0_fn num900000_fn [.agg [.int 0,.int 0,.int 900000]] (by simp) (by simp[T.width,T.widths])
  repeat (first|(refine n1s rfl ?_;simp[go_sem,↓iO,iO,tN,rdH])|refine anI ?_|refine⟨dcK,?_⟩|refine iP ?_|refine iN ?_)
  refine cF (cl) [(0,507),(2,508)] ?_ ?_ ?_ ?_<;>simp[go_sem,↓iO,iO,tN]
  repeat (first|(refine n1s rfl ?_;simp[go_sem,↓iO,iO,tN])|refine anI ?_|refine⟨dcK,?_⟩|refine iP ?_|refine iN ?_)
  rw[RqN];refine⟨6,[(502,some 502),(507,some 507)],?_,?_,?_⟩
  ·omega
  ·omega
  simp[go_sem,↓iO,iO,tN,rdH]
 ·have cl:=ln7_fn
  repeat (first|(refine n1s rfl ?_;simp[go_sem,↓iO,iO,tN,rdH])|refine anI ?_|refine⟨dcK,?_⟩|refine iP ?_|refine iN ?_)
  refine cF (cl) [(0,507),(1000,610)] ?_ ?_ ?_ ?_<;>simp[go_sem,↓iO,iO,tN]
  repeat (first|(refine n1s rfl ?_;simp[go_sem,↓iO,iO,tN])|refine anI ?_|refine⟨dcK,?_⟩|refine iP ?_|refine iN ?_)
  rw[RqN];refine⟨7,[(502,some 502),(507,some 507),(508,some 610)],?_,?_,?_⟩
  ·omega
  ·omega
  simp[go_sem,↓iO,iO,tN,rdH]
 ·have cl:=ln8_fn
  repeat (first|(refine n1s rfl ?_;simp[go_sem,↓iO,iO,tN,rdH])|refine anI ?_|refine⟨dcK,?_⟩|refine iP ?_|refine iN ?_)
  refine cF (cl) [(0,507),(1,508),(1000,610)] ?_ ?_ ?_ ?_<;>simp[go_sem,↓iO,iO,tN]
  repeat (first|(refine n1s rfl ?_;simp[go_sem,↓iO,iO,tN])|refine anI ?_|refine⟨dcK,?_⟩|refine iP ?_|refine iN ?_)
  rw[RqN];refine⟨8,[(502,some 502),(507,some 507)],?_,?_,?_⟩
  ·omega
  ·omega
  simp[go_sem,↓iO,iO,tN,rdH]
 ·repeat (first|(refine n1s rfl ?_;simp[go_sem,↓iO,iO,tN,rdH])|refine anI ?_|refine⟨dcK,?_⟩|refine iP ?_|refine iN ?_)
  refine cF (cc) [] ?_ ?_ ?_ ?_<;>simp[go_sem,↓iO,iO,tN]
  repeat (first|(refine n1s rfl ?_;simp[go_sem,↓iO,iO,tN])|refine anI ?_|refine⟨dcK,?_⟩|refine iP ?_|refine iN ?_)
  first|rw[TqR]|rw[TqN]
  refine⟨[],?_⟩
  simp[go_sem,↓iO,iO,tN]
set_option maxRecDepth 100000
abbrev dR:LineD:={nodes:=.sl 1 [.lit (.string (str [97])),.lit (.string (str [98]))],segs:=[(⟨[115],0,1,10,0,0⟩,[(0,0,900000),(10,0,900000)])],ports:=[([105,110],0,300000),([111,117,116],1,0)],stat:=.lit (.slice none 0 0),vap:=.int 0,stl:=.int 0,rates:=[4],prates:=[4,-4],pumps:=.lit (.slice none 0 0),feeds:=[2,0]}
abbrev plR4:T:=.agg [.sl 1 [.int 4],.sl 1 [.int 4,.int (-4)],.lit (.slice none 0 0)]
theorem dR_ok:LineOk dR:=⟨rfl,rfl,rfl,rfl,rfl,rfl,rfl,rfl,by simp,by simp,by simp,by simp,by simp,by simp,by simp⟩
theorem ordR_fn:FnOk Tryz.prog 48 [.t (.agg dR.net),.t (.agg dR.plan)] [] (.tup [.t (.sl 1 (([0,1]:List Int).map encI)),.t (.int 0)]) []:=evF_spec fact_mixed (knS_ok noKn_ok) 20 _ _ _ _ _ (by kernel_rfl:evF Tryz.prog (knS noKn) [56,65] 200 20 48 [.t netR,.t plR4] []=some (.tup [.t (.sl 1 [.int 0,.int 1]),.t (.int 0)],[]))
def fR:Nat→Fi
 | 0=>[some [(1,10)]]
 | 1=>[some [(2,4),(1,6)]]
 | 2=>[some [(2,8),(1,2)]]
 | _=>[some [(2,10)]]
def gR:Nat→Fi
 | 0=>[]
 | 1=>[some [(1,4)]]
 | 2=>[some [(1,4)]]
 | _=>[some [(1,2),(2,2)]]
def oR:Nat→Fi
 | 0=>[]
 | 1=>[none,some [(1,4)]]
 | 2=>[none,some [(1,4)]]
 | _=>[none,some [(1,2),(2,2)]]
theorem tickR {f n o:List (Int×Int)} (hf:Pc.Vd f) (hl:f.length≤10) (ho:Pc.Vd o) (hov:Pc.vol o=4) (h:Pc.shift f [(2,4)] false=(n,o)):TickC dR [0,1] [some f] [some n] [some o.reverse] [none,some o.reverse]:=by
 intro gi oo
 have hp:=push_at hf (vd_one (b:=2) (r:=4) (by omega) (by omega) (by omega)) (by simp;omega) h
 have hrv:=vd_rev ho
 have h0:NodeC dR _ 0 [some f] [none] [none,none] _ _ _:=node_seg dR dR_ok (.sl 1 (([0,1]:List Int).map encI)) rfl [some f] [none] [none,none] 0 rfl rfl rfl [(2,4)] rfl (by simp[dR,segYs,tgt,endA,endB]) (vd_one (by omega) (by omega) (by omega)) (by simp) 0 4 rfl rfl (by omega) (by omega) rfl f n o rfl hf hp
 have h1:NodeC dR _ 1 [some n] [some o.reverse] [none,none] _ _ _:=node_prt dR dR_ok (.sl 1 (([0,1]:List Int).map encI)) rfl [some n] [some o.reverse] [none,none] 1 rfl rfl rfl o.reverse (by unfold comesV;simp[dR,prtYs,segYs,prtPc,gvAt,tgt,endA,endB,absI]) (by
  intro z hz p hp
  have hz2:z=(0,4):=by simpa [dR,segYs,tgt,endA,endB,absI,show max (4:Int) (-4)=4 by decide] using hz
  subst hz2
  have:p∈o.reverse:=hp
  have:=hrv.each p this
  omega) hrv (fun e=>by have h5:=vol_rev o;rw[e,hov]at h5;simp[Pc.vol]at h5) 1 4 rfl rfl (by omega) (by omega) (by rw[vol_rev,hov])
 exact tick_fn dR dR_ok [0,1] (by simp) gi oo
  (fun k=>match k with|0=>[some f]|_+1=>[some n]) (fun k=>match k with|0=>[none]|_+1=>[some o.reverse]) (fun k=>match k with|0=>[none,none]|1=>[none,none]|_+2=>[none,some o.reverse]) rfl rfl
  (fun k node hk=>by
   match k,hk with
   | 0,hk=>simp at hk;subst hk;exact h0
   | 1,hk=>simp at hk;subst hk;exact h1
   | k+2,hk=>simp at hk)
theorem vdR (l:List (Int×Int)) (h:(l.all fun p=>decide (0≤p.1∧p.1 < 1000∧0 < p.2))=true) (hl:l.length≤2) (hv:Pc.vol l≤1000) (hn:∀ p q,l=[p,q]→p.1≠q.1):Pc.Vd l:=by
 match l,hl with
 | [],_=>exact Pc.vd_of_canon trivial (by simp) (by simp) (by simp[Pc.vol])
 | [p],_=>
  simp at h
  exact Pc.vd_of_canon ⟨by omega,by simp,trivial⟩ (fun x hx=>by simp at hx;subst hx;omega) (by simp) (by omega)
 | [p,q],_=>
  simp at h
  exact Pc.vd_of_canon ⟨by omega,by simpa using hn p q rfl,by omega,by simp,trivial⟩ (fun x hx=>by simp at hx;rcases hx with rfl|rfl<;>omega) (by simp) (by omega)
theorem oR_ok (k i:Nat) (hk:k < 3):Pc.Sane (allV oR (k+1) i)∧(Pc.join (allV oR (k+1) i)).length≤200:=by
 have h:(allV oR (k+1) i).length≤4∧∀ p∈allV oR (k+1) i,p=(1,4)∨p=(1,2)∨p=(2,2):=by
  match k,i,hk with
  | 0,0,_=>simp[allV,oR]
  | 0,1,_=>simp[allV,oR]
  | 0,i+2,_=>simp[allV,oR]
  | 1,0,_=>simp[allV,oR]
  | 1,1,_=>simp[allV,oR]
  | 1,i+2,_=>simp[allV,oR]
  | 2,0,_=>simp[allV,oR]
  | 2,1,_=>simp[allV,oR]
  | 2,i+2,_=>simp[allV,oR]
  | k+3,_,hk=>omega
 refine⟨⟨by omega,fun p hp=>?_⟩,?_⟩
 ·rcases h.2 p hp with rfl|rfl|rfl<;>simp
 ·have:=Pc.join_length (allV oR (k+1) i);omega
theorem arunR_fn:FnOk Tryz.prog 16 [.t netR,.t (.sl 1 [.sl 2 [.agg [.int 1,.int 10]]]),.t plR4,.t (.sl 1 [.int 2,.int 0]),.t (.int 3)] [] (.tup [.own 1000,.t (.sl 1 [.sl 2 [],.sl 2 [.agg [.int 1,.int 10],.agg [.int 2,.int 2]]]),.t (.int 0)]) [(1000,.list 41 1 [.sl 2 [.agg [.int 2,.int 10]]])]:=
 arun_fn dR dR_ok chkR_fn [[(1,10)]] ⟨rfl,fun g hg=>by simp at hg;subst hg;exact vdR _ (by decide) (by simp) (by decide) (by simp),fun i g s hi hs=>by
   match i,hi,hs with
   | 0,hi,hs=>simp at hi;simp[dR]at hs;subst hi;subst hs;rfl
   | i+1,hi,hs=>simp at hi⟩ [0,1] ordR_fn (fun x hx=>by simp[dR]at hx;omega) 3 (by omega) fR gR oR rfl rfl rfl (fun k=>by match k with|0=>rfl|1=>rfl|k+2=>rfl)
  (fun k hk=>by
   match k,hk with
   | 0,_=>exact tickR (o:=[(1,4)]) (vdR _ (by decide) (by simp) (by decide) (by simp)) (by simp) (vdR _ (by decide) (by simp) (by decide) (by simp)) rfl (by decide)
   | 1,_=>exact tickR (o:=[(1,4)]) (vdR _ (by decide) (by simp) (by decide) (by simp)) (by simp) (vdR _ (by decide) (by simp) (by decide) (by simp)) rfl (by decide)
   | 2,_=>exact tickR (o:=[(2,2),(1,2)]) (vdR _ (by decide) (by simp) (by decide) (by simp)) (by simp) (vdR _ (by decide) (by simp) (by decide) (by simp)) rfl (by decide)
   | k+3,hk=>omega)
  (fun k i hk=>(oR_ok k i hk).1) (fun k i p hk hp=>by
   match k,i,hp with
   | 0,0,hp=>simp[oR]at hp
   | 0,1,hp=>simp[oR]at hp;subst hp;simp
   | 0,i+2,hp=>simp[oR]at hp
   | 1,0,hp=>simp[oR]at hp
   | 1,1,hp=>simp[oR]at hp;subst hp;simp
   | 1,i+2,hp=>simp[oR]at hp
   | k+2,0,hp=>simp[oR]at hp
   | k+2,1,hp=>simp[oR]at hp;rcases hp with rfl|rfl<;>simp
   | k+2,i+2,hp=>simp[oR]at hp) (fun k i hk=>(oR_ok k i hk).2)
theorem sameR_fn:FnOk Tryz.prog 17 [.t (.sl 2 [.agg [.int 1,.int 10],.agg [.int 2,.int 2]]),.t (.sl 2 [.agg [.int 1,.int 10],.agg [.int 2,.int 2]])] [] (.t (.bool true)) []:=evF_spec fact_mixed noKn_ok 20 _ _ _ _ _ (by kernel_rfl:evF Tryz.prog noKn [] 200 20 17 [.t (.sl 2 [.agg [.int 1,.int 10],.agg [.int 2,.int 2]]),.t (.sl 2 [.agg [.int 1,.int 10],.agg [.int 2,.int 2]])] []=some (.t (.bool true),[]))
theorem batR_fn:FnOk Tryz.prog 18 [.t (.sl 2 [.agg [.int 2,.int 10]]),.t (.int 2)] [] (.t (.int 10)) []:=evF_spec fact_mixed noKn_ok 20 _ _ _ _ _ (by kernel_rfl:evF Tryz.prog noKn [] 200 20 18 [.t (.sl 2 [.agg [.int 2,.int 10]]),.t (.int 2)] []=some (.t (.int 10),[]))
theorem running_fn:FnOk Tryz.prog 13 [] [] (.t (.bool true)) []:=by
 have c1:=parse_fn
 have c2:=arunR_fn
 have c3:=batR_fn
 have c4:=sameR_fn
 refine FnOk.intro fact_mixed Tryz.func13 rfl Tryz.ntmps13 (by rfl) (by simp) ?_
 repeat (first|(refine n1s rfl ?_;simp[go_sem,↓iO,iO,tN])|refine anI ?_|refine⟨dcK,?_⟩|refine iP ?_|refine iN ?_)
 refine cF (c1) [] ?_ ?_ ?_ ?_<;>simp[go_sem,↓iO,iO,tN]
 repeat (refine anI ?_)
 try (refine⟨dcK,?_⟩)
 ·kernel_rfl
 repeat (first|(refine n1s rfl ?_;simp[go_sem,↓iO,iO,tN])|refine anI ?_|refine⟨dcK,?_⟩|refine iP ?_|refine iN ?_)
 refine CallK.fn (c2) [(1000,600)] [] [116,117,118,120] (by kernel_rfl) ?_ ?_ ?_ (Or.inl rfl) ?_<;>simp[go_sem,↓iO,iO,tN]
 repeat (first|(refine n1s rfl ?_;simp[go_sem,↓iO,iO,tN])|refine anI ?_|refine⟨dcK,?_⟩|refine iP ?_|refine iN ?_)
 refine cF (c3) [] ?_ ?_ ?_ ?_<;>simp[go_sem,↓iO,iO,tN]
 repeat (first|(refine n1s rfl ?_;simp[go_sem,↓iO,iO,tN])|refine anI ?_|refine⟨dcK,?_⟩|refine iP ?_|refine iN ?_)
 refine CallK.fn (c4) [] [154] [] (by kernel_rfl) ?_ ?_ ?_ (Or.inr ⟨?_,?_⟩) ?_<;>simp[go_sem,↓iO,iO,tN]
 repeat (first|(refine n1s rfl ?_;simp[go_sem,↓iO,iO,tN])|refine anI ?_|refine⟨dcK,?_⟩|refine iP ?_|refine iN ?_)
 first|rw[TqR]|rw[TqN]
 refine⟨[],?_⟩
 simp[go_sem,↓iO,iO,tN]
end Go.Proofs.YtdjmklobfjigoaaGreatDoor
namespace Go.Proofs.YtdjmklobfjigoaaGreatDoor
open Go.RowKit Sy
theorem u8_in {x:T} (h:InSh (.int .u8) x):∃ n,x = .lit (.int .u8 n)∧0≤n∧n≤255:=by
 obtain⟨n,rfl,hw⟩:=insh_int h
 exact⟨n,rfl,by simpa [Lit.wf,IntKind.min,IntKind.max,IntKind.signed,IntKind.bits] using hw⟩
theorem i64s_in {x:T} (h:InSh (.sl (.int .i64)) x):∃ l,x=encIs l∧l.length≤9223372036854775807∧∀ z∈l,-9223372036854775808≤z∧z≤9223372036854775807:=by
 obtain⟨xs,rfl,hl,hx⟩:=insh_sl h
 obtain⟨l,rfl,hq⟩:=insh_list (en:=encI) (Q:=fun z=>-9223372036854775808≤z∧z≤9223372036854775807) (fun y hy=>by
  obtain⟨n,rfl,hw⟩:=insh_int hy
  exact⟨n,rfl,wf_i64 hw⟩) xs hx
 exact⟨l,rfl,by rw[List.length_map]at hl;unfold maxLen at hl;omega,hq⟩
end Go.Proofs.YtdjmklobfjigoaaGreatDoor
namespace Go.Proofs.YtdjmklobfjigoaaGreatDoor
open Go.RowKit Sy
open Go.IntWalk renaming iteOmega → iO, toNatUp → tN
structure CnI (l:List Int) (d:NetD) (st:Nat→Int) (x:Nat×Nat×List (List (Int×Int))×List Int×List Int):Prop where
 rem:x.1≤4
 src:SrcOk l x.2.1
 fil:FillsOk (gnD d [] [] [] []) x.2.2.1
 li:x.2.2.2.1.length=6
 lo:x.2.2.2.2.length=6
 bi:∀ b,0≤x.2.2.2.1.getD b 0∧x.2.2.2.1.getD b 0≤1000000 * ((5 - x.1:Nat):Int)
 bo:∀ b,0≤x.2.2.2.2.getD b 0
 sum:∀ b:Nat,b < 6→st b+x.2.2.2.1.getD b 0=volV (b:Int) x.2.2.1+x.2.2.2.2.getD b 0
theorem fok {d:NetD} {rs pr feeds rs' pr' feeds':List Int} {pm pm':List T} {fl:List (List (Int×Int))} (h:FillsOk (gnD d rs pr feeds pm) fl):FillsOk (gnD d rs' pr' feeds' pm') fl:=⟨h.len,h.vd,h.cap⟩
theorem fl_vl {d:LineD} {fl:List (List (Int×Int))} (h:FillsOk d fl):∀ l∈fl,VlOk l:=fun f hf=>⟨by have:=(h.vd f hf).len;omega,fun p hp=>by have:=((h.vd f hf).each p hp).2;omega⟩
theorem get6 {l:List Int} (h:l.length=6) {b:Nat} (hb:b < 6):l[b]? = some (l.getD b 0):=by
 rw[List.getD_eq_getElem?_getD,List.getElem?_eq_getElem (by omega)];rfl
theorem conserves_fn (l:List Int) (hl:l.length≤9223372036854775807) (wf:∀ z∈l,-9223372036854775808≤z∧z≤9223372036854775807):FnOk Tryz.prog 6 [.t (encIs l)] [] (.t (.bool true)) []:=by
 have c1:=new_fn l hl
 have h0:=new_ok wf
 obtain⟨s,hs⟩:∃ s,newL2 l=s:=⟨_,rfl⟩
 rw[hs]at c1 h0
 obtain⟨k1,d,hk1,hnet,hds,hdp,hdn,hdt,hdc,c2⟩:=network_ex s 0 h0
 have hd:GnOk d:=⟨hnet,hds.1,hdp.1,by omega⟩
 obtain⟨k2,fl0,hk2,hfl,hfe,c3⟩:=fills_ex s k1 hk1 d hnet 4 (by omega) (by omega)
 have hF0:FillsOk (gnD d [] [] [] []) fl0:=by
  refine⟨hfl,fun f hf=>?_,fun i f sg h1 h2=>(hfe i f sg h1 h2).2.1⟩
  obtain⟨i,hi,e⟩:=List.getElem_of_mem hf
  have h1:fl0[i]? = some f:=by rw[←e];exact List.getElem?_eq_getElem hi
  obtain⟨sg,h2⟩:∃ g,d.segs[i]? = some g:=has_get (by omega)
  exact (hfe i f sg h1 h2).1
 have hvl0:=fl_vl hF0
 obtain⟨st,hst⟩:∃ st:Nat→Int,∀ b:Nat,volV (b:Int) fl0=st b:=⟨_,fun _=>rfl⟩
 have hstb:∀ b,0≤st b∧st b≤80000000000:=fun b=>by
  rw[←hst]
  have:=volV_bd (b:Int) fl0 hvl0
  have e:fl0.length≤8:=by omega
  omega
 have cN:=n_fn s k2 5 hk2 (by omega)
 have bN:=nV_range (l:=s) (k:=k2) (n:=5) (by omega)
 obtain⟨n,hn⟩:∃ n:Nat,nV s k2 5=(n:Int):=⟨(nV s k2 5).toNat,by omega⟩
 rw[hn]at cN bN
 obtain⟨Z6,hZ6⟩:∃ Z,List.replicate 6 (0:Int)=Z:=⟨_,rfl⟩
 have hZl:Z6.length=6:=by rw[←hZ6];rfl
 have hZg:∀ b,Z6.getD b 0=0:=fun b=>by rw[←hZ6];exact getD_rep 6 b
 have hZe:Z6.map encI=[.int 0,.int 0,.int 0,.int 0,.int 0,.int 0]:=by rw[←hZ6];rfl
 obtain⟨SP,hSP⟩:∃ SP:Nat→List Int,∀ b,adP Z6 st b=SP b:=⟨_,fun _=>rfl⟩
 have SP0:SP 0=Z6:=by rw[←hSP];rfl
 have SPl:∀ b,(SP b).length=6:=fun b=>by rw[←hSP,adP_len,hZl]
 have SPg:∀ b,b≤6→∀ i,(SP b).getD i 0=if i < b then st i else 0:=fun b hb i=>by
  rw[←hSP,adP_get hZl i b hb,hZg]
  split<;>omega
 have SPs:∀ b,b < 6→SP (b+1)=(SP b).set b (st b):=fun b hb=>by
  have e:=SPg b (by omega) b
  rw[if_neg (by omega)]at e
  rw[←hSP,←hSP]
  simp only[adP]
  rw[hSP,e,Int.zero_add]
 have crun:=running_fn
 refine FnOk.intro fact_mixed Tryz.func6 rfl Tryz.ntmps6 (by rfl) (by simp) ?_
 repeat (first|(refine n1s rfl ?_;simp[go_sem,↓iO,iO,tN])|refine anI ?_|refine⟨dcK,?_⟩|refine iP ?_|refine iN ?_)
 refine cF (c1) [(1000,120)] ?_ ?_ ?_ ?_<;>simp[go_sem,↓iO,iO,tN]
 repeat (first|(refine n1s rfl ?_;simp[go_sem,↓iO,iO,tN])|refine anI ?_|refine⟨dcK,?_⟩|refine iP ?_|refine iN ?_)
 refine cF (c2) [(0,120)] ?_ ?_ ?_ ?_<;>simp[go_sem,↓iO,iO,tN]
 repeat (first|(refine n1s rfl ?_;simp[go_sem,↓iO,iO,tN])|refine anI ?_|refine⟨dcK,?_⟩|refine iP ?_|refine iN ?_)
 refine cF (c3) [(0,120)] ?_ ?_ ?_ ?_<;>simp[go_sem,↓iO,iO,tN]
 repeat (first|(refine n1s rfl ?_;simp[go_sem,↓iO,iO,tN])|refine anI ?_|refine⟨dcK,?_⟩|refine iP ?_|refine iN ?_)
 refine nf1_sound' _ _ _ ?_;simp only[nf1]
 refine CW.loop (ι:=Nat) (fun b=>⟨[(3,.pt 503 [] 0),(4,.pt 504 [] 0),(5,.t (.sl 1 (fl0.map encPs))),(6,.pt 506 [] 0),(7,.pt 507 [] 0),(8,.pt 508 [] 0),(26,.t (.int b))],[(503,srcB s k2),(504,.box 33 (.t (.agg d.l))),(506,.box 63 (.t (.agg (Z6.map encI)))),(507,.box 63 (.t (.agg (Z6.map encI)))),(508,.box 63 (.t (.agg ((SP b).map encI))))]⟩)
  (fun b=>b≤6) (fun b=>6 - b) 0 [(503,some 120),(504,some 104),(506,some 106),(507,some 107),(508,some 108)] (by omega) ?_ ?_
 ·simp[go_sem,↓iO,iO,tN,SP0,hZe]
 intro b hb
 by_cases hb6:b < 6
 ·have cv:=tvolume_fn fl0 (b:Int) (by omega) hvl0
  rw[hst]at cv
  have sps:=SPs b hb6
  have spl:=SPl b
  obtain⟨A,hA⟩:∃ A,SP b=A:=⟨_,rfl⟩
  rw[hA]at sps spl ⊢
  obtain⟨xa,hxa⟩:∃ x,A.getD b 0=x:=⟨_,rfl⟩
  have ga:=get6 spl hb6
  rw[hxa]at ga
  repeat (first|(refine n1s rfl ?_;simp[go_sem,↓iO,iO,tN])|refine anI ?_|refine⟨dcK,?_⟩|refine iP ?_|refine iN ?_)
  refine cF (cv) [] ?_ ?_ ?_ ?_<;>simp[go_sem,↓iO,iO,tN,ga]
  repeat (first|(refine n1s rfl ?_;simp[go_sem,↓iO,iO,tN,ga,spl])|refine anI ?_|refine⟨dcK,?_⟩|refine iP ?_|refine iN ?_)
  rw[RqN];refine⟨b+1,[(503,some 503),(504,some 504),(506,some 506),(507,some 507),(508,some 508)],?_,?_,?_⟩
  ·omega
  ·omega
  simp[go_sem,↓iO,iO,tN,sps]
 ·obtain rfl:b=6:=by omega
  have STl:=SPl 6
  have STg:=SPg 6 (by omega)
  obtain⟨ST,hST⟩:∃ A,SP 6=A:=⟨_,rfl⟩
  rw[hST]at STl STg ⊢
  repeat (first|(refine n1s rfl ?_;simp[go_sem,↓iO,iO,tN])|refine anI ?_|refine⟨dcK,?_⟩|refine iP ?_|refine iN ?_)
  refine cF (cN) [(0,503)] ?_ ?_ ?_ ?_<;>simp[go_sem,↓iO,iO,tN]
  repeat (first|(refine n1s rfl ?_;simp[go_sem,↓iO,iO,tN])|refine anI ?_|refine⟨dcK,?_⟩|refine iP ?_|refine iN ?_)
  refine nf1_sound' _ _ _ ?_;simp only[nf1]
  refine CW.loop (ι:=Nat×Nat×List (List (Int×Int))×List Int×List Int) (fun x=>⟨[(3,.pt 503 [] 0),(4,.pt 504 [] 0),(5,.t (.sl 1 (x.2.2.1.map encPs))),(6,.pt 506 [] 0),(7,.pt 507 [] 0),(8,.pt 508 [] 0),(10,.t (.int x.1))],[(503,srcB s x.2.1),(504,.box 33 (.t (.agg d.l))),(506,.box 63 (.t (.agg (x.2.2.2.1.map encI)))),(507,.box 63 (.t (.agg (x.2.2.2.2.map encI)))),(508,.box 63 (.t (.agg (ST.map encI))))]⟩)
   (CnI s d st) (fun x=>x.1) (n,nextK s k2,fl0,Z6,Z6) [(503,some 503),(504,some 504),(506,some 506),(507,some 507),(508,some 508)] ⟨by dsimp only;omega,hk2.next,hF0,hZl,hZl,fun b=>by rw[hZg];dsimp only;omega,fun b=>by rw[hZg];omega,fun b _=>by dsimp only;rw[hZg,hst]⟩ ?_ ?_
  ·simp[go_sem,↓iO,iO,tN]
  rintro ⟨rem,k,fl,I,O⟩ hI
  obtain⟨i1,i2,i3,i4,i5,i6,i7,i8⟩:=hI
  dsimp only at i1 i2 i3 i4 i5 i6 i7 i8 ⊢
  cases rem with
  | zero=>
   repeat (first|(refine n1s rfl ?_;simp[go_sem,↓iO,iO,tN])|refine anI ?_|refine⟨dcK,?_⟩|refine iP ?_|refine iN ?_)
   refine cF (crun) [] ?_ ?_ ?_ ?_<;>simp[go_sem,↓iO,iO,tN]
   repeat (first|(refine n1s rfl ?_;simp[go_sem,↓iO,iO,tN])|refine anI ?_|refine⟨dcK,?_⟩|refine iP ?_|refine iN ?_)
   first|rw[TqR]|rw[TqN]
   refine⟨[],?_⟩
   simp[go_sem,↓iO,iO,tN]
  | succ rem=>
   obtain⟨k3,rs,pr,pm,ρ,hk3,hpl,hpm,cp⟩:=plan_ex s k i2 d hd (by omega) (by omega)
   have cf:=feeds_fn s k3 hk3 d (by omega) 6 (by omega)
   have hk4:=nxK_ok hk3 d.ports.length
   have hfdl:(fdV s k3 6 d.ports.length).length=d.ports.length:=by simp[fdV]
   have hfdm:∀ b∈fdV s k3 6 d.ports.length,0≤b∧b < 6:=fun b hb=>by
    obtain⟨j,_,rfl⟩:=List.mem_map.1 hb
    exact nV_range (by omega)
   obtain⟨fd,hfd⟩:∃ f,fdV s k3 6 d.ports.length=f:=⟨_,rfl⟩
   rw[hfd]at cf hfdl hfdm
   obtain⟨k4,hk44⟩:∃ x,nxK s k3 d.ports.length=x:=⟨_,rfl⟩
   rw[hk44]at cf hk4
   have ctk:=n_fn s k4 4 hk4 (by omega)
   have btk:=nV_range (l:=s) (k:=k4) (n:=4) (by omega)
   obtain⟨t,ht⟩:∃ t:Nat,nV s k4 4=(t:Int):=⟨(nV s k4 4).toNat,by omega⟩
   rw[ht]at ctk btk
   have hfd1000:∀ b∈fd,0≤b∧b < 1000:=fun b hb=>by have:=hfdm b hb;omega
   have hfdg:∀ i,0≤fd.getD i 0∧fd.getD i 0 < 6:=fun i=>by
    rw[List.getD_eq_getElem?_getD]
    cases hq:fd[i]? with
    | none=>simp
    | some x=>exact hfdm x (List.mem_of_getElem? hq)
   have hgok:=gnD_ok hd (feeds:=fd) pm hpl hfdl hfd1000
   have hgfl:=gn_fl hd (feeds:=fd) pm hpl hfdl hfd1000
   have hol:=(gn_ord hd hpl).2
   have ho:=forderG_fn _ hnet _ _ _ (gn_flow hd pm hpm hpl)
   have hnc:NetC (gnD d rs pr fd pm):=ncheckG_fn d hnet
   have hrun:=run_all (gnD d rs pr fd pm) hgok hnc (ord:=(ordV (sgFl d.segs rs) d.nn.length d.nn.length []).map Int.ofNat) (by rw[List.length_map,hol];omega) hgfl fl (fok i3) ho hfd1000 t (by omega)
   have lrs:rs.length≤64:=by rw[hpl.lr];omega
   have lpr:pr.length=d.ports.length:=hpl.lp
   rcases hrun with ce|⟨F1,out,hF1,hout,hsum,co⟩
   ·simp only[gnD,LineD.net,LineD.plan]at ce
    repeat (first|(refine n1s rfl ?_;simp[go_sem,↓iO,iO,tN])|refine anI ?_|refine⟨dcK,?_⟩|refine iP ?_|refine iN ?_)
    refine cF (cp) [(0,503)] ?_ ?_ ?_ ?_<;>simp[go_sem,↓iO,iO,tN]
    repeat (refine anI ?_)
    try (refine⟨dcK,?_⟩)
    refine cF (cf) [(0,503)] ?_ ?_ ?_ ?_<;>simp[go_sem,↓iO,iO,tN]
    repeat (refine anI ?_)
    try (refine⟨dcK,?_⟩)
    refine cF (ctk) [(0,503)] ?_ ?_ ?_ ?_<;>simp[go_sem,↓iO,iO,tN]
    repeat (first|(refine n1s rfl ?_;simp[go_sem,↓iO,iO,tN])|refine anI ?_|refine⟨dcK,?_⟩|refine iP ?_|refine iN ?_)
    refine cF (ce) [] ?_ ?_ ?_ ?_<;>simp[go_sem,↓iO,iO,tN]
    repeat (first|(refine n1s rfl ?_;simp[go_sem,↓iO,iO,tN])|refine anI ?_|refine⟨dcK,?_⟩|refine iP ?_|refine iN ?_)
    refine cF (crun) [] ?_ ?_ ?_ ?_<;>simp[go_sem,↓iO,iO,tN]
    repeat (first|(refine n1s rfl ?_;simp[go_sem,↓iO,iO,tN])|refine anI ?_|refine⟨dcK,?_⟩|refine iP ?_|refine iN ?_)
    first|rw[TqR]|rw[TqN]
    refine⟨[],?_⟩
    simp[go_sem,↓iO,iO,tN]
   ·have hfo:=unF_ok hF1
    have cck:=acheck_fn (gnD d rs pr fd pm) hgok hnc (unF F1) hfo
    have eF:=unF_some hF1
    obtain⟨f1,hf1⟩:∃ f,unF F1=f:=⟨_,rfl⟩
    rw[hf1]at hfo cck eF
    rw[←eF]at co hsum
    have eO:((List.range (gnD d rs pr fd pm).ports.length).map fun i=>encPs (out i))=((List.range d.ports.length).map out).map encPs:=by rw[List.map_map];rfl
    rw[eO]at co
    obtain⟨OL,hOL⟩:∃ X,(List.range d.ports.length).map out=X:=⟨_,rfl⟩
    rw[hOL]at co
    simp only[gnD,LineD.net,LineD.plan,blkG,map_some]at co cck
    have hOLl:OL.length=d.ports.length:=by rw[←hOL];simp
    have hOLv:∀ l∈OL,VlOk l:=fun l hl=>by
     rw[←hOL]at hl
     obtain⟨i,_,rfl⟩:=List.mem_map.1 hl
     exact⟨by have:=(hout i).1;omega,(hout i).2⟩
    have hf1v:=fl_vl hfo
    have hf1l:f1.length=d.segs.length:=hfo.len
    have hfll:fl.length=d.segs.length:=i3.len
    obtain⟨vo,hvo⟩:∃ v:Nat→Int,∀ b:Nat,volV (b:Int) OL=v b:=⟨_,fun _=>rfl⟩
    obtain⟨vn,hvn⟩:∃ v:Nat→Int,∀ b:Nat,volV (b:Int) f1=v b:=⟨_,fun _=>rfl⟩
    have hvob:∀ b,0≤vo b∧vo b≤80000000000:=fun b=>by
     rw[←hvo]
     have:=volV_bd (b:Int) OL hOLv
     omega
    have hvnb:∀ b,0≤vn b∧vn b≤80000000000:=fun b=>by
     rw[←hvn]
     have:=volV_bd (b:Int) f1 hf1v
     omega
    have hprb:∀ p,0≤(if 0 < pr.getD p 0 then pr.getD p 0 else 0)∧(if 0 < pr.getD p 0 then pr.getD p 0 else 0)≤1000:=fun p=>by
     by_cases hp:p < d.ports.length
     ·have:=hpl.bP p hp
      split<;>omega
     ·have:pr.getD p 0=0:=by rw[List.getD_eq_getElem?_getD,List.getElem?_eq_none (by omega)];rfl
      rw[this];simp
    have hinb:∀ (b:Nat) k,0≤sumN k (fun p=>if 0 < pr.getD p 0 then (if fd.getD p 0=(b:Int) then pr.getD p 0 else 0) else 0)∧sumN k (fun p=>if 0 < pr.getD p 0 then (if fd.getD p 0=(b:Int) then pr.getD p 0 else 0) else 0)≤1000 * k:=fun b k=>sumN_bd (fun p=>by
     have:=hprb p
     by_cases hp:0 < pr.getD p 0
     ·rw[if_pos hp]at this ⊢
      split<;>omega
     ·rw[if_neg hp];omega) k
    obtain⟨IP,hIP⟩:∃ IP:Nat→List Int,∀ k,inP I fd pr (t:Int) k=IP k:=⟨_,fun _=>rfl⟩
    have IP0:IP 0=I:=by rw[←hIP];rfl
    have IPl:∀ k,(IP k).length=6:=fun k=>by rw[←hIP,inP_len,i4]
    have IPg:∀ k (b:Nat),b < 6→(IP k).getD b 0=I.getD b 0+(t:Int) * sumN k (fun p=>if 0 < pr.getD p 0 then (if fd.getD p 0=(b:Int) then pr.getD p 0 else 0) else 0):=fun k b hb=>by rw[←hIP];exact inP_get i4 hfdg b hb k
    have IPs:∀ k,IP (k+1)=(IP k).set (fd.getD k 0).toNat ((IP k).getD (fd.getD k 0).toNat 0+(t:Int) * max 0 (pr.getD k 0)):=fun k=>by rw[←hIP,←hIP];rfl
    have t3:∀ (x:Int) (B:Int),0≤x→x≤B→0≤(t:Int) * x∧(t:Int) * x≤3 * B:=fun x B h1 h2=>by
     have e:t=0∨t=1∨t=2∨t=3:=by omega
     rcases e with rfl|rfl|rfl|rfl<;>omega
    have IPb:∀ k,k≤d.ports.length→∀ b:Nat,b < 6→0≤(IP k).getD b 0∧(IP k).getD b 0≤I.getD b 0+18000:=fun k hk b hb=>by
     rw[IPg k b hb]
     have h1:=hinb b k
     have h2:=t3 _ (1000 * k) h1.1 h1.2
     have h3:=i6 b
     omega
    obtain⟨AP,hAP⟩:∃ AP:Nat→List Int,∀ b,adP O vo b=AP b:=⟨_,fun _=>rfl⟩
    have AP0:AP 0=O:=by rw[←hAP];rfl
    have APl:∀ b,(AP b).length=6:=fun b=>by rw[←hAP,adP_len,i5]
    have APg:∀ b,b≤6→∀ i,(AP b).getD i 0=if i < b then O.getD i 0+vo i else O.getD i 0:=fun b hb i=>by rw[←hAP];exact adP_get i5 i b hb
    have APs:∀ b,AP (b+1)=(AP b).set b ((AP b).getD b 0+vo b):=fun b=>by rw[←hAP,←hAP];rfl
    have main:∀ b:Nat,b < 6→st b+(IP d.ports.length).getD b 0=vn b+(O.getD b 0+vo b):=fun b hb=>by
     rw[IPg _ b hb]
     have h1:=hsum (b:Int)
     have h2:=i8 b hb
     have e1:Sw (gnD d rs pr fd pm).segs.length wA (f1.map some) (b:Int)=vn b:=by
      have:=Sw_fills (b:Int) f1
      rw[hf1l]at this
      rw[←hvn];exact this
     have e2:Sw (gnD d rs pr fd pm).segs.length wA (fl.map some) (b:Int)=volV (b:Int) fl:=by
      have:=Sw_fills (b:Int) fl
      rw[hfll]at this
      exact this
     have e3:(sumN (gnD d rs pr fd pm).ports.length fun i=>Pc.of_ (out i) (b:Int))=vo b:=by
      rw[←hvo,←hOL,volV_range];rfl
     have e4:inA (gnD d rs pr fd pm) (b:Int)=sumN d.ports.length (fun p=>if 0 < pr.getD p 0 then (if fd.getD p 0=(b:Int) then pr.getD p 0 else 0) else 0):=rfl
     rw[e1,e2,e3,e4]at h1
     omega
    repeat (first|(refine n1s rfl ?_;simp[go_sem,↓iO,iO,tN])|refine anI ?_|refine⟨dcK,?_⟩|refine iP ?_|refine iN ?_)
    refine cF (cp) [(0,503)] ?_ ?_ ?_ ?_<;>simp[go_sem,↓iO,iO,tN]
    repeat (refine anI ?_)
    try (refine⟨dcK,?_⟩)
    refine cF (cf) [(0,503)] ?_ ?_ ?_ ?_<;>simp[go_sem,↓iO,iO,tN]
    repeat (refine anI ?_)
    try (refine⟨dcK,?_⟩)
    refine cF (ctk) [(0,503)] ?_ ?_ ?_ ?_<;>simp[go_sem,↓iO,iO,tN]
    repeat (first|(refine n1s rfl ?_;simp[go_sem,↓iO,iO,tN])|refine anI ?_|refine⟨dcK,?_⟩|refine iP ?_|refine iN ?_)
    refine cF (co) [(1000,600)] ?_ ?_ ?_ ?_<;>simp[go_sem,↓iO,iO,tN]
    repeat (first|(refine n1s rfl ?_;simp[go_sem,↓iO,iO,tN])|refine anI ?_|refine⟨dcK,?_⟩|refine iP ?_|refine iN ?_)
    refine nf1_sound' _ _ _ ?_;simp only[nf1]
    refine CW.loop (ι:=Nat) (fun q=>⟨[(3,.pt 503 [] 0),(4,.pt 504 [] 0),(6,.pt 506 [] 0),(7,.pt 507 [] 0),(8,.pt 508 [] 0),(10,.t (.int ((rem+1:Nat):Int))),(11,.pt 511 [] 0),(12,.t (.sl 1 (fd.map encI))),(13,.t (.int t)),(14,.t (.sl 1 (f1.map encPs))),(15,.t (.sl 1 (OL.map encPs))),(66,.t (.int d.ports.length)),(67,.t (.int q))],[(503,srcB s (nextK s k4)),(504,.box 33 (.t (.agg d.l))),(506,.box 63 (.t (.agg ((IP q).map encI)))),(507,.box 63 (.t (.agg (O.map encI)))),(508,.box 63 (.t (.agg (ST.map encI)))),(511,.box 45 (.t (.agg [.sl 1 (rs.map encI),.sl 1 (pr.map encI),.sl 1 pm])))]⟩)
     (fun q=>q≤d.ports.length) (fun q=>d.ports.length - q) 0 [(503,some 503),(504,some 504),(506,some 506),(507,some 507),(508,some 508),(511,some 111)] (by omega) ?_ ?_
    ·simp[go_sem,↓iO,iO,tN,IP0,lpr]
    intro q hq
    by_cases hqb:q < d.ports.length
    ·obtain⟨fv,hfv⟩:∃ v,fd[q]? = some v:=has_get (by omega)
     have hfvb:=hfdm fv (List.mem_of_getElem? hfv)
     obtain⟨fn,rfl⟩:∃ fn:Nat,fv=(fn:Int):=⟨fv.toNat,by omega⟩
     have hfvg:fd.getD q 0=(fn:Int):=by rw[List.getD_eq_getElem?_getD,hfv];rfl
     obtain⟨pz,hpz⟩:∃ v,pr[q]? = some v:=has_get (by omega)
     have hpzg:pr.getD q 0=pz:=by rw[List.getD_eq_getElem?_getD,hpz];rfl
     have hpzb:=hpl.bP q hqb
     rw[hpzg]at hpzb
     have ips:=IPs q
     have ipl:=IPl q
     have ipb:=IPb q hq fn (by omega)
     have hi6:=i6 fn
     rw[hfvg,hpzg,Int.toNat_natCast]at ips
     obtain⟨A,hA⟩:∃ A,IP q=A:=⟨_,rfl⟩
     rw[hA]at ips ipl ipb ⊢
     obtain⟨xa,hxa⟩:∃ x,A.getD fn 0=x:=⟨_,rfl⟩
     have ga:=get6 ipl (b:=fn) (by omega)
     rw[hxa]at ga ips ipb
     obtain⟨mx,hmx⟩:∃ m,max 0 pz=m:=⟨_,rfl⟩
     rw[hmx]at ips
     have htm:=t3 mx 1000 (by omega) (by omega)
     obtain⟨tm,htmx⟩:∃ m,(t:Int) * mx=m:=⟨_,rfl⟩
     rw[htmx]at ips htm
     repeat (first|(refine n1s rfl ?_;simp[go_sem,↓iO,iO,tN,hfv,hpz,ga,ipl,hmx,htmx])|refine anI ?_|refine⟨dcK,?_⟩|refine iP ?_|refine iN ?_)
     rw[RqN];refine⟨q+1,[(503,some 503),(504,some 504),(506,some 506),(507,some 507),(508,some 508),(511,some 511)],?_,?_,?_⟩
     ·omega
     ·omega
     simp[go_sem,↓iO,iO,tN,ips]
    ·obtain rfl:q=d.ports.length:=by omega
     obtain⟨I1,hI1⟩:∃ A,IP d.ports.length=A:=⟨_,rfl⟩
     have I1l:=IPl d.ports.length
     have I1b:=IPb d.ports.length (Nat.le_refl _)
     rw[hI1]at main I1l I1b ⊢
     repeat (first|(refine n1s rfl ?_;simp[go_sem,↓iO,iO,tN])|refine anI ?_|refine⟨dcK,?_⟩|refine iP ?_|refine iN ?_)
     refine nf1_sound' _ _ _ ?_;simp only[nf1]
     refine CW.loop (ι:=Nat) (fun b=>⟨[(3,.pt 503 [] 0),(4,.pt 504 [] 0),(6,.pt 506 [] 0),(7,.pt 507 [] 0),(8,.pt 508 [] 0),(10,.t (.int ((rem+1:Nat):Int))),(14,.t (.sl 1 (f1.map encPs))),(15,.t (.sl 1 (OL.map encPs))),(87,.t (.int b))],[(503,srcB s (nextK s k4)),(504,.box 33 (.t (.agg d.l))),(506,.box 63 (.t (.agg (I1.map encI)))),(507,.box 63 (.t (.agg ((AP b).map encI)))),(508,.box 63 (.t (.agg (ST.map encI))))]⟩)
      (fun b=>b≤6) (fun b=>6 - b) 0 [(503,some 503),(504,some 504),(506,some 506),(507,some 507),(508,some 508)] (by omega) ?_ ?_
     ·simp[go_sem,↓iO,iO,tN,AP0]
     intro b hb
     by_cases hb6:b < 6
     ·have cvo:=tvolume_fn OL (b:Int) (by omega) hOLv
      have cvn:=tvolume_fn f1 (b:Int) (by omega) hf1v
      rw[hvo]at cvo
      rw[hvn]at cvn
      have mb:=main b hb6
      have aps:=APs b
      have apl:=APl b
      have apg:=APg b (by omega) b
      rw[if_neg (by omega)]at apg
      have v1:=hvob b
      have v2:=hvnb b
      have v3:=hstb b
      have v4:=I1b b hb6
      have v5:=i6 b
      have v6:=i7 b
      have v7:=i8 b hb6
      have v8:=(volV_bd (b:Int) fl (fl_vl i3)).1
      have g1:=get6 I1l hb6
      have g2:=get6 STl hb6
      have stg:=STg b
      rw[if_pos hb6]at stg
      rw[stg]at g2
      obtain⟨A,hA⟩:∃ A,AP b=A:=⟨_,rfl⟩
      rw[hA]at aps apl apg ⊢
      have g3:=get6 apl hb6
      rw[apg]at g3 aps
      obtain⟨ib,hib⟩:∃ x,I1.getD b 0=x:=⟨_,rfl⟩
      rw[hib]at g1 mb v4
      obtain⟨ob,hob⟩:∃ x,O.getD b 0=x:=⟨_,rfl⟩
      rw[hob]at g3 aps mb v6 v7
      obtain⟨xi,hxi⟩:∃ x,I.getD b 0=x:=⟨_,rfl⟩
      rw[hxi]at v4 v5 v7
      obtain⟨w1,hw1⟩:∃ x,vo b=x:=⟨_,rfl⟩
      obtain⟨w2,hw2⟩:∃ x,vn b=x:=⟨_,rfl⟩
      obtain⟨w3,hw3⟩:∃ x,st b=x:=⟨_,rfl⟩
      rw[hw1]at cvo mb v1 aps
      rw[hw2]at cvn mb v2
      rw[hw3]at mb v3 v7 g2
      obtain⟨A',hA'⟩:∃ A',A.set b (ob+w1)=A':=⟨_,rfl⟩
      have g5:(A.map encI).set b (.lit (.int .i64 (ob+w1)))=A'.map encI:=by rw[←hA',List.map_set];rfl
      have g6:A'[b]? = some (ob+w1):=by rw[←hA',List.getElem?_set_self (by omega)]
      have apl':A'.length=6:=by rw[←hA',List.length_set];exact apl
      rw[hA']at aps
      repeat (first|(refine n1s rfl ?_;simp[go_sem,↓iO,iO,tN,g3,apl])|refine anI ?_|refine⟨dcK,?_⟩|refine iP ?_|refine iN ?_)
      refine cF (cvo) [] ?_ ?_ ?_ ?_<;>simp[go_sem,↓iO,iO,tN,g3,apl,g5]
      repeat (first|(refine n1s rfl ?_;simp[go_sem,↓iO,iO,tN,g1,g2,g6,apl',I1l,STl])|refine anI ?_|refine⟨dcK,?_⟩|refine iP ?_|refine iN ?_)
      refine cF (cvn) [] ?_ ?_ ?_ ?_<;>simp[go_sem,↓iO,iO,tN,g1,g2,g6,apl']
      repeat (first|(refine n1s rfl ?_;simp[go_sem,↓iO,iO,tN,g1,g2,g6,apl'])|refine anI ?_|refine⟨dcK,?_⟩|refine iP ?_|refine iN ?_)
      rw[RqN];refine⟨b+1,[(503,some 503),(504,some 504),(506,some 506),(507,some 507),(508,some 508)],?_,?_,?_⟩
      ·omega
      ·omega
      simp[go_sem,↓iO,iO,tN,aps]
     ·obtain rfl:b=6:=by omega
      repeat (first|(refine n1s rfl ?_;simp[go_sem,↓iO,iO,tN])|refine anI ?_|refine⟨dcK,?_⟩|refine iP ?_|refine iN ?_)
      refine cF (cck) [] ?_ ?_ ?_ ?_<;>simp[go_sem,↓iO,iO,tN]
      repeat (first|(refine n1s rfl ?_;simp[go_sem,↓iO,iO,tN])|refine anI ?_|refine⟨dcK,?_⟩|refine iP ?_|refine iN ?_)
      rw[RqN];refine⟨(rem,nextK s k4,f1,I1,AP 6),[(503,some 503),(504,some 504),(506,some 506),(507,some 507),(508,some 508)],?_,?_,?_⟩
      ·refine⟨by dsimp only;omega,hk4.next,fok hfo,I1l,APl 6,fun b=>?_,fun b=>?_,fun b hb=>?_⟩
       ·dsimp only
        by_cases hb6:b < 6
        ·have h1:=I1b b hb6
         have h2:=i6 b
         omega
        ·rw[List.getD_eq_getElem?_getD,List.getElem?_eq_none (by omega)];simp;omega
       ·dsimp only
        rw[APg 6 (Nat.le_refl _) b]
        have h1:=i7 b
        have h2:=hvob b
        split<;>omega
       ·dsimp only
        rw[APg 6 (Nat.le_refl _) b,if_pos hb,hvn]
        exact main b hb
      ·omega
      simp[go_sem,↓iO,iO,tN]
end Go.Proofs.YtdjmklobfjigoaaGreatDoor
namespace Go.Proofs.YtdjmklobfjigoaaGreatDoor
open Go.RowKit Sy
theorem conserves_all (x0:T) (i0:InSh (.sl (.int .i64)) x0):FnOk Tryz.prog 6 [.t x0] [] (.t (.bool true)) []:=by
 obtain⟨l,rfl,hl,wf⟩:=i64s_in i0
 exact conserves_fn l hl wf
end Go.Proofs.YtdjmklobfjigoaaGreatDoor
