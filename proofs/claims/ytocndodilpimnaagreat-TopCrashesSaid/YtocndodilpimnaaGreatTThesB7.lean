/- Several texts of this proof, one behind the other. No condition. -/
import Derived.Test.YtocndodilpimnaaGreatTThesB6
import Derived.Lib.AppendStr
set_option maxRecDepth 100000
set_option maxHeartbeats 16000000
set_option linter.unusedVariables false
set_option linter.unusedSimpArgs false
namespace Go.Proofs.YtocndodilpimnaaGreat.Sy
open Go.RowKit Go.Lib
theorem uU {P:Program} {w:World} {t u ty e:TypeId} {b n:Nat} {v:Value} {cells:List Value} (he:aK P t=some e) (hs:jP P e=some (1,b)) (hu:P.underlying u=some .string) (hown:w.ownsRow 0 e 1 v n cells) (s:ByteArray) (hb:(n+s.size) * b≤140737488355328) :
  ∃ v' w',(Builtin.append_ #[t,u] ty #[v,.string s]).run P w = .ok v' w'∧w'.ownsRow 0 e 1 v' (n+s.size) (cells++strCells s)∧w.grownBy w' (aW v)∧((aW v'=aW v)∨aW v'=some w.heap.size)∧∃ x' c',v' = .slice x' (n+s.size) c':=by
 obtain⟨i,z,hi,hz,hzs,hsize,hby,_,hb0⟩:=iV hs
 have ht:=bp he
 have hle:(n+s.size) * 1≤(n+s.size) * b:=Nat.mul_le_mul_left _ hb0
 have h63:n+s.size≤maxLen:=by unfold maxLen;omega
 have hxl:cells.length=n:=by simpa using hown.1
 have hlen:(cells++strCells s).length=(n+s.size) * 1:=by rw[List.length_append,hxl,strCells_length,Nat.mul_one]
 have grown:∀ (old:Nat),old < n+s.size→∀ (row:Option Nat),
   (w.drew.alloc (.cells (cells.toArray++(strCells s).toArray++Builtin.zeroCells z.cells (grownCap w (n+s.size) old e - (n+s.size))) e)).ownsRow 0 e 1
    (.slice (some ⟨w.heap.size,0,none⟩) (n+s.size) (grownCap w (n+s.size) old e)) (n+s.size) (cells++strCells s)∧
   w.grownBy (w.drew.alloc (.cells (cells.toArray++(strCells s).toArray++Builtin.zeroCells z.cells (grownCap w (n+s.size) old e - (n+s.size))) e)) row:=by
  intro old ho row
  have hge:=grownCap_ge w (n+s.size) old e
  have hcm:grownCap w (n+s.size) old e≤maxLen:=grownCap_le_maxLen w (n+s.size) old e h63
  refine⟨⟨hlen,.inr ⟨w.heap.size,_,_,rfl,Nat.zero_le _,heap_alloc_new w.drew _,hge,hcm,?_,?_⟩⟩,⟨rfl,rfl,rfl,by simp,fun k hk _=>heap_alloc_old w.drew _ hk⟩⟩
  ·simp only[Array.size_append,List.size_toArray,size_zeroCells,hzs,hxl,strCells_length]
   omega
  ·simp only[Array.toList_append,List.append_assoc]
   rw[←List.append_assoc,←hlen]
   exact List.take_left
 rcases hown.2 with ⟨rfl,rfl⟩|⟨g,cap,cur,rfl,hbg,hg,hnc,hcm,hcs,htake⟩
 ·have hx:cells=[]:=List.eq_nil_of_length_eq_zero hxl
  subst hx
  by_cases hm:s.size=0
  ·have hn:strCells s=[]:=List.eq_nil_of_length_eq_zero (by rw[strCells_length];exact hm)
   refine⟨.slice none 0 0,w,?_,by rw[hm,hn];exact World.ownsRow_nil w 0 e 1,⟨rfl,rfl,rfl,Nat.le_refl _,fun _ _ _=>rfl⟩,.inl rfl,none,0,by rw[hm]⟩
   have hf:=run_firstCells_string (P:=P) w 1 s
   rw[hm]at hf
   simp[Builtin.append_,run_underlying ht,run_underlying hu,sizeOf,typeInfo,hi,hsize,Builtin.lenOf,hm,hf]
  ·have hr:=run_append_nil_string (P:=P) w t u ty e i z ht hu hi hz s (by omega) (by unfold maxLen at h63;omega) (by rw[hby,Nat.mul_comm]at *;rw[Nat.zero_add]at hb;first|omega|(rw[Nat.mul_comm];omega))
   have hgr:=grown 0 (by omega) (aW (.slice none 0 0))
   simp only[Nat.zero_add,List.nil_append,Array.empty_append]at hgr ⊢
   have e1:(s.data.map fun b=>Value.int .u8 b.toNat)=(strCells s).toArray:=by
    apply Array.ext'
    simp[strCells]
   rw[e1]at hr
   exact⟨_,_,hr,hgr.1,hgr.2,.inr rfl,_,_,rfl⟩
 ·by_cases hroom:n+s.size≤cap
  ·have hcs':cur.size=cap:=by simpa using hcs
   have hr:=run_append_room_string (P:=P) w t u ty e i ht hu hi hsize g n cap cur hg s hroom (by omega)
   refine⟨_,_,hr,⟨hlen,.inr ⟨g,cap,_,rfl,hbg,setRow_heap w g cur _ e _ hg,hroom,hcm,?_,?_⟩⟩,⟨rfl,rfl,rfl,by simp,fun k _ hk=>setRow_other w g k _ (fun e=>hk (by simp[aW,e]))⟩,.inl rfl,_,_,rfl⟩
   ·simp only[List.size_toArray,List.length_append,List.length_take,List.length_drop,Array.length_toList,strCells_length]
    omega
   ·have ht':cur.toList.take n=cells:=by simpa using htake
    rw[ht',←hlen]
    exact List.take_left
  ·have holds:∀ j u,cells[j]? = some u→w.cell? ((⟨g,0,none⟩:Addr).add j)=some u:=hown.cells (g:=g) rfl
   have hr:=run_append_grow_string (P:=P) w t u ty e i z ht hu hi hz ⟨g,0,none⟩ n cap cells (by rw[hsize];simpa using hxl) holds s (by omega) (by unfold maxLen at h63;omega) (by
    have h1:Builtin.nextslicecap (n+s.size) cap * i.bytes≤281474976710656:=growslice_fits (by omega) (by rw[hby];exact hb)
    exact h1)
   have hgr:=grown cap (by omega) (aW (.slice (some ⟨g,0,none⟩) n cap))
   exact⟨_,_,hr,hgr.1,hgr.2,.inr rfl,_,_,rfl⟩
def nr (s:ByteArray):List T:=s.data.toList.map fun c=>T.lit (.int .u8 c.toNat)
theorem xA (s:ByteArray):(nr s).length=s.size:=by simp only[nr,List.length_map,Array.length_toList];rfl
theorem EC {F:Nat→Prop} {w:World} (s:ByteArray):ay F w (nr s) (strCells s):=by
 unfold nr strCells
 generalize s.data.toList=l
 induction l with
 | nil=>simp only[List.map_nil];unfold ay;rfl
 | cons c r ih=>
  simp only[List.map_cons]
  unfold ay
  exact⟨_,_,rfl,by unfold aO;exact⟨rfl,rfl⟩,ih⟩
theorem rQ {N:Nat} {P:Program} {o:Oper} {R:Operand→S} {h:Nat→Option aA} {t t' e:TypeId} {x y:Operand} {b l d:Nat} {xs:List T} {s:ByteArray} (ho:o.op = .call {callee:=.builtin .append,args:=#[x,y],argTypes:=#[t,t']}) (he:aK P t=some e) (hs:jP P e=some (1,b)) (hu:iS P t'=true)
  (hx:R x = .own l) (hl:h l=some (.list e 1 xs)) (hy:R y = .t (.lit (.string s))) (hb:(xs.length+s.size) * b≤140737488355328) (hdl:d≠l):bm N P o R h ⟨.own d,[(d,some (.list e 1 (xs++nr s))),(l,none)],[l],[d]⟩:=by
 intro W G0 A G g h' a w Q K hsat hop hfp hnw hK
 obtain⟨hd,hfg,hfh⟩:=hnw d (by simp)
 have h1:=hsat.eval x
 rw[hop x (by simp[ho,Op.operands,Call.operands]),hx]at h1
 unfold ar at h1
 have h2:=hsat.eval y
 rw[hop y (by simp[ho,Op.operands,Call.operands]),hy]at h2
 unfold ar aO at h2
 have hl':h' l=some (.list e 1 xs):=by rw[hfp l (by simp)];exact hl
 obtain⟨x1,c1,cells,h7,h8,h9,h10⟩:=hsat.heap.rep l _ hl'
 obtain⟨v',w',h11,h12,h13,h14,x',c',h15⟩:=uU (P:=P) (ty:=o.type) he hs (eZ hu) h10 s hb
 have hnF:∀ k,aW (G.β l)=some k→¬ G.F k:=fun k hk=>hsat.heap.sep l _ k hl' (.inl hk)
 have hcell:∀ b o,G.F b→w'.cell? ⟨b,o,none⟩=w.cell? ⟨b,o,none⟩:=fun b o hF=>bj (h13.block b (hsat.heap.fb b hF) (fun e=>hnF b e.symm hF))
 have hrun:(execOp a.eval o).run P w = .ok (.value v') w':=by
  unfold execOp
  simp only[ho,resolve,invoke,builtin,Sem.run_bind,Sem.run_pure,Result.andThen_ok,List.map_toArray,List.map_cons,List.map_nil,h1.1,h2.1,h11]
 have hx:=Ext.mk' hsat.heap (aW (G.β l)) h13 (some l) (fun k hk=>⟨_,by cases hk;exact hl'⟩) (fun k hk=>⟨l,rfl,hk⟩) d v' (.list e 1 (xs++nr s)) (.inr hd) [d] (.inl rfl)
  (fun k hk l b hl=>by simp at hk;subst hk;exact hfh l b hl) (fun k hk=>by
   rcases h14 with h14|h14
   ·exact .inl ⟨l,rfl,by rw[←h14];exact hk⟩
   ·right;rw[h14]at hk;cases hk;exact Nat.le_refl _)
  (by
   refine⟨x',c',cells++strCells s,by rw[h15,List.length_append,xA],?_,?_,by rw[List.length_append,xA];exact h12⟩
   ·exact ay.append (ay.mono (fun _ h=>h) hcell _ _ h8) (EC s)
   ·intro z hz
    rcases List.mem_append.1 hz with hz|hz
    ·exact h9 z hz
    ·unfold nr at hz
     obtain⟨q,_,rfl⟩:=List.mem_map.1 hz
     rfl) (ik.plain rfl)
 rw[lG h' d l]at hx
 exact dm hrun (hK v' _ _ hx (by unfold ar;exact⟨(dw _ _ _).symm,_,_,_,h15⟩))
end Go.Proofs.YtocndodilpimnaaGreat.Sy
