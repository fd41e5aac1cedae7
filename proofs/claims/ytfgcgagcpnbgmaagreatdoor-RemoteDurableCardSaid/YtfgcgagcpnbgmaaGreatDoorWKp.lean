/-
  Lists of facts: their cells; each once.
-/
import Derived.Test.YtfgcgagcpnbgmaaGreatDoorWH
set_option linter.unusedVariables false
set_option linter.unusedSimpArgs false
set_option linter.unusedSectionVars false
namespace Go.Proofs.YtfgcgagcpnbgmaaGreatDoor
open Go.Xe Go.RowKit
abbrev F:=Nat→Int
def fsC (l:List F):List D:=l.flatMap fun f=>fcs f 0 57
@[simp] theorem Dl_:fsC []=[]:=rfl
theorem g6_ (f:F) (l:List F):fsC (f::l)=fcs f 0 57++fsC l:=by simp[fsC]
theorem qK_ (a b:List F):fsC (a++b)=fsC a++fsC b:=by simp[fsC]
theorem ar_ (f:F):(fcs f 0 57).length=57:=by simp[fcs]
theorem sT_:∀ l:List F,(fsC l).length=l.length*57
 | []=>rfl
 | f::l=>by rw[g6_,List.length_append,ar_,sT_ l,List.length_cons];omega
theorem ps_:∀ (l:List F) (i:Nat),(fsC l).drop (i*57)=fsC (l.drop i)
 | l,0=>by simp
 | [],i+1=>by simp
 | f::l,i+1=>by
  rw[g6_,List.drop_append,List.drop_of_length_le (by rw[ar_];omega),ar_,List.nil_append,show (i+1)*57-57=i*57 by omega,ps_ l i,List.drop_succ_cons]
def fat (l:List F) (i:Nat):F:=l.getD i f0
theorem sQ_ {l:List F} {i:Nat} (h:i<l.length):l.getD i f0=l[i]:=by simp[List.getD_eq_getElem?_getD,h]
theorem vl_ {l:List F} {i:Nat} (h:i<l.length):l.drop i=fat l i::l.drop (i+1):=by
 rw[fat,sQ_ h];exact List.drop_eq_getElem_cons h
theorem zM_ {l:List F} {i:Nat} (h:i<l.length):((fsC l).drop (i*57)).take 57=fcs (fat l i) 0 57:=by
 rw[ps_,vl_ h,g6_,List.take_append,ar_,Nat.sub_self,List.take_zero,List.append_nil,List.take_of_length_le (by rw[ar_];omega)]
theorem xw_ {l:List F} {i:Nat} (h:i<l.length):(((fsC l).map AV.d).drop (i*57)).take 57=(fcs (fat l i) 0 57).map .d:=by
 rw[← List.map_drop,← List.map_take,zM_ h]
theorem nb_:∀ (xs cs:List AV) (off:Nat),off+xs.length≤cs.length→setL cs off xs=cs.take off++xs++cs.drop (off+xs.length)
 | [],cs,off,_=>by simp[setL]
 | x::xs,cs,off,h=>by
  simp only[List.length_cons] at h
  rw[setL,nb_ xs (cs.set off x) (off+1) (by simp;omega)]
  have ho:off<cs.length:=by omega
  rw[List.set_eq_take_append_cons_drop,if_pos ho]
  have hl:(cs.take off).length=off:=by simp;omega
  have e1:(cs.take off++x::cs.drop (off+1)).take (off+1)=cs.take off++[x]:=by
   rw[List.take_append,hl,List.take_of_length_le (by omega),show off+1-off=1 by omega];rfl
  have e2:(cs.take off++x::cs.drop (off+1)).drop (off+1+xs.length)=cs.drop (off+(xs.length+1)):=by
   rw[List.drop_append,hl,List.drop_of_length_le (by omega),List.nil_append,show off+1+xs.length-off=xs.length+1 by omega,List.drop_succ_cons,List.drop_drop]
   congr 1;omega
  rw[e1,e2]
  simp
/-! ### each once: what is not as the one ahead of it -/
end Go.Proofs.YtfgcgagcpnbgmaaGreatDoor
