/-
  Lists of facts: their cells; each once.
-/
import Derived.Test.YtfgcgagcpnbgmaaGreatDoorGH
set_option linter.all false
namespace Go.Proofs.YtfgcgagcpnbgmaaGreatDoor
open Go.Xe Go.RowKit
abbrev F:=Nat→Int
def fsC (l:List F):List D:=l.flatMap fun f=>fcs f 0 57
@[simp] theorem E5_:fsC []=[]:=rfl
theorem a4_ (f:F):(fcs f 0 57).length=57:=by simp[fcs]
theorem oI_:∀ (xs cs:List AV) (off:Nat),off+xs.length≤cs.length→setL cs off xs=cs.take off++xs++cs.drop (off+xs.length)
 | [],cs,off,_=>by simp[setL]
 | x::xs,cs,off,h=>by
  simp only[List.length_cons] at h
  rw[setL,oI_ xs (cs.set off x) (off+1) (by simp;omega)]
  have ho:off<cs.length:=by omega
  rw[List.set_eq_take_append_cons_drop,if_pos ho]
  have hl:(cs.take off).length=off:=by simp;omega
  have e1:(cs.take off++x::cs.drop (off+1)).take (off+1)=cs.take off++[x]:=by
   rw[List.take_append,hl,List.take_of_length_le (by omega),show off+1-off=1 by omega];rfl
  have e2:(cs.take off++x::cs.drop (off+1)).drop (off+1+xs.length)=cs.drop (off+(xs.length+1)):=by
   rw[List.drop_append,hl,List.drop_of_length_le (by omega),List.nil_append,show off+1+xs.length-off=xs.length+1 by omega,List.drop_succ_cons,List.drop_drop]
   congr 1;omega
  rw[e1,e2]
  simp
end Go.Proofs.YtfgcgagcpnbgmaaGreatDoor
