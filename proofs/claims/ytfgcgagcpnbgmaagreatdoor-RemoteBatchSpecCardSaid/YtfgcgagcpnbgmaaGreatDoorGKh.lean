/-
  Ledgers: the valid facts.
-/
import Derived.Test.YtfgcgagcpnbgmaaGreatDoorGKg
set_option linter.all false
namespace Go.Proofs.YtfgcgagcpnbgmaaGreatDoor
open Go.Xe Go.RowKit
abbrev Sg:=F×List D
def sgC (l:List Sg):List D:=l.flatMap fun p=>fcs p.1 0 57++p.2
def dN_ (p:Sg):Prop:=fOk p.1∧p.2.length=4∧∀ d∈p.2,oneD d=true
@[simp] def sgD (l:List Sg) (b:Bool):D:=.sl 61 (sgC l) l.length b
@[simp] def lgD (l:List Sg) (b:Bool):D:=.agg [sgD l b]
@[simp] def slF (l:List F):D:=.sl 57 (fsC l) l.length false
theorem eu_ (a b:List Sg):sgC (a++b)=sgC a++sgC b:=by simp[sgC]
theorem sgC_len:∀ {l:List Sg},(∀ p∈l,dN_ p)→(sgC l).length=l.length*61
 | [],_=>rfl
 | p::l,h=>by
  have e:sgC (p::l)=(fcs p.1 0 57++p.2)++sgC l:=rfl
  rw[e,List.length_append,List.length_append,a4_,(h p (by simp)).2.1,sgC_len fun q hq=>h q (by simp[hq]),List.length_cons]
  omega
theorem AH_ {l1 l2:List Sg} {p:Sg} (h:∀ q∈l1++p::l2,dN_ q):((sgC (l1++p::l2)).drop (l1.length*61)).take 61=fcs p.1 0 57++p.2:=by
 have e:sgC (p::l2)=(fcs p.1 0 57++p.2)++sgC l2:=rfl
 have h1:(sgC l1).length=l1.length*61:=sgC_len fun q hq=>h q (by simp[hq])
 have h2:(fcs p.1 0 57++p.2).length=61:=by rw[List.length_append,a4_,(h p (by simp)).2.1]
 rw[eu_,e,← h1,List.drop_left,List.take_append,h2,Nat.sub_self,List.take_zero,List.append_nil,List.take_of_length_le (by omega)]
end Go.Proofs.YtfgcgagcpnbgmaaGreatDoor
