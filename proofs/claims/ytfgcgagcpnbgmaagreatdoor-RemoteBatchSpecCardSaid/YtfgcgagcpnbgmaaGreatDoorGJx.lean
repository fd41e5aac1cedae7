/-
  Evidence: where a signed fact stands among those of a place (binary search); a copy of them.
-/
import Derived.Test.YtfgcgagcpnbgmaaGreatDoorGJn
import Derived.Test.YtfgcgagcpnbgmaaGreatDoorGEngCr
import Derived.Test.YtfgcgagcpnbgmaaGreatDoorGJd
import Derived.Test.YtfgcgagcpnbgmaaGreatDoorGKh
import Derived.Test.YtfgcgagcpnbgmaaGreatDoorGKc
import Derived.Test.YtfgcgagcpnbgmaaGreatDoorGJa
import Derived.Test.YtfgcgagcpnbgmaaGreatDoorGF
import Derived.Test.YtfgcgagcpnbgmaaGreatDoorGEngFz
set_option linter.all false
namespace Go.Proofs.YtfgcgagcpnbgmaaGreatDoor
open Go.Xe Go.RowKit
def sgc (p:Sg):List D:=fcs p.1 0 57++p.2
def sgV (p:Sg):D:=.agg (sgc p)
theorem bu_ {p:Sg} (h:dN_ p):(sgc p).length=61:=by rw[sgc,List.length_append,a4_,h.2.1]
theorem jY_ (p:Sg):List.take 57 ((sgc p).map AV.d)=(fcs p.1 0 57).map .d:=by
 rw[sgc,← List.map_take,List.take_append,a4_,List.take_of_length_le (by rw[a4_];omega)]
 simp
theorem eU_ {p:Sg} (hp:dN_ p):∀ c∈(sgc p).map AV.d,oneA c=true:=fun c h=>by
 obtain⟨d,hd,rfl⟩:=List.mem_map.1 h
 rcases List.mem_append.1 hd with hd|hd
 ·exact fcs_side hd
 ·exact hp.2.2 d hd
@[simp] theorem Fx_ (p:Sg):Leq (.agg ((sgc p).map .d)) (.d (sgV p))↔True:=⟨fun _=>trivial,fun _=>al_ _⟩
@[simp] theorem Ek_ (p:Sg):Leq (.agg ((sgc p).map .d)) (.d (.agg (sgc p)))↔True:=⟨fun _=>trivial,fun _=>al_ _⟩
theorem yt_ {p:Sg} (h:dN_ p):List.take 61 (sgc p)=sgc p:=List.take_of_length_le (by rw[bu_ h];omega)
theorem ii_ {p:Sg} (h:dN_ p):List.take 61 ((sgc p).map AV.d)=(sgc p).map .d:=List.take_of_length_le (by rw[List.length_map,bu_ h];omega)
theorem jX_ {x:List Sg} {i:Nat} (hi:i<x.length) (h:∀ q∈x,dN_ q):((sgC x).drop (i*61)).take 61=sgc x[i]:=by
 have e:x=x.take i++x[i]::x.drop (i+1):=by
  rw[← List.drop_eq_getElem_cons hi,List.take_append_drop]
 have:=AH_ (l1:=x.take i) (p:=x[i]) (l2:=x.drop (i+1)) (by rw[← e];exact h)
 rw[← e,List.length_take,Nat.min_eq_left (by omega)] at this
 exact this
theorem sgc_oneD {p:Sg} (hp:dN_ p):∀ d∈sgc p,oneD d=true:=fun d hd=>by
 rcases List.mem_append.1 hd with hd|hd
 ·exact fcs_side hd
 ·exact hp.2.2 d hd
def FW_ (s:Sg) (x:List Sg):Nat:=(x.takeWhile fun t=>decide (FM_ t.1 s.1<0)).length
def isS (s:Sg) (x:List Sg):Bool:=match x[FW_ s x]? with
 | some t=>decide (FM_ t.1 s.1=0)
 | none=>false
end Go.Proofs.YtfgcgagcpnbgmaaGreatDoor
