/-
  Evidence: the keys of a map of references, in one of several orders.
-/
import Derived.Test.YtfgcgagcpnbgmaaGreatDoorWJd
import Derived.Test.YtfgcgagcpnbgmaaGreatDoorWF
set_option linter.unusedVariables false
set_option linter.unusedSimpArgs false
set_option linter.unusedSectionVars false
namespace Go.Proofs.YtfgcgagcpnbgmaaGreatDoor
open Go.Xe Go.RowKit
def cmpR (a b:R2):Int:=orL [d2_ a.1 b.1,d2_ a.2 b.2]
abbrev rfD (r:R2):D:=.agg [.v (.int .i64 r.1),.v (.int .i64 r.2)]
theorem w8_ (a b:Int):Fun Tryz.prog 192 [.row 1000] [(1000,.row 3 1 2 [.d (.v (.int .i64 a)),.d (.v (.int .i64 b))])] (.d (.v (.int .i64 (orL [a,b])))) [] fun _=>False :=
 b1_ 1000 (T:=3) (cs:=iD [a,b]) (w9_ [a,b] (by simp)) rfl rfl trivial
theorem uv_ (r:R2):Leq (.d (.v (eO_ r))) (.agg [.d (.v (.int .i64 r.1)),.d (.v (.int .i64 r.2))]):=fun w I β v hv=>by
 rw[DenA_v] at hv
 subst hv
 exact⟨[.int .i64 r.1,.int .i64 r.2],rfl,_,_,rfl,DenA_v.2 rfl,_,_,rfl,DenA_v.2 rfl,rfl⟩
def qB_:Value→R2
 | .agg #[.int _ a,.int _ b]=>(a,b)
 | _=>(0,0)
theorem zF_ (r:R2):qB_ (eO_ r)=r:=rfl
end Go.Proofs.YtfgcgagcpnbgmaaGreatDoor
