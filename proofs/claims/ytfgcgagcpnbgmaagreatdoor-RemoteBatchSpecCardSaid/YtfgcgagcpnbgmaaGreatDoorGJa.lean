/-
  Joined texts.
-/
import Derived.Test.YtfgcgagcpnbgmaaGreatDoorGKp
set_option linter.all false
namespace Go.Proofs.YtfgcgagcpnbgmaaGreatDoor
open Go.Xe Go.RowKit
def FV_ (f:F):Int×Int:=(f 0,f 1)
abbrev R2:=Int×Int
def ltR (a b:R2):Prop:=a.1<b.1∨(a.1=b.1∧a.2<b.2)
instance (a b:R2):Decidable (ltR a b):=inferInstanceAs (Decidable (_∨_))
end Go.Proofs.YtfgcgagcpnbgmaaGreatDoor
