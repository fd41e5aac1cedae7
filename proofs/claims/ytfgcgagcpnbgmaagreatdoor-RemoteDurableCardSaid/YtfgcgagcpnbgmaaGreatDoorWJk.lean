/-
  Joined texts.
-/
import Derived.Test.YtfgcgagcpnbgmaaGreatDoorWJg
import Derived.Test.YtfgcgagcpnbgmaaGreatDoorWEngFz
set_option linter.unusedVariables false
set_option linter.unusedSimpArgs false
set_option linter.unusedSectionVars false
namespace Go.Proofs.YtfgcgagcpnbgmaaGreatDoor
open Go.Xe Go.RowKit
theorem vz_ (a b:R2):cmpR a b<0↔ltR a b:=by
 unfold cmpR orL orL orL d2_ ltR
 constructor
 ·intro h
  split at h<;>(try split at h)<;>(try split at h)<;>(try split at h)<;>(try split at h)<;>(try split at h)<;>omega
 ·intro h
  split<;>(try split)<;>(try split)<;>(try split)<;>(try split)<;>(try split)<;>omega
theorem BW_ (a b:R2):Go.Proofs.ltOf cmpR a b=decide (ltR a b):=by
 have:Go.Proofs.ltOf cmpR a b=decide (cmpR a b<0):=rfl
 rw[this]
 exact decide_eq_decide.2 (vz_ a b)
theorem swo_R:Go.Sort.SWO (Go.Proofs.ltOf cmpR):=by
 constructor
 ·intro x
  rw[BW_,decide_eq_false_iff_not]
  exact nE_ x
 ·intro x y z h1 h2
  rw[BW_,decide_eq_true_eq] at *
  exact lu_ h1 h2
 ·intro x y z h1 h2
  rw[BW_,decide_eq_false_iff_not] at *
  unfold ltR at *
  omega
def rfV (r:R2):List Value:=[.int .i64 r.1,.int .i64 r.2]
theorem oM_ (o:List R2):y0_ rfV o=(rfC o).map .d:=by
 induction o with
 | nil=>rfl
 | cons r o ih =>
  rw[show rfC (r::o)=[.v (.int .i64 r.1),.v (.int .i64 r.2)]++rfC o from rfl,List.map_append,← ih]
  simp[y0_,rfV]
theorem ue_ {M o:List R2} (hnd:M.Nodup) (h:o.Perm M):oG_ cmpR o=sortR M:=by
 obtain⟨hp,hs⟩:=ry_ swo_R o
 have hpm:(oG_ cmpR o).Perm M:=hp.trans h
 have hnd2:(oG_ cmpR o).Nodup:=hpm.nodup_iff.2 hnd
 refine uf_ ?_ fun x=>hpm.mem_iff
 have h2:(oG_ cmpR o).Pairwise fun a b=>¬ ltR b a:=hs.imp fun {a b} h=>by
  rw[BW_,decide_eq_false_iff_not] at h
  exact h
 exact (h2.and hnd2).imp fun {a b} h=>by
  rcases ltR_tri a b with h'|h'|h'
  ·exact h'
  ·exact absurd h' h.2
  ·exact absurd h' h.1
end Go.Proofs.YtfgcgagcpnbgmaaGreatDoor
set_option linter.unusedVariables false
set_option linter.unusedSimpArgs false
set_option linter.unusedSectionVars false
namespace Go.Proofs.YtfgcgagcpnbgmaaGreatDoor
open Go.Xe Go.RowKit
theorem lZ_ {l:List R2} {r:R2} (h:l.Nodup):(b4_ l r).Nodup:=by
 unfold b4_
 split
 ·exact h
 ·rename_i hn
  exact List.nodup_append.2 ⟨h,by simp,fun a ha b hb e=>by rw[List.mem_singleton] at hb;subst hb;subst e;exact hn ha⟩
end Go.Proofs.YtfgcgagcpnbgmaaGreatDoor
