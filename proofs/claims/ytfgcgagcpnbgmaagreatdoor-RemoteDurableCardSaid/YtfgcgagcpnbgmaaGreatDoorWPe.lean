/-
  Decode of Encode, and back.
-/
import Derived.Test.YtfgcgagcpnbgmaaGreatDoorWH
set_option linter.unusedVariables false
set_option linter.unusedSimpArgs false
set_option linter.unusedSectionVars false
namespace Go.Proofs.YtfgcgagcpnbgmaaGreatDoor
open Go.Xe Go.RowKit
theorem uU_ (l:List Int):(l.map sH_).map V.num=l:=by
 rw[List.map_map]
 exact (List.map_congr_left fun x _=>rfl).trans (List.map_id _)
theorem xQ_ {f:Nat→Int} (v:(numF f).2=true):encR f=(encF f,0):=if_pos v
theorem z8_ {f:Nat→Int} (v:¬ (numF f).2=true):encR f=([],120):=if_neg v
theorem vj_ {f:Nat→Int} (hf:fOk f):(encF f).length≤10000:=by
 obtain⟨h1,h2⟩:=fy_ hf
 obtain⟨_,_,h3,_⟩:=cV_ h1
 rw[encF,cj_,V.enc]
 have h10:=bM_ (u:=(numF f).1.length) (by unfold isU;omega)
 simp
 omega
theorem o2_ {f:Nat→Int} (hf:fOk f):pDec (encF f)=(cj_ (numF f).1,0):=by
 obtain⟨h1,h2⟩:=fy_ hf
 have a:=cU_ h1 (by omega)
 have ra:=pU_ (cj_ (numF f).1) 16 [] (hi_ a.1) a.2.1 (by omega) (by omega)
 rw[List.append_nil] at ra
 rw[pDec,encF,ra]
theorem uL_ {f:Nat→Int} (hf:fOk f):nA_ (encF f)=(numF f).1:=by
 rw[nA_,o2_ hf]
 exact uU_ _
theorem dS_ {f:Nat→Int} (hf:fOk f) (v:(numF f).2=true):decF (encF f)=(f,0):=by
 rw[decF,o2_ hf,if_pos rfl,yw_,uL_ hf,kK_ v hf,if_pos (xQ_ v)]
theorem xh_ {bs:List UInt8} (h:bs.length≤1000000000000):∀ x∈nA_ bs,isI x:=by
 rcases pDec_facts h with⟨_,hr,_⟩|hb
 ·rw[nA_]
  generalize (pDec bs).1=v at *
  obtain⟨k,n,s,l⟩:=v
  exact jT_ (c3_ hr).2
 ·rw[nA_,hb];simp[V.items]
theorem kD_ {bs:List UInt8} (h:bs.length≤1000000000000):fOk (decF bs).1:=by
 rw[decF]
 have h0:fOk f0:=⟨fun _=>sG_,.inl rfl,fun _ _=>rfl⟩
 split
 ·rw[yw_]
  split
  ·exact pI_ (xh_ h)
  ·exact h0
 ·exact h0
theorem decF_val {bs:List UInt8} (h:bs.length≤1000000000000):((decF bs).2=0∧encR (decF bs).1=(bs,0))∨((decF bs).2≠0∧(decF bs).1=f0):=by
 rw[decF]
 split
 ·rw[yw_]
  split
  ·rename_i h1;exact .inl ⟨rfl,h1⟩
  ·exact .inr ⟨by decide,rfl⟩
 ·rename_i h1;exact .inr ⟨h1,rfl⟩
end Go.Proofs.YtfgcgagcpnbgmaaGreatDoor
