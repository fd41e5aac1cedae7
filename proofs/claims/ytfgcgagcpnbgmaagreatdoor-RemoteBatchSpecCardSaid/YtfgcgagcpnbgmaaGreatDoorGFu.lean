/-
  Joined texts.
-/
import Derived.Test.YtfgcgagcpnbgmaaGreatDoorGH
import Derived.Test.YtfgcgagcpnbgmaaGreatDoorG4
set_option linter.all false
set_option maxRecDepth 10000
set_option maxHeartbeats 4000000
namespace Go.Proofs.YtfgcgagcpnbgmaaGreatDoor
open Go.Xe Go.RowKit
theorem BF_ (l:List Int) (i:Nat) (hi:i<l.length):(iD l)[i]? = some (.v (.int .i64 (bG_ l i))):=by
 induction l generalizing i with
 | nil=>simp at hi
 | cons x l ih =>
  cases i with
  | zero=>simp[bG_]
  | succ i =>
   simp only[List.length_cons] at hi
   rw[zm_,List.getElem?_cons_succ,ih i (by omega)]
   simp[bG_]
theorem aU_ (l:List Int) (i:Nat) (hi:i<l.length+12):atL ((iD l).map AV.d++List.replicate 12 (AV.d (.v (.int .i64 0)))) i=.d (.v (.int .i64 (bG_ l i))):=by
 rw[← df_]
 by_cases h:i<l.length
 ·rw[List.getElem?_append_left (by simpa using h),List.getElem?_map,BF_ l i h];rfl
 ·rw[List.getElem?_append_right (by simp;omega),List.getElem?_replicate,if_pos (by simp;omega)]
  rw[bG_,List.getElem?_eq_none (by omega)]
  rfl
theorem bF_ (l:List Int) (k:Nat):am_ k ((iD l).map AV.d++List.replicate 12 (AV.d (.v (.int .i64 0))))=false:=by
 rw[hasL_append,hasL_d];rfl
theorem bs_ {g:Nat→Int} (h:g 54=0):fup g 54 0=g:=by
 funext i
 unfold fup
 split
 ·rename_i e;rw[e,h]
 ·rfl
def dP_ (l:List Int):Nat→Int:=fup (fup (fup (fup f0 3 (bG_ l 0)) 0 (bG_ l 1)) 1 (bG_ l 2)) 2 (bG_ l 3)
theorem qH_ (l:List Int):e4_ l=dP_ l:=rfl
theorem be_ {l:List Int} {E:List Ent} (h:ents (bG_ l 0) 0=some E):candG l=fup (rdE l E 4 (dP_ l,0)).1 54 (if (rdE l E 4 (dP_ l,0)).2=1 then 1 else 0):=by
 have:candE l=E:=by rw[candE,show e4_ l 3=bG_ l 0 from rfl,h];rfl
 rw[candG,this,qH_]
theorem u1_ {l:List Int} (h:ents (bG_ l 0) 0=none):candG l=dP_ l:=by
 have:candE l=[]:=by rw[candE,show e4_ l 3=bG_ l 0 from rfl,h];rfl
 rw[candG,this,qH_]
 exact bs_ rfl
theorem zZ_ (l:List Int) (hl:l.length≤100000) (hk:bG_ l 0=1):Fn0 Tryz.prog 158 [slI l] (fD (candG l)):=by
 have hE:=be_ (l:=l) (by rw[hk];simp[ents];rfl)
 refine ad_ (pn:=an_) ac_ Tryz.func158 rfl fun β0=>?_
 simp only[Tryz.f158]
 repeat(first|apply wG|(apply wR;simp -dsimp[az_])|refine aI ?_)
 refine aD_ ac_ (zl:=.int .i64 0) (m:=12) (k:=8) (j:=7) rfl rfl rfl rfl rfl rfl rfl rfl (by omega) rfl (by simp;omega) (by simp) ?_
 have hh:=bF_ l
 have h0:=aU_ l 0 (by omega)
 have h1:=aU_ l 1 (by omega)
 have h2:=aU_ l 2 (by omega)
 have h3:=aU_ l 3 (by omega)
 have h4:=aU_ l 4 (by omega)
 have h5:=aU_ l 5 (by omega)
 have h6:=aU_ l 6 (by omega)
 have h7:=aU_ l 7 (by omega)
 have h8:=aU_ l 8 (by omega)
 have h9:=aU_ l 9 (by omega)
 have h10:=aU_ l 10 (by omega)
 have h11:=aU_ l 11 (by omega)
 have hcl:((iD l).map AV.d++List.replicate 12 (AV.d (.v (.int .i64 0)))).length=l.length+12:=by simp
 generalize (iD l).map AV.d++List.replicate 12 (AV.d (.v (.int .i64 0)))=cs at *
 simp -dsimp[hh]
 repeat(first|apply wG|(apply wR;simp -dsimp[hh,hcl,h0,h1,h2,h3,h4,h5,h6,h7,h8,h9,h10,h11,az_])|refine aI ?_)
 have hk3:bG_ l 0=1:=hk
 refine cT (by simp[fup,hk]) ?_
 repeat(first|apply wG|(apply wR;simp -dsimp[hh,hcl,h0,h1,h2,h3,h4,h5,h6,h7,h8,h9,h10,h11,setL])|refine aI ?_)
 refine WP.ret (ab_ ?_)
 simp -dsimp[hE,rdE,dP_,fD]
 all_goals first|exact al_ _|(rw[bs_ (by simp[fup,f0])];exact al_ _)
theorem zY_ (l:List Int) (hl:l.length≤100000) (hk:bG_ l 0=2):Fn0 Tryz.prog 158 [slI l] (fD (candG l)):=by
 have hE:=be_ (l:=l) (by rw[hk];simp[ents];rfl)
 refine ad_ (pn:=an_) ac_ Tryz.func158 rfl fun β0=>?_
 simp only[Tryz.f158]
 repeat(first|apply wG|(apply wR;simp -dsimp[az_])|refine aI ?_)
 refine aD_ ac_ (zl:=.int .i64 0) (m:=12) (k:=8) (j:=7) rfl rfl rfl rfl rfl rfl rfl rfl (by omega) rfl (by simp;omega) (by simp) ?_
 have hh:=bF_ l
 have h0:=aU_ l 0 (by omega)
 have h1:=aU_ l 1 (by omega)
 have h2:=aU_ l 2 (by omega)
 have h3:=aU_ l 3 (by omega)
 have h4:=aU_ l 4 (by omega)
 have h5:=aU_ l 5 (by omega)
 have h6:=aU_ l 6 (by omega)
 have h7:=aU_ l 7 (by omega)
 have hcl:((iD l).map AV.d++List.replicate 12 (AV.d (.v (.int .i64 0)))).length=l.length+12:=by simp
 generalize (iD l).map AV.d++List.replicate 12 (AV.d (.v (.int .i64 0)))=cs at *
 simp -dsimp[hh]
 repeat(first|apply wG|(apply wR;simp -dsimp[hh,hcl,h0,h1,h2,h3,h4,h5,h6,h7,az_])|refine aI ?_)
 have hk3:bG_ l 0=2:=hk
 refine cF (by simp[fup,hk]) ?_
 repeat(first|apply wG|(apply wR;simp -dsimp[hh,hcl,h0,h1,h2,h3,h4,h5,h6,h7])|refine aI ?_)
 refine cT (by simp[fup,hk]) ?_
 repeat(first|apply wG|(apply wR;simp -dsimp[hh,hcl,h0,h1,h2,h3,h4,h5,h6,h7,setL])|refine aI ?_)
 refine WP.ret (ab_ ?_)
 simp -dsimp[hE,rdE,dP_,fD]
 all_goals first|exact al_ _|(rw[bs_ (by simp[fup,f0])];exact al_ _)
theorem zX_ (l:List Int) (hl:l.length≤100000) (hk:bG_ l 0=3):Fn0 Tryz.prog 158 [slI l] (fD (candG l)):=by
 have hE:=be_ (l:=l) (by rw[hk];simp[ents];rfl)
 refine ad_ (pn:=an_) ac_ Tryz.func158 rfl fun β0=>?_
 simp only[Tryz.f158]
 repeat(first|apply wG|(apply wR;simp -dsimp[az_])|refine aI ?_)
 refine aD_ ac_ (zl:=.int .i64 0) (m:=12) (k:=8) (j:=7) rfl rfl rfl rfl rfl rfl rfl rfl (by omega) rfl (by simp;omega) (by simp) ?_
 have hh:=bF_ l
 have h0:=aU_ l 0 (by omega)
 have h1:=aU_ l 1 (by omega)
 have h2:=aU_ l 2 (by omega)
 have h3:=aU_ l 3 (by omega)
 have h4:=aU_ l 4 (by omega)
 have h5:=aU_ l 5 (by omega)
 have h6:=aU_ l 6 (by omega)
 have h7:=aU_ l 7 (by omega)
 have h8:=aU_ l 8 (by omega)
 have hcl:((iD l).map AV.d++List.replicate 12 (AV.d (.v (.int .i64 0)))).length=l.length+12:=by simp
 generalize (iD l).map AV.d++List.replicate 12 (AV.d (.v (.int .i64 0)))=cs at *
 simp -dsimp[hh]
 repeat(first|apply wG|(apply wR;simp -dsimp[hh,hcl,h0,h1,h2,h3,h4,h5,h6,h7,h8,az_])|refine aI ?_)
 have hk3:bG_ l 0=3:=hk
 refine cF (by simp[fup,hk]) ?_
 repeat(first|apply wG|(apply wR;simp -dsimp[hh,hcl,h0,h1,h2,h3,h4,h5,h6,h7,h8])|refine aI ?_)
 refine cF (by simp[fup,hk]) ?_
 repeat(first|apply wG|(apply wR;simp -dsimp[hh,hcl,h0,h1,h2,h3,h4,h5,h6,h7,h8])|refine aI ?_)
 refine cT (by simp[fup,hk]) ?_
 repeat(first|apply wG|(apply wR;simp -dsimp[hh,hcl,h0,h1,h2,h3,h4,h5,h6,h7,h8,setL])|refine aI ?_)
 refine WP.ret (ab_ ?_)
 simp -dsimp[hE,rdE,dP_,fD]
 all_goals first|exact al_ _|(rw[bs_ (by simp[fup,f0])];exact al_ _)
theorem zW_ (l:List Int) (hl:l.length≤100000) (hk:bG_ l 0=4):Fn0 Tryz.prog 158 [slI l] (fD (candG l)):=by
 have hE:=be_ (l:=l) (by rw[hk];simp[ents];rfl)
 refine ad_ (pn:=an_) ac_ Tryz.func158 rfl fun β0=>?_
 simp only[Tryz.f158]
 repeat(first|apply wG|(apply wR;simp -dsimp[az_])|refine aI ?_)
 refine aD_ ac_ (zl:=.int .i64 0) (m:=12) (k:=8) (j:=7) rfl rfl rfl rfl rfl rfl rfl rfl (by omega) rfl (by simp;omega) (by simp) ?_
 have hh:=bF_ l
 have h0:=aU_ l 0 (by omega)
 have h1:=aU_ l 1 (by omega)
 have h2:=aU_ l 2 (by omega)
 have h3:=aU_ l 3 (by omega)
 have h4:=aU_ l 4 (by omega)
 have h5:=aU_ l 5 (by omega)
 have h6:=aU_ l 6 (by omega)
 have h7:=aU_ l 7 (by omega)
 have h8:=aU_ l 8 (by omega)
 have h9:=aU_ l 9 (by omega)
 have h10:=aU_ l 10 (by omega)
 have h11:=aU_ l 11 (by omega)
 have hcl:((iD l).map AV.d++List.replicate 12 (AV.d (.v (.int .i64 0)))).length=l.length+12:=by simp
 generalize (iD l).map AV.d++List.replicate 12 (AV.d (.v (.int .i64 0)))=cs at *
 simp -dsimp[hh]
 repeat(first|apply wG|(apply wR;simp -dsimp[hh,hcl,h0,h1,h2,h3,h4,h5,h6,h7,h8,h9,h10,h11,az_])|refine aI ?_)
 have hk3:bG_ l 0=4:=hk
 refine cF (by simp[fup,hk]) ?_
 repeat(first|apply wG|(apply wR;simp -dsimp[hh,hcl,h0,h1,h2,h3,h4,h5,h6,h7,h8,h9,h10,h11])|refine aI ?_)
 refine cF (by simp[fup,hk]) ?_
 repeat(first|apply wG|(apply wR;simp -dsimp[hh,hcl,h0,h1,h2,h3,h4,h5,h6,h7,h8,h9,h10,h11])|refine aI ?_)
 refine cF (by simp[fup,hk]) ?_
 repeat(first|apply wG|(apply wR;simp -dsimp[hh,hcl,h0,h1,h2,h3,h4,h5,h6,h7,h8,h9,h10,h11])|refine aI ?_)
 refine cT (by simp[fup,hk]) ?_
 repeat(first|apply wG|(apply wR;simp -dsimp[hh,hcl,h0,h1,h2,h3,h4,h5,h6,h7,h8,h9,h10,h11,setL])|refine aI ?_)
 refine WP.ret (ab_ ?_)
 simp -dsimp[hE,rdE,dP_,fD]
 all_goals first|exact al_ _|(rw[bs_ (by simp[fup,f0])];exact al_ _)
theorem zV_ (l:List Int) (hl:l.length≤100000) (hk:bG_ l 0=5):Fn0 Tryz.prog 158 [slI l] (fD (candG l)):=by
 have hE:=be_ (l:=l) (by rw[hk];simp[ents];rfl)
 refine ad_ (pn:=an_) ac_ Tryz.func158 rfl fun β0=>?_
 simp only[Tryz.f158]
 repeat(first|apply wG|(apply wR;simp -dsimp[az_])|refine aI ?_)
 refine aD_ ac_ (zl:=.int .i64 0) (m:=12) (k:=8) (j:=7) rfl rfl rfl rfl rfl rfl rfl rfl (by omega) rfl (by simp;omega) (by simp) ?_
 have hh:=bF_ l
 have h0:=aU_ l 0 (by omega)
 have h1:=aU_ l 1 (by omega)
 have h2:=aU_ l 2 (by omega)
 have h3:=aU_ l 3 (by omega)
 have h4:=aU_ l 4 (by omega)
 have h5:=aU_ l 5 (by omega)
 have h6:=aU_ l 6 (by omega)
 have h7:=aU_ l 7 (by omega)
 have hcl:((iD l).map AV.d++List.replicate 12 (AV.d (.v (.int .i64 0)))).length=l.length+12:=by simp
 generalize (iD l).map AV.d++List.replicate 12 (AV.d (.v (.int .i64 0)))=cs at *
 simp -dsimp[hh]
 repeat(first|apply wG|(apply wR;simp -dsimp[hh,hcl,h0,h1,h2,h3,h4,h5,h6,h7,az_])|refine aI ?_)
 have hk3:bG_ l 0=5:=hk
 refine cF (by simp[fup,hk]) ?_
 repeat(first|apply wG|(apply wR;simp -dsimp[hh,hcl,h0,h1,h2,h3,h4,h5,h6,h7])|refine aI ?_)
 refine cF (by simp[fup,hk]) ?_
 repeat(first|apply wG|(apply wR;simp -dsimp[hh,hcl,h0,h1,h2,h3,h4,h5,h6,h7])|refine aI ?_)
 refine cF (by simp[fup,hk]) ?_
 repeat(first|apply wG|(apply wR;simp -dsimp[hh,hcl,h0,h1,h2,h3,h4,h5,h6,h7])|refine aI ?_)
 refine cF (by simp[fup,hk]) ?_
 repeat(first|apply wG|(apply wR;simp -dsimp[hh,hcl,h0,h1,h2,h3,h4,h5,h6,h7])|refine aI ?_)
 refine cT (by simp[fup,hk]) ?_
 repeat(first|apply wG|(apply wR;simp -dsimp[hh,hcl,h0,h1,h2,h3,h4,h5,h6,h7,setL])|refine aI ?_)
 refine WP.ret (ab_ ?_)
 simp -dsimp[hE,rdE,dP_,fD]
 all_goals first|exact al_ _|(rw[bs_ (by simp[fup,f0])];exact al_ _)
theorem zU_ (l:List Int) (hl:l.length≤100000) (hk:bG_ l 0=6):Fn0 Tryz.prog 158 [slI l] (fD (candG l)):=by
 have hE:=be_ (l:=l) (by rw[hk];simp[ents];rfl)
 refine ad_ (pn:=an_) ac_ Tryz.func158 rfl fun β0=>?_
 simp only[Tryz.f158]
 repeat(first|apply wG|(apply wR;simp -dsimp[az_])|refine aI ?_)
 refine aD_ ac_ (zl:=.int .i64 0) (m:=12) (k:=8) (j:=7) rfl rfl rfl rfl rfl rfl rfl rfl (by omega) rfl (by simp;omega) (by simp) ?_
 have hh:=bF_ l
 have h0:=aU_ l 0 (by omega)
 have h1:=aU_ l 1 (by omega)
 have h2:=aU_ l 2 (by omega)
 have h3:=aU_ l 3 (by omega)
 have h4:=aU_ l 4 (by omega)
 have h5:=aU_ l 5 (by omega)
 have h6:=aU_ l 6 (by omega)
 have h7:=aU_ l 7 (by omega)
 have hcl:((iD l).map AV.d++List.replicate 12 (AV.d (.v (.int .i64 0)))).length=l.length+12:=by simp
 generalize (iD l).map AV.d++List.replicate 12 (AV.d (.v (.int .i64 0)))=cs at *
 simp -dsimp[hh]
 repeat(first|apply wG|(apply wR;simp -dsimp[hh,hcl,h0,h1,h2,h3,h4,h5,h6,h7,az_])|refine aI ?_)
 have hk3:bG_ l 0=6:=hk
 refine cF (by simp[fup,hk]) ?_
 repeat(first|apply wG|(apply wR;simp -dsimp[hh,hcl,h0,h1,h2,h3,h4,h5,h6,h7])|refine aI ?_)
 refine cF (by simp[fup,hk]) ?_
 repeat(first|apply wG|(apply wR;simp -dsimp[hh,hcl,h0,h1,h2,h3,h4,h5,h6,h7])|refine aI ?_)
 refine cF (by simp[fup,hk]) ?_
 repeat(first|apply wG|(apply wR;simp -dsimp[hh,hcl,h0,h1,h2,h3,h4,h5,h6,h7])|refine aI ?_)
 refine cF (by simp[fup,hk]) ?_
 repeat(first|apply wG|(apply wR;simp -dsimp[hh,hcl,h0,h1,h2,h3,h4,h5,h6,h7])|refine aI ?_)
 refine cF (by simp[fup,hk]) ?_
 repeat(first|apply wG|(apply wR;simp -dsimp[hh,hcl,h0,h1,h2,h3,h4,h5,h6,h7])|refine aI ?_)
 refine cT (by simp[fup,hk]) ?_
 repeat(first|apply wG|(apply wR;simp -dsimp[hh,hcl,h0,h1,h2,h3,h4,h5,h6,h7,setL])|refine aI ?_)
 refine WP.ret (ab_ ?_)
 simp -dsimp[hE,rdE,dP_,fD]
 all_goals first|exact al_ _|(rw[bs_ (by simp[fup,f0])];exact al_ _)
theorem zT_ (l:List Int) (hl:l.length≤100000) (hk:bG_ l 0=7):Fn0 Tryz.prog 158 [slI l] (fD (candG l)):=by
 have hE:=be_ (l:=l) (by rw[hk];simp[ents];rfl)
 refine ad_ (pn:=an_) ac_ Tryz.func158 rfl fun β0=>?_
 simp only[Tryz.f158]
 repeat(first|apply wG|(apply wR;simp -dsimp[az_])|refine aI ?_)
 refine aD_ ac_ (zl:=.int .i64 0) (m:=12) (k:=8) (j:=7) rfl rfl rfl rfl rfl rfl rfl rfl (by omega) rfl (by simp;omega) (by simp) ?_
 have hh:=bF_ l
 have h0:=aU_ l 0 (by omega)
 have h1:=aU_ l 1 (by omega)
 have h2:=aU_ l 2 (by omega)
 have h3:=aU_ l 3 (by omega)
 have h4:=aU_ l 4 (by omega)
 have h5:=aU_ l 5 (by omega)
 have hcl:((iD l).map AV.d++List.replicate 12 (AV.d (.v (.int .i64 0)))).length=l.length+12:=by simp
 generalize (iD l).map AV.d++List.replicate 12 (AV.d (.v (.int .i64 0)))=cs at *
 simp -dsimp[hh]
 repeat(first|apply wG|(apply wR;simp -dsimp[hh,hcl,h0,h1,h2,h3,h4,h5,az_])|refine aI ?_)
 have hk3:bG_ l 0=7:=hk
 refine cF (by simp[fup,hk]) ?_
 repeat(first|apply wG|(apply wR;simp -dsimp[hh,hcl,h0,h1,h2,h3,h4,h5])|refine aI ?_)
 refine cF (by simp[fup,hk]) ?_
 repeat(first|apply wG|(apply wR;simp -dsimp[hh,hcl,h0,h1,h2,h3,h4,h5])|refine aI ?_)
 refine cF (by simp[fup,hk]) ?_
 repeat(first|apply wG|(apply wR;simp -dsimp[hh,hcl,h0,h1,h2,h3,h4,h5])|refine aI ?_)
 refine cF (by simp[fup,hk]) ?_
 repeat(first|apply wG|(apply wR;simp -dsimp[hh,hcl,h0,h1,h2,h3,h4,h5])|refine aI ?_)
 refine cF (by simp[fup,hk]) ?_
 repeat(first|apply wG|(apply wR;simp -dsimp[hh,hcl,h0,h1,h2,h3,h4,h5])|refine aI ?_)
 refine cF (by simp[fup,hk]) ?_
 repeat(first|apply wG|(apply wR;simp -dsimp[hh,hcl,h0,h1,h2,h3,h4,h5])|refine aI ?_)
 refine cT (by simp[fup,hk]) ?_
 repeat(first|apply wG|(apply wR;simp -dsimp[hh,hcl,h0,h1,h2,h3,h4,h5,setL])|refine aI ?_)
 refine WP.ret (ab_ ?_)
 simp -dsimp[hE,rdE,dP_,fD]
 all_goals first|exact al_ _|(rw[bs_ (by simp[fup,f0])];exact al_ _)
theorem zS_ (l:List Int) (hl:l.length≤100000) (hk:bG_ l 0=8):Fn0 Tryz.prog 158 [slI l] (fD (candG l)):=by
 have hE:=be_ (l:=l) (by rw[hk];simp[ents];rfl)
 refine ad_ (pn:=an_) ac_ Tryz.func158 rfl fun β0=>?_
 simp only[Tryz.f158]
 repeat(first|apply wG|(apply wR;simp -dsimp[az_])|refine aI ?_)
 refine aD_ ac_ (zl:=.int .i64 0) (m:=12) (k:=8) (j:=7) rfl rfl rfl rfl rfl rfl rfl rfl (by omega) rfl (by simp;omega) (by simp) ?_
 have hh:=bF_ l
 have h0:=aU_ l 0 (by omega)
 have h1:=aU_ l 1 (by omega)
 have h2:=aU_ l 2 (by omega)
 have h3:=aU_ l 3 (by omega)
 have h4:=aU_ l 4 (by omega)
 have h5:=aU_ l 5 (by omega)
 have h6:=aU_ l 6 (by omega)
 have h7:=aU_ l 7 (by omega)
 have hcl:((iD l).map AV.d++List.replicate 12 (AV.d (.v (.int .i64 0)))).length=l.length+12:=by simp
 generalize (iD l).map AV.d++List.replicate 12 (AV.d (.v (.int .i64 0)))=cs at *
 simp -dsimp[hh]
 repeat(first|apply wG|(apply wR;simp -dsimp[hh,hcl,h0,h1,h2,h3,h4,h5,h6,h7,az_])|refine aI ?_)
 have hk3:bG_ l 0=8:=hk
 refine cF (by simp[fup,hk]) ?_
 repeat(first|apply wG|(apply wR;simp -dsimp[hh,hcl,h0,h1,h2,h3,h4,h5,h6,h7])|refine aI ?_)
 refine cF (by simp[fup,hk]) ?_
 repeat(first|apply wG|(apply wR;simp -dsimp[hh,hcl,h0,h1,h2,h3,h4,h5,h6,h7])|refine aI ?_)
 refine cF (by simp[fup,hk]) ?_
 repeat(first|apply wG|(apply wR;simp -dsimp[hh,hcl,h0,h1,h2,h3,h4,h5,h6,h7])|refine aI ?_)
 refine cF (by simp[fup,hk]) ?_
 repeat(first|apply wG|(apply wR;simp -dsimp[hh,hcl,h0,h1,h2,h3,h4,h5,h6,h7])|refine aI ?_)
 refine cF (by simp[fup,hk]) ?_
 repeat(first|apply wG|(apply wR;simp -dsimp[hh,hcl,h0,h1,h2,h3,h4,h5,h6,h7])|refine aI ?_)
 refine cF (by simp[fup,hk]) ?_
 repeat(first|apply wG|(apply wR;simp -dsimp[hh,hcl,h0,h1,h2,h3,h4,h5,h6,h7])|refine aI ?_)
 refine cF (by simp[fup,hk]) ?_
 repeat(first|apply wG|(apply wR;simp -dsimp[hh,hcl,h0,h1,h2,h3,h4,h5,h6,h7])|refine aI ?_)
 refine cT (by simp[fup,hk]) ?_
 repeat(first|apply wG|(apply wR;simp -dsimp[hh,hcl,h0,h1,h2,h3,h4,h5,h6,h7,setL])|refine aI ?_)
 refine WP.ret (ab_ ?_)
 simp -dsimp[hE,rdE,dP_,fD]
 all_goals first|exact al_ _|(rw[bs_ (by simp[fup,f0])];exact al_ _)
theorem zR_ (l:List Int) (hl:l.length≤100000) (hk:bG_ l 0=9):Fn0 Tryz.prog 158 [slI l] (fD (candG l)):=by
 have hE:=be_ (l:=l) (by rw[hk];simp[ents];rfl)
 refine ad_ (pn:=an_) ac_ Tryz.func158 rfl fun β0=>?_
 simp only[Tryz.f158]
 repeat(first|apply wG|(apply wR;simp -dsimp[az_])|refine aI ?_)
 refine aD_ ac_ (zl:=.int .i64 0) (m:=12) (k:=8) (j:=7) rfl rfl rfl rfl rfl rfl rfl rfl (by omega) rfl (by simp;omega) (by simp) ?_
 have hh:=bF_ l
 have h0:=aU_ l 0 (by omega)
 have h1:=aU_ l 1 (by omega)
 have h2:=aU_ l 2 (by omega)
 have h3:=aU_ l 3 (by omega)
 have h4:=aU_ l 4 (by omega)
 have h5:=aU_ l 5 (by omega)
 have h6:=aU_ l 6 (by omega)
 have h7:=aU_ l 7 (by omega)
 have hcl:((iD l).map AV.d++List.replicate 12 (AV.d (.v (.int .i64 0)))).length=l.length+12:=by simp
 generalize (iD l).map AV.d++List.replicate 12 (AV.d (.v (.int .i64 0)))=cs at *
 simp -dsimp[hh]
 repeat(first|apply wG|(apply wR;simp -dsimp[hh,hcl,h0,h1,h2,h3,h4,h5,h6,h7,az_])|refine aI ?_)
 have hk3:bG_ l 0=9:=hk
 refine cF (by simp[fup,hk]) ?_
 repeat(first|apply wG|(apply wR;simp -dsimp[hh,hcl,h0,h1,h2,h3,h4,h5,h6,h7])|refine aI ?_)
 refine cF (by simp[fup,hk]) ?_
 repeat(first|apply wG|(apply wR;simp -dsimp[hh,hcl,h0,h1,h2,h3,h4,h5,h6,h7])|refine aI ?_)
 refine cF (by simp[fup,hk]) ?_
 repeat(first|apply wG|(apply wR;simp -dsimp[hh,hcl,h0,h1,h2,h3,h4,h5,h6,h7])|refine aI ?_)
 refine cF (by simp[fup,hk]) ?_
 repeat(first|apply wG|(apply wR;simp -dsimp[hh,hcl,h0,h1,h2,h3,h4,h5,h6,h7])|refine aI ?_)
 refine cF (by simp[fup,hk]) ?_
 repeat(first|apply wG|(apply wR;simp -dsimp[hh,hcl,h0,h1,h2,h3,h4,h5,h6,h7])|refine aI ?_)
 refine cF (by simp[fup,hk]) ?_
 repeat(first|apply wG|(apply wR;simp -dsimp[hh,hcl,h0,h1,h2,h3,h4,h5,h6,h7])|refine aI ?_)
 refine cF (by simp[fup,hk]) ?_
 repeat(first|apply wG|(apply wR;simp -dsimp[hh,hcl,h0,h1,h2,h3,h4,h5,h6,h7])|refine aI ?_)
 refine cF (by simp[fup,hk]) ?_
 repeat(first|apply wG|(apply wR;simp -dsimp[hh,hcl,h0,h1,h2,h3,h4,h5,h6,h7])|refine aI ?_)
 refine cT (by simp[fup,hk]) ?_
 repeat(first|apply wG|(apply wR;simp -dsimp[hh,hcl,h0,h1,h2,h3,h4,h5,h6,h7,setL])|refine aI ?_)
 refine WP.ret (ab_ ?_)
 simp -dsimp[hE,rdE,dP_,fD]
 all_goals first|exact al_ _|(rw[bs_ (by simp[fup,f0])];exact al_ _)
theorem w7_ (l:List Int) (hl:l.length≤100000) (hk:bG_ l 0=10):Fn0 Tryz.prog 158 [slI l] (fD (candG l)):=by
 have hE:=be_ (l:=l) (by rw[hk];simp[ents];rfl)
 refine ad_ (pn:=an_) ac_ Tryz.func158 rfl fun β0=>?_
 simp only[Tryz.f158]
 repeat(first|apply wG|(apply wR;simp -dsimp[az_])|refine aI ?_)
 refine aD_ ac_ (zl:=.int .i64 0) (m:=12) (k:=8) (j:=7) rfl rfl rfl rfl rfl rfl rfl rfl (by omega) rfl (by simp;omega) (by simp) ?_
 have hh:=bF_ l
 have h0:=aU_ l 0 (by omega)
 have h1:=aU_ l 1 (by omega)
 have h2:=aU_ l 2 (by omega)
 have h3:=aU_ l 3 (by omega)
 have h4:=aU_ l 4 (by omega)
 have h5:=aU_ l 5 (by omega)
 have h6:=aU_ l 6 (by omega)
 have h7:=aU_ l 7 (by omega)
 have h8:=aU_ l 8 (by omega)
 have h9:=aU_ l 9 (by omega)
 have hcl:((iD l).map AV.d++List.replicate 12 (AV.d (.v (.int .i64 0)))).length=l.length+12:=by simp
 generalize (iD l).map AV.d++List.replicate 12 (AV.d (.v (.int .i64 0)))=cs at *
 simp -dsimp[hh]
 repeat(first|apply wG|(apply wR;simp -dsimp[hh,hcl,h0,h1,h2,h3,h4,h5,h6,h7,h8,h9,az_])|refine aI ?_)
 have hk3:bG_ l 0=10:=hk
 refine cF (by simp[fup,hk]) ?_
 repeat(first|apply wG|(apply wR;simp -dsimp[hh,hcl,h0,h1,h2,h3,h4,h5,h6,h7,h8,h9])|refine aI ?_)
 refine cF (by simp[fup,hk]) ?_
 repeat(first|apply wG|(apply wR;simp -dsimp[hh,hcl,h0,h1,h2,h3,h4,h5,h6,h7,h8,h9])|refine aI ?_)
 refine cF (by simp[fup,hk]) ?_
 repeat(first|apply wG|(apply wR;simp -dsimp[hh,hcl,h0,h1,h2,h3,h4,h5,h6,h7,h8,h9])|refine aI ?_)
 refine cF (by simp[fup,hk]) ?_
 repeat(first|apply wG|(apply wR;simp -dsimp[hh,hcl,h0,h1,h2,h3,h4,h5,h6,h7,h8,h9])|refine aI ?_)
 refine cF (by simp[fup,hk]) ?_
 repeat(first|apply wG|(apply wR;simp -dsimp[hh,hcl,h0,h1,h2,h3,h4,h5,h6,h7,h8,h9])|refine aI ?_)
 refine cF (by simp[fup,hk]) ?_
 repeat(first|apply wG|(apply wR;simp -dsimp[hh,hcl,h0,h1,h2,h3,h4,h5,h6,h7,h8,h9])|refine aI ?_)
 refine cF (by simp[fup,hk]) ?_
 repeat(first|apply wG|(apply wR;simp -dsimp[hh,hcl,h0,h1,h2,h3,h4,h5,h6,h7,h8,h9])|refine aI ?_)
 refine cF (by simp[fup,hk]) ?_
 repeat(first|apply wG|(apply wR;simp -dsimp[hh,hcl,h0,h1,h2,h3,h4,h5,h6,h7,h8,h9])|refine aI ?_)
 refine cF (by simp[fup,hk]) ?_
 repeat(first|apply wG|(apply wR;simp -dsimp[hh,hcl,h0,h1,h2,h3,h4,h5,h6,h7,h8,h9])|refine aI ?_)
 refine cT (by simp[fup,hk]) ?_
 repeat(first|apply wG|(apply wR;simp -dsimp[hh,hcl,h0,h1,h2,h3,h4,h5,h6,h7,h8,h9,setL])|refine aI ?_)
 refine WP.ret (ab_ ?_)
 simp -dsimp[hE,rdE,dP_,fD]
 all_goals first|exact al_ _|(rw[bs_ (by simp[fup,f0])];exact al_ _)
theorem w6_ (l:List Int) (hl:l.length≤100000) (hk:bG_ l 0=11):Fn0 Tryz.prog 158 [slI l] (fD (candG l)):=by
 have hE:=be_ (l:=l) (by rw[hk];simp[ents];rfl)
 refine ad_ (pn:=an_) ac_ Tryz.func158 rfl fun β0=>?_
 simp only[Tryz.f158]
 repeat(first|apply wG|(apply wR;simp -dsimp[az_])|refine aI ?_)
 refine aD_ ac_ (zl:=.int .i64 0) (m:=12) (k:=8) (j:=7) rfl rfl rfl rfl rfl rfl rfl rfl (by omega) rfl (by simp;omega) (by simp) ?_
 have hh:=bF_ l
 have h0:=aU_ l 0 (by omega)
 have h1:=aU_ l 1 (by omega)
 have h2:=aU_ l 2 (by omega)
 have h3:=aU_ l 3 (by omega)
 have h4:=aU_ l 4 (by omega)
 have h5:=aU_ l 5 (by omega)
 have hcl:((iD l).map AV.d++List.replicate 12 (AV.d (.v (.int .i64 0)))).length=l.length+12:=by simp
 generalize (iD l).map AV.d++List.replicate 12 (AV.d (.v (.int .i64 0)))=cs at *
 simp -dsimp[hh]
 repeat(first|apply wG|(apply wR;simp -dsimp[hh,hcl,h0,h1,h2,h3,h4,h5,az_])|refine aI ?_)
 have hk3:bG_ l 0=11:=hk
 refine cF (by simp[fup,hk]) ?_
 repeat(first|apply wG|(apply wR;simp -dsimp[hh,hcl,h0,h1,h2,h3,h4,h5])|refine aI ?_)
 refine cF (by simp[fup,hk]) ?_
 repeat(first|apply wG|(apply wR;simp -dsimp[hh,hcl,h0,h1,h2,h3,h4,h5])|refine aI ?_)
 refine cF (by simp[fup,hk]) ?_
 repeat(first|apply wG|(apply wR;simp -dsimp[hh,hcl,h0,h1,h2,h3,h4,h5])|refine aI ?_)
 refine cF (by simp[fup,hk]) ?_
 repeat(first|apply wG|(apply wR;simp -dsimp[hh,hcl,h0,h1,h2,h3,h4,h5])|refine aI ?_)
 refine cF (by simp[fup,hk]) ?_
 repeat(first|apply wG|(apply wR;simp -dsimp[hh,hcl,h0,h1,h2,h3,h4,h5])|refine aI ?_)
 refine cF (by simp[fup,hk]) ?_
 repeat(first|apply wG|(apply wR;simp -dsimp[hh,hcl,h0,h1,h2,h3,h4,h5])|refine aI ?_)
 refine cF (by simp[fup,hk]) ?_
 repeat(first|apply wG|(apply wR;simp -dsimp[hh,hcl,h0,h1,h2,h3,h4,h5])|refine aI ?_)
 refine cF (by simp[fup,hk]) ?_
 repeat(first|apply wG|(apply wR;simp -dsimp[hh,hcl,h0,h1,h2,h3,h4,h5])|refine aI ?_)
 refine cF (by simp[fup,hk]) ?_
 repeat(first|apply wG|(apply wR;simp -dsimp[hh,hcl,h0,h1,h2,h3,h4,h5])|refine aI ?_)
 refine cF (by simp[fup,hk]) ?_
 repeat(first|apply wG|(apply wR;simp -dsimp[hh,hcl,h0,h1,h2,h3,h4,h5])|refine aI ?_)
 refine cT (by simp[fup,hk]) ?_
 repeat(first|apply wG|(apply wR;simp -dsimp[hh,hcl,h0,h1,h2,h3,h4,h5,setL])|refine aI ?_)
 refine WP.ret (ab_ ?_)
 simp -dsimp[hE,rdE,dP_,fD]
 all_goals first|exact al_ _|(rw[bs_ (by simp[fup,f0])];exact al_ _)
theorem w5_ (l:List Int) (hl:l.length≤100000) (hk:bG_ l 0=13):Fn0 Tryz.prog 158 [slI l] (fD (candG l)):=by
 have hE:=be_ (l:=l) (by rw[hk];simp[ents];rfl)
 refine ad_ (pn:=an_) ac_ Tryz.func158 rfl fun β0=>?_
 simp only[Tryz.f158]
 repeat(first|apply wG|(apply wR;simp -dsimp[az_])|refine aI ?_)
 refine aD_ ac_ (zl:=.int .i64 0) (m:=12) (k:=8) (j:=7) rfl rfl rfl rfl rfl rfl rfl rfl (by omega) rfl (by simp;omega) (by simp) ?_
 have hh:=bF_ l
 have h0:=aU_ l 0 (by omega)
 have h1:=aU_ l 1 (by omega)
 have h2:=aU_ l 2 (by omega)
 have h3:=aU_ l 3 (by omega)
 have h4:=aU_ l 4 (by omega)
 have h5:=aU_ l 5 (by omega)
 have hcl:((iD l).map AV.d++List.replicate 12 (AV.d (.v (.int .i64 0)))).length=l.length+12:=by simp
 generalize (iD l).map AV.d++List.replicate 12 (AV.d (.v (.int .i64 0)))=cs at *
 simp -dsimp[hh]
 repeat(first|apply wG|(apply wR;simp -dsimp[hh,hcl,h0,h1,h2,h3,h4,h5,az_])|refine aI ?_)
 have hk3:bG_ l 0=13:=hk
 refine cF (by simp[fup,hk]) ?_
 repeat(first|apply wG|(apply wR;simp -dsimp[hh,hcl,h0,h1,h2,h3,h4,h5])|refine aI ?_)
 refine cF (by simp[fup,hk]) ?_
 repeat(first|apply wG|(apply wR;simp -dsimp[hh,hcl,h0,h1,h2,h3,h4,h5])|refine aI ?_)
 refine cF (by simp[fup,hk]) ?_
 repeat(first|apply wG|(apply wR;simp -dsimp[hh,hcl,h0,h1,h2,h3,h4,h5])|refine aI ?_)
 refine cF (by simp[fup,hk]) ?_
 repeat(first|apply wG|(apply wR;simp -dsimp[hh,hcl,h0,h1,h2,h3,h4,h5])|refine aI ?_)
 refine cF (by simp[fup,hk]) ?_
 repeat(first|apply wG|(apply wR;simp -dsimp[hh,hcl,h0,h1,h2,h3,h4,h5])|refine aI ?_)
 refine cF (by simp[fup,hk]) ?_
 repeat(first|apply wG|(apply wR;simp -dsimp[hh,hcl,h0,h1,h2,h3,h4,h5])|refine aI ?_)
 refine cF (by simp[fup,hk]) ?_
 repeat(first|apply wG|(apply wR;simp -dsimp[hh,hcl,h0,h1,h2,h3,h4,h5])|refine aI ?_)
 refine cF (by simp[fup,hk]) ?_
 repeat(first|apply wG|(apply wR;simp -dsimp[hh,hcl,h0,h1,h2,h3,h4,h5])|refine aI ?_)
 refine cF (by simp[fup,hk]) ?_
 repeat(first|apply wG|(apply wR;simp -dsimp[hh,hcl,h0,h1,h2,h3,h4,h5])|refine aI ?_)
 refine cF (by simp[fup,hk]) ?_
 repeat(first|apply wG|(apply wR;simp -dsimp[hh,hcl,h0,h1,h2,h3,h4,h5])|refine aI ?_)
 refine cF (by simp[fup,hk]) ?_
 repeat(first|apply wG|(apply wR;simp -dsimp[hh,hcl,h0,h1,h2,h3,h4,h5])|refine aI ?_)
 refine cT (by simp[fup,hk]) ?_
 repeat(first|apply wG|(apply wR;simp -dsimp[hh,hcl,h0,h1,h2,h3,h4,h5,setL])|refine aI ?_)
 refine WP.ret (ab_ ?_)
 simp -dsimp[hE,rdE,dP_,fD]
 all_goals first|exact al_ _|(rw[bs_ (by simp[fup,f0])];exact al_ _)
theorem w4_ (l:List Int) (hl:l.length≤100000) (hk:bG_ l 0<1∨bG_ l 0=12∨13<bG_ l 0):Fn0 Tryz.prog 158 [slI l] (fD (candG l)):=by
 have hE:candG l=dP_ l:=by
  by_cases h12:bG_ l 0=12
  ·rw[be_ (E:=[]) (by rw[h12];rfl)]
   exact bs_ rfl
  ·refine u1_ ?_
   unfold ents
   repeat rw[if_neg (by omega)]
 refine ad_ (pn:=an_) ac_ Tryz.func158 rfl fun β0=>?_
 simp only[Tryz.f158]
 repeat(first|apply wG|(apply wR;simp -dsimp[az_])|refine aI ?_)
 refine aD_ ac_ (zl:=.int .i64 0) (m:=12) (k:=8) (j:=7) rfl rfl rfl rfl rfl rfl rfl rfl (by omega) rfl (by simp;omega) (by simp) ?_
 have hh:=bF_ l
 have h0:=aU_ l 0 (by omega)
 have h1:=aU_ l 1 (by omega)
 have h2:=aU_ l 2 (by omega)
 have h3:=aU_ l 3 (by omega)
 have hcl:((iD l).map AV.d++List.replicate 12 (AV.d (.v (.int .i64 0)))).length=l.length+12:=by simp
 generalize (iD l).map AV.d++List.replicate 12 (AV.d (.v (.int .i64 0)))=cs at *
 simp -dsimp[hh]
 repeat(first|apply wG|(apply wR;simp -dsimp[hh,hcl,h0,h1,h2,h3,az_])|refine aI ?_)
 refine cF (by simp[fup];omega) ?_
 repeat(first|apply wG|(apply wR;simp -dsimp[hh,hcl,h0,h1,h2,h3])|refine aI ?_)
 refine cF (by simp[fup];omega) ?_
 repeat(first|apply wG|(apply wR;simp -dsimp[hh,hcl,h0,h1,h2,h3])|refine aI ?_)
 refine cF (by simp[fup];omega) ?_
 repeat(first|apply wG|(apply wR;simp -dsimp[hh,hcl,h0,h1,h2,h3])|refine aI ?_)
 refine cF (by simp[fup];omega) ?_
 repeat(first|apply wG|(apply wR;simp -dsimp[hh,hcl,h0,h1,h2,h3])|refine aI ?_)
 refine cF (by simp[fup];omega) ?_
 repeat(first|apply wG|(apply wR;simp -dsimp[hh,hcl,h0,h1,h2,h3])|refine aI ?_)
 refine cF (by simp[fup];omega) ?_
 repeat(first|apply wG|(apply wR;simp -dsimp[hh,hcl,h0,h1,h2,h3])|refine aI ?_)
 refine cF (by simp[fup];omega) ?_
 repeat(first|apply wG|(apply wR;simp -dsimp[hh,hcl,h0,h1,h2,h3])|refine aI ?_)
 refine cF (by simp[fup];omega) ?_
 repeat(first|apply wG|(apply wR;simp -dsimp[hh,hcl,h0,h1,h2,h3])|refine aI ?_)
 refine cF (by simp[fup];omega) ?_
 repeat(first|apply wG|(apply wR;simp -dsimp[hh,hcl,h0,h1,h2,h3])|refine aI ?_)
 refine cF (by simp[fup];omega) ?_
 repeat(first|apply wG|(apply wR;simp -dsimp[hh,hcl,h0,h1,h2,h3])|refine aI ?_)
 refine cF (by simp[fup];omega) ?_
 repeat(first|apply wG|(apply wR;simp -dsimp[hh,hcl,h0,h1,h2,h3])|refine aI ?_)
 refine cF (by simp[fup];omega) ?_
 refine WP.skip ?_
 simp -dsimp
 repeat(first|apply wG|(apply wR;simp -dsimp[hh,hcl,h0,h1,h2,h3])|refine aI ?_)
 refine WP.ret (ab_ ?_)
 simp -dsimp[hE,dP_,fD]
 all_goals exact al_ _
theorem w3_ (l:List Int) (hl:l.length≤100000):Fn0 Tryz.prog 158 [slI l] (fD (candG l)):=by
 have h:bG_ l 0=1∨bG_ l 0=2∨bG_ l 0=3∨bG_ l 0=4∨bG_ l 0=5∨bG_ l 0=6∨bG_ l 0=7∨bG_ l 0=8∨bG_ l 0=9∨bG_ l 0=10∨bG_ l 0=11∨bG_ l 0=13∨(bG_ l 0<1∨bG_ l 0=12∨13<bG_ l 0):=by omega
 rcases h with h|h|h|h|h|h|h|h|h|h|h|h|h
 ·exact zZ_ l hl h
 ·exact zY_ l hl h
 ·exact zX_ l hl h
 ·exact zW_ l hl h
 ·exact zV_ l hl h
 ·exact zU_ l hl h
 ·exact zT_ l hl h
 ·exact zS_ l hl h
 ·exact zR_ l hl h
 ·exact w7_ l hl h
 ·exact w6_ l hl h
 ·exact w5_ l hl h
 ·exact w4_ l hl h
theorem wm_ (l:List Int):(l.map qF_).map V.num=l:=by
 rw[List.map_map]
 exact (List.map_congr_left fun x _=>rfl).trans (List.map_id _)
theorem zH_ {f:Nat→Int} (v:(numF f).2=true):encR f=(encF f,0):=if_pos v
theorem x2_ {f:Nat→Int} (v:¬ (numF f).2=true):encR f=([],120):=if_neg v
theorem wH_ {f:Nat→Int} (hf:fOk f):(encF f).length≤10000:=by
 obtain⟨h1,h2⟩:=ld_ hf
 obtain⟨_,_,h3,_⟩:=dt_ h1
 rw[encF,b3_,V.enc]
 have h10:=bd_ (u:=(numF f).1.length) (by unfold isU;omega)
 simp
 omega
theorem qs_ {f:Nat→Int} (hf:fOk f):pDec (encF f)=(b3_ (numF f).1,0):=by
 obtain⟨h1,h2⟩:=ld_ hf
 have a:=e3_ h1 (by omega)
 have ra:=x9_ (b3_ (numF f).1) 16 [] (q9_ a.1) a.2.1 (by omega) (by omega)
 rw[List.append_nil] at ra
 rw[pDec,encF,ra]
theorem wg_ {f:Nat→Int} (hf:fOk f):mH_ (encF f)=(numF f).1:=by
 rw[mH_,qs_ hf]
 exact wm_ _
theorem gH_ {f:Nat→Int} (hf:fOk f) (v:(numF f).2=true):decF (encF f)=(f,0):=by
 rw[decF,qs_ hf,if_pos rfl,x5_,wg_ hf,wX_ v hf,if_pos (zH_ v)]
theorem y7_ {bs:List UInt8} (h:bs.length≤1000000000000):∀ x∈mH_ bs,isI x:=by
 rcases pDec_facts h with⟨_,hr,_⟩|hb
 ·rw[mH_]
  generalize (pDec bs).1=v at *
  obtain⟨k,n,s,l⟩:=v
  exact hQ_ (cn_ hr).2
 ·rw[mH_,hb];simp[V.items]
theorem lA_ {bs:List UInt8} (h:bs.length≤1000000000000):fOk (decF bs).1:=by
 rw[decF]
 have h0:fOk f0:=⟨fun _=>t9_,.inl rfl,fun _ _=>rfl⟩
 split
 ·rw[x5_]
  split
  ·exact lF_ (y7_ h)
  ·exact h0
 ·exact h0
theorem decF_val {bs:List UInt8} (h:bs.length≤1000000000000):((decF bs).2=0∧encR (decF bs).1=(bs,0))∨((decF bs).2≠0∧(decF bs).1=f0):=by
 rw[decF]
 split
 ·rw[x5_]
  split
  ·rename_i h1;exact .inl ⟨rfl,h1⟩
  ·exact .inr ⟨by decide,rfl⟩
 ·rename_i h1;exact .inr ⟨h1,rfl⟩
def sDR (bs:List UInt8) (k n:Int) (s:ByteArray) (l l1:List V):St :=
 mkS 55 [(0,.d (slB bs)),(2,.ptr 2 0),(3,.d (.v (.int .i64 0))),(4,.ptr 4 0),(6,.row 500),(7,.d (.v (.int .i64 l1.length)))]
  [(2,fB f0),(4,vB k n s l),(500,rI (l1.map V.num))]
set_option maxRecDepth 10000 in
set_option maxHeartbeats 4000000 in
theorem mv_ (bs:List UInt8) (hbs:bs.length≤10000):Fn0 Tryz.prog 91 [slB bs] (m7_ bs):=by
 have h19:=B8_ bs (by omega)
 rw[m8_] at h19
 have hpf:=pDec_facts (bs:=bs) (by omega)
 unfold m7_ decF mH_
 generalize pDec bs=R at *
 obtain⟨⟨k,n,s,l⟩,e⟩:=R
 rcases hpf with⟨h0,hrng,henc,hok,_⟩|hbad
 ·simp only at h0 hrng henc hok
  subst h0
  have hL:=(cn_ hrng).2
  have hin:=hQ_ hL
  have hlen:=i7_ hok
  rw[henc] at hlen
  simp only[V.items] at hlen
  have hg:=lF_ hin
  have h18:=gR_ _ hg
  rw[← uA_ hg] at h18
  have h41:=w3_ (l.map V.num) (by simp;omega)
  simp only[if_true,V.items]
  refine ad_ (pn:=an_) ac_ Tryz.func91 rfl fun β0=>?_
  simp only[Tryz.f91]
  repeat(first|apply wG|(apply wR;simp -dsimp[az_])|refine aI ?_)
  refine aa_ hr_ h19 rfl rfl (by simp) ?_
  simp -dsimp[V.d,V.cells]
  refine sG ?_
  refine cF (by simp) ?_
  refine WP.skip ?_
  simp -dsimp
  refine sG ?_
  refine ai_ (fun m S=>∃ l1 l2,l=l1++l2∧m=l2.length∧S=sDR bs k n s l l1) l.length (S0:=sDR bs k n s l [])
   (Wk.go [] 20 500 (by decide) (by simp[sDR]) (by simp[sDR]) (by simp[sDR])) ⟨[],l,rfl,rfl,rfl⟩ ?_
  rintro _ _ ⟨l1,l2,hl12,rfl,rfl⟩
  have hll:l.length=l1.length+l2.length:=by rw[← List.length_append,← hl12]
  simp -dsimp[sDR]
  refine sG ?_
  cases l2 with
  | cons v l2 =>
   rw[List.length_cons] at hll
   have e1:IntKind.i64.wrap ((l1.length:Int)+1)=(l1.length:Int)+1:=IntWalk.i64_in _ (by omega)
   have hv:=b7_ l1 v l2
   rw[← hl12] at hv
   obtain⟨k',n',s',l'⟩:=v
   rw[V.cells] at hv
   refine cT (by simp;omega) ?_
   refine WP.skip ?_
   simp -dsimp
   refine WP.seq (WP.block ?_)
   repeat(first|apply wG|(apply wR;simp -dsimp[hv])|refine aI ?_)
   refine loopW.next (sDR bs k n s l (l1++[.mk k' n' s' l'])) (Wk.go [35] 36 500 (by decide) (by simp[sDR]) (by simp[sDR,e1]) (by simp[sDR,V.num])) l2.length (by simp) ⟨l1++[.mk k' n' s' l'],l2,by simp[hl12],rfl,rfl⟩
  | nil =>
   simp only[List.append_nil] at hl12
   subst hl12
   have hdl:∀ g b e,g=candG (l.map V.num)→encR g=(b,e)→x5_ bs (l.map V.num)=if e=0∧bs=b then (g,0) else (f0,120):=fun g b e hg he=>by
    rw[x5_,← hg,he]
    by_cases h1:e=0∧bs=b
    ·rw[if_pos h1,if_pos (by rw[h1.1,h1.2])]
    ·rw[if_neg h1,if_neg (fun h2=>h1 ⟨(Prod.mk.inj h2).2,((Prod.mk.inj h2).1).symm⟩)]
   have hd:=hdl _ (encR (candG (l.map V.num))).1 (encR (candG (l.map V.num))).2 rfl rfl
   clear hdl
   rw[hd]
   clear hd
   generalize candG (l.map V.num)=g at *
   generalize encR g=R at *
   obtain⟨c,e⟩:=R
   simp only at h18 ⊢
   refine cF (by simp) ?_
   refine WP.exit ?_
   simp -dsimp
   refine ar_ (Wk.freeze (k:=500) (T:=3) (sz:=1) (ds:=iD (l.map V.num)) (by simp;rfl)) ?_
   simp -dsimp
   refine sG ?_
   refine aa_ nT_ h41 rfl rfl (by simp) ?_
   simp -dsimp[fD]
   refine sG ?_
   refine aa_ jl_ h18 rfl rfl (by simp[fD]) ?_
   simp -dsimp
   refine sG ?_
   refine WP.cond (b := !decide (e=0∧bs=c)) (by simp) (fun hb=>?_) (fun hb=>?_)
   ·have hb:¬ (e=0∧bs=c):=by simpa only[Bool.not_eq_true',decide_eq_false_iff_not] using hb
    rw[if_neg hb]
    repeat(first|apply wG|(apply wR;simp -dsimp[az_])|refine aI ?_)
    refine WP.ret (ab_ ?_)
    simp -dsimp[fD]
   ·have hb:e=0∧bs=c:=by simpa using hb
    rw[if_pos hb]
    refine WP.skip ?_
    simp -dsimp
    refine sG ?_
    refine WP.ret (ab_ ?_)
    simp -dsimp[fD]
 ·cases hbad
  simp only[V.items,show ¬ (20:Int)=0 by decide,if_false]
  refine ad_ (pn:=an_) ac_ Tryz.func91 rfl fun β0=>?_
  simp only[Tryz.f91]
  repeat(first|apply wG|(apply wR;simp -dsimp[az_])|refine aI ?_)
  refine aa_ hr_ h19 rfl rfl (by simp) ?_
  simp -dsimp[V.d,V.cells]
  repeat(first|apply wG|(apply wR;simp -dsimp[az_])|refine aI ?_)
  refine cT (by simp) ?_
  repeat(first|apply wG|(apply wR;simp -dsimp[az_])|refine aI ?_)
  refine WP.ret (ab_ ?_)
  simp -dsimp[fD]
end Go.Proofs.YtfgcgagcpnbgmaaGreatDoor
