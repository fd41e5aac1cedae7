/-
  Joined texts.
-/
import Derived.Test.YtkcgffilldklcaaGreatDoorHH
import Derived.Test.YtkcgffilldklcaaGreatDoorH4
set_option linter.all false
set_option maxRecDepth 10000
set_option maxHeartbeats 4000000
namespace Go.Proofs.YtkcgffilldklcaaGreatDoor
open Go.Xe Go.RowKit
theorem BP_ (l:List Int) (i:Nat) (hi:i<l.length):(iD l)[i]? = some (.v (.int .i64 (bF_ l i))):=by
 induction l generalizing i with
 | nil=>simp at hi
 | cons x l ih =>
  cases i with
  | zero=>simp[bF_]
  | succ i =>
   simp only[List.length_cons] at hi
   rw[zp_,List.getElem?_cons_succ,ih i (by omega)]
   simp[bF_]
theorem aX_ (l:List Int) (i:Nat) (hi:i<l.length+12):atL ((iD l).map AV.d++List.replicate 12 (AV.d (.v (.int .i64 0)))) i=.d (.v (.int .i64 (bF_ l i))):=by
 rw[← dj_]
 by_cases h:i<l.length
 ·rw[List.getElem?_append_left (by simpa using h),List.getElem?_map,BP_ l i h];rfl
 ·rw[List.getElem?_append_right (by simp;omega),List.getElem?_replicate,if_pos (by simp;omega)]
  rw[bF_,List.getElem?_eq_none (by omega)]
  rfl
theorem bE_ (l:List Int) (k:Nat):am_ k ((iD l).map AV.d++List.replicate 12 (AV.d (.v (.int .i64 0))))=false:=by
 rw[hasL_append,hasL_d];rfl
theorem bs_ {g:Nat→Int} (h:g 54=0):fup g 54 0=g:=by
 funext i
 unfold fup
 split
 ·rename_i e;rw[e,h]
 ·rfl
def dR_ (l:List Int):Nat→Int:=fup (fup (fup (fup f0 3 (bF_ l 0)) 0 (bF_ l 1)) 1 (bF_ l 2)) 2 (bF_ l 3)
theorem qF_ (l:List Int):fa_ l=dR_ l:=rfl
theorem bg_ {l:List Int} {E:List Ent} (h:ents (bF_ l 0) 0=some E):candG l=fup (rdE l E 4 (dR_ l,0)).1 54 (if (rdE l E 4 (dR_ l,0)).2=1 then 1 else 0):=by
 have:candE l=E:=by rw[candE,show fa_ l 3=bF_ l 0 from rfl,h];rfl
 rw[candG,this,qF_]
theorem uX_ {l:List Int} (h:ents (bF_ l 0) 0=none):candG l=dR_ l:=by
 have:candE l=[]:=by rw[candE,show fa_ l 3=bF_ l 0 from rfl,h];rfl
 rw[candG,this,qF_]
 exact bs_ rfl
theorem z1_ (l:List Int) (hl:l.length≤100000) (hk:bF_ l 0=1):Fn0 Tryz.prog 170 [slI l] (fD (candG l)):=by
 have hE:=bg_ (l:=l) (by rw[hk];simp[ents];rfl)
 refine ad_ (pn:=an_) ac_ Tryz.func170 rfl fun β0=>?_
 simp only[Tryz.f170]
 repeat(first|apply wG|(apply wR;simp -dsimp[aA_])|refine aI ?_)
 refine aB_ ac_ (zl:=.int .i64 0) (m:=12) (k:=8) (j:=7) rfl rfl rfl rfl rfl rfl rfl rfl (by omega) rfl (by simp;omega) (by simp) ?_
 have hh:=bE_ l
 have h0:=aX_ l 0 (by omega)
 have h1:=aX_ l 1 (by omega)
 have h2:=aX_ l 2 (by omega)
 have h3:=aX_ l 3 (by omega)
 have h4:=aX_ l 4 (by omega)
 have h5:=aX_ l 5 (by omega)
 have h6:=aX_ l 6 (by omega)
 have h7:=aX_ l 7 (by omega)
 have h8:=aX_ l 8 (by omega)
 have h9:=aX_ l 9 (by omega)
 have h10:=aX_ l 10 (by omega)
 have h11:=aX_ l 11 (by omega)
 have hcl:((iD l).map AV.d++List.replicate 12 (AV.d (.v (.int .i64 0)))).length=l.length+12:=by simp
 generalize (iD l).map AV.d++List.replicate 12 (AV.d (.v (.int .i64 0)))=cs at *
 simp -dsimp[hh]
 repeat(first|apply wG|(apply wR;simp -dsimp[hh,hcl,h0,h1,h2,h3,h4,h5,h6,h7,h8,h9,h10,h11,aA_])|refine aI ?_)
 have hk3:bF_ l 0=1:=hk
 refine cT (by simp[fup,hk]) ?_
 repeat(first|apply wG|(apply wR;simp -dsimp[hh,hcl,h0,h1,h2,h3,h4,h5,h6,h7,h8,h9,h10,h11,setL])|refine aI ?_)
 refine WP.ret (ab_ ?_)
 simp -dsimp[hE,rdE,dR_,fD]
 all_goals first|exact al_ _|(rw[bs_ (by simp[fup,f0])];exact al_ _)
theorem z0_ (l:List Int) (hl:l.length≤100000) (hk:bF_ l 0=2):Fn0 Tryz.prog 170 [slI l] (fD (candG l)):=by
 have hE:=bg_ (l:=l) (by rw[hk];simp[ents];rfl)
 refine ad_ (pn:=an_) ac_ Tryz.func170 rfl fun β0=>?_
 simp only[Tryz.f170]
 repeat(first|apply wG|(apply wR;simp -dsimp[aA_])|refine aI ?_)
 refine aB_ ac_ (zl:=.int .i64 0) (m:=12) (k:=8) (j:=7) rfl rfl rfl rfl rfl rfl rfl rfl (by omega) rfl (by simp;omega) (by simp) ?_
 have hh:=bE_ l
 have h0:=aX_ l 0 (by omega)
 have h1:=aX_ l 1 (by omega)
 have h2:=aX_ l 2 (by omega)
 have h3:=aX_ l 3 (by omega)
 have h4:=aX_ l 4 (by omega)
 have h5:=aX_ l 5 (by omega)
 have h6:=aX_ l 6 (by omega)
 have h7:=aX_ l 7 (by omega)
 have hcl:((iD l).map AV.d++List.replicate 12 (AV.d (.v (.int .i64 0)))).length=l.length+12:=by simp
 generalize (iD l).map AV.d++List.replicate 12 (AV.d (.v (.int .i64 0)))=cs at *
 simp -dsimp[hh]
 repeat(first|apply wG|(apply wR;simp -dsimp[hh,hcl,h0,h1,h2,h3,h4,h5,h6,h7,aA_])|refine aI ?_)
 have hk3:bF_ l 0=2:=hk
 refine cF (by simp[fup,hk]) ?_
 repeat(first|apply wG|(apply wR;simp -dsimp[hh,hcl,h0,h1,h2,h3,h4,h5,h6,h7])|refine aI ?_)
 refine cT (by simp[fup,hk]) ?_
 repeat(first|apply wG|(apply wR;simp -dsimp[hh,hcl,h0,h1,h2,h3,h4,h5,h6,h7,setL])|refine aI ?_)
 refine WP.ret (ab_ ?_)
 simp -dsimp[hE,rdE,dR_,fD]
 all_goals first|exact al_ _|(rw[bs_ (by simp[fup,f0])];exact al_ _)
theorem zZ_ (l:List Int) (hl:l.length≤100000) (hk:bF_ l 0=3):Fn0 Tryz.prog 170 [slI l] (fD (candG l)):=by
 have hE:=bg_ (l:=l) (by rw[hk];simp[ents];rfl)
 refine ad_ (pn:=an_) ac_ Tryz.func170 rfl fun β0=>?_
 simp only[Tryz.f170]
 repeat(first|apply wG|(apply wR;simp -dsimp[aA_])|refine aI ?_)
 refine aB_ ac_ (zl:=.int .i64 0) (m:=12) (k:=8) (j:=7) rfl rfl rfl rfl rfl rfl rfl rfl (by omega) rfl (by simp;omega) (by simp) ?_
 have hh:=bE_ l
 have h0:=aX_ l 0 (by omega)
 have h1:=aX_ l 1 (by omega)
 have h2:=aX_ l 2 (by omega)
 have h3:=aX_ l 3 (by omega)
 have h4:=aX_ l 4 (by omega)
 have h5:=aX_ l 5 (by omega)
 have h6:=aX_ l 6 (by omega)
 have h7:=aX_ l 7 (by omega)
 have h8:=aX_ l 8 (by omega)
 have hcl:((iD l).map AV.d++List.replicate 12 (AV.d (.v (.int .i64 0)))).length=l.length+12:=by simp
 generalize (iD l).map AV.d++List.replicate 12 (AV.d (.v (.int .i64 0)))=cs at *
 simp -dsimp[hh]
 repeat(first|apply wG|(apply wR;simp -dsimp[hh,hcl,h0,h1,h2,h3,h4,h5,h6,h7,h8,aA_])|refine aI ?_)
 have hk3:bF_ l 0=3:=hk
 refine cF (by simp[fup,hk]) ?_
 repeat(first|apply wG|(apply wR;simp -dsimp[hh,hcl,h0,h1,h2,h3,h4,h5,h6,h7,h8])|refine aI ?_)
 refine cF (by simp[fup,hk]) ?_
 repeat(first|apply wG|(apply wR;simp -dsimp[hh,hcl,h0,h1,h2,h3,h4,h5,h6,h7,h8])|refine aI ?_)
 refine cT (by simp[fup,hk]) ?_
 repeat(first|apply wG|(apply wR;simp -dsimp[hh,hcl,h0,h1,h2,h3,h4,h5,h6,h7,h8,setL])|refine aI ?_)
 refine WP.ret (ab_ ?_)
 simp -dsimp[hE,rdE,dR_,fD]
 all_goals first|exact al_ _|(rw[bs_ (by simp[fup,f0])];exact al_ _)
theorem zY_ (l:List Int) (hl:l.length≤100000) (hk:bF_ l 0=4):Fn0 Tryz.prog 170 [slI l] (fD (candG l)):=by
 have hE:=bg_ (l:=l) (by rw[hk];simp[ents];rfl)
 refine ad_ (pn:=an_) ac_ Tryz.func170 rfl fun β0=>?_
 simp only[Tryz.f170]
 repeat(first|apply wG|(apply wR;simp -dsimp[aA_])|refine aI ?_)
 refine aB_ ac_ (zl:=.int .i64 0) (m:=12) (k:=8) (j:=7) rfl rfl rfl rfl rfl rfl rfl rfl (by omega) rfl (by simp;omega) (by simp) ?_
 have hh:=bE_ l
 have h0:=aX_ l 0 (by omega)
 have h1:=aX_ l 1 (by omega)
 have h2:=aX_ l 2 (by omega)
 have h3:=aX_ l 3 (by omega)
 have h4:=aX_ l 4 (by omega)
 have h5:=aX_ l 5 (by omega)
 have h6:=aX_ l 6 (by omega)
 have h7:=aX_ l 7 (by omega)
 have h8:=aX_ l 8 (by omega)
 have h9:=aX_ l 9 (by omega)
 have h10:=aX_ l 10 (by omega)
 have h11:=aX_ l 11 (by omega)
 have hcl:((iD l).map AV.d++List.replicate 12 (AV.d (.v (.int .i64 0)))).length=l.length+12:=by simp
 generalize (iD l).map AV.d++List.replicate 12 (AV.d (.v (.int .i64 0)))=cs at *
 simp -dsimp[hh]
 repeat(first|apply wG|(apply wR;simp -dsimp[hh,hcl,h0,h1,h2,h3,h4,h5,h6,h7,h8,h9,h10,h11,aA_])|refine aI ?_)
 have hk3:bF_ l 0=4:=hk
 refine cF (by simp[fup,hk]) ?_
 repeat(first|apply wG|(apply wR;simp -dsimp[hh,hcl,h0,h1,h2,h3,h4,h5,h6,h7,h8,h9,h10,h11])|refine aI ?_)
 refine cF (by simp[fup,hk]) ?_
 repeat(first|apply wG|(apply wR;simp -dsimp[hh,hcl,h0,h1,h2,h3,h4,h5,h6,h7,h8,h9,h10,h11])|refine aI ?_)
 refine cF (by simp[fup,hk]) ?_
 repeat(first|apply wG|(apply wR;simp -dsimp[hh,hcl,h0,h1,h2,h3,h4,h5,h6,h7,h8,h9,h10,h11])|refine aI ?_)
 refine cT (by simp[fup,hk]) ?_
 repeat(first|apply wG|(apply wR;simp -dsimp[hh,hcl,h0,h1,h2,h3,h4,h5,h6,h7,h8,h9,h10,h11,setL])|refine aI ?_)
 refine WP.ret (ab_ ?_)
 simp -dsimp[hE,rdE,dR_,fD]
 all_goals first|exact al_ _|(rw[bs_ (by simp[fup,f0])];exact al_ _)
theorem zX_ (l:List Int) (hl:l.length≤100000) (hk:bF_ l 0=5):Fn0 Tryz.prog 170 [slI l] (fD (candG l)):=by
 have hE:=bg_ (l:=l) (by rw[hk];simp[ents];rfl)
 refine ad_ (pn:=an_) ac_ Tryz.func170 rfl fun β0=>?_
 simp only[Tryz.f170]
 repeat(first|apply wG|(apply wR;simp -dsimp[aA_])|refine aI ?_)
 refine aB_ ac_ (zl:=.int .i64 0) (m:=12) (k:=8) (j:=7) rfl rfl rfl rfl rfl rfl rfl rfl (by omega) rfl (by simp;omega) (by simp) ?_
 have hh:=bE_ l
 have h0:=aX_ l 0 (by omega)
 have h1:=aX_ l 1 (by omega)
 have h2:=aX_ l 2 (by omega)
 have h3:=aX_ l 3 (by omega)
 have h4:=aX_ l 4 (by omega)
 have h5:=aX_ l 5 (by omega)
 have h6:=aX_ l 6 (by omega)
 have h7:=aX_ l 7 (by omega)
 have hcl:((iD l).map AV.d++List.replicate 12 (AV.d (.v (.int .i64 0)))).length=l.length+12:=by simp
 generalize (iD l).map AV.d++List.replicate 12 (AV.d (.v (.int .i64 0)))=cs at *
 simp -dsimp[hh]
 repeat(first|apply wG|(apply wR;simp -dsimp[hh,hcl,h0,h1,h2,h3,h4,h5,h6,h7,aA_])|refine aI ?_)
 have hk3:bF_ l 0=5:=hk
 refine cF (by simp[fup,hk]) ?_
 repeat(first|apply wG|(apply wR;simp -dsimp[hh,hcl,h0,h1,h2,h3,h4,h5,h6,h7])|refine aI ?_)
 refine cF (by simp[fup,hk]) ?_
 repeat(first|apply wG|(apply wR;simp -dsimp[hh,hcl,h0,h1,h2,h3,h4,h5,h6,h7])|refine aI ?_)
 refine cF (by simp[fup,hk]) ?_
 repeat(first|apply wG|(apply wR;simp -dsimp[hh,hcl,h0,h1,h2,h3,h4,h5,h6,h7])|refine aI ?_)
 refine cF (by simp[fup,hk]) ?_
 repeat(first|apply wG|(apply wR;simp -dsimp[hh,hcl,h0,h1,h2,h3,h4,h5,h6,h7])|refine aI ?_)
 refine cT (by simp[fup,hk]) ?_
 repeat(first|apply wG|(apply wR;simp -dsimp[hh,hcl,h0,h1,h2,h3,h4,h5,h6,h7,setL])|refine aI ?_)
 refine WP.ret (ab_ ?_)
 simp -dsimp[hE,rdE,dR_,fD]
 all_goals first|exact al_ _|(rw[bs_ (by simp[fup,f0])];exact al_ _)
theorem zW_ (l:List Int) (hl:l.length≤100000) (hk:bF_ l 0=6):Fn0 Tryz.prog 170 [slI l] (fD (candG l)):=by
 have hE:=bg_ (l:=l) (by rw[hk];simp[ents];rfl)
 refine ad_ (pn:=an_) ac_ Tryz.func170 rfl fun β0=>?_
 simp only[Tryz.f170]
 repeat(first|apply wG|(apply wR;simp -dsimp[aA_])|refine aI ?_)
 refine aB_ ac_ (zl:=.int .i64 0) (m:=12) (k:=8) (j:=7) rfl rfl rfl rfl rfl rfl rfl rfl (by omega) rfl (by simp;omega) (by simp) ?_
 have hh:=bE_ l
 have h0:=aX_ l 0 (by omega)
 have h1:=aX_ l 1 (by omega)
 have h2:=aX_ l 2 (by omega)
 have h3:=aX_ l 3 (by omega)
 have h4:=aX_ l 4 (by omega)
 have h5:=aX_ l 5 (by omega)
 have h6:=aX_ l 6 (by omega)
 have h7:=aX_ l 7 (by omega)
 have hcl:((iD l).map AV.d++List.replicate 12 (AV.d (.v (.int .i64 0)))).length=l.length+12:=by simp
 generalize (iD l).map AV.d++List.replicate 12 (AV.d (.v (.int .i64 0)))=cs at *
 simp -dsimp[hh]
 repeat(first|apply wG|(apply wR;simp -dsimp[hh,hcl,h0,h1,h2,h3,h4,h5,h6,h7,aA_])|refine aI ?_)
 have hk3:bF_ l 0=6:=hk
 refine cF (by simp[fup,hk]) ?_
 repeat(first|apply wG|(apply wR;simp -dsimp[hh,hcl,h0,h1,h2,h3,h4,h5,h6,h7])|refine aI ?_)
 refine cF (by simp[fup,hk]) ?_
 repeat(first|apply wG|(apply wR;simp -dsimp[hh,hcl,h0,h1,h2,h3,h4,h5,h6,h7])|refine aI ?_)
 refine cF (by simp[fup,hk]) ?_
 repeat(first|apply wG|(apply wR;simp -dsimp[hh,hcl,h0,h1,h2,h3,h4,h5,h6,h7])|refine aI ?_)
 refine cF (by simp[fup,hk]) ?_
 repeat(first|apply wG|(apply wR;simp -dsimp[hh,hcl,h0,h1,h2,h3,h4,h5,h6,h7])|refine aI ?_)
 refine cF (by simp[fup,hk]) ?_
 repeat(first|apply wG|(apply wR;simp -dsimp[hh,hcl,h0,h1,h2,h3,h4,h5,h6,h7])|refine aI ?_)
 refine cT (by simp[fup,hk]) ?_
 repeat(first|apply wG|(apply wR;simp -dsimp[hh,hcl,h0,h1,h2,h3,h4,h5,h6,h7,setL])|refine aI ?_)
 refine WP.ret (ab_ ?_)
 simp -dsimp[hE,rdE,dR_,fD]
 all_goals first|exact al_ _|(rw[bs_ (by simp[fup,f0])];exact al_ _)
theorem zV_ (l:List Int) (hl:l.length≤100000) (hk:bF_ l 0=7):Fn0 Tryz.prog 170 [slI l] (fD (candG l)):=by
 have hE:=bg_ (l:=l) (by rw[hk];simp[ents];rfl)
 refine ad_ (pn:=an_) ac_ Tryz.func170 rfl fun β0=>?_
 simp only[Tryz.f170]
 repeat(first|apply wG|(apply wR;simp -dsimp[aA_])|refine aI ?_)
 refine aB_ ac_ (zl:=.int .i64 0) (m:=12) (k:=8) (j:=7) rfl rfl rfl rfl rfl rfl rfl rfl (by omega) rfl (by simp;omega) (by simp) ?_
 have hh:=bE_ l
 have h0:=aX_ l 0 (by omega)
 have h1:=aX_ l 1 (by omega)
 have h2:=aX_ l 2 (by omega)
 have h3:=aX_ l 3 (by omega)
 have h4:=aX_ l 4 (by omega)
 have h5:=aX_ l 5 (by omega)
 have hcl:((iD l).map AV.d++List.replicate 12 (AV.d (.v (.int .i64 0)))).length=l.length+12:=by simp
 generalize (iD l).map AV.d++List.replicate 12 (AV.d (.v (.int .i64 0)))=cs at *
 simp -dsimp[hh]
 repeat(first|apply wG|(apply wR;simp -dsimp[hh,hcl,h0,h1,h2,h3,h4,h5,aA_])|refine aI ?_)
 have hk3:bF_ l 0=7:=hk
 refine cF (by simp[fup,hk]) ?_
 repeat(first|apply wG|(apply wR;simp -dsimp[hh,hcl,h0,h1,h2,h3,h4,h5])|refine aI ?_)
 refine cF (by simp[fup,hk]) ?_
 repeat(first|apply wG|(apply wR;simp -dsimp[hh,hcl,h0,h1,h2,h3,h4,h5])|refine aI ?_)
 refine cF (by simp[fup,hk]) ?_
 repeat(first|apply wG|(apply wR;simp -dsimp[hh,hcl,h0,h1,h2,h3,h4,h5])|refine aI ?_)
 refine cF (by simp[fup,hk]) ?_
 repeat(first|apply wG|(apply wR;simp -dsimp[hh,hcl,h0,h1,h2,h3,h4,h5])|refine aI ?_)
 refine cF (by simp[fup,hk]) ?_
 repeat(first|apply wG|(apply wR;simp -dsimp[hh,hcl,h0,h1,h2,h3,h4,h5])|refine aI ?_)
 refine cF (by simp[fup,hk]) ?_
 repeat(first|apply wG|(apply wR;simp -dsimp[hh,hcl,h0,h1,h2,h3,h4,h5])|refine aI ?_)
 refine cT (by simp[fup,hk]) ?_
 repeat(first|apply wG|(apply wR;simp -dsimp[hh,hcl,h0,h1,h2,h3,h4,h5,setL])|refine aI ?_)
 refine WP.ret (ab_ ?_)
 simp -dsimp[hE,rdE,dR_,fD]
 all_goals first|exact al_ _|(rw[bs_ (by simp[fup,f0])];exact al_ _)
theorem zU_ (l:List Int) (hl:l.length≤100000) (hk:bF_ l 0=8):Fn0 Tryz.prog 170 [slI l] (fD (candG l)):=by
 have hE:=bg_ (l:=l) (by rw[hk];simp[ents];rfl)
 refine ad_ (pn:=an_) ac_ Tryz.func170 rfl fun β0=>?_
 simp only[Tryz.f170]
 repeat(first|apply wG|(apply wR;simp -dsimp[aA_])|refine aI ?_)
 refine aB_ ac_ (zl:=.int .i64 0) (m:=12) (k:=8) (j:=7) rfl rfl rfl rfl rfl rfl rfl rfl (by omega) rfl (by simp;omega) (by simp) ?_
 have hh:=bE_ l
 have h0:=aX_ l 0 (by omega)
 have h1:=aX_ l 1 (by omega)
 have h2:=aX_ l 2 (by omega)
 have h3:=aX_ l 3 (by omega)
 have h4:=aX_ l 4 (by omega)
 have h5:=aX_ l 5 (by omega)
 have h6:=aX_ l 6 (by omega)
 have h7:=aX_ l 7 (by omega)
 have hcl:((iD l).map AV.d++List.replicate 12 (AV.d (.v (.int .i64 0)))).length=l.length+12:=by simp
 generalize (iD l).map AV.d++List.replicate 12 (AV.d (.v (.int .i64 0)))=cs at *
 simp -dsimp[hh]
 repeat(first|apply wG|(apply wR;simp -dsimp[hh,hcl,h0,h1,h2,h3,h4,h5,h6,h7,aA_])|refine aI ?_)
 have hk3:bF_ l 0=8:=hk
 refine cF (by simp[fup,hk]) ?_
 repeat(first|apply wG|(apply wR;simp -dsimp[hh,hcl,h0,h1,h2,h3,h4,h5,h6,h7])|refine aI ?_)
 refine cF (by simp[fup,hk]) ?_
 repeat(first|apply wG|(apply wR;simp -dsimp[hh,hcl,h0,h1,h2,h3,h4,h5,h6,h7])|refine aI ?_)
 refine cF (by simp[fup,hk]) ?_
 repeat(first|apply wG|(apply wR;simp -dsimp[hh,hcl,h0,h1,h2,h3,h4,h5,h6,h7])|refine aI ?_)
 refine cF (by simp[fup,hk]) ?_
 repeat(first|apply wG|(apply wR;simp -dsimp[hh,hcl,h0,h1,h2,h3,h4,h5,h6,h7])|refine aI ?_)
 refine cF (by simp[fup,hk]) ?_
 repeat(first|apply wG|(apply wR;simp -dsimp[hh,hcl,h0,h1,h2,h3,h4,h5,h6,h7])|refine aI ?_)
 refine cF (by simp[fup,hk]) ?_
 repeat(first|apply wG|(apply wR;simp -dsimp[hh,hcl,h0,h1,h2,h3,h4,h5,h6,h7])|refine aI ?_)
 refine cF (by simp[fup,hk]) ?_
 repeat(first|apply wG|(apply wR;simp -dsimp[hh,hcl,h0,h1,h2,h3,h4,h5,h6,h7])|refine aI ?_)
 refine cT (by simp[fup,hk]) ?_
 repeat(first|apply wG|(apply wR;simp -dsimp[hh,hcl,h0,h1,h2,h3,h4,h5,h6,h7,setL])|refine aI ?_)
 refine WP.ret (ab_ ?_)
 simp -dsimp[hE,rdE,dR_,fD]
 all_goals first|exact al_ _|(rw[bs_ (by simp[fup,f0])];exact al_ _)
theorem zT_ (l:List Int) (hl:l.length≤100000) (hk:bF_ l 0=9):Fn0 Tryz.prog 170 [slI l] (fD (candG l)):=by
 have hE:=bg_ (l:=l) (by rw[hk];simp[ents];rfl)
 refine ad_ (pn:=an_) ac_ Tryz.func170 rfl fun β0=>?_
 simp only[Tryz.f170]
 repeat(first|apply wG|(apply wR;simp -dsimp[aA_])|refine aI ?_)
 refine aB_ ac_ (zl:=.int .i64 0) (m:=12) (k:=8) (j:=7) rfl rfl rfl rfl rfl rfl rfl rfl (by omega) rfl (by simp;omega) (by simp) ?_
 have hh:=bE_ l
 have h0:=aX_ l 0 (by omega)
 have h1:=aX_ l 1 (by omega)
 have h2:=aX_ l 2 (by omega)
 have h3:=aX_ l 3 (by omega)
 have h4:=aX_ l 4 (by omega)
 have h5:=aX_ l 5 (by omega)
 have h6:=aX_ l 6 (by omega)
 have h7:=aX_ l 7 (by omega)
 have hcl:((iD l).map AV.d++List.replicate 12 (AV.d (.v (.int .i64 0)))).length=l.length+12:=by simp
 generalize (iD l).map AV.d++List.replicate 12 (AV.d (.v (.int .i64 0)))=cs at *
 simp -dsimp[hh]
 repeat(first|apply wG|(apply wR;simp -dsimp[hh,hcl,h0,h1,h2,h3,h4,h5,h6,h7,aA_])|refine aI ?_)
 have hk3:bF_ l 0=9:=hk
 refine cF (by simp[fup,hk]) ?_
 repeat(first|apply wG|(apply wR;simp -dsimp[hh,hcl,h0,h1,h2,h3,h4,h5,h6,h7])|refine aI ?_)
 refine cF (by simp[fup,hk]) ?_
 repeat(first|apply wG|(apply wR;simp -dsimp[hh,hcl,h0,h1,h2,h3,h4,h5,h6,h7])|refine aI ?_)
 refine cF (by simp[fup,hk]) ?_
 repeat(first|apply wG|(apply wR;simp -dsimp[hh,hcl,h0,h1,h2,h3,h4,h5,h6,h7])|refine aI ?_)
 refine cF (by simp[fup,hk]) ?_
 repeat(first|apply wG|(apply wR;simp -dsimp[hh,hcl,h0,h1,h2,h3,h4,h5,h6,h7])|refine aI ?_)
 refine cF (by simp[fup,hk]) ?_
 repeat(first|apply wG|(apply wR;simp -dsimp[hh,hcl,h0,h1,h2,h3,h4,h5,h6,h7])|refine aI ?_)
 refine cF (by simp[fup,hk]) ?_
 repeat(first|apply wG|(apply wR;simp -dsimp[hh,hcl,h0,h1,h2,h3,h4,h5,h6,h7])|refine aI ?_)
 refine cF (by simp[fup,hk]) ?_
 repeat(first|apply wG|(apply wR;simp -dsimp[hh,hcl,h0,h1,h2,h3,h4,h5,h6,h7])|refine aI ?_)
 refine cF (by simp[fup,hk]) ?_
 repeat(first|apply wG|(apply wR;simp -dsimp[hh,hcl,h0,h1,h2,h3,h4,h5,h6,h7])|refine aI ?_)
 refine cT (by simp[fup,hk]) ?_
 repeat(first|apply wG|(apply wR;simp -dsimp[hh,hcl,h0,h1,h2,h3,h4,h5,h6,h7,setL])|refine aI ?_)
 refine WP.ret (ab_ ?_)
 simp -dsimp[hE,rdE,dR_,fD]
 all_goals first|exact al_ _|(rw[bs_ (by simp[fup,f0])];exact al_ _)
theorem w4_ (l:List Int) (hl:l.length≤100000) (hk:bF_ l 0=10):Fn0 Tryz.prog 170 [slI l] (fD (candG l)):=by
 have hE:=bg_ (l:=l) (by rw[hk];simp[ents];rfl)
 refine ad_ (pn:=an_) ac_ Tryz.func170 rfl fun β0=>?_
 simp only[Tryz.f170]
 repeat(first|apply wG|(apply wR;simp -dsimp[aA_])|refine aI ?_)
 refine aB_ ac_ (zl:=.int .i64 0) (m:=12) (k:=8) (j:=7) rfl rfl rfl rfl rfl rfl rfl rfl (by omega) rfl (by simp;omega) (by simp) ?_
 have hh:=bE_ l
 have h0:=aX_ l 0 (by omega)
 have h1:=aX_ l 1 (by omega)
 have h2:=aX_ l 2 (by omega)
 have h3:=aX_ l 3 (by omega)
 have h4:=aX_ l 4 (by omega)
 have h5:=aX_ l 5 (by omega)
 have h6:=aX_ l 6 (by omega)
 have h7:=aX_ l 7 (by omega)
 have h8:=aX_ l 8 (by omega)
 have h9:=aX_ l 9 (by omega)
 have hcl:((iD l).map AV.d++List.replicate 12 (AV.d (.v (.int .i64 0)))).length=l.length+12:=by simp
 generalize (iD l).map AV.d++List.replicate 12 (AV.d (.v (.int .i64 0)))=cs at *
 simp -dsimp[hh]
 repeat(first|apply wG|(apply wR;simp -dsimp[hh,hcl,h0,h1,h2,h3,h4,h5,h6,h7,h8,h9,aA_])|refine aI ?_)
 have hk3:bF_ l 0=10:=hk
 refine cF (by simp[fup,hk]) ?_
 repeat(first|apply wG|(apply wR;simp -dsimp[hh,hcl,h0,h1,h2,h3,h4,h5,h6,h7,h8,h9])|refine aI ?_)
 refine cF (by simp[fup,hk]) ?_
 repeat(first|apply wG|(apply wR;simp -dsimp[hh,hcl,h0,h1,h2,h3,h4,h5,h6,h7,h8,h9])|refine aI ?_)
 refine cF (by simp[fup,hk]) ?_
 repeat(first|apply wG|(apply wR;simp -dsimp[hh,hcl,h0,h1,h2,h3,h4,h5,h6,h7,h8,h9])|refine aI ?_)
 refine cF (by simp[fup,hk]) ?_
 repeat(first|apply wG|(apply wR;simp -dsimp[hh,hcl,h0,h1,h2,h3,h4,h5,h6,h7,h8,h9])|refine aI ?_)
 refine cF (by simp[fup,hk]) ?_
 repeat(first|apply wG|(apply wR;simp -dsimp[hh,hcl,h0,h1,h2,h3,h4,h5,h6,h7,h8,h9])|refine aI ?_)
 refine cF (by simp[fup,hk]) ?_
 repeat(first|apply wG|(apply wR;simp -dsimp[hh,hcl,h0,h1,h2,h3,h4,h5,h6,h7,h8,h9])|refine aI ?_)
 refine cF (by simp[fup,hk]) ?_
 repeat(first|apply wG|(apply wR;simp -dsimp[hh,hcl,h0,h1,h2,h3,h4,h5,h6,h7,h8,h9])|refine aI ?_)
 refine cF (by simp[fup,hk]) ?_
 repeat(first|apply wG|(apply wR;simp -dsimp[hh,hcl,h0,h1,h2,h3,h4,h5,h6,h7,h8,h9])|refine aI ?_)
 refine cF (by simp[fup,hk]) ?_
 repeat(first|apply wG|(apply wR;simp -dsimp[hh,hcl,h0,h1,h2,h3,h4,h5,h6,h7,h8,h9])|refine aI ?_)
 refine cT (by simp[fup,hk]) ?_
 repeat(first|apply wG|(apply wR;simp -dsimp[hh,hcl,h0,h1,h2,h3,h4,h5,h6,h7,h8,h9,setL])|refine aI ?_)
 refine WP.ret (ab_ ?_)
 simp -dsimp[hE,rdE,dR_,fD]
 all_goals first|exact al_ _|(rw[bs_ (by simp[fup,f0])];exact al_ _)
theorem w3_ (l:List Int) (hl:l.length≤100000) (hk:bF_ l 0=11):Fn0 Tryz.prog 170 [slI l] (fD (candG l)):=by
 have hE:=bg_ (l:=l) (by rw[hk];simp[ents];rfl)
 refine ad_ (pn:=an_) ac_ Tryz.func170 rfl fun β0=>?_
 simp only[Tryz.f170]
 repeat(first|apply wG|(apply wR;simp -dsimp[aA_])|refine aI ?_)
 refine aB_ ac_ (zl:=.int .i64 0) (m:=12) (k:=8) (j:=7) rfl rfl rfl rfl rfl rfl rfl rfl (by omega) rfl (by simp;omega) (by simp) ?_
 have hh:=bE_ l
 have h0:=aX_ l 0 (by omega)
 have h1:=aX_ l 1 (by omega)
 have h2:=aX_ l 2 (by omega)
 have h3:=aX_ l 3 (by omega)
 have h4:=aX_ l 4 (by omega)
 have h5:=aX_ l 5 (by omega)
 have hcl:((iD l).map AV.d++List.replicate 12 (AV.d (.v (.int .i64 0)))).length=l.length+12:=by simp
 generalize (iD l).map AV.d++List.replicate 12 (AV.d (.v (.int .i64 0)))=cs at *
 simp -dsimp[hh]
 repeat(first|apply wG|(apply wR;simp -dsimp[hh,hcl,h0,h1,h2,h3,h4,h5,aA_])|refine aI ?_)
 have hk3:bF_ l 0=11:=hk
 refine cF (by simp[fup,hk]) ?_
 repeat(first|apply wG|(apply wR;simp -dsimp[hh,hcl,h0,h1,h2,h3,h4,h5])|refine aI ?_)
 refine cF (by simp[fup,hk]) ?_
 repeat(first|apply wG|(apply wR;simp -dsimp[hh,hcl,h0,h1,h2,h3,h4,h5])|refine aI ?_)
 refine cF (by simp[fup,hk]) ?_
 repeat(first|apply wG|(apply wR;simp -dsimp[hh,hcl,h0,h1,h2,h3,h4,h5])|refine aI ?_)
 refine cF (by simp[fup,hk]) ?_
 repeat(first|apply wG|(apply wR;simp -dsimp[hh,hcl,h0,h1,h2,h3,h4,h5])|refine aI ?_)
 refine cF (by simp[fup,hk]) ?_
 repeat(first|apply wG|(apply wR;simp -dsimp[hh,hcl,h0,h1,h2,h3,h4,h5])|refine aI ?_)
 refine cF (by simp[fup,hk]) ?_
 repeat(first|apply wG|(apply wR;simp -dsimp[hh,hcl,h0,h1,h2,h3,h4,h5])|refine aI ?_)
 refine cF (by simp[fup,hk]) ?_
 repeat(first|apply wG|(apply wR;simp -dsimp[hh,hcl,h0,h1,h2,h3,h4,h5])|refine aI ?_)
 refine cF (by simp[fup,hk]) ?_
 repeat(first|apply wG|(apply wR;simp -dsimp[hh,hcl,h0,h1,h2,h3,h4,h5])|refine aI ?_)
 refine cF (by simp[fup,hk]) ?_
 repeat(first|apply wG|(apply wR;simp -dsimp[hh,hcl,h0,h1,h2,h3,h4,h5])|refine aI ?_)
 refine cF (by simp[fup,hk]) ?_
 repeat(first|apply wG|(apply wR;simp -dsimp[hh,hcl,h0,h1,h2,h3,h4,h5])|refine aI ?_)
 refine cT (by simp[fup,hk]) ?_
 repeat(first|apply wG|(apply wR;simp -dsimp[hh,hcl,h0,h1,h2,h3,h4,h5,setL])|refine aI ?_)
 refine WP.ret (ab_ ?_)
 simp -dsimp[hE,rdE,dR_,fD]
 all_goals first|exact al_ _|(rw[bs_ (by simp[fup,f0])];exact al_ _)
theorem w2_ (l:List Int) (hl:l.length≤100000) (hk:bF_ l 0=13):Fn0 Tryz.prog 170 [slI l] (fD (candG l)):=by
 have hE:=bg_ (l:=l) (by rw[hk];simp[ents];rfl)
 refine ad_ (pn:=an_) ac_ Tryz.func170 rfl fun β0=>?_
 simp only[Tryz.f170]
 repeat(first|apply wG|(apply wR;simp -dsimp[aA_])|refine aI ?_)
 refine aB_ ac_ (zl:=.int .i64 0) (m:=12) (k:=8) (j:=7) rfl rfl rfl rfl rfl rfl rfl rfl (by omega) rfl (by simp;omega) (by simp) ?_
 have hh:=bE_ l
 have h0:=aX_ l 0 (by omega)
 have h1:=aX_ l 1 (by omega)
 have h2:=aX_ l 2 (by omega)
 have h3:=aX_ l 3 (by omega)
 have h4:=aX_ l 4 (by omega)
 have h5:=aX_ l 5 (by omega)
 have hcl:((iD l).map AV.d++List.replicate 12 (AV.d (.v (.int .i64 0)))).length=l.length+12:=by simp
 generalize (iD l).map AV.d++List.replicate 12 (AV.d (.v (.int .i64 0)))=cs at *
 simp -dsimp[hh]
 repeat(first|apply wG|(apply wR;simp -dsimp[hh,hcl,h0,h1,h2,h3,h4,h5,aA_])|refine aI ?_)
 have hk3:bF_ l 0=13:=hk
 refine cF (by simp[fup,hk]) ?_
 repeat(first|apply wG|(apply wR;simp -dsimp[hh,hcl,h0,h1,h2,h3,h4,h5])|refine aI ?_)
 refine cF (by simp[fup,hk]) ?_
 repeat(first|apply wG|(apply wR;simp -dsimp[hh,hcl,h0,h1,h2,h3,h4,h5])|refine aI ?_)
 refine cF (by simp[fup,hk]) ?_
 repeat(first|apply wG|(apply wR;simp -dsimp[hh,hcl,h0,h1,h2,h3,h4,h5])|refine aI ?_)
 refine cF (by simp[fup,hk]) ?_
 repeat(first|apply wG|(apply wR;simp -dsimp[hh,hcl,h0,h1,h2,h3,h4,h5])|refine aI ?_)
 refine cF (by simp[fup,hk]) ?_
 repeat(first|apply wG|(apply wR;simp -dsimp[hh,hcl,h0,h1,h2,h3,h4,h5])|refine aI ?_)
 refine cF (by simp[fup,hk]) ?_
 repeat(first|apply wG|(apply wR;simp -dsimp[hh,hcl,h0,h1,h2,h3,h4,h5])|refine aI ?_)
 refine cF (by simp[fup,hk]) ?_
 repeat(first|apply wG|(apply wR;simp -dsimp[hh,hcl,h0,h1,h2,h3,h4,h5])|refine aI ?_)
 refine cF (by simp[fup,hk]) ?_
 repeat(first|apply wG|(apply wR;simp -dsimp[hh,hcl,h0,h1,h2,h3,h4,h5])|refine aI ?_)
 refine cF (by simp[fup,hk]) ?_
 repeat(first|apply wG|(apply wR;simp -dsimp[hh,hcl,h0,h1,h2,h3,h4,h5])|refine aI ?_)
 refine cF (by simp[fup,hk]) ?_
 repeat(first|apply wG|(apply wR;simp -dsimp[hh,hcl,h0,h1,h2,h3,h4,h5])|refine aI ?_)
 refine cF (by simp[fup,hk]) ?_
 repeat(first|apply wG|(apply wR;simp -dsimp[hh,hcl,h0,h1,h2,h3,h4,h5])|refine aI ?_)
 refine cT (by simp[fup,hk]) ?_
 repeat(first|apply wG|(apply wR;simp -dsimp[hh,hcl,h0,h1,h2,h3,h4,h5,setL])|refine aI ?_)
 refine WP.ret (ab_ ?_)
 simp -dsimp[hE,rdE,dR_,fD]
 all_goals first|exact al_ _|(rw[bs_ (by simp[fup,f0])];exact al_ _)
theorem w1_ (l:List Int) (hl:l.length≤100000) (hk:bF_ l 0<1∨bF_ l 0=12∨13<bF_ l 0):Fn0 Tryz.prog 170 [slI l] (fD (candG l)):=by
 have hE:candG l=dR_ l:=by
  by_cases h12:bF_ l 0=12
  ·rw[bg_ (E:=[]) (by rw[h12];rfl)]
   exact bs_ rfl
  ·refine uX_ ?_
   unfold ents
   repeat rw[if_neg (by omega)]
 refine ad_ (pn:=an_) ac_ Tryz.func170 rfl fun β0=>?_
 simp only[Tryz.f170]
 repeat(first|apply wG|(apply wR;simp -dsimp[aA_])|refine aI ?_)
 refine aB_ ac_ (zl:=.int .i64 0) (m:=12) (k:=8) (j:=7) rfl rfl rfl rfl rfl rfl rfl rfl (by omega) rfl (by simp;omega) (by simp) ?_
 have hh:=bE_ l
 have h0:=aX_ l 0 (by omega)
 have h1:=aX_ l 1 (by omega)
 have h2:=aX_ l 2 (by omega)
 have h3:=aX_ l 3 (by omega)
 have hcl:((iD l).map AV.d++List.replicate 12 (AV.d (.v (.int .i64 0)))).length=l.length+12:=by simp
 generalize (iD l).map AV.d++List.replicate 12 (AV.d (.v (.int .i64 0)))=cs at *
 simp -dsimp[hh]
 repeat(first|apply wG|(apply wR;simp -dsimp[hh,hcl,h0,h1,h2,h3,aA_])|refine aI ?_)
 refine cF (by simp[fup];omega) ?_
 repeat(first|apply wG|(apply wR;simp -dsimp[hh,hcl,h0,h1,h2,h3])|refine aI ?_)
 refine cF (by simp[fup];omega) ?_
 repeat(first|apply wG|(apply wR;simp -dsimp[hh,hcl,h0,h1,h2,h3])|refine aI ?_)
 refine cF (by simp[fup];omega) ?_
 repeat(first|apply wG|(apply wR;simp -dsimp[hh,hcl,h0,h1,h2,h3])|refine aI ?_)
 refine cF (by simp[fup];omega) ?_
 repeat(first|apply wG|(apply wR;simp -dsimp[hh,hcl,h0,h1,h2,h3])|refine aI ?_)
 refine cF (by simp[fup];omega) ?_
 repeat(first|apply wG|(apply wR;simp -dsimp[hh,hcl,h0,h1,h2,h3])|refine aI ?_)
 refine cF (by simp[fup];omega) ?_
 repeat(first|apply wG|(apply wR;simp -dsimp[hh,hcl,h0,h1,h2,h3])|refine aI ?_)
 refine cF (by simp[fup];omega) ?_
 repeat(first|apply wG|(apply wR;simp -dsimp[hh,hcl,h0,h1,h2,h3])|refine aI ?_)
 refine cF (by simp[fup];omega) ?_
 repeat(first|apply wG|(apply wR;simp -dsimp[hh,hcl,h0,h1,h2,h3])|refine aI ?_)
 refine cF (by simp[fup];omega) ?_
 repeat(first|apply wG|(apply wR;simp -dsimp[hh,hcl,h0,h1,h2,h3])|refine aI ?_)
 refine cF (by simp[fup];omega) ?_
 repeat(first|apply wG|(apply wR;simp -dsimp[hh,hcl,h0,h1,h2,h3])|refine aI ?_)
 refine cF (by simp[fup];omega) ?_
 repeat(first|apply wG|(apply wR;simp -dsimp[hh,hcl,h0,h1,h2,h3])|refine aI ?_)
 refine cF (by simp[fup];omega) ?_
 refine WP.skip ?_
 simp -dsimp
 repeat(first|apply wG|(apply wR;simp -dsimp[hh,hcl,h0,h1,h2,h3])|refine aI ?_)
 refine WP.ret (ab_ ?_)
 simp -dsimp[hE,dR_,fD]
 all_goals exact al_ _
theorem w0_ (l:List Int) (hl:l.length≤100000):Fn0 Tryz.prog 170 [slI l] (fD (candG l)):=by
 have h:bF_ l 0=1∨bF_ l 0=2∨bF_ l 0=3∨bF_ l 0=4∨bF_ l 0=5∨bF_ l 0=6∨bF_ l 0=7∨bF_ l 0=8∨bF_ l 0=9∨bF_ l 0=10∨bF_ l 0=11∨bF_ l 0=13∨(bF_ l 0<1∨bF_ l 0=12∨13<bF_ l 0):=by omega
 rcases h with h|h|h|h|h|h|h|h|h|h|h|h|h
 ·exact z1_ l hl h
 ·exact z0_ l hl h
 ·exact zZ_ l hl h
 ·exact zY_ l hl h
 ·exact zX_ l hl h
 ·exact zW_ l hl h
 ·exact zV_ l hl h
 ·exact zU_ l hl h
 ·exact zT_ l hl h
 ·exact w4_ l hl h
 ·exact w3_ l hl h
 ·exact w2_ l hl h
 ·exact w1_ l hl h
theorem wm_ (l:List Int):(l.map qD_).map V.num=l:=by
 rw[List.map_map]
 exact (List.map_congr_left fun x _=>rfl).trans (List.map_id _)
theorem zK_ {f:Nat→Int} (v:(numF f).2=true):encR f=(encF f,0):=if_pos v
theorem x2_ {f:Nat→Int} (v:¬ (numF f).2=true):encR f=([],120):=if_neg v
theorem qR_ {f:Nat→Int} (hf:fOk f):(encF f).length≤10000:=by
 obtain⟨h1,h2⟩:=lf_ hf
 obtain⟨_,_,h3,_⟩:=dx_ h1
 rw[encF,b5_,V.enc]
 have h10:=bf_ (u:=(numF f).1.length) (by unfold isU;omega)
 simp
 omega
theorem qt_ {f:Nat→Int} (hf:fOk f):pDec (encF f)=(b5_ (numF f).1,0):=by
 obtain⟨h1,h2⟩:=lf_ hf
 have a:=e9_ h1 (by omega)
 have ra:=ya_ (b5_ (numF f).1) 16 [] (q8_ a.1) a.2.1 (by omega) (by omega)
 rw[List.append_nil] at ra
 rw[pDec,encF,ra]
theorem wd_ {f:Nat→Int} (hf:fOk f):mJ_ (encF f)=(numF f).1:=by
 rw[mJ_,qt_ hf]
 exact wm_ _
theorem di_ {f:Nat→Int} (hf:fOk f) (v:(numF f).2=true):decF (encF f)=(f,0):=by
 rw[decF,qt_ hf,if_pos rfl,x5_,wd_ hf,wV_ v hf,if_pos (zK_ v)]
theorem y7_ {bs:List UInt8} (h:bs.length≤1000000000000):∀ x∈mJ_ bs,isI x:=by
 rcases pDec_facts h with⟨_,hr,_⟩|hb
 ·rw[mJ_]
  generalize (pDec bs).1=v at *
  obtain⟨k,n,s,l⟩:=v
  exact hO_ (cp_ hr).2
 ·rw[mJ_,hb];simp[V.items]
theorem lB_ {bs:List UInt8} (h:bs.length≤1000000000000):fOk (decF bs).1:=by
 rw[decF]
 have h0:fOk f0:=⟨fun _=>t9_,.inl rfl,fun _ _=>rfl⟩
 split
 ·rw[x5_]
  split
  ·exact lG_ (y7_ h)
  ·exact h0
 ·exact h0
theorem decF_val {bs:List UInt8} (h:bs.length≤1000000000000):((decF bs).2=0∧encR (decF bs).1=(bs,0))∨((decF bs).2≠0∧(decF bs).1=f0):=by
 rw[decF]
 split
 ·rw[x5_]
  split
  ·rename_i h1;exact .inl ⟨rfl,h1⟩
  ·exact .inr ⟨by decide,rfl⟩
 ·rename_i h1;exact .inr ⟨h1,rfl⟩
def sDR (bs:List UInt8) (k n:Int) (s:ByteArray) (l l1:List V):St :=
 mkS 55 [(0,.d (slB bs)),(2,.ptr 2 0),(3,.d (.v (.int .i64 0))),(4,.ptr 4 0),(6,.row 500),(7,.d (.v (.int .i64 l1.length)))]
  [(2,fB f0),(4,vB k n s l),(500,rI (l1.map V.num))]
set_option maxRecDepth 10000 in
set_option maxHeartbeats 4000000 in
theorem mu_ (bs:List UInt8) (hbs:bs.length≤10000):Fn0 Tryz.prog 116 [slB bs] (m9_ bs):=by
 have h19:=Cj_ bs (by omega)
 rw[na_] at h19
 have hpf:=pDec_facts (bs:=bs) (by omega)
 unfold m9_ decF mJ_
 generalize pDec bs=R at *
 obtain⟨⟨k,n,s,l⟩,e⟩:=R
 rcases hpf with⟨h0,hrng,henc,hok,_⟩|hbad
 ·simp only at h0 hrng henc hok
  subst h0
  have hL:=(cp_ hrng).2
  have hin:=hO_ hL
  have hlen:=i9_ hok
  rw[henc] at hlen
  simp only[V.items] at hlen
  have hg:=lG_ hin
  have h18:=d1_ _ hg
  rw[← o8_ hg] at h18
  have h41:=w0_ (l.map V.num) (by simp;omega)
  simp only[if_true,V.items]
  refine ad_ (pn:=an_) ac_ Tryz.func116 rfl fun β0=>?_
  simp only[Tryz.f116]
  repeat(first|apply wG|(apply wR;simp -dsimp[aA_])|refine aI ?_)
  refine aa_ hh_ h19 rfl rfl (by simp) ?_
  simp -dsimp[V.d,V.cells]
  refine sG ?_
  refine cE ?_
  refine WP.skip ?_
  refine sH ?_
  refine ai_ (fun m S=>∃ l1 l2,l=l1++l2∧m=l2.length∧S=sDR bs k n s l l1) l.length (S0:=sDR bs k n s l [])
   (Wk.go [] 20 500 (by decide) (by simp[sDR]) (by simp[sDR]) (by simp[sDR])) ⟨[],l,rfl,rfl,rfl⟩ ?_
  rintro _ _ ⟨l1,l2,hl12,rfl,rfl⟩
  have hll:l.length=l1.length+l2.length:=by rw[← List.length_append,← hl12]
  simp -dsimp[sDR]
  refine sG ?_
  cases l2 with
  | cons v l2 =>
   rw[List.length_cons] at hll
   have e1:IntKind.i64.wrap ((l1.length:Int)+1)=(l1.length:Int)+1:=IntWalk.i64_in _ (by omega)
   have hv:=b9_ l1 v l2
   rw[← hl12] at hv
   obtain⟨k',n',s',l'⟩:=v
   rw[V.cells] at hv
   refine cT (by simp;omega) ?_
   refine WP.skip ?_
   simp -dsimp
   refine WP.seq (WP.block ?_)
   repeat(first|apply wG|(apply wR;simp -dsimp[hv])|refine aI ?_)
   refine loopW.next (sDR bs k n s l (l1++[.mk k' n' s' l'])) (Wk.go [35] 36 500 (by decide) (by simp[sDR]) (by simp[sDR,e1]) (by simp[sDR,V.num])) l2.length (by simp) ⟨l1++[.mk k' n' s' l'],l2,by simp[hl12],rfl,rfl⟩
  | nil =>
   simp only[List.append_nil] at hl12
   subst hl12
   have hdl:∀ g b e,g=candG (l.map V.num)→encR g=(b,e)→x5_ bs (l.map V.num)=if e=0∧bs=b then (g,0) else (f0,120):=fun g b e hg he=>by
    rw[x5_,← hg,he]
    by_cases h1:e=0∧bs=b
    ·rw[if_pos h1,if_pos (by rw[h1.1,h1.2])]
    ·rw[if_neg h1,if_neg (fun h2=>h1 ⟨(Prod.mk.inj h2).2,((Prod.mk.inj h2).1).symm⟩)]
   have hd:=hdl _ (encR (candG (l.map V.num))).1 (encR (candG (l.map V.num))).2 rfl rfl
   clear hdl
   rw[hd]
   clear hd
   generalize candG (l.map V.num)=g at *
   generalize encR g=R at *
   obtain⟨c,e⟩:=R
   simp only at h18 ⊢
   refine cE ?_
   refine WP.exit ?_
   simp -dsimp
   refine aq_ (Wk.freeze (k:=500) (T:=3) (sz:=1) (ds:=iD (l.map V.num)) (by simp;rfl)) ?_
   refine sH ?_
   refine aa_ nD_ h41 rfl rfl (by simp) ?_
   simp -dsimp[fD]
   refine sG ?_
   refine aa_ fq_ h18 rfl rfl (by simp[fD]) ?_
   refine sH ?_
   refine WP.cond (b := !decide (e=0∧bs=c)) (by simp) (fun hb=>?_) (fun hb=>?_)
   ·have hb:¬ (e=0∧bs=c):=by simpa only[Bool.not_eq_true',decide_eq_false_iff_not] using hb
    rw[if_neg hb]
    repeat(first|apply wG|(apply wR;simp -dsimp[aA_])|refine aI ?_)
    refine WP.ret (ab_ ?_)
    simp -dsimp[fD]
   ·have hb:e=0∧bs=c:=by simpa using hb
    rw[if_pos hb]
    refine WP.skip ?_
    refine sH ?_
    refine WP.ret (ab_ ?_)
    simp -dsimp[fD]
 ·cases hbad
  simp only[V.items,show ¬ (20:Int)=0 by decide,if_false]
  refine ad_ (pn:=an_) ac_ Tryz.func116 rfl fun β0=>?_
  simp only[Tryz.f116]
  repeat(first|apply wG|(apply wR;simp -dsimp[aA_])|refine aI ?_)
  refine aa_ hh_ h19 rfl rfl (by simp) ?_
  simp -dsimp[V.d,V.cells]
  repeat(first|apply wG|(apply wR;simp -dsimp[aA_])|refine aI ?_)
  refine cU ?_
  repeat(first|apply wG|(apply wR;simp -dsimp[aA_])|refine aI ?_)
  refine WP.ret (ab_ ?_)
  simp -dsimp[fD]
end Go.Proofs.YtkcgffilldklcaaGreatDoor
