/-
  Joined texts.
-/
import Derived.Test.YtfgcgagcpnbgmaaGreatDoorWNg
import Derived.Test.YtfgcgagcpnbgmaaGreatDoorWNm
set_option linter.unusedVariables false
set_option linter.unusedSimpArgs false
set_option linter.unusedSectionVars false
namespace Go.Proofs.YtfgcgagcpnbgmaaGreatDoor
open Go.Xe Go.RowKit
def c5 (r:Rm):Nat→Bool
 | 0=>decide (0≤r.crew∧r.crew<32∧r.used=r.fs.length∧0≤r.sent∧r.sent≤r.fs.length)
 | 1=>keyV r.seed r.many r.used
 | 2=>dkB r.dk&&(!r.dk.st&&decide (r.dk.p.length=0))
 | 3=>decide ((r.dk.s.length:Int)=r.lm∧((recs r.dk.s).length:Int)=r.ls∧recs r.dk.s=r.lr)
 | _=>onB r.crew r.many 0 r.lr&&iH_ (onL r.seed r.many r.lr) r.fs
theorem jz_ (r:Rm):rmB r=(c5 r 0&&(c5 r 1&&(c5 r 2&&(c5 r 3&&c5 r 4)))):=rfl
abbrev rA (r:Rm):AV:=.agg ((rmC r).map .d)
abbrev ckS (r:Rm) (i:Nat):St:=mkS 26 [(2,.d (.v (.int .i64 0))),(18,.agg [.fn (.func 46) [rA r] [],.fn (.func 47) [rA r] [],.fn (.func 48) [rA r] [],.fn (.func 49) [rA r] [],.fn (.func 50) [rA r] []]),(19,.d (.v (.int .i64 i)))] []
def ckR (r:Rm):Int:=if rmB r=true then 0 else 440
set_option maxRecDepth 10000 in
set_option maxHeartbeats 2000000 in
theorem b9_ (r:Rm) (h:rmOk r):Fn0 Tryz.prog 15 [rmD r] (.v (.int .i64 (ckR r))):=by
 have hs1:=p5_ r h.sd
 have hs0:=lt_ r
 have hs2:=rV_ r h.dk
 refine ad_ (pn:=ap_) aa_ Tryz.func15 rfl fun β0=>?_
 simp only[Tryz.f15]
 repeat(first|apply wG|(apply wR;simp -dsimp[rmD,rmC])|refine aI ?_)
 refine ai_ (fun q S=>∃ i:Nat,q=5-i∧i≤5∧(∀ j,j<i→c5 r j=true)∧S=ckS r i) 5 (S0:=ckS r 0) (ae_ [] (by simp[rmC];exact Leq.refl _) (by simp)) ⟨0,rfl,by omega,fun j hj=>by omega,rfl⟩ ?_
 rintro _ _ ⟨i,rfl,hi,hj,rfl⟩
 simp -dsimp
 repeat(first|apply wG|(apply wR;simp -dsimp)|refine aI ?_)
 rcases (by omega:i=5∨i=0∨i=1∨i=2∨i=3∨i=4) with rfl|rfl|rfl|rfl|rfl|rfl
 ·have hR:ckR r=0:=by rw[ckR,jz_,hj 0 (by omega),hj 1 (by omega),hj 2 (by omega),hj 3 (by omega),hj 4 (by omega)];rfl
  refine cF (by simp) ?_
  refine WP.exit ?_
  simp -dsimp
  repeat(first|apply wG|(apply wR;simp -dsimp)|refine aI ?_)
  refine WP.ret (ac_ ?_)
  simp -dsimp[hR]
 ·refine cT (by simp) ?_
  refine WP.skip ?_
  simp -dsimp
  repeat(first|apply wG|(apply wR;simp -dsimp[rmC])|refine aI ?_)
  refine ab_ ok_ hs0 rfl rfl (by simp[rmD,rmC]) ?_
  simp -dsimp
  repeat(first|apply wG|(apply wR;simp -dsimp)|refine aI ?_)
  refine WP.cond (b := !c5 r 0) (by simp[c5]) (fun hc=>?_) (fun hc=>?_)
  ·have hc:c5 r 0=false:=by simpa using hc
   have hR:ckR r=440:=by rw[ckR,jz_,hc];simp
   repeat(first|apply wG|(apply wR;simp -dsimp)|refine aI ?_)
   refine WP.ret (ac_ ?_)
   simp -dsimp[hR]
  ·have hc:c5 r 0=true:=by simpa using hc
   have w1:IntKind.i64.wrap (1:Int)=(1:Int):=by decide
   refine WP.skip ?_
   simp -dsimp
   repeat(first|apply wG|(apply wR;simp -dsimp)|refine aI ?_)
   refine loopW.next (ckS r 1) (ae_ [] (by simp[w1,rmC]) (by simp)) (5-1) (by omega) ⟨1,rfl,by omega,fun j hj1=>?_,rfl⟩
   rcases Nat.lt_or_eq_of_le (Nat.le_of_lt_succ hj1) with h1|rfl
   ·exact hj j h1
   ·exact hc
 ·refine cT (by simp) ?_
  refine WP.skip ?_
  simp -dsimp
  repeat(first|apply wG|(apply wR;simp -dsimp[rmC])|refine aI ?_)
  refine ab_ oj_ hs1 rfl rfl (by simp[rmD,rmC]) ?_
  simp -dsimp
  repeat(first|apply wG|(apply wR;simp -dsimp)|refine aI ?_)
  refine WP.cond (b := !c5 r 1) (by simp[c5]) (fun hc=>?_) (fun hc=>?_)
  ·have hc:c5 r 1=false:=by simpa using hc
   have hR:ckR r=440:=by rw[ckR,jz_,hc];simp
   repeat(first|apply wG|(apply wR;simp -dsimp)|refine aI ?_)
   refine WP.ret (ac_ ?_)
   simp -dsimp[hR]
  ·have hc:c5 r 1=true:=by simpa using hc
   have w1:IntKind.i64.wrap 2=2:=by decide
   refine WP.skip ?_
   simp -dsimp
   repeat(first|apply wG|(apply wR;simp -dsimp)|refine aI ?_)
   refine loopW.next (ckS r 2) (ae_ [] (by simp[w1,rmC]) (by simp)) (5-2) (by omega) ⟨2,rfl,by omega,fun j hj1=>?_,rfl⟩
   rcases Nat.lt_or_eq_of_le (Nat.le_of_lt_succ hj1) with h1|rfl
   ·exact hj j h1
   ·exact hc
 ·refine cT (by simp) ?_
  refine WP.skip ?_
  simp -dsimp
  repeat(first|apply wG|(apply wR;simp -dsimp[rmC])|refine aI ?_)
  refine ab_ oi_ hs2 rfl rfl (by simp[rmD,rmC]) ?_
  simp -dsimp
  repeat(first|apply wG|(apply wR;simp -dsimp)|refine aI ?_)
  refine WP.cond (b := !c5 r 2) (by simp[c5]) (fun hc=>?_) (fun hc=>?_)
  ·have hc:c5 r 2=false:=by simpa using hc
   have hR:ckR r=440:=by rw[ckR,jz_,hc];simp
   repeat(first|apply wG|(apply wR;simp -dsimp)|refine aI ?_)
   refine WP.ret (ac_ ?_)
   simp -dsimp[hR]
  ·have hc:c5 r 2=true:=by simpa using hc
   have w1:IntKind.i64.wrap 3=3:=by decide
   refine WP.skip ?_
   simp -dsimp
   repeat(first|apply wG|(apply wR;simp -dsimp)|refine aI ?_)
   refine loopW.next (ckS r 3) (ae_ [] (by simp[w1,rmC]) (by simp)) (5-3) (by omega) ⟨3,rfl,by omega,fun j hj1=>?_,rfl⟩
   rcases Nat.lt_or_eq_of_le (Nat.le_of_lt_succ hj1) with h1|rfl
   ·exact hj j h1
   ·exact hc
 ·refine cT (by simp) ?_
  refine WP.skip ?_
  simp -dsimp
  repeat(first|apply wG|(apply wR;simp -dsimp[rmC])|refine aI ?_)
  have b2:=hj 2 (by omega)
  simp only[c5,Bool.and_eq_true,Bool.not_eq_true',decide_eq_true_eq] at b2
  have hs3:=nF_ r h b2.1 b2.2.1 b2.2.2
  refine ab_ oh_ hs3 rfl rfl (by simp[rmD,rmC]) ?_
  simp -dsimp
  repeat(first|apply wG|(apply wR;simp -dsimp)|refine aI ?_)
  refine WP.cond (b := !c5 r 3) (by simp[c5]) (fun hc=>?_) (fun hc=>?_)
  ·have hc:c5 r 3=false:=by simpa using hc
   have hR:ckR r=440:=by rw[ckR,jz_,hc];simp
   repeat(first|apply wG|(apply wR;simp -dsimp)|refine aI ?_)
   refine WP.ret (ac_ ?_)
   simp -dsimp[hR]
  ·have hc:c5 r 3=true:=by simpa using hc
   have w1:IntKind.i64.wrap 4=4:=by decide
   refine WP.skip ?_
   simp -dsimp
   repeat(first|apply wG|(apply wR;simp -dsimp)|refine aI ?_)
   refine loopW.next (ckS r 4) (ae_ [] (by simp[w1,rmC]) (by simp)) (5-4) (by omega) ⟨4,rfl,by omega,fun j hj1=>?_,rfl⟩
   rcases Nat.lt_or_eq_of_le (Nat.le_of_lt_succ hj1) with h1|rfl
   ·exact hj j h1
   ·exact hc
 ·refine cT (by simp) ?_
  refine WP.skip ?_
  simp -dsimp
  repeat(first|apply wG|(apply wR;simp -dsimp[rmC])|refine aI ?_)
  have b1:keyV r.seed r.many r.used=true:=hj 1 (by omega)
  have b2:=hj 2 (by omega)
  have b3:=hj 3 (by omega)
  simp only[c5,Bool.and_eq_true,Bool.not_eq_true',decide_eq_true_eq] at b2 b3
  have hdd:=bp_.1 b2.1
  have hrl:=dI_ hdd.2.2
  have hsm:=bA_ hdd.2.2 hdd.1.2.1
  rw[b3.2.2] at hrl hsm
  have hs4:=ky_ r h b1 (by have:=hdd.1.2.1;omega) (fun b hb=>by have:=hsm b hb;omega)
  refine ab_ og_ hs4 rfl rfl (by simp[rmD,rmC]) ?_
  simp -dsimp
  repeat(first|apply wG|(apply wR;simp -dsimp)|refine aI ?_)
  refine WP.cond (b := !c5 r 4) (by simp[c5]) (fun hc=>?_) (fun hc=>?_)
  ·have hc:c5 r 4=false:=by simpa using hc
   have hR:ckR r=440:=by rw[ckR,jz_,hc];simp
   repeat(first|apply wG|(apply wR;simp -dsimp)|refine aI ?_)
   refine WP.ret (ac_ ?_)
   simp -dsimp[hR]
  ·have hc:c5 r 4=true:=by simpa using hc
   have w1:IntKind.i64.wrap 5=5:=by decide
   refine WP.skip ?_
   simp -dsimp
   repeat(first|apply wG|(apply wR;simp -dsimp)|refine aI ?_)
   refine loopW.next (ckS r 5) (ae_ [] (by simp[w1,rmC]) (by simp)) (5-5) (by omega) ⟨5,rfl,by omega,fun j hj1=>?_,rfl⟩
   rcases Nat.lt_or_eq_of_le (Nat.le_of_lt_succ hj1) with h1|rfl
   ·exact hj j h1
   ·exact hc
end Go.Proofs.YtfgcgagcpnbgmaaGreatDoor
set_option linter.unusedVariables false
set_option linter.unusedSimpArgs false
set_option linter.unusedSectionVars false
namespace Go.Proofs.YtfgcgagcpnbgmaaGreatDoor
open Go.Xe Go.RowKit
def rmT (x:Rm×Int):D:=.tup [rmD x.1,.v (.int .i64 x.2)]
theorem rmD_ze:rmD zeR=.agg [.v (.int .i64 0),.sl 1 [] 0 false,.v (.int .i64 0),.v (.int .i64 0),.sl 1 [] 0 false,.sl 2 [] 0 false,.v (.int .i64 0),.v (.bool false),.v (.int .i64 0),.sl 1 [] 0 false,.v (.int .i64 0),.sl 61 [] 0 false,.v (.int .i64 0)]:=rfl
theorem oW_ {seed:By} {m u:Int} (h:keyV seed m u=true):∃ d:Dg,oX_ seed m u=(d,0)∧d.length=32:=⟨_,by rw[oX_,if_pos h],aX_ _⟩
theorem r9_ {seed:By} {m u:Int} (h:¬ keyV seed m u=true):oX_ seed m u=(z32,40):=by rw[oX_,if_neg h]
theorem hg_ (d:By):∀ c∈bys d,oneD c=true:=fun c hc=>by
 obtain⟨x,_,rfl⟩:=List.mem_map.1 hc
 rfl
set_option maxRecDepth 10000 in
set_option maxHeartbeats 2000000 in
theorem jW_ (crew:Int) (seed:By) (hs:seed.length≤1000) (m u k:Int):Fn0 Tryz.prog 12 [.v (.int .i64 crew),keyD seed m u,.v (.int .i64 k)] (rmT (qw_ crew seed m u k)):=by
 have h38:=h4_ crew
 have h29:=dK_ seed hs m u
 unfold qw_
 refine ad_ (pn:=ap_) aa_ Tryz.func12 rfl fun β0=>?_
 simp only[Tryz.f12]
 repeat(first|apply wG|(apply wR;simp -dsimp[keyD,slB])|refine aI ?_)
 refine ab_ ez_ h38 rfl rfl (by simp) ?_
 simp -dsimp
 repeat(first|apply wG|(apply wR;simp -dsimp)|refine aI ?_)
 by_cases hc:0≤crew∧crew<32
 ·rw[if_pos hc]
  refine cF (by simp;omega) ?_
  refine WP.skip ?_
  simp -dsimp
  by_cases hk:keyV seed m u=true
  ·rw[if_pos hk]
   obtain⟨d,hd,h32⟩:=oW_ hk
   rw[hd,dD] at h29
   have ld:=bys_len d
   have h1:=hg_ d
   repeat(first|apply wG|(apply wR;simp -dsimp[slB])|refine aI ?_)
   refine ab_ bP_ h29 rfl rfl (by simp[keyD,slB]) ?_
   simp -dsimp
   repeat(first|apply wG|(apply wR;simp -dsimp[ld,h32,setL_whole])|refine aI ?_)
   refine cF (by simp) ?_
   refine WP.skip ?_
   simp -dsimp
   by_cases hn:1≤k∧k≤4096
   ·rw[if_pos hn]
    obtain⟨n,rfl⟩:∃ n:Nat,k=n:=⟨k.toNat,by omega⟩
    have h39:=vq_ n (by omega) (by omega)
    have hz:List.replicate n (List.replicate 128 (0:UInt8))=zeS n:=rfl
    have hzl:(zeS n).length=n:=by simp[zeS]
    rw[hz] at h39
    have hdb:dkB ⟨zeS n,[],-1,false⟩=true:=bp_.2 ⟨⟨by simp only[hzl];omega,by simp only[hzl];omega,Nat.zero_le _,by simp,by simp⟩,(fun _ h=>by cases h),fun b hb=>by rw[(List.mem_replicate.1 hb).2];simp⟩
    have h40:=gZ_ ⟨zeS n,[],-1,false⟩ (jv_ hdb)
    rw[tU_,if_pos hdb,if_neg (by simp),if_neg (by simp)] at h40
    simp only[aV_,hzl] at h40
    rw[dkD,dkC] at h39 h40
    rw[logD,lgC] at h40
    rw[Int.toNat_natCast,mkR,aV_,hzl]
    repeat(first|apply wG|(apply wR;simp -dsimp)|refine aI ?_)
    refine ab_ it_ h39 rfl rfl (by simp) ?_
    simp -dsimp
    repeat(first|apply wG|(apply wR;simp -dsimp)|refine aI ?_)
    refine cF (by simp) ?_
    refine WP.skip ?_
    simp -dsimp
    repeat(first|apply wG|(apply wR;simp -dsimp)|refine aI ?_)
    refine ab_ cp_ h40 rfl rfl (by simp) ?_
    simp -dsimp
    repeat(first|apply wG|(apply wR;simp -dsimp)|refine aI ?_)
    refine WP.ret (ac_ ?_)
    simp -dsimp[rmT,rmD,rmC,slB,onL,sgC,lsB,hzl]
   ·rw[if_neg hn]
    have h39:=vr_ k hn
    repeat(first|apply wG|(apply wR;simp -dsimp)|refine aI ?_)
    refine ab_ it_ h39 rfl rfl (by simp) ?_
    simp -dsimp[dkD,dkC]
    repeat(first|apply wG|(apply wR;simp -dsimp[dkD,dkC])|refine aI ?_)
    refine cT (by simp) ?_
    repeat(first|apply wG|(apply wR;simp -dsimp)|refine aI ?_)
    refine WP.ret (ac_ ?_)
    simp -dsimp[rmT,rmD_ze]
  ·rw[if_neg hk]
   rw[r9_ hk,dD] at h29
   have ld:=bys_len z32
   have h32:z32.length=32:=rfl
   have h1:=hg_ z32
   repeat(first|apply wG|(apply wR;simp -dsimp[slB])|refine aI ?_)
   refine ab_ bP_ h29 rfl rfl (by simp[keyD,slB]) ?_
   simp -dsimp
   repeat(first|apply wG|(apply wR;simp -dsimp[ld,h32,setL_whole])|refine aI ?_)
   refine cT (by simp) ?_
   repeat(first|apply wG|(apply wR;simp -dsimp)|refine aI ?_)
   refine WP.ret (ac_ ?_)
   simp -dsimp[rmT,rmD_ze]
 ·rw[if_neg hc]
  refine cT (by simp;omega) ?_
  repeat(first|apply wG|(apply wR;simp -dsimp)|refine aI ?_)
  refine WP.ret (ac_ ?_)
  simp -dsimp[rmT,rmD_ze]
end Go.Proofs.YtfgcgagcpnbgmaaGreatDoor
set_option linter.unusedVariables false
set_option linter.unusedSimpArgs false
set_option linter.unusedSectionVars false
namespace Go.Proofs.YtfgcgagcpnbgmaaGreatDoor
open Go.Xe Go.RowKit
set_option maxRecDepth 10000 in
set_option maxHeartbeats 4000000 in
theorem jV_ (r:Rm) (h:rmOk r):Fn0 Tryz.prog 23 [rmD r] (rmT (v2_ r)):=by
 have h38:=h4_ r.crew
 have h29:=dK_ r.seed h.sd r.many 0
 have h64:=vp_ r.dk
 have hdo:dkOk ⟨r.dk.s,[],-1,false⟩:=⟨h.dk.ns,Nat.zero_le _,by simp[isI]⟩
 have h40:=gZ_ ⟨r.dk.s,[],-1,false⟩ hdo
 unfold v2_
 refine ad_ (pn:=ap_) aa_ Tryz.func23 rfl fun β0=>?_
 simp only[Tryz.f23]
 repeat(first|apply wG|(apply wR;simp -dsimp[rmD,rmC])|refine aI ?_)
 refine ab_ ez_ h38 rfl rfl (by simp) ?_
 simp -dsimp
 repeat(first|apply wG|(apply wR;simp -dsimp)|refine aI ?_)
 by_cases hc:0≤r.crew∧r.crew<32
 ·rw[if_pos hc]
  refine cF (by simp;omega) ?_
  refine WP.skip ?_
  simp -dsimp
  by_cases hk:keyV r.seed r.many 0=true
  ·rw[if_pos hk]
   obtain⟨d,hd,h32⟩:=oW_ hk
   rw[hd,dD] at h29
   have ld:=bys_len d
   have h1:=hg_ d
   repeat(first|apply wG|(apply wR;simp -dsimp[slB])|refine aI ?_)
   refine ab_ bP_ h29 rfl rfl (by simp[keyD,slB]) ?_
   simp -dsimp
   repeat(first|apply wG|(apply wR;simp -dsimp[ld,h32,setL_whole])|refine aI ?_)
   refine cF (by simp) ?_
   refine WP.skip ?_
   simp -dsimp
   repeat(first|apply wG|(apply wR;simp -dsimp)|refine aI ?_)
   refine ab_ oc_ h64 rfl rfl (by simp[dkD,dkC]) ?_
   simp -dsimp[dkD,dkC]
   repeat(first|apply wG|(apply wR;simp -dsimp)|refine aI ?_)
   by_cases hb:dkB ⟨r.dk.s,[],-1,false⟩=true
   ·rw[if_pos hb]
    rw[tU_,if_pos hb,if_neg (by simp),if_neg (by simp)] at h40
    simp only at h40
    have hdd:=bp_.1 hb
    have hrl:=dI_ hdd.2.2
    have hsm:=bA_ hdd.2.2 hdd.1.2.1
    have hsl:=hdd.1.2.1
    simp only at hrl hsl hsm
    have h65:=hB_ r.crew r.seed r.many 0 r.dk.s.length (recs r.dk.s) (recs r.dk.s).length hk (by omega) (fun b hb=>by have:=hsm b hb;omega)
    unfold BK_ at h65
    rw[dkD,dkC] at h40
    rw[logD,lgC] at h40 h65
    refine ab_ cp_ h40 rfl rfl (by simp) ?_
    simp -dsimp
    repeat(first|apply wG|(apply wR;simp -dsimp)|refine aI ?_)
    refine cF (by simp) ?_
    refine WP.skip ?_
    simp -dsimp
    repeat(first|apply wG|(apply wR;simp -dsimp)|refine aI ?_)
    refine ab_ is_ h65 rfl rfl (by simp[keyD,slB]) ?_
    cases hon:onB r.crew r.many 0 (recs r.dk.s) with
    | true =>
     rw[if_pos rfl,if_pos rfl]
     simp -dsimp
     repeat(first|apply wG|(apply wR;simp -dsimp)|refine aI ?_)
     refine cF (by simp) ?_
     refine WP.skip ?_
     simp -dsimp
     repeat(first|apply wG|(apply wR;simp -dsimp)|refine aI ?_)
     refine WP.ret (ac_ ?_)
     simp -dsimp[rmT,rmD,rmC,slB,mkR,bn_]
    | false =>
     rw[if_neg (by decide),if_neg (by decide)]
     simp -dsimp
     repeat(first|apply wG|(apply wR;simp -dsimp)|refine aI ?_)
     refine cT (by simp) ?_
     repeat(first|apply wG|(apply wR;simp -dsimp)|refine aI ?_)
     refine WP.ret (ac_ ?_)
     simp -dsimp[rmT,rmD_ze]
   ·rw[if_neg hb]
    rw[tU_,if_neg hb] at h40
    simp only at h40
    rw[dkD,dkC] at h40
    refine ab_ cp_ h40 rfl rfl (by simp) ?_
    simp -dsimp[logD,lgC]
    repeat(first|apply wG|(apply wR;simp -dsimp[logD,lgC])|refine aI ?_)
    refine cT (by simp) ?_
    repeat(first|apply wG|(apply wR;simp -dsimp)|refine aI ?_)
    refine WP.ret (ac_ ?_)
    simp -dsimp[rmT,rmD_ze]
  ·rw[if_neg hk]
   rw[r9_ hk,dD] at h29
   have ld:=bys_len z32
   have h32:z32.length=32:=rfl
   have h1:=hg_ z32
   repeat(first|apply wG|(apply wR;simp -dsimp[slB])|refine aI ?_)
   refine ab_ bP_ h29 rfl rfl (by simp[keyD,slB]) ?_
   simp -dsimp
   repeat(first|apply wG|(apply wR;simp -dsimp[ld,h32,setL_whole])|refine aI ?_)
   refine cT (by simp) ?_
   repeat(first|apply wG|(apply wR;simp -dsimp)|refine aI ?_)
   refine WP.ret (ac_ ?_)
   simp -dsimp[rmT,rmD_ze]
 ·rw[if_neg hc]
  refine cT (by simp;omega) ?_
  repeat(first|apply wG|(apply wR;simp -dsimp)|refine aI ?_)
  refine WP.ret (ac_ ?_)
  simp -dsimp[rmT,rmD_ze]
end Go.Proofs.YtfgcgagcpnbgmaaGreatDoor
set_option maxRecDepth 10000
set_option maxHeartbeats 4000000
set_option linter.unusedVariables false
set_option linter.unusedSimpArgs false
set_option linter.unusedSectionVars false
namespace Go.Proofs.YtfgcgagcpnbgmaaGreatDoor
open Go.Xe Go.RowKit
theorem oO_ (crew:Int) (seed:By) (m:Int) (s:List By) (left sent:Int):rmD (mkR crew seed m s left sent)=.agg [.v (.int .i64 crew),slB seed,.v (.int .i64 m),.v (.int .i64 (recs s).length),slLB s,.sl 2 [] 0 false,.v (.int .i64 left),.v (.bool false),.v (.int .i64 s.length),slLB (recs s),.v (.int .i64 (recs s).length),.sl 61 (sgC (onL seed m (recs s))) (recs s).length false,.v (.int .i64 sent)]:=by
 simp only[rmD,rmC,mkR,sgD,bn_];rfl
def stR (crew:Int) (seed:By) (m:Int) (s:List By) (X:List By) (sent:Int):Rm:=⟨crew,seed,m,(recs s).length,⟨X,[],0,true⟩,s.length,recs s,(recs s).length,onL seed m (recs s),sent⟩
theorem y1_ (crew:Int) (seed:By) (m:Int) (s X:List By) (sent:Int):rmD (stR crew seed m s X sent)=.agg [.v (.int .i64 crew),slB seed,.v (.int .i64 m),.v (.int .i64 (recs s).length),slLB X,.sl 2 [] 0 false,.v (.int .i64 0),.v (.bool true),.v (.int .i64 s.length),slLB (recs s),.v (.int .i64 (recs s).length),.sl 61 (sgC (onL seed m (recs s))) (recs s).length false,.v (.int .i64 sent)]:=by
 simp only[rmD,rmC,stR,sgD,bn_];rfl
theorem wY_ {crew:Int} {seed:By} {m:Int} {s X:List By} {sent:Int} (ho:okR crew seed m X (-1) 0) (hr:recs X=recs s):v2_ (stR crew seed m s X sent)=(mkR crew seed m X (-1) 0,0):=by
 have hk:=a8_.1 ho.key
 have k0:keyV seed m 0=true:=a8_.2 ⟨hk.1,hk.2.1,hk.2.2.1,hk.2.2.2.1,Int.le_refl _,by omega⟩
 have hb:dkB ⟨X,[],-1,false⟩=true:=bp_.2 ⟨⟨ho.n1,ho.n2,Nat.zero_le _,by simp,by simp⟩,(fun _ h=>by cases h),ho.h128⟩
 unfold v2_
 exact (if_pos ⟨ho.c0,ho.c1⟩).trans ((if_pos k0).trans ((if_pos hb).trans (if_pos ho.on)))
theorem oQ_ (f:Nat→Int) (c:Int) (n:Nat):fup (fup f 0 c) 1 ((n:Int)+1)=ownF c n f:=rfl
theorem rX_ {crew:Int} {seed:By} {m:Int} {s:List By} {left sent:Int} (ho:okR crew seed m s left sent) (hsd:seed.length≤1000) (h15:Fn0 Tryz.prog 15 [rmD (mkR crew seed m s left sent)] (.v (.int .i64 0)))
  (f:Nat→Int) (hf:fOk f):Fn0 Tryz.prog 17 [rmD (mkR crew seed m s left sent),fD f] (rmT (i6_ crew seed m s left sent (ownF crew (recs s).length f))):=by
 have hus:=hM_ ho.h128
 have hsm:=bA_ ho.h128 ho.n2
 have hn1:=ho.n1
 have hn2:=ho.n2
 have hkk:=a8_.1 ho.key
 have hg:fOk (ownF crew (recs s).length f):=j7_ hf (by have:=ho.c0;have:=ho.c1;simp[isI];omega) (by omega)
 have g1:=ownF_1 crew (recs s).length f
 have hrf:=oQ_ f crew (recs s).length
 have lG:=bn_ seed m (recs s)
 have eR:IntKind.i64.wrap (((recs s).length:Int)+1)=((recs s).length:Int)+1:=IntWalk.i64_in _ (by omega)
 have hmk:rmD (mkR crew seed m s left sent)=.agg [.v (.int .i64 crew),slB seed,.v (.int .i64 m),.v (.int .i64 (recs s).length),slLB s,.sl 2 [] 0 false,.v (.int .i64 left),.v (.bool false),.v (.int .i64 s.length),slLB (recs s),.v (.int .i64 (recs s).length),.sl 61 (sgC (onL seed m (recs s))) (recs s).length false,.v (.int .i64 sent)]:=by
  simp only[rmD,rmC,mkR,sgD,lG];rfl
 rw[hmk] at h15 ⊢
 have h54:=dT_ seed hsd m (recs s).length (ownF crew (recs s).length f) hg
 have h55:=dt_ (ownF crew (recs s).length f) hg
 have hbl:=vj_ hg
 generalize ownF crew (recs s).length f=g at *
 have hl57:=ar_ f
 have hl57g:=ar_ g
 refine ad_ (pn:=ap_) aa_ Tryz.func17 rfl fun β0=>?_
 simp only[Tryz.f17]
 repeat(first|apply wG|(apply wR;simp -dsimp[fD,slB])|refine aI ?_)
 refine ab_ a4_ h15 rfl rfl (by simp[slB]) ?_
 simp -dsimp
 repeat(first|apply wG|(apply wR;simp -dsimp)|refine aI ?_)
 refine cF (by simp) ?_
 refine WP.skip ?_
 simp -dsimp
 repeat(first|apply wG|(apply wR;simp -dsimp[eR,hrf])|refine aI ?_)
 by_cases hok:(numF g).2=true∧((recs s).length:Int)<m
 ·obtain⟨hn,hm⟩:=hok
  have hsr:sgnR seed m (recs s).length g=(sgc (sgQ seed m g),0):=by
   rw[sgnR,if_pos hn,if_pos ⟨ho.key,by omega⟩];rfl
  rw[hsr] at h54
  simp only at h54
  have hl61:=jM_ seed m g
  have hso:b2_ (sgQ seed m g):=⟨hg,rfl,fun d hd=>cP_ hd⟩
  have h1o:=sgc_oneD hso
  rw[yv_,encR,if_pos hn] at h55
  simp only at h55
  have lgk:lgOk s.length (recs s) (recs s).length:=⟨hn1,hn2,Nat.le_refl _,hus.1,fun b hb=>by have:=hsm b hb;omega,by omega⟩
  have h56:=q2_ lgk (encF g) (by omega)
  have hrec:i6_ crew seed m s left sent g=(if usd (recs s)+secs (encF g).length≤s.length then
    if gnr s<4294967296 then
     if 0≤left∧left<secs (encF g).length then (mkR crew seed m (stopS s (wrR s (encF g)) left.toNat) (-1) 0,380)
     else (mkR crew seed m (perf s (wrI (wrR s (encF g)))) (kk_ left (secs (encF g).length)) sent,0)
    else (zeR,390) else (zeR,2)):=by rw[i6_,if_pos hn,if_pos hm]
  rw[hrec]
  refine ab_ co_ h54 rfl rfl (by simp[keyD,fD,slB]) ?_
  simp -dsimp
  repeat(first|apply wG|(apply wR;simp -dsimp[setL_whole,hl61])|refine aI ?_)
  refine cF (by simp) ?_
  refine WP.skip ?_
  simp -dsimp
  repeat(first|apply wG|(apply wR;simp -dsimp)|refine aI ?_)
  refine ab_ cn_ h55 rfl rfl (by simp[fD]) ?_
  simp -dsimp
  repeat(first|apply wG|(apply wR;simp -dsimp)|refine aI ?_)
  refine ab_ of_ h56 rfl rfl (by simp[logD,lgC]) ?_
  by_cases hu:usd (recs s)+secs (encF g).length≤s.length
  ·rw[if_pos hu,if_pos hu]
   have h57:=uT_ s ho.h128 hn1 hn2 left ho.l1 ho.l2 (encF g) (by omega) hu
   unfold CW_ at h57
   simp -dsimp[logD,lgC]
   repeat(first|apply wG|(apply wR;simp -dsimp[logD,lgC])|refine aI ?_)
   refine cF (by simp) ?_
   refine WP.skip ?_
   simp -dsimp
   repeat(first|apply wG|(apply wR;simp -dsimp)|refine aI ?_)
   refine ab_ oe_ h57 rfl rfl (by simp[logD,lgC,dkD,dkC,wrC]) ?_
   by_cases hgn:gnr s<4294967296
   ·rw[if_pos hgn,if_pos hgn]
    by_cases hst:0≤left∧left<secs (encF g).length
    ·rw[if_pos hst,if_pos hst]
     obtain⟨ho2,hr2⟩:=oD_ (k:=left.toNat) (g:=g) ho hu hgn (by omega)
     have hX:(stopS s (wrR s (encF g)) left.toNat).length≤4096:=ho2.n2
     have hfo:=o9_ (seed:=seed) ho.on hkk.2.2.2.1 (fun b hb=>by have:=hsm b hb;omega)
     have hst:=wY_ (s:=s) (sent:=sent) ho2 hr2
     generalize stopS s (wrR s (encF g)) left.toNat=X at *
     have h23:=jV_ (stR crew seed m s X sent) ⟨by have:=ho.c0;have:=ho.c1;simp[isI,stR];omega,by simp[isI,stR];omega,by simp[isI,stR];omega,⟨by simp only[stR];omega,Nat.zero_le _,by simp[isI,stR]⟩,hsd,by simp only[stR];omega,by simp only[stR,lG];omega,hfo⟩
     rw[hst,y1_,rmT] at h23
     simp only[oO_] at h23
     simp -dsimp[logD,lgC,dkD,dkC]
     repeat(first|apply wG|(apply wR;simp -dsimp[logD,lgC,dkD,dkC])|refine aI ?_)
     refine cF (by simp) ?_
     repeat(first|apply wG|(apply wR;simp -dsimp)|refine aI ?_)
     refine cT (by simp) ?_
     repeat(first|apply wG|(apply wR;simp -dsimp)|refine aI ?_)
     refine ab_ eA_ h23 rfl rfl (by simp[slB,wrC]) ?_
     simp -dsimp
     repeat(first|apply wG|(apply wR;simp -dsimp)|refine aI ?_)
     refine WP.ret (ac_ ?_)
     simp -dsimp[rmT,oO_]
    ·rw[if_neg hst,if_neg hst]
     obtain⟨ho2,hr2⟩:=no_ ho hg hn (by rw[← hrf];simp[fup]) g1 hm hu hgn hst
     have hPl:=bv_ s (wrI (wrR s (encF g)))
     have hcl:=lR_ (onL seed m (recs s)) (by omega) (fun p hp=>(o9_ (seed:=seed) ho.on hkk.2.2.2.1 (fun b hb=>by have:=hsm b hb;omega) p hp).1)
     have hcp:=vB_ (sgC (onL seed m (recs s))) (recs s).length false
     have lC:=eW_ seed m (recs s)
     have hsC:sgC (onL seed m (recs s++[encF g]))=sgC (onL seed m (recs s))++sgc (sgQ seed m g):=by
      rw[onL,List.map_append,sgC_append]
      simp[onL,sgC,sgc,dS_ hg hn]
     have hrm:=oO_ crew seed m (perf s (wrI (wrR s (encF g)))) (kk_ left (secs (encF g).length)) sent
     rw[hr2,hPl] at hrm
     have h61:=d7_ hso
     have h1a:=fl_ hso
     rw[lG] at hcl
     rw[List.take_of_length_le (by rw[lC];exact Nat.le_refl _)] at hcp
     have eu:IntKind.i64.wrap (((recs s).length:Int)+1)=((recs s).length:Int)+1:=eR
     generalize perf s (wrI (wrR s (encF g)))=P at *
     simp -dsimp[logD,lgC,dkD,dkC]
     repeat(first|apply wG|(apply wR;simp -dsimp[logD,lgC,dkD,dkC])|refine aI ?_)
     refine cT (by simp) ?_
     repeat(first|apply wG|(apply wR;simp -dsimp)|refine aI ?_)
     refine ab_ c6_ hcl rfl rfl (by simp) ?_
     simp -dsimp
     repeat refine aI ?_
     refine ab_ od_ hcp rfl rfl (by simp) ?_
     simp -dsimp[h61,hl61,lC]
     refine And.intro h1o ?_
     refine And.intro (by omega) ?_
     refine And.intro (by first|rfl|decide) ?_
     repeat(first|apply wG|(apply wR;simp -dsimp[h61,hl61,lC,eu])|refine aI ?_)
     refine WP.ret (ak_ (Wk.freeze (k:=73) (T:=82) (sz:=61) (n:=(recs s).length+1) (ds:=sgC (onL seed m (recs s++[encF g]))) (by simp[hsC])) ?_)
     simp -dsimp[rmT,hrm,slB,wrC]
   ·rw[if_neg hgn,if_neg hgn]
    simp -dsimp[logD,lgC,dkD,dkC]
    repeat(first|apply wG|(apply wR;simp -dsimp[logD,lgC,dkD,dkC])|refine aI ?_)
    refine cF (by simp) ?_
    repeat(first|apply wG|(apply wR;simp -dsimp)|refine aI ?_)
    refine cF (by simp) ?_
    refine WP.skip ?_
    simp -dsimp
    repeat(first|apply wG|(apply wR;simp -dsimp)|refine aI ?_)
    refine WP.ret (ac_ ?_)
    simp -dsimp[rmT,rmD_ze]
  ·rw[if_neg hu,if_neg hu]
   simp -dsimp[logD,lgC]
   repeat(first|apply wG|(apply wR;simp -dsimp[logD,lgC])|refine aI ?_)
   refine cT (by simp) ?_
   repeat(first|apply wG|(apply wR;simp -dsimp)|refine aI ?_)
   refine WP.ret (ac_ ?_)
   simp -dsimp[rmT,rmD_ze]
 ·have hsr:(sgnR seed m (recs s).length g).1=fcs f0 0 57++zsC∧(sgnR seed m (recs s).length g).2≠0∧i6_ crew seed m s left sent g=(zeR,(sgnR seed m (recs s).length g).2):=by
   unfold sgnR i6_
   by_cases hn:(numF g).2=true
   ·rw[if_pos hn,if_neg (by rintro⟨_,h⟩;exact hok ⟨hn,by omega⟩),if_pos hn,if_neg (fun h=>hok ⟨hn,h⟩)]
    exact⟨rfl,by decide,rfl⟩
   ·rw[if_neg hn,if_neg hn]
    exact⟨rfl,by decide,rfl⟩
  obtain⟨hs1,hs2,hs3⟩:=hsr
  rw[hs3]
  rw[hs1] at h54
  have hzo:b2_ (f0,zsC):=⟨xL_,rfl,by decide⟩
  have hz1:=sgc_oneD hzo
  have hz61:=aO_ hzo
  simp only[sgc] at hz1 hz61
  generalize fcs f0 0 57++zsC=Z at *
  generalize (sgnR seed m (recs s).length g).2=z at *
  refine ab_ co_ h54 rfl rfl (by simp[keyD,fD,slB]) ?_
  simp -dsimp
  repeat(first|apply wG|(apply wR;simp -dsimp[setL_whole])|refine aI ?_)
  refine cT (by simp[hs2]) ?_
  repeat(first|apply wG|(apply wR;simp -dsimp)|refine aI ?_)
  refine WP.ret (ac_ ?_)
  simp -dsimp[rmT,rmD_ze]
theorem gV_ (r:Rm) (h:rmOk r) (f:Nat→Int) (hf:fOk f):Fn0 Tryz.prog 17 [rmD r,fD f] (rmT (oR_ r f)):=by
 have h15:=b9_ r h
 unfold oR_
 cases hv:rmB r with
 | false =>
  have hck:ckR r=440:=by rw[ckR,hv];rfl
  rw[hck] at h15
  rw[if_neg (by decide)]
  refine ad_ (pn:=ap_) aa_ Tryz.func17 rfl fun β0=>?_
  simp only[Tryz.f17]
  repeat(first|apply wG|(apply wR;simp -dsimp[rmD,rmC,fD])|refine aI ?_)
  refine ab_ a4_ h15 rfl rfl (by simp[rmD,rmC]) ?_
  simp -dsimp
  repeat(first|apply wG|(apply wR;simp -dsimp)|refine aI ?_)
  refine cT (by simp) ?_
  repeat(first|apply wG|(apply wR;simp -dsimp)|refine aI ?_)
  refine WP.ret (ac_ ?_)
  simp -dsimp[rmT,rmD_ze]
 | true =>
  have hck:ckR r=0:=by rw[ckR,hv];rfl
  rw[hck] at h15
  rw[if_pos rfl]
  have hd0:dkB r.dk=true:=by
   have:=hv
   simp only[rmB,Bool.and_eq_true] at this
   exact this.2.2.1.1
  have hdd:=bp_.1 hd0
  have hsm:=bA_ hdd.2.2 hdd.1.2.1
  obtain⟨ho,hr⟩:=t4_ (fun p hp=>⟨(h.fo p hp).1.1,(h.fo p hp).2⟩) (fun b hb=>by have:=hsm b hb;omega) hv
  have hres:=rX_ ho h.sd (by rw[← hr];exact h15) f hf
  rw[← hr] at hres
  exact hres
end Go.Proofs.YtfgcgagcpnbgmaaGreatDoor
