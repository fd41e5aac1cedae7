/-
  Joined texts.
-/
import Derived.Test.YtkcgffilldklcaaGreatDoorHNc
import Derived.Test.YtkcgffilldklcaaGreatDoorHLm
import Derived.Test.YtkcgffilldklcaaGreatDoorHTr
import Derived.Test.YtkcgffilldklcaaGreatDoorHOg
import Derived.Test.YtkcgffilldklcaaGreatDoorHNg
set_option linter.all false
set_option maxRecDepth 10000
namespace Go.Proofs.YtkcgffilldklcaaGreatDoor
open Go.Xe Go.RowKit
def cntB:List By→Nat
 | []=>0
 | b::l=>1+b.length+cntB l
theorem qX_ (a b:List By):cntB (a++b)=cntB a+cntB b:=by
 induction a with
 | nil=>simp[cntB]
 | cons x a ih=>rw[List.cons_append,cntB,cntB,ih];omega
theorem i2_ (l:List By) {i:Nat} (h:i<l.length):cntB (l.take (i+1))=cntB (l.take i)+(1+l[i].length):=by
 have e:l.take (i+1)=l.take i++[l[i]]:=by rw[List.take_add_one,List.getElem?_eq_getElem h];rfl
 rw[e,qX_];simp[cntB]
theorem pa_ (l:List By) (i:Nat):cntB (l.take i)≤cntB l:=by
 have h:=qX_ (l.take i) (l.drop i)
 rw[List.take_append_drop] at h;omega
theorem lD_ (l:List By):l.length≤cntB l:=by
 induction l with
 | nil=>exact Nat.zero_le _
 | cons x l ih=>rw[cntB,List.length_cons];omega
def jM_ (l:List (Int×By)):Nat:=cntB (l.map (·.2))
theorem uR_ (l:List (Int×By)) {i:Nat} (h:i<l.length):jM_ (l.take (i+1))=jM_ (l.take i)+(1+l[i].2.length):=by
 rw[jM_,jM_,List.map_take,List.map_take,i2_ _ (by simpa using h),List.getElem_map]
theorem zQ_ (l:List (Int×By)) (i:Nat):jM_ (l.take i)≤jM_ l:=by
 rw[jM_,jM_,List.map_take];exact pa_ _ _
def fewD (d:Dk):Bool:=decide (cntB d.s+jM_ d.p≤9000)
theorem vv_:∀ {l:List (Int×By)} {i:Nat} (h:i<l.length),List.take 2 ((wrC l).drop (i*2))=[.v (.int .i64 l[i].1),slB l[i].2]:=fun {l i} h=>by
 have e:=h6_ (l.take i) l[i] (l.drop (i+1))
 rw[← List.drop_eq_getElem_cons h,List.take_append_drop] at e
 rwa[show (l.take i).length=i by rw[List.length_take];omega] at e
abbrev fdA (d:Dk) (i:Nat):St:=mkS 49 [(1,.ptr 1 0),(3,.d (.v (.int .i64 (cntB (d.s.take i))))),(4,.d (.v (.int .i64 i)))] [(1,.cells 28 ((dkC d).map .d))]
abbrev fdB (d:Dk) (N:Nat) (i:Nat):St:=mkS 49 [(1,.ptr 1 0),(3,.d (.v (.int .i64 ((N+jM_ (d.p.take i):Nat):Int)))),(5,.d (.v (.int .i64 i)))] [(1,.cells 28 ((dkC d).map .d))]
set_option maxHeartbeats 1000000 in
theorem wy_ (d:Dk) (hs:∀ b∈d.s,b.length≤200000000000000) (ns:d.s.length≤10000000000000) (hp:∀ w∈d.p,w.2.length≤200000000000000) (np:d.p.length≤10000000000000):Fn0 Tryz.prog 16 [dkD d] (.v (.bool (fewD d))):=by
 have la:=aI_ d.s
 have lw:=wrC_len d.p
 refine ad_ (pn:=an_) ac_ Tryz.func16 rfl fun β0=>?_
 simp only[Tryz.f16]
 repeat(first|apply wG|(apply wR;simp -dsimp[dkD,dkC])|refine aI ?_)
 refine ai_ (fun q S=>∃ i:Nat,q=d.s.length-i∧i≤d.s.length∧cntB (d.s.take i)≤300000000000000∧S=fdA d i) d.s.length (S0:=fdA d 0) (ae_ [] (by simp[cntB]) (by simp[dkC])) ⟨0,rfl,by omega,by simp[cntB],rfl⟩ ?_
 rintro _ _ ⟨i,rfl,hi,hb,rfl⟩
 simp -dsimp[dkC]
 repeat(first|apply wG|(apply wR;simp -dsimp[dkC])|refine aI ?_)
 by_cases hin:i<d.s.length∧cntB (d.s.take i)≤9000
 ·obtain⟨hin,hb⟩:=hin
  have e1:IntKind.i64.wrap ((i:Int)+1)=((i+1:Nat):Int):=by rw[IntWalk.i64_in _ (by omega)];omega
  have hl:=hs _ (List.getElem_mem hin)
  have hst:=i2_ d.s hin
  have e2:IntKind.i64.wrap ((cntB (d.s.take i):Int)+1)=(cntB (d.s.take i):Int)+1:=IntWalk.i64_in _ (by omega)
  have e3:IntKind.i64.wrap ((cntB (d.s.take i):Int)+1+(d.s[i].length:Int))=(cntB (d.s.take (i+1)):Int):=by rw[IntWalk.i64_in _ (by omega)];omega
  refine cT (by simp;omega) ?_
  refine WP.skip ?_
  simp -dsimp
  repeat(first|apply wG|(apply wR;simp -dsimp[as_,la,hin,dkC,slB,e2,e3])|refine aI ?_)
  refine loopW.next (fdA d (i+1)) (ae_ [] (by simp[e1,e2,e3]) (by simp[dkC])) (d.s.length-(i+1)) (by omega) ⟨i+1,rfl,by omega,by omega,rfl⟩
 ·have hfin:9000<cntB (d.s.take i)∨i=d.s.length:=by omega
  have hle:=pa_ d.s i
  have hN:cntB (d.s.take i)≤9000→cntB (d.s.take i)=cntB d.s:=fun h=>by
   rcases hfin with h2|h2
   ·omega
   ·rw[h2,List.take_length]
  refine cF (by simp;omega) ?_
  refine WP.exit ?_
  generalize cntB (d.s.take i)=N at *
  refine sH ?_
  refine ai_ (fun q S=>∃ j:Nat,q=d.p.length-j∧j≤d.p.length∧N+jM_ (d.p.take j)≤600000000000000∧S=fdB d N j) d.p.length (S0:=fdB d N 0) (ae_ [] (by simp[jM_,cntB]) (by simp[dkC])) ⟨0,rfl,by omega,by simp[jM_,cntB];omega,rfl⟩ ?_
  rintro _ _ ⟨j,rfl,hj,hc,rfl⟩
  simp -dsimp[dkC]
  repeat(first|apply wG|(apply wR;simp -dsimp[dkC])|refine aI ?_)
  by_cases hjn:j<d.p.length∧N+jM_ (d.p.take j)≤9000
  ·obtain⟨hjn,hb2⟩:=hjn
   have e1:IntKind.i64.wrap ((j:Int)+1)=((j+1:Nat):Int):=by rw[IntWalk.i64_in _ (by omega)];omega
   have hl:=hp _ (List.getElem_mem hjn)
   have hst:=uR_ d.p hjn
   have hat:=vv_ hjn
   have e2:IntKind.i64.wrap ((N:Int)+(jM_ (d.p.take j):Int)+1)=(N:Int)+(jM_ (d.p.take j):Int)+1:=IntWalk.i64_in _ (by omega)
   have e3:IntKind.i64.wrap ((N:Int)+(jM_ (d.p.take j):Int)+1+(d.p[j].2.length:Int))=(N:Int)+(jM_ (d.p.take (j+1)):Int):=by rw[IntWalk.i64_in _ (by omega)];omega
   refine cT (by simp;omega) ?_
   refine WP.skip ?_
   simp -dsimp
   repeat(first|apply wG|(apply wR;simp -dsimp[hat,lw,hjn,dkC,slB,e2,e3])|refine aI ?_)
   refine loopW.next (fdB d N (j+1)) (ae_ [] (by simp[e1,e2,e3]) (by simp[dkC])) (d.p.length-(j+1)) (by omega) ⟨j+1,rfl,by omega,by omega,rfl⟩
  ·have hfin2:9000<N+jM_ (d.p.take j)∨j=d.p.length:=by omega
   have hle2:=zQ_ d.p j
   have hres:decide ((N:Int)+(jM_ (d.p.take j):Int)≤9000)=fewD d:=by
    rw[fewD,decide_eq_decide]
    rcases hfin2 with h2|h2
    ·omega
    ·subst h2
     rw[List.take_length]
     constructor
     ·intro h
      have:=hN (by omega)
      omega
     ·intro h
      omega
   refine cF (by simp;omega) ?_
   refine WP.exit ?_
   refine sH ?_
   refine WP.ret (ab_ ?_)
   simp -dsimp[hres]
def xQ_ (r:Rm):Bool:=decide (r.seed.length≤100∧r.many≤4∧cntB r.lr≤4000)&&(fewD r.dk&&(decide (r.fs.length≤6)&&r.fs.all kE_))
abbrev fwrS (r:Rm) (i:Nat):St:=mkS 52 [(1,.ptr 1 0),(3,.d (.v (.int .i64 (cntB (r.lr.take i))))),(4,.d (.v (.int .i64 i)))] [(1,.cells 33 ((rmC r).map .d))]
set_option maxHeartbeats 1000000 in
theorem wx_ (r:Rm) (hd:Fn0 Tryz.prog 16 [dkD r.dk] (.v (.bool (fewD r.dk)))) (hr:∀ b∈r.lr,b.length≤200000000000000) (nr:r.lr.length≤10000000000000) (hl:∀ p∈r.fs,dP_ p∧sgT p) (nl:r.fs.length≤1000000000000):Fn0 Tryz.prog 5 [rmD r] (.v (.bool (xQ_ r))):=by
 have la:=aI_ r.lr
 have h37:=uq_ r.fs false 6 (fun p hp=>(hl p hp).1) (fun p hp=>EC_ (hl p hp).2) nl
 refine ad_ (pn:=an_) ac_ Tryz.func5 rfl fun β0=>?_
 simp only[Tryz.f5]
 repeat(first|apply wG|(apply wR;simp -dsimp[rmD,rmC])|refine aI ?_)
 refine ai_ (fun q S=>∃ i:Nat,q=r.lr.length-i∧i≤r.lr.length∧cntB (r.lr.take i)≤300000000000000∧S=fwrS r i) r.lr.length (S0:=fwrS r 0) (ae_ [] (by simp[cntB]) (by simp[rmC])) ⟨0,rfl,by omega,by simp[cntB],rfl⟩ ?_
 rintro _ _ ⟨i,rfl,hi,hb,rfl⟩
 simp -dsimp[rmC]
 repeat(first|apply wG|(apply wR;simp -dsimp[rmC])|refine aI ?_)
 by_cases hin:i<r.lr.length∧cntB (r.lr.take i)≤4000
 ·obtain⟨hin,hb⟩:=hin
  have e1:IntKind.i64.wrap ((i:Int)+1)=((i+1:Nat):Int):=by rw[IntWalk.i64_in _ (by omega)];omega
  have hl:=hr _ (List.getElem_mem hin)
  have hst:=i2_ r.lr hin
  have e2:IntKind.i64.wrap ((cntB (r.lr.take i):Int)+1)=(cntB (r.lr.take i):Int)+1:=IntWalk.i64_in _ (by omega)
  have e3:IntKind.i64.wrap ((cntB (r.lr.take i):Int)+1+(r.lr[i].length:Int))=(cntB (r.lr.take (i+1)):Int):=by rw[IntWalk.i64_in _ (by omega)];omega
  refine cT (by simp;omega) ?_
  refine WP.skip ?_
  simp -dsimp
  repeat(first|apply wG|(apply wR;simp -dsimp[as_,la,hin,rmC,slB,e2,e3])|refine aI ?_)
  refine loopW.next (fwrS r (i+1)) (ae_ [] (by simp[e1,e2,e3]) (by simp[rmC])) (r.lr.length-(i+1)) (by omega) ⟨i+1,rfl,by omega,by omega,rfl⟩
 ·have hfin:4000<cntB (r.lr.take i)∨i=r.lr.length:=by omega
  have hle:=pa_ r.lr i
  have hN:cntB (r.lr.take i)≤4000↔cntB r.lr≤4000:=by
   rcases hfin with h2|h2
   ·omega
   ·rw[h2,List.take_length]
  refine cF (by simp;omega) ?_
  refine WP.exit ?_
  generalize cntB (r.lr.take i)=N at *
  have hfew:xQ_ r=(decide ((r.seed.length:Int)≤100)&&(decide (r.many≤4)&&(decide ((N:Int)≤4000)&&(fewD r.dk&&(decide (r.fs.length≤6)&&r.fs.all kE_))))):=by
   have e1:decide (r.seed.length≤100∧r.many≤4∧cntB r.lr≤4000)=(decide ((r.seed.length:Int)≤100)&&(decide (r.many≤4)&&decide ((N:Int)≤4000))):=by
    rw[Bool.eq_iff_iff]
    simp only[Bool.and_eq_true,decide_eq_true_eq]
    omega
   rw[xQ_,e1,Bool.and_assoc,Bool.and_assoc]
  rw[hfew]
  cases a1:decide ((r.seed.length:Int)≤100) with
  | false =>
   simp -dsimp[rmC,a1]
   repeat(first|apply wG|(apply wR;simp -dsimp[rmC,slB,a1])|refine aI ?_)
   refine vcStopG.skip (.d (.v (.bool false))) ?_
   simp -dsimp[a1]
   repeat(first|apply wG|(apply wR;simp -dsimp[a1])|refine aI ?_)
   refine vcStopG.skip (.d (.v (.bool false))) ?_
   simp -dsimp[a1]
   repeat(first|apply wG|(apply wR;simp -dsimp[a1])|refine aI ?_)
   refine WP.ret (ab_ ?_)
   simp -dsimp
  | true =>
   cases a2:decide (r.many≤4) with
   | false =>
    simp -dsimp[rmC,a1,a2]
    repeat(first|apply wG|(apply wR;simp -dsimp[rmC,slB,a1,a2])|refine aI ?_)
    refine vcStopG.skip (.d (.v (.bool false))) ?_
    simp -dsimp[a1]
    repeat(first|apply wG|(apply wR;simp -dsimp[a1])|refine aI ?_)
    refine vcStopG.skip (.d (.v (.bool false))) ?_
    simp -dsimp[a1]
    repeat(first|apply wG|(apply wR;simp -dsimp[a1])|refine aI ?_)
    refine WP.ret (ab_ ?_)
    simp -dsimp
   | true =>
    cases a3:decide ((N:Int)≤4000) with
    | false =>
     simp -dsimp[rmC,a1,a2,a3]
     repeat(first|apply wG|(apply wR;simp -dsimp[rmC,slB,a1,a2,a3])|refine aI ?_)
     refine vcStopG.skip (.d (.v (.bool false))) ?_
     simp -dsimp[a1]
     repeat(first|apply wG|(apply wR;simp -dsimp[a1])|refine aI ?_)
     refine vcStopG.skip (.d (.v (.bool false))) ?_
     simp -dsimp[a1]
     repeat(first|apply wG|(apply wR;simp -dsimp[a1])|refine aI ?_)
     refine WP.ret (ab_ ?_)
     simp -dsimp
    | true =>
     simp -dsimp[rmC,a1,a2,a3]
     repeat(first|apply wG|(apply wR;simp -dsimp[rmC,slB,a1,a2,a3])|refine aI ?_)
     refine af_ pZ_ (fun _=>hd) rfl (fun _=>rfl) (fun _=>by simp[dkD,dkC]) ?_
     generalize fewD r.dk=x
     cases x with
     | false =>
      refine sH ?_
      refine vcStopG.skip (.d (.v (.bool false))) ?_
      refine sH ?_
      refine WP.ret (ab_ ?_)
      simp -dsimp
     | true =>
      refine sH ?_
      refine af_ pY_ (fun _=>h37) rfl (fun _=>rfl) (fun _=>by simp) ?_
      refine sH ?_
      refine WP.ret (ab_ ?_)
      simp -dsimp
structure rmG (r:Rm):Prop where
 c:isI r.crew
 m:isI r.many
 u:isI r.used
 sd:r.seed.length≤200000000000000
 ds:(∀ b∈r.dk.s,b.length≤200000000000000)∧r.dk.s.length≤10000000000000
 dp:(∀ w∈r.dk.p,isI w.1∧w.2.length≤200000000000000)∧r.dk.p.length≤10000000000000
 dl:isI r.dk.left
 lm:isI r.lm
 lr:(∀ b∈r.lr,b.length≤200000000000000)∧r.lr.length≤10000000000000
 ls:isI r.ls
 fo:∀ p∈r.fs,fOk p.1∧sgT p
 fl:r.fs.length≤1000000000000
 st:isI r.sent
theorem zv_ {r:Rm} (h:xQ_ r=true) (g:isI r.crew∧isI r.many∧isI r.used∧isI r.dk.left) (hl:∀ p∈r.fs,dP_ p∧sgT p):rmOk r∧r.fs.length≤6:=by
 simp only[xQ_,fewD,Bool.and_eq_true,decide_eq_true_eq] at h
 obtain⟨⟨h1,h2,h3⟩,h4,h5,h6⟩:=h
 have n1:=lD_ r.lr
 have n2:=lD_ r.dk.s
 have n3:=lD_ (r.dk.p.map (·.2))
 rw[List.length_map] at n3
 have e:jM_ r.dk.p=cntB (r.dk.p.map (·.2)):=rfl
 exact⟨⟨g.1,g.2.1,g.2.2.1,⟨by omega,by omega,g.2.2.2⟩,by omega,by omega,by omega,hl⟩,h5⟩
end Go.Proofs.YtkcgffilldklcaaGreatDoor
set_option maxRecDepth 10000
namespace Go.Proofs.YtkcgffilldklcaaGreatDoor
open Go.Xe Go.RowKit
theorem ru_ (p q:Sg) (hp:dP_ p) (hq:dP_ q) (up:sgT p) (uq:sgT q):∃ r,Fn0 Tryz.prog 67 [sgV p,sgV q] (.v (.bool r))∧(r=true↔p=q):=by
 have k1:=j6_ p.1 q.1 hp.1 hq.1
 have l1:=bp_ hp
 have l2:=bp_ hq
 have h57:=j2_ p
 have g57:=j2_ q
 have h4:List.take 4 (List.drop 57 ((sgc p).map AV.d))=p.2.map .d:=by rw[← List.map_drop,← List.map_take,dr_ hp]
 have g4:List.take 4 (List.drop 57 ((sgc q).map AV.d))=q.2.map .d:=by rw[← List.map_drop,← List.map_take,dr_ hq]
 obtain⟨k,op,cl,pa,e,hg⟩:=up
 obtain⟨k',op',cl',pa',e',hg'⟩:=uq
 obtain⟨r2,k2,hr2⟩:=in_ k k' op cl pa op' cl' pa' hg hg'
 rw[← e,← e'] at k2
 have hr:(eqF p.1 q.1&&r2)=true↔p=q:=by
  rw[Bool.and_eq_true,gF_ hp.1 hq.1,hr2]
  constructor
  ·rintro⟨h1,rfl,rfl,rfl,rfl⟩
   exact Prod.ext h1 (e.trans e'.symm)
  ·intro h
   subst h
   exact⟨rfl,sS_ hg hg' (e.symm.trans e')⟩
 refine⟨_,?_,hr⟩
 clear hr hr2 hg hg' e e'
 generalize eqF p.1 q.1=b1 at k1
 simp only[sgV]
 refine ad_ (pn:=an_) ac_ Tryz.func67 rfl fun β0=>?_
 simp only[Tryz.f67]
 refine sG ?_
 refine And.intro (sgc_oneD hp) ?_
 refine sG ?_
 refine And.intro (sgc_oneD hq) ?_
 repeat(first|apply wG|(apply wR;simp -dsimp[h57,h4,g57,g4])|refine aI ?_)
 refine ao_ hx_ k1 rfl rfl (And.intro (by simp[fD]) (And.intro (by simp[fD]) trivial)) ?_
 cases b1 with
 | true =>
  simp -dsimp
  repeat(first|apply wG|(apply wR;simp -dsimp[h57,h4,g57,g4])|refine aI ?_)
  refine cZ_ hw_ (fun _=>k2) rfl (fun _=>rfl) (fun _=>And.intro (by simp[h4]) (And.intro (by simp[g4]) trivial)) ?_
  refine sH ?_
  refine WP.ret (ab_ ?_)
  simp -dsimp
 | false =>
  simp -dsimp
  repeat(first|apply wG|(apply wR;simp -dsimp[h57,h4,g57,g4])|refine aI ?_)
  refine vcStopG.skip (.d (.v (.bool false))) ?_
  refine sH ?_
  refine WP.ret (ab_ ?_)
  simp -dsimp
theorem qk_ {s:List By} (hs:∀ b∈s,b.length=128) (h:s.length≤80):∀ b∈recs s,b.length≤10000:=by
 have key:∀ {l:List By},∀ b∈l,b.length≤112*usd l:=by
  intro l
  induction l with
  | nil=>intro b h;cases h
  | cons x l ih =>
   intro b hb
   rw[usd]
   rcases List.mem_cons.1 hb with rfl|hb
   ·have:secs b.length≥(b.length+111)/112:=by rw[secs];omega
    omega
   ·have:=ih b hb;omega
 have hu:=ce_ hs
 intro b hb
 have:=key b hb
 omega
theorem qM_ {d:Dk} (h:fewD d=true) (hs:∀ b∈d.s,b.length=128):d.s.length≤80:=by
 have key:∀ {l:List By},(∀ b∈l,b.length=128)→cntB l=l.length*129:=by
  intro l
  induction l with
  | nil=>intro _;rfl
  | cons x l ih =>
   intro h
   rw[cntB,h x (by simp),ih fun y hy=>h y (by simp[hy]),List.length_cons];omega
 rw[fewD,decide_eq_true_eq] at h
 have:=key hs
 omega
abbrev rcK (r:Rm) (O:List Sg) (i:Nat):St:=mkS 111 [(1,.ptr 1 0),(5,.d (sgD O false)),(7,.d (.v (.int .i64 i)))] [(1,.cells 33 ((rmC r).map .d))]
set_option maxHeartbeats 4000000 in
theorem vU_ (r:Rm) (h:rmOk r) (hf:fewD r.dk=true):Fn0 Tryz.prog 24 [rmD r] (.v (.int .i64 (ckR r))):=by
 have h51:=du_ r.seed r.many r.used
 have h52:=fF_ r.dk h.dk
 have h43:=j8_ r.dk h.dk
 refine ad_ (pn:=an_) ac_ Tryz.func24 rfl fun β0=>?_
 simp only[Tryz.f24]
 repeat(first|apply wG|(apply wR;simp -dsimp[rmD,rmC])|refine aI ?_)
 refine af_ dG_ (fun _=>h51) rfl (fun _=>rfl) (fun _=>by simp[keyD,slB]) ?_
 refine sH ?_
 refine af_ cF_ (fun _=>h52) rfl (fun _=>rfl) (fun _=>by simp[dkD,dkC]) ?_
 refine sH ?_
 have hbad:rmB r=false→ckR r=440:=x6_
 have hdk:dkE r.dk=0↔dkB r.dk=true:=by
  rw[dkE];cases dkB r.dk<;>simp
 have hrm:rmB r=true→(0≤r.crew∧r.crew<32∧r.used=r.fs.length∧0≤r.sent∧r.sent≤r.fs.length)∧keyV r.seed r.many r.used=true∧dkB r.dk=true∧r.dk.st=false∧r.dk.p.length=0∧((r.dk.s.length:Int)=r.lm∧((recs r.dk.s).length:Int)=r.ls∧recs r.dk.s=r.lr)∧onB r.crew r.many 0 r.lr=true∧hM_ (onL r.seed r.many r.lr) r.fs=true:=fun h=>by
  simp only[rmB,Bool.and_eq_true,decide_eq_true_eq,Bool.not_eq_true'] at h
  exact⟨h.1,h.2.1,h.2.2.1.1,h.2.2.1.2.1,h.2.2.1.2.2,h.2.2.2.1,h.2.2.2.2.1,h.2.2.2.2.2⟩
 by_cases H1:0≤r.crew∧r.crew<32∧keyV r.seed r.many r.used=true∧dkB r.dk=true∧r.dk.st=false∧r.dk.p.length=0
 ·have hb:(decide (r.crew<0)||decide (32≤r.crew) || !keyV r.seed r.many r.used || !decide (dkE r.dk=0)||r.dk.st||decide (0<r.dk.p.length))=false:=by
   obtain⟨a,b,c,d,e,f⟩:=H1
   simp only[Bool.or_eq_false_iff,decide_eq_false_iff_not,Bool.not_eq_false',decide_eq_true_eq]
   exact⟨⟨⟨⟨⟨by omega,by omega⟩,c⟩,hdk.2 d⟩,e⟩,by omega⟩
  obtain⟨c0,c1,kv,dv,hst,hp⟩:=H1
  have hpn:r.dk.p=[]:=List.length_eq_zero_iff.1 hp
  obtain⟨⟨n1,n2,_,l1,l2⟩,_,h128⟩:=aZ_.1 dv
  have hkk:=bd_.1 kv
  have hrf:=qk_ h128 (qM_ hf h128)
  have hus:=ce_ h128
  rw[lW_,if_pos dv,if_neg (by rw[hst];decide),if_neg (by omega)] at h43
  have h26:=oG_ r.dk.s.length (recs r.dk.s) (recs r.dk.s).length r.lm r.lr r.ls (by omega) h.lr
  have h53:=qi_ r.crew r.seed h.sd r.many r.used r.dk.s.length (recs r.dk.s) (recs r.dk.s).length kv (by omega) hrf
  refine cF (congrArg (fun x=>AV.d (D.v (Value.bool x))) hb) ?_
  refine WP.skip ?_
  refine sH ?_
  refine aa_ fl_ h43 rfl rfl (by simp[dkD,dkC]) ?_
  simp -dsimp[logD,lgC]
  repeat(first|apply wG|(apply wR;simp -dsimp[logD,lgC])|refine aI ?_)
  refine af_ jt_ (fun _=>h26) rfl (fun _=>rfl) (fun _=>by simp[logD,lgC]) ?_
  refine sH ?_
  by_cases H2:(r.dk.s.length:Int)=r.lm∧((recs r.dk.s).length:Int)=r.ls∧recs r.dk.s=r.lr
  ·have hlr:(r.lr.length:Int)=r.ls:=by rw[← H2.2.2];exact H2.2.1
   refine cF (by simp[H2.1,H2.2.1,H2.2.2,hlr]) ?_
   refine WP.skip ?_
   refine sH ?_
   refine aa_ jk_ h53 rfl rfl (by simp[keyD,slB,logD,lgC]) ?_
   unfold onR
   have hTl:=wb_ (crew:=r.crew) (seed:=r.seed) (m:=r.many) (i:=0) (l:=recs r.dk.s)
   cases hon:onB r.crew r.many 0 (recs r.dk.s) with
   | false =>
    have hB:rmB r=false:=by
     rw[Bool.eq_false_iff];intro h2
     have:=(hrm h2).2.2.2.2.2.2.1
     rw[← H2.2.2,hon] at this;cases this
    rw[if_neg (by decide)]
    simp -dsimp
    repeat(first|apply wG|(apply wR;simp -dsimp[sgC])|refine aI ?_)
    refine cU ?_
    refine sG ?_
    refine WP.ret (ab_ ?_)
    simp -dsimp[hbad hB]
   | true =>
    rw[if_pos rfl]
    have hT:=hTl hon hkk.2.2.2.1 (fun b hb=>by have:=hrf b hb;omega)
    have lon:=b4_ r.seed r.many (recs r.dk.s)
    generalize hO:onL r.seed r.many (recs r.dk.s)=O at *
    have hOo:∀ p∈O,dP_ p:=fun p hp=>xu_ (hT p hp).1 (hT p hp).2
    have lC1:=sgC_len hOo
    have lC2:=sgC_len (l:=r.fs) fun p hp=>(h.fo p hp).1
    simp -dsimp
    repeat(first|apply wG|(apply wR;simp -dsimp[lon])|refine aI ?_)
    by_cases H3:O.length=r.fs.length∧r.used=O.length∧0≤r.sent∧r.sent≤O.length
    ·refine cF (by simp[lon];omega) ?_
     refine WP.skip ?_
     refine sH ?_
     obtain⟨hlen,hus2,hse0,hse1⟩:=H3
     refine ai_ (fun q S=>∃ i:Nat,q=O.length-i∧i≤O.length∧(∀ j (h:j<O.length),j<i→O[j]=r.fs[j]'(by omega))∧S=rcK r O i) O.length (S0:=rcK r O 0) (ae_ [3] (by simp[lon]) (by simp[rmC])) ⟨0,rfl,by omega,fun j _ h=>by omega,rfl⟩ ?_
     rintro _ _ ⟨i,rfl,hi,hall,rfl⟩
     simp -dsimp[rmC]
     repeat(first|apply wG|(apply wR;simp -dsimp[rmC])|refine aI ?_)
     by_cases hin:i<O.length
     ·have hif:i<r.fs.length:=by omega
      have e1:IntKind.i64.wrap ((i:Int)+1)=((i+1:Nat):Int):=by rw[IntWalk.i64_in _ (by omega)];omega
      have mO:=hOo _ (List.getElem_mem hin)
      have mF:=h.fo _ (List.getElem_mem hif)
      obtain⟨b,k28,hbq⟩:=ru_ O[i] r.fs[i] mO mF.1 (hT _ (List.getElem_mem hin)).2 mF.2
      have aO:=j1_ hin hOo
      have aF:=j1_ hif fun p hp=>(h.fo p hp).1
      have lO:=bp_ mO
      have lF:=bp_ mF.1
      have tO:=yu_ mO
      have tF:=yu_ mF.1
      refine cT (by simp;omega) ?_
      refine WP.skip ?_
      simp -dsimp
      repeat(first|apply wG|(apply wR;simp -dsimp[rmC,aO,aF,lC1,lC2,hin,hif,lO,lF,tO,tF])|refine aI ?_)
      refine ao_ jj_ k28 rfl rfl (And.intro (by simp[sgV,tO];try exact .refl _) (And.intro (by simp[sgV,tF];try exact .refl _) trivial)) ?_
      simp -dsimp
      repeat refine aI ?_
      cases b with
      | true =>
       refine cE ?_
       refine WP.skip ?_
       refine sH ?_
       refine loopW.next (rcK r O (i+1)) (ae_ [] (by simp[e1]) (by simp[rmC])) (O.length-(i+1)) (by omega) ⟨i+1,rfl,by omega,fun j h1 h2=>?_,rfl⟩
       rcases Nat.lt_or_eq_of_le (show j≤i by omega) with h3|h3
       ·exact hall j h1 h3
       ·subst h3;exact hbq.1 rfl
      | false =>
       have hB:rmB r=false:=by
        rw[Bool.eq_false_iff];intro h2
        obtain⟨_,_,_,_,_,_,_,g4⟩:=hrm h2
        rw[← H2.2.2,hO] at g4
        have he:=(sgsB_iff hT (fun p hp=>⟨(h.fo p hp).1.1,(h.fo p hp).2⟩)).1 g4
        subst he
        have:=hbq.2 rfl
        cases this
       refine cU ?_
       refine sG ?_
       refine WP.ret (ab_ ?_)
       simp -dsimp[hbad hB]
     ·obtain rfl:i=O.length:=by omega
      have heq:O=r.fs:=List.ext_getElem hlen fun j h1 h2=>hall j h1 h1
      have hB:rmB r=true:=by
       simp only[rmB,Bool.and_eq_true,decide_eq_true_eq,Bool.not_eq_true']
       refine⟨⟨c0,c1,by rw[hus2,hlen],hse0,by rw[← hlen];exact hse1⟩,kv,⟨dv,hst,hp⟩,H2,by rw[← H2.2.2];exact hon,?_⟩
       rw[← H2.2.2,hO]
       exact (sgsB_iff hT (fun p hp=>⟨(h.fo p hp).1.1,(h.fo p hp).2⟩)).2 heq
      refine cE ?_
      refine WP.exit ?_
      refine sH ?_
      refine WP.ret (ab_ ?_)
      simp -dsimp[uV_ hB]
    ·have hB:rmB r=false:=by
      rw[Bool.eq_false_iff];intro h2
      obtain⟨⟨_,_,g1,g2,g3⟩,_,_,_,_,_,_,g4⟩:=hrm h2
      rw[← H2.2.2,hO] at g4
      have:=(sgsB_iff hT (fun p hp=>⟨(h.fo p hp).1.1,(h.fo p hp).2⟩)).1 g4
      apply H3
      rw[this]
      exact⟨rfl,g1,g2,g3⟩
     refine cT (by simp[lon];omega) ?_
     refine sG ?_
     refine WP.ret (ab_ ?_)
     simp -dsimp[hbad hB]
  ·have hB:rmB r=false:=by
    rw[Bool.eq_false_iff];intro h2
    exact H2 (hrm h2).2.2.2.2.2.1
   have hb2:¬ (r.dk.s.length:Int)=r.lm∨¬ ((recs r.dk.s).length:Int)=r.ls∨¬ recs r.dk.s=r.lr:=by
    by_cases a:(r.dk.s.length:Int)=r.lm
    ·by_cases b:((recs r.dk.s).length:Int)=r.ls
     ·exact .inr (.inr fun c=>H2 ⟨a,b,c⟩)
     ·exact .inr (.inl b)
    ·exact .inl a
   refine cT (by simp;exact hb2) ?_
   refine sG ?_
   refine WP.ret (ab_ ?_)
   simp -dsimp[hbad hB]
 ·have hb:(decide (r.crew<0)||decide (32≤r.crew) || !keyV r.seed r.many r.used || !decide (dkE r.dk=0)||r.dk.st||decide (0<r.dk.p.length))=true:=by
   rw[← Bool.not_eq_false]
   intro h2
   simp only[Bool.or_eq_false_iff,decide_eq_false_iff_not,Bool.not_eq_false',decide_eq_true_eq] at h2
   obtain⟨⟨⟨⟨⟨a,b⟩,c⟩,d⟩,e⟩,f⟩:=h2
   exact H1 ⟨by omega,by omega,c,hdk.1 d,e,by omega⟩
  have hB:rmB r=false:=by
   rw[Bool.eq_false_iff];intro h2
   obtain⟨⟨g1,g2,_⟩,g3,g4,g5,g6,_⟩:=hrm h2
   exact H1 ⟨g1,g2,g3,g4,g5,g6⟩
  refine cT (congrArg (fun x=>AV.d (D.v (Value.bool x))) hb) ?_
  refine sG ?_
  refine WP.ret (ab_ ?_)
  simp -dsimp[hbad hB]
theorem xr_:rmOk zeR:=⟨by unfold isI;decide,by unfold isI;decide,by unfold isI;decide,⟨by decide,by decide,by unfold isI;decide⟩,by decide,by decide,by decide,fun _ h=>by cases h⟩
theorem B5_ {r:Rm} (h:xQ_ r=true):fewD r.dk=true:=by
 simp only[xQ_,Bool.and_eq_true] at h
 exact h.2.1
abbrev wrT (s:List By) (p:List (Int×By)) (left:Int) (i:Nat) (b:By):St:=mkS 57 [(1,.d (.v (.int .i64 i))),(3,.ptr 3 0),(6,.ptr 6 0),(8,.d (.sl 1 (bys b) 128 false))] [(3,.cells 28 [.d (.sl 1 (lsB s) s.length false),.d (.sl 2 (wrC p) p.length false),.d (.v (.int .i64 left)),.d (.v (.bool false))]),(6,.cells 28 [.d (.v (.slice none 0 0)),.d (.v (.slice none 0 0)),.d (.v (.int .i64 0)),.d (.v (.bool false))])]
set_option maxRecDepth 10000 in
set_option maxHeartbeats 2000000 in
theorem vT_ (s:List By) (p:List (Int×By)) (left:Int) (hd:dkB ⟨s,p,left,false⟩=true) (i:Nat) (hi:i<s.length) (b:By) (hb:b.length=128) (hp:p.length<4096) :
  Fn0 Tryz.prog 80 [dkD ⟨s,p,left,false⟩,.v (.int .i64 i),slB b] (.tup [dkD ⟨s,p++[((i:Int),b)],left,false⟩,.v (.int .i64 0)]):=by
 have hdo:=g3_ hd
 have h52:=fF_ _ hdo
 rw[dkE,if_pos hd] at h52
 have la:=aI_ s
 have lw:=wrC_len p
 refine ad_ (pn:=an_) ac_ Tryz.func80 rfl fun β0=>?_
 simp only[Tryz.f80]
 repeat(first|apply wG|(apply wR;simp -dsimp[dkD,dkC,slB])|refine aI ?_)
 refine aa_ cF_ h52 rfl rfl (by simp[dkD,dkC]) ?_
 simp -dsimp
 repeat refine aI ?_
 refine cF (by simp;omega) ?_
 refine WP.skip ?_
 simp -dsimp
 repeat(first|apply wG|(apply wR;simp -dsimp[hb])|refine aI ?_)
 refine cF (by simp[hb]) ?_
 refine WP.skip ?_
 simp -dsimp
 repeat(first|apply wG|(apply wR;simp -dsimp[lw])|refine aI ?_)
 refine cF (by simp;omega) ?_
 refine WP.skip ?_
 refine sH ?_
 refine aq_ (Wk.freeze (k:=39) (T:=5) (sz:=1) (n:=128) (ds:=bys b) rfl) ?_
 simp -dsimp
 refine ai_ (fun q S=>q=0∧S=wrT s p left i b) 0 (S0:=wrT s p left i b) (ae_ [] (by simp) (by simp)) ⟨rfl,rfl⟩ ?_
 rintro _ _ ⟨rfl,rfl⟩
 refine sH ?_
 refine cE ?_
 refine WP.exit ?_
 refine sH ?_
 have e:wrC (p++[((i:Int),b)])=wrC p++[.v (.int .i64 i),.sl 1 (bys b) 128 false]:=by rw[kx_];simp[wrC,slB,hb]
 refine WP.ret (aj_ (Wk.freeze (k:=54) (T:=110) (sz:=2) (n:=p.length+1) (ds:=wrC (p++[((i:Int),b)])) (by simp[e])) ?_)
 simp -dsimp[dkD,dkC,wrD]
set_option maxRecDepth 10000 in
set_option maxHeartbeats 4000000 in
theorem tj_ (r:Rm) (h:rmOk r) (hl:(∀ b∈r.dk.s,b.length=128)→r.dk.s.length≤80):Fn0 Tryz.prog 29 [rmD r] (rmT (vR_ r)):=by
 have h41:=tl_ r.seed h.sd r.many 0
 have h66:=oM_ r.dk
 have hdo:dkOk ⟨r.dk.s,[],-1,false⟩:=⟨h.dk.ns,Nat.zero_le _,by simp[isI]⟩
 have h43:=j8_ ⟨r.dk.s,[],-1,false⟩ hdo
 unfold vR_
 refine ad_ (pn:=an_) ac_ Tryz.func29 rfl fun β0=>?_
 simp only[Tryz.f29]
 repeat(first|apply wG|(apply wR;simp -dsimp[rmD,rmC])|refine aI ?_)
 by_cases hc:0≤r.crew∧r.crew<32
 ·rw[if_pos hc]
  refine cF (by simp;omega) ?_
  refine WP.skip ?_
  simp -dsimp
  by_cases hk:keyV r.seed r.many 0=true
  ·rw[if_pos hk]
   obtain⟨d,hd,h32⟩:=k1_ hk
   rw[hd,dD] at h41
   have ld:=ah_ d
   have h1:=eJ_ d
   repeat(first|apply wG|(apply wR;simp -dsimp[slB])|refine aI ?_)
   refine aa_ je_ h41 rfl rfl (by simp[keyD,slB]) ?_
   simp -dsimp
   repeat(first|apply wG|(apply wR;simp -dsimp[ld,h32,setL_whole])|refine aI ?_)
   refine cE ?_
   refine WP.skip ?_
   refine sH ?_
   refine aa_ pt_ h66 rfl rfl (by simp[dkD,dkC]) ?_
   simp -dsimp[dkD,dkC]
   refine sG ?_
   by_cases hb:dkB ⟨r.dk.s,[],-1,false⟩=true
   ·rw[if_pos hb]
    rw[lW_,if_pos hb,if_neg (by simp),if_neg (by simp)] at h43
    simp only at h43
    have hdd:=aZ_.1 hb
    have hrl:=c9_ hdd.2.2
    have hsm:=qk_ hdd.2.2 (hl hdd.2.2)
    have hsl:=hdd.1.2.1
    simp only at hrl hsl hsm
    have h53:=qi_ r.crew r.seed h.sd r.many 0 r.dk.s.length (recs r.dk.s) (recs r.dk.s).length hk (by omega) hsm
    unfold onR at h53
    rw[dkD,dkC] at h43
    rw[logD,lgC] at h43 h53
    refine aa_ fl_ h43 rfl rfl (by simp) ?_
    refine sH ?_
    refine cE ?_
    refine WP.skip ?_
    refine sH ?_
    refine aa_ jk_ h53 rfl rfl (by simp[keyD,slB]) ?_
    cases hon:onB r.crew r.many 0 (recs r.dk.s) with
    | true =>
     rw[if_pos rfl,if_pos rfl]
     refine sH ?_
     refine cE ?_
     refine WP.skip ?_
     refine sH ?_
     refine WP.ret (ab_ ?_)
     simp -dsimp[rmT,rmD,rmC,slB,mkR,b4_]
    | false =>
     rw[if_neg (by decide),if_neg (by decide)]
     refine sH ?_
     refine cU ?_
     refine sG ?_
     refine WP.ret (ab_ ?_)
     simp -dsimp[rmT,rmD_ze]
   ·rw[if_neg hb]
    rw[lW_,if_neg hb] at h43
    simp only at h43
    rw[dkD,dkC] at h43
    refine aa_ fl_ h43 rfl rfl (by simp) ?_
    simp -dsimp[logD,lgC]
    repeat(first|apply wG|(apply wR;simp -dsimp[logD,lgC])|refine aI ?_)
    refine cU ?_
    refine sG ?_
    refine WP.ret (ab_ ?_)
    simp -dsimp[rmT,rmD_ze]
  ·rw[if_neg hk]
   rw[oV_ hk,dD] at h41
   have ld:=ah_ z32
   have h32:z32.length=32:=rfl
   have h1:=eJ_ z32
   repeat(first|apply wG|(apply wR;simp -dsimp[slB])|refine aI ?_)
   refine aa_ je_ h41 rfl rfl (by simp[keyD,slB]) ?_
   simp -dsimp
   repeat(first|apply wG|(apply wR;simp -dsimp[ld,h32,setL_whole])|refine aI ?_)
   refine cU ?_
   refine sG ?_
   refine WP.ret (ab_ ?_)
   simp -dsimp[rmT,rmD_ze]
 ·rw[if_neg hc]
  refine cT (by simp;omega) ?_
  refine sG ?_
  refine WP.ret (ab_ ?_)
  simp -dsimp[rmT,rmD_ze]
def stB (left:Int) (n:Nat):Bool:=decide (0≤left)&&decide (left<n)
abbrev syT (s:List By) (p:List (Int×By)) (left:Int) (n:Nat) (c:Bool):St:=mkS 95 [(1,.ptr 1 0),(2,.ptr 2 0),(4,.d (.v (.int .i64 n))),(5,.d (.v (.bool c)))] [(1,.cells 28 [.d (.sl 1 (lsB s) s.length false),.d (.sl 2 (wrC p) p.length false),.d (.v (.int .i64 left)),.d (.v (.bool false))]),(2,.cells 28 [.d (.v (.slice none 0 0)),.d (.v (.slice none 0 0)),.d (.v (.int .i64 0)),.d (.v (.bool false))])]
abbrev syU (s:List By) (p:List (Int×By)) (left:Int) (n:Nat) (c:Bool) (i:Nat):St:=mkS 95 [(1,.ptr 1 0),(2,.ptr 2 0),(4,.d (.v (.int .i64 n))),(5,.d (.v (.bool c))),(6,.ptr 6 0),(7,.d (.v (.int .i64 i)))] [(1,.cells 28 [.d (.sl 1 (lsB s) s.length false),.d (.sl 2 (wrC p) p.length false),.d (.v (.int .i64 left)),.d (.v (.bool false))]),(2,.cells 28 [.d (.v (.slice none 0 0)),.d (.v (.slice none 0 0)),.d (.v (.int .i64 0)),.d (.v (.bool false))]),(500,.row 22 1 s.length ((lsB (perf s (p.take i))).map .d)),(6,.cells 28 [.row 500,.d (.v (.slice none 0 0)),.d (.v (.int .i64 left)),.d (.v (.bool false))])]
theorem tagsL_setR:∀ (l:List D) {k j:Nat} (_:k<l.length),ay_ ((l.map AV.d).set k (.row j))=[j]
 | [],_,_,h=>absurd h (Nat.not_lt_zero _)
 | x::l,0,j,_=>by rw[List.map_cons,List.set_cons_zero,ay_,tagsL_d];rfl
 | x::l,k+1,j,h=>by rw[List.map_cons,List.set_cons_succ,ay_,tagsL_setR l (Nat.lt_of_succ_lt_succ h)];rfl
theorem mZ_ {j sz n:Nat} {ds:List D}:∀ (l:List D) (k:Nat),iX_ j sz n ds ((l.map AV.d).set k (.row j))=(l.set k (.sl sz ds n false)).map AV.d
 | [],_=>rfl
 | x::l,0=>by simp[iX_,frz]
 | x::l,k+1=>by rw[List.map_cons,List.set_cons_succ,List.set_cons_succ,List.map_cons,iX_,mZ_ l k];rfl
set_option maxRecDepth 10000 in
set_option maxHeartbeats 2000000 in
theorem th_ (s:List By) (p:List (Int×By)) (left:Int) (hd:dkB ⟨s,p,left,false⟩=true) :
  Fn0 Tryz.prog 82 [dkD ⟨s,p,left,false⟩] (.tup [dkD (lx_ ⟨s,p,left,false⟩).1,.v (.int .i64 (lx_ ⟨s,p,left,false⟩).2)]):=by
 have hdo:=g3_ hd
 have h52:=fF_ _ hdo
 rw[dkE,if_pos hd] at h52
 obtain⟨⟨d1,d2,d3,d4,d5⟩,d6,d7⟩:=aZ_.1 hd
 simp only at d1 d2 d3 d4 d5 d6 d7
 have la:=aI_ s
 have lw:=wrC_len p
 obtain⟨c,hc⟩:∃ c,stB left p.length=c:=⟨_,rfl⟩
 have hc2:(decide (0≤left)&&decide (left<(p.length:Int)))=c:=hc
 obtain⟨n,hn⟩:∃ n:Nat,(if c then left.toNat else p.length)=n:=⟨_,rfl⟩
 refine ad_ (pn:=an_) ac_ Tryz.func82 rfl fun β0=>?_
 simp only[Tryz.f82]
 repeat(first|apply wG|(apply wR;simp -dsimp[dkD,dkC])|refine aI ?_)
 refine aa_ cF_ h52 rfl rfl (by simp[dkD,dkC]) ?_
 simp -dsimp
 repeat refine aI ?_
 refine cE ?_
 refine WP.skip ?_
 refine sH ?_
 refine pj_ (syT s p left n c) ?_ ?_
 ·refine WP.cond (b:=c) (by simp[hc2]) (fun h=>?_) (fun h=>?_)
  ·subst h
   simp only[stB,Bool.and_eq_true,decide_eq_true_eq] at hc
   have hl:(left:Int)=n:=by rw[← hn,if_pos rfl];omega
   have h3:n<p.length:=by omega
   refine sG ?_
   refine aL_ (ae_ [] (by simp[hl,h3]) (by simp[hl]))
  ·subst h
   rw[if_neg (by decide)] at hn
   subst hn
   refine WP.skip ?_
   refine aL_ (ae_ [] (by simp[hc2]) (by simp))
 refine sG ?_
 have hnp:n≤p.length:=by
  rw[← hn]
  split
  ·rename_i h
   subst h
   simp only[stB,Bool.and_eq_true,decide_eq_true_eq] at hc
   omega
  ·exact Nat.le_refl _
 refine ai_ (fun q S=>∃ i:Nat,q=n-i∧i≤n∧S=syU s p left n c i) n (S0:=syU s p left n c 0) (Wk.go [] 35 500 (by decide) (by simp) (by simp) (by simp[perf])) ⟨0,rfl,by omega,rfl⟩ ?_
 rintro _ _ ⟨i,rfl,hin,rfl⟩
 refine sH ?_
 by_cases hi:i<n
 ·have hip:i<p.length:=by omega
  have hsp:p=p.take i++p[i]::p.drop (i+1):=by rw[← List.drop_eq_getElem_cons hip,List.take_append_drop]
  have hat:=h6_ (p.take i) p[i] (p.drop (i+1))
  rw[← hsp,List.length_take,Nat.min_eq_left (by omega)] at hat
  have hsn:=mA_ s (p.take i) p[i]
  have htk:p.take i++[p[i]]=p.take (i+1):=by rw[List.take_add_one,List.getElem?_eq_getElem hip];rfl
  rw[htk] at hsn
  obtain⟨w0,w1,w2⟩:=d6 p[i] (List.getElem_mem hip)
  generalize p[i]=w at hat hsn w0 w1 w2
  obtain⟨q,wb⟩:=w
  obtain⟨k,rfl⟩:∃ k:Nat,q=k:=⟨q.toNat,by simp only at w0;omega⟩
  simp only[Int.toNat_natCast] at hat hsn w0 w1 w2
  have lp:=a9_ s (p.take i)
  have ll:=aI_ (perf s (p.take i))
  have e1:IntKind.i64.wrap ((i:Int)+1)=((i+1:Nat):Int):=by rw[IntWalk.i64_in _ (by omega)];omega
  have hk:k<s.length:=by omega
  refine cT (by simp;omega) ?_
  refine WP.skip ?_
  simp -dsimp
  repeat(first|apply wG|(apply wR;simp -dsimp[hat,lw,hip,lp,ll,hk])|refine aI ?_)
  refine loopW.next (syU s p left n c (i+1)) (ae_ [] (by simp[e1]) (by simp[hsn,← lsBA_set,slB])) (n-(i+1)) (by omega) ⟨i+1,rfl,by omega,rfl⟩
 ·obtain rfl:i=n:=by omega
  refine cE ?_
  refine WP.exit ?_
  refine sH ?_
  have lp:=a9_ s (p.take i)
  have ll:=aI_ (perf s (p.take i))
  cases c with
  | false =>
   rw[if_neg (by decide)] at hn
   subst hn
   have hnc:¬ (0≤left∧left<p.length):=by
    intro h
    simp only[stB,Bool.and_eq_false_iff,decide_eq_false_iff_not] at hc
    omega
   rw[List.take_of_length_le (Nat.le_refl _)]
   rw[lx_,if_neg hnc]
   refine cE ?_
   refine WP.skip ?_
   refine sH ?_
   refine aq_ (Wk.freeze (k:=500) (T:=22) (sz:=1) (n:=s.length) (ds:=lsB (perf s p)) rfl) ?_
   simp -dsimp
   have lp2:=a9_ s p
   by_cases h0:0≤left
   ·have ew:IntKind.i64.wrap (left-(p.length:Int))=left-(p.length:Int):=IntWalk.i64_in _ (by omega)
    refine cT (by simp;omega) ?_
    repeat(first|apply wG|(apply wR;simp -dsimp[ew])|refine aI ?_)
    refine WP.ret (ab_ ?_)
    simp -dsimp[dkD,dkC,wrD,wrC,Aj_,lp2,h0,ew]
   ·refine cF (by simp;omega) ?_
    refine WP.skip ?_
    refine sH ?_
    refine WP.ret (ab_ ?_)
    simp -dsimp[dkD,dkC,wrD,wrC,Aj_,lp2,h0]
  | true =>
   rw[if_pos rfl] at hn
   simp only[stB,Bool.and_eq_true,decide_eq_true_eq] at hc
   have hl:left=i:=by omega
   rw[lx_,if_pos hc]
   have hip:i<p.length:=by omega
   have hsp:p=p.take i++p[i]::p.drop (i+1):=by rw[← List.drop_eq_getElem_cons hip,List.take_append_drop]
   have hat:=h6_ (p.take i) p[i] (p.drop (i+1))
   rw[← hsp,List.length_take,Nat.min_eq_left (by omega)] at hat
   have hgd:p.getD i (0,[])=p[i]:=by rw[List.getD_eq_getElem?_getD,List.getElem?_eq_getElem hip,Option.getD_some]
   have hX8:∀ b∈perf s (p.take i),b.length=128:=hS_ d7 fun w hw=>(d6 w (List.mem_of_mem_take hw)).2.2
   obtain⟨w0,w1,w2⟩:=d6 p[i] (List.getElem_mem hip)
   have hsy:Ak_ ⟨s,p,left,false⟩=⟨(perf s (p.take i)).set p[i].1.toNat (tornB p[i].2 ((perf s (p.take i)).getD p[i].1.toNat [])),[],0,true⟩:=by
    simp only[Ak_,hl,Int.toNat_natCast,hgd]
   rw[hsy]
   generalize p[i]=w at hat w0 w1 w2
   generalize perf s (p.take i)=X at hX8 lp ll
   obtain⟨q,wb⟩:=w
   obtain⟨k,rfl⟩:∃ k:Nat,q=k:=⟨q.toNat,by simp only at w0;omega⟩
   simp only[Int.toNat_natCast] at hat w0 w1 w2 ⊢
   have hkX:k<X.length:=by omega
   have hk:k<s.length:=by omega
   have hb8:(X.getD k []).length=128:=by
    rw[List.getD_eq_getElem?_getD,List.getElem?_eq_getElem hkX,Option.getD_some];exact hX8 _ (List.getElem_mem hkX)
   have hXat:=t4_ (l:=X) hkX
   generalize X.getD k []=ob at hb8 hXat ⊢
   rw[slB,hb8] at hXat
   rw[slB,w2] at hat
   have lob:=ah_ ob
   have lwb:=ah_ wb
   refine cU ?_
   have h64:(128:Int)≤128:=by omega
   repeat(first|apply wG|(apply wR;simp -dsimp[hat,lw,hip,hk])|refine aI ?_)
   simp -dsimp[hXat]
   refine And.intro (by rw[hb8];rfl) ?_
   refine And.intro (by rw[← List.map_take];exact hasL_d _) ?_
   refine And.intro hk ?_
   refine And.intro (by rw[ll];omega) ?_
   refine And.intro (by simp only[← List.map_take,← List.map_drop,List.map_cons,List.map_nil,TI.ts,occB,Box.cs,List.nil_append,List.append_nil,tagsL_d,tagsL_setR _ (show k<(lsB X).length by omega)];kernel_rfl) ?_
   have hc81:List.take 64 (List.map AV.d (bys wb))++List.take 64 (List.drop 64 (List.map AV.d (bys ob)))=(bys (tornB wb ob)).map AV.d:=by
    rw[List.take_of_length_le (l:=List.drop 64 (List.map AV.d (bys ob))) (by simp[lob,hb8]),tornB]
    simp only[bys,List.map_append,List.map_take,List.map_drop]
   have hs81:(lsB X).set k (.sl 1 (bys (tornB wb ob)) 128 false)=lsB (X.set k (tornB wb ob)):=by
    rw[lsB,lsB,List.map_set,slB,show (tornB wb ob).length=128 by rw[tornB,List.length_append,List.length_take,List.length_drop,w2,hb8];rfl]
   refine sG ?_
   refine aq_ (Wk.freeze (k:=81) (T:=5) (sz:=1) (n:=128) (ds:=bys (tornB wb ob)) (by simp[hc81])) ?_
   simp -dsimp[mZ_,hs81]
   refine aq_ (Wk.freeze (k:=500) (T:=22) (sz:=1) (n:=s.length) (ds:=lsB (X.set k (tornB wb ob))) rfl) ?_
   simp -dsimp
   have lXs:(X.set k (tornB wb ob)).length=s.length:=by rw[List.length_set];exact lp
   refine WP.ret (ab_ ?_)
   simp -dsimp[dkD,dkC,wrD,wrC,lXs]
end Go.Proofs.YtkcgffilldklcaaGreatDoor
