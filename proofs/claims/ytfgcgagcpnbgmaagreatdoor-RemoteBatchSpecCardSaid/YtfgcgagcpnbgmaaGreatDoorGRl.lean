/-
  Joined texts.
-/
import Derived.Test.YtfgcgagcpnbgmaaGreatDoorGOv
import Derived.Test.YtfgcgagcpnbgmaaGreatDoorGNc
import Derived.Test.YtfgcgagcpnbgmaaGreatDoorGTr
import Derived.Test.YtfgcgagcpnbgmaaGreatDoorG4
import Derived.Test.YtfgcgagcpnbgmaaGreatDoorCards
import Derived.Test.YtfgcgagcpnbgmaaGreatDoorTie
import Derived.SevenTiedAt
import Derived.Stop.Joined
set_option linter.all false
set_option maxRecDepth 10000
namespace Go.Proofs.YtfgcgagcpnbgmaaGreatDoor
open Go.Xe Go.RowKit
def cntB:List By→Nat
 | []=>0
 | b::l=>1+b.length+cntB l
theorem qZ_ (a b:List By):cntB (a++b)=cntB a+cntB b:=by
 induction a with
 | nil=>simp[cntB]
 | cons x a ih=>rw[List.cons_append,cntB,cntB,ih];omega
theorem iZ_ (l:List By) {i:Nat} (h:i<l.length):cntB (l.take (i+1))=cntB (l.take i)+(1+l[i].length):=by
 have e:l.take (i+1)=l.take i++[l[i]]:=by rw[List.take_add_one,List.getElem?_eq_getElem h];rfl
 rw[e,qZ_];simp[cntB]
theorem pj_ (l:List By) (i:Nat):cntB (l.take i)≤cntB l:=by
 have h:=qZ_ (l.take i) (l.drop i)
 rw[List.take_append_drop] at h;omega
theorem lC_ (l:List By):l.length≤cntB l:=by
 induction l with
 | nil=>exact Nat.zero_le _
 | cons x l ih=>rw[cntB,List.length_cons];omega
def jI_ (l:List (Int×By)):Nat:=cntB (l.map (·.2))
theorem uV_ (l:List (Int×By)) {i:Nat} (h:i<l.length):jI_ (l.take (i+1))=jI_ (l.take i)+(1+l[i].2.length):=by
 rw[jI_,jI_,List.map_take,List.map_take,iZ_ _ (by simpa using h),List.getElem_map]
theorem zN_ (l:List (Int×By)) (i:Nat):jI_ (l.take i)≤jI_ l:=by
 rw[jI_,jI_,List.map_take];exact pj_ _ _
def fewD (d:Dk):Bool:=decide (cntB d.s+jI_ d.p≤9000)
theorem vA_:∀ {l:List (Int×By)} {i:Nat} (h:i<l.length),List.take 2 ((wrC l).drop (i*2))=[.v (.int .i64 l[i].1),slB l[i].2]:=fun {l i} h=>by
 have e:=lZ_ (l.take i) l[i] (l.drop (i+1))
 rw[← List.drop_eq_getElem_cons h,List.take_append_drop] at e
 rwa[show (l.take i).length=i by rw[List.length_take];omega] at e
abbrev fdA (d:Dk) (i:Nat):St:=mkS 49 [(1,.ptr 1 0),(3,.d (.v (.int .i64 (cntB (d.s.take i))))),(4,.d (.v (.int .i64 i)))] [(1,.cells 28 ((dkC d).map .d))]
abbrev fdB (d:Dk) (N:Nat) (i:Nat):St:=mkS 49 [(1,.ptr 1 0),(3,.d (.v (.int .i64 ((N+jI_ (d.p.take i):Nat):Int)))),(5,.d (.v (.int .i64 i)))] [(1,.cells 28 ((dkC d).map .d))]
set_option maxHeartbeats 1000000 in
theorem qP_ (d:Dk) (hs:∀ b∈d.s,b.length≤200000000000000) (ns:d.s.length≤10000000000000) (hp:∀ w∈d.p,w.2.length≤200000000000000) (np:d.p.length≤10000000000000):Fn0 Tryz.prog 36 [dkD d] (.v (.bool (fewD d))):=by
 have la:=aZ_ d.s
 have lw:=wrC_len d.p
 refine ad_ (pn:=an_) ac_ Tryz.func36 rfl fun β0=>?_
 simp only[Tryz.f36]
 repeat(first|apply wG|(apply wR;simp -dsimp[dkD,dkC])|refine aI ?_)
 refine ai_ (fun q S=>∃ i:Nat,q=d.s.length-i∧i≤d.s.length∧cntB (d.s.take i)≤300000000000000∧S=fdA d i) d.s.length (S0:=fdA d 0) (af_ [] (by simp[cntB]) (by simp[dkC])) ⟨0,rfl,by omega,by simp[cntB],rfl⟩ ?_
 rintro _ _ ⟨i,rfl,hi,hb,rfl⟩
 simp -dsimp[dkC]
 repeat(first|apply wG|(apply wR;simp -dsimp[dkC])|refine aI ?_)
 by_cases hin:i<d.s.length∧cntB (d.s.take i)≤9000
 ·obtain⟨hin,hb⟩:=hin
  have e1:IntKind.i64.wrap ((i:Int)+1)=((i+1:Nat):Int):=by rw[IntWalk.i64_in _ (by omega)];omega
  have hl:=hs _ (List.getElem_mem hin)
  have hst:=iZ_ d.s hin
  have e2:IntKind.i64.wrap ((cntB (d.s.take i):Int)+1)=(cntB (d.s.take i):Int)+1:=IntWalk.i64_in _ (by omega)
  have e3:IntKind.i64.wrap ((cntB (d.s.take i):Int)+1+(d.s[i].length:Int))=(cntB (d.s.take (i+1)):Int):=by rw[IntWalk.i64_in _ (by omega)];omega
  refine cT (by simp;omega) ?_
  refine WP.skip ?_
  simp -dsimp
  repeat(first|apply wG|(apply wR;simp -dsimp[au_,la,hin,dkC,slB,e2,e3])|refine aI ?_)
  refine loopW.next (fdA d (i+1)) (af_ [] (by simp[e1,e2,e3]) (by simp[dkC])) (d.s.length-(i+1)) (by omega) ⟨i+1,rfl,by omega,by omega,rfl⟩
 ·have hfin:9000<cntB (d.s.take i)∨i=d.s.length:=by omega
  have hle:=pj_ d.s i
  have hN:cntB (d.s.take i)≤9000→cntB (d.s.take i)=cntB d.s:=fun h=>by
   rcases hfin with h2|h2
   ·omega
   ·rw[h2,List.take_length]
  refine cF (by simp;omega) ?_
  refine WP.exit ?_
  generalize cntB (d.s.take i)=N at *
  simp -dsimp
  refine sG ?_
  refine ai_ (fun q S=>∃ j:Nat,q=d.p.length-j∧j≤d.p.length∧N+jI_ (d.p.take j)≤600000000000000∧S=fdB d N j) d.p.length (S0:=fdB d N 0) (af_ [] (by simp[jI_,cntB]) (by simp[dkC])) ⟨0,rfl,by omega,by simp[jI_,cntB];omega,rfl⟩ ?_
  rintro _ _ ⟨j,rfl,hj,hc,rfl⟩
  simp -dsimp[dkC]
  repeat(first|apply wG|(apply wR;simp -dsimp[dkC])|refine aI ?_)
  by_cases hjn:j<d.p.length∧N+jI_ (d.p.take j)≤9000
  ·obtain⟨hjn,hb2⟩:=hjn
   have e1:IntKind.i64.wrap ((j:Int)+1)=((j+1:Nat):Int):=by rw[IntWalk.i64_in _ (by omega)];omega
   have hl:=hp _ (List.getElem_mem hjn)
   have hst:=uV_ d.p hjn
   have hat:=vA_ hjn
   have e2:IntKind.i64.wrap ((N:Int)+(jI_ (d.p.take j):Int)+1)=(N:Int)+(jI_ (d.p.take j):Int)+1:=IntWalk.i64_in _ (by omega)
   have e3:IntKind.i64.wrap ((N:Int)+(jI_ (d.p.take j):Int)+1+(d.p[j].2.length:Int))=(N:Int)+(jI_ (d.p.take (j+1)):Int):=by rw[IntWalk.i64_in _ (by omega)];omega
   refine cT (by simp;omega) ?_
   refine WP.skip ?_
   simp -dsimp
   repeat(first|apply wG|(apply wR;simp -dsimp[hat,lw,hjn,dkC,slB,e2,e3])|refine aI ?_)
   refine loopW.next (fdB d N (j+1)) (af_ [] (by simp[e1,e2,e3]) (by simp[dkC])) (d.p.length-(j+1)) (by omega) ⟨j+1,rfl,by omega,by omega,rfl⟩
  ·have hfin2:9000<N+jI_ (d.p.take j)∨j=d.p.length:=by omega
   have hle2:=zN_ d.p j
   have hres:decide ((N:Int)+(jI_ (d.p.take j):Int)≤9000)=fewD d:=by
    rw[fewD,decide_eq_decide]
    rcases hfin2 with h2|h2
    ·omega
    ·subst h2
     rw[List.take_length]
     constructor
     ·intro h
      have:=hN (by omega)
      omega
     ·intro h
      omega
   refine cF (by simp;omega) ?_
   refine WP.exit ?_
   simp -dsimp
   refine sG ?_
   refine WP.ret (ab_ ?_)
   simp -dsimp[hres]
def wz_ (r:Rm):Bool:=decide (r.seed.length≤100∧r.many≤4∧cntB r.lr≤4000)&&(fewD r.dk&&(decide (r.fs.length≤6)&&r.fs.all ky_))
abbrev fwrS (r:Rm) (i:Nat):St:=mkS 52 [(1,.ptr 1 0),(3,.d (.v (.int .i64 (cntB (r.lr.take i))))),(4,.d (.v (.int .i64 i)))] [(1,.cells 33 ((rmC r).map .d))]
set_option maxHeartbeats 1000000 in
theorem qO_ (r:Rm) (hd:Fn0 Tryz.prog 36 [dkD r.dk] (.v (.bool (fewD r.dk)))) (hr:∀ b∈r.lr,b.length≤200000000000000) (nr:r.lr.length≤10000000000000) (hl:∀ p∈r.fs,dN_ p∧sgT p) (nl:r.fs.length≤1000000000000):Fn0 Tryz.prog 11 [rmD r] (.v (.bool (wz_ r))):=by
 have la:=aZ_ r.lr
 have h37:=ur_ r.fs false 6 (fun p hp=>(hl p hp).1) (fun p hp=>Ew_ (hl p hp).2) nl
 refine ad_ (pn:=an_) ac_ Tryz.func11 rfl fun β0=>?_
 simp only[Tryz.f11]
 repeat(first|apply wG|(apply wR;simp -dsimp[rmD,rmC])|refine aI ?_)
 refine ai_ (fun q S=>∃ i:Nat,q=r.lr.length-i∧i≤r.lr.length∧cntB (r.lr.take i)≤300000000000000∧S=fwrS r i) r.lr.length (S0:=fwrS r 0) (af_ [] (by simp[cntB]) (by simp[rmC])) ⟨0,rfl,by omega,by simp[cntB],rfl⟩ ?_
 rintro _ _ ⟨i,rfl,hi,hb,rfl⟩
 simp -dsimp[rmC]
 repeat(first|apply wG|(apply wR;simp -dsimp[rmC])|refine aI ?_)
 by_cases hin:i<r.lr.length∧cntB (r.lr.take i)≤4000
 ·obtain⟨hin,hb⟩:=hin
  have e1:IntKind.i64.wrap ((i:Int)+1)=((i+1:Nat):Int):=by rw[IntWalk.i64_in _ (by omega)];omega
  have hl:=hr _ (List.getElem_mem hin)
  have hst:=iZ_ r.lr hin
  have e2:IntKind.i64.wrap ((cntB (r.lr.take i):Int)+1)=(cntB (r.lr.take i):Int)+1:=IntWalk.i64_in _ (by omega)
  have e3:IntKind.i64.wrap ((cntB (r.lr.take i):Int)+1+(r.lr[i].length:Int))=(cntB (r.lr.take (i+1)):Int):=by rw[IntWalk.i64_in _ (by omega)];omega
  refine cT (by simp;omega) ?_
  refine WP.skip ?_
  simp -dsimp
  repeat(first|apply wG|(apply wR;simp -dsimp[au_,la,hin,rmC,slB,e2,e3])|refine aI ?_)
  refine loopW.next (fwrS r (i+1)) (af_ [] (by simp[e1,e2,e3]) (by simp[rmC])) (r.lr.length-(i+1)) (by omega) ⟨i+1,rfl,by omega,by omega,rfl⟩
 ·have hfin:4000<cntB (r.lr.take i)∨i=r.lr.length:=by omega
  have hle:=pj_ r.lr i
  have hN:cntB (r.lr.take i)≤4000↔cntB r.lr≤4000:=by
   rcases hfin with h2|h2
   ·omega
   ·rw[h2,List.take_length]
  refine cF (by simp;omega) ?_
  refine WP.exit ?_
  generalize cntB (r.lr.take i)=N at *
  have hfew:wz_ r=(decide ((r.seed.length:Int)≤100)&&(decide (r.many≤4)&&(decide ((N:Int)≤4000)&&(fewD r.dk&&(decide (r.fs.length≤6)&&r.fs.all ky_))))):=by
   have e1:decide (r.seed.length≤100∧r.many≤4∧cntB r.lr≤4000)=(decide ((r.seed.length:Int)≤100)&&(decide (r.many≤4)&&decide ((N:Int)≤4000))):=by
    rw[Bool.eq_iff_iff]
    simp only[Bool.and_eq_true,decide_eq_true_eq]
    omega
   rw[wz_,e1,Bool.and_assoc,Bool.and_assoc]
  rw[hfew]
  cases a1:decide ((r.seed.length:Int)≤100) with
  | false =>
   simp -dsimp[rmC,a1]
   repeat(first|apply wG|(apply wR;simp -dsimp[rmC,slB,a1])|refine aI ?_)
   refine vcStopG.skip (.d (.v (.bool false))) ?_
   simp -dsimp[a1]
   repeat(first|apply wG|(apply wR;simp -dsimp[a1])|refine aI ?_)
   refine vcStopG.skip (.d (.v (.bool false))) ?_
   simp -dsimp[a1]
   repeat(first|apply wG|(apply wR;simp -dsimp[a1])|refine aI ?_)
   refine WP.ret (ab_ ?_)
   simp -dsimp
  | true =>
   cases a2:decide (r.many≤4) with
   | false =>
    simp -dsimp[rmC,a1,a2]
    repeat(first|apply wG|(apply wR;simp -dsimp[rmC,slB,a1,a2])|refine aI ?_)
    refine vcStopG.skip (.d (.v (.bool false))) ?_
    simp -dsimp[a1]
    repeat(first|apply wG|(apply wR;simp -dsimp[a1])|refine aI ?_)
    refine vcStopG.skip (.d (.v (.bool false))) ?_
    simp -dsimp[a1]
    repeat(first|apply wG|(apply wR;simp -dsimp[a1])|refine aI ?_)
    refine WP.ret (ab_ ?_)
    simp -dsimp
   | true =>
    cases a3:decide ((N:Int)≤4000) with
    | false =>
     simp -dsimp[rmC,a1,a2,a3]
     repeat(first|apply wG|(apply wR;simp -dsimp[rmC,slB,a1,a2,a3])|refine aI ?_)
     refine vcStopG.skip (.d (.v (.bool false))) ?_
     simp -dsimp[a1]
     repeat(first|apply wG|(apply wR;simp -dsimp[a1])|refine aI ?_)
     refine vcStopG.skip (.d (.v (.bool false))) ?_
     simp -dsimp[a1]
     repeat(first|apply wG|(apply wR;simp -dsimp[a1])|refine aI ?_)
     refine WP.ret (ab_ ?_)
     simp -dsimp
    | true =>
     simp -dsimp[rmC,a1,a2,a3]
     repeat(first|apply wG|(apply wR;simp -dsimp[rmC,slB,a1,a2,a3])|refine aI ?_)
     refine ae_ pT_ (fun _=>hd) rfl (fun _=>rfl) (fun _=>by simp[dkD,dkC]) ?_
     generalize fewD r.dk=x
     cases x with
     | false =>
      simp -dsimp
      refine sG ?_
      refine vcStopG.skip (.d (.v (.bool false))) ?_
      simp -dsimp
      refine sG ?_
      refine WP.ret (ab_ ?_)
      simp -dsimp
     | true =>
      simp -dsimp
      refine sG ?_
      refine ae_ pS_ (fun _=>h37) rfl (fun _=>rfl) (fun _=>by simp) ?_
      simp -dsimp
      refine sG ?_
      refine WP.ret (ab_ ?_)
      simp -dsimp
structure rmG (r:Rm):Prop where
 c:isI r.crew
 m:isI r.many
 u:isI r.used
 sd:r.seed.length≤200000000000000
 ds:(∀ b∈r.dk.s,b.length≤200000000000000)∧r.dk.s.length≤10000000000000
 dp:(∀ w∈r.dk.p,isI w.1∧w.2.length≤200000000000000)∧r.dk.p.length≤10000000000000
 dl:isI r.dk.left
 lm:isI r.lm
 lr:(∀ b∈r.lr,b.length≤200000000000000)∧r.lr.length≤10000000000000
 ls:isI r.ls
 fo:∀ p∈r.fs,fOk p.1∧sgT p
 fl:r.fs.length≤1000000000000
 st:isI r.sent
theorem uq_ {r:Rm} (h:wz_ r=true) (g:isI r.crew∧isI r.many∧isI r.used∧isI r.dk.left) (hl:∀ p∈r.fs,dN_ p∧sgT p):rmOk r∧r.fs.length≤6:=by
 simp only[wz_,fewD,Bool.and_eq_true,decide_eq_true_eq] at h
 obtain⟨⟨h1,h2,h3⟩,h4,h5,h6⟩:=h
 have n1:=lC_ r.lr
 have n2:=lC_ r.dk.s
 have n3:=lC_ (r.dk.p.map (·.2))
 rw[List.length_map] at n3
 have e:jI_ r.dk.p=cntB (r.dk.p.map (·.2)):=rfl
 exact⟨⟨g.1,g.2.1,g.2.2.1,⟨by omega,by omega,g.2.2.2⟩,by omega,by omega,by omega,hl⟩,h5⟩
end Go.Proofs.YtfgcgagcpnbgmaaGreatDoor
set_option maxRecDepth 10000
namespace Go.Proofs.YtfgcgagcpnbgmaaGreatDoor
open Go.Xe Go.RowKit
theorem rx_ (p q:Sg) (hp:dN_ p) (hq:dN_ q) (up:sgT p) (uq:sgT q):∃ r,Fn0 Tryz.prog 28 [sgV p,sgV q] (.v (.bool r))∧(r=true↔p=q):=by
 have k1:=j2_ p.1 q.1 hp.1 hq.1
 have l1:=bu_ hp
 have l2:=bu_ hq
 have h57:=jY_ p
 have g57:=jY_ q
 have h4:List.take 4 (List.drop 57 ((sgc p).map AV.d))=p.2.map .d:=by rw[← List.map_drop,← List.map_take,do_ hp]
 have g4:List.take 4 (List.drop 57 ((sgc q).map AV.d))=q.2.map .d:=by rw[← List.map_drop,← List.map_take,do_ hq]
 obtain⟨k,op,cl,pa,e,hg⟩:=up
 obtain⟨k',op',cl',pa',e',hg'⟩:=uq
 obtain⟨r2,k2,hr2⟩:=io_ k k' op cl pa op' cl' pa' hg hg'
 rw[← e,← e'] at k2
 have hr:(eqF p.1 q.1&&r2)=true↔p=q:=by
  rw[Bool.and_eq_true,gD_ hp.1 hq.1,hr2]
  constructor
  ·rintro⟨h1,rfl,rfl,rfl,rfl⟩
   exact Prod.ext h1 (e.trans e'.symm)
  ·intro h
   subst h
   exact⟨rfl,sQ_ hg hg' (e.symm.trans e')⟩
 refine⟨_,?_,hr⟩
 clear hr hr2 hg hg' e e'
 generalize eqF p.1 q.1=b1 at k1
 simp only[sgV]
 refine ad_ (pn:=an_) ac_ Tryz.func28 rfl fun β0=>?_
 simp only[Tryz.f28]
 refine sG ?_
 refine And.intro (sgc_oneD hp) ?_
 refine sG ?_
 refine And.intro (sgc_oneD hq) ?_
 repeat(first|apply wG|(apply wR;simp -dsimp[h57,h4,g57,g4])|refine aI ?_)
 refine ao_ ji_ k1 rfl rfl (And.intro (by simp[fD]) (And.intro (by simp[fD]) trivial)) ?_
 cases b1 with
 | true =>
  simp -dsimp
  repeat(first|apply wG|(apply wR;simp -dsimp[h57,h4,g57,g4])|refine aI ?_)
  refine cZ_ jh_ (fun _=>k2) rfl (fun _=>rfl) (fun _=>And.intro (by simp[h4]) (And.intro (by simp[g4]) trivial)) ?_
  simp -dsimp
  refine sG ?_
  refine WP.ret (ab_ ?_)
  simp -dsimp
 | false =>
  simp -dsimp
  repeat(first|apply wG|(apply wR;simp -dsimp[h57,h4,g57,g4])|refine aI ?_)
  refine vcStopG.skip (.d (.v (.bool false))) ?_
  simp -dsimp
  refine sG ?_
  refine WP.ret (ab_ ?_)
  simp -dsimp
theorem qk_ {s:List By} (hs:∀ b∈s,b.length=128) (h:s.length≤80):∀ b∈recs s,b.length≤10000:=by
 have key:∀ {l:List By},∀ b∈l,b.length≤112*usd l:=by
  intro l
  induction l with
  | nil=>intro b h;cases h
  | cons x l ih =>
   intro b hb
   rw[usd]
   rcases List.mem_cons.1 hb with rfl|hb
   ·have:secs b.length≥(b.length+111)/112:=by rw[secs];omega
    omega
   ·have:=ih b hb;omega
 have hu:=dY_ hs
 intro b hb
 have:=key b hb
 omega
theorem qN_ {d:Dk} (h:fewD d=true) (hs:∀ b∈d.s,b.length=128):d.s.length≤80:=by
 have key:∀ {l:List By},(∀ b∈l,b.length=128)→cntB l=l.length*129:=by
  intro l
  induction l with
  | nil=>intro _;rfl
  | cons x l ih =>
   intro h
   rw[cntB,h x (by simp),ih fun y hy=>h y (by simp[hy]),List.length_cons];omega
 rw[fewD,decide_eq_true_eq] at h
 have:=key hs
 omega
abbrev rcK (r:Rm) (O:List Sg) (i:Nat):St:=mkS 111 [(1,.ptr 1 0),(5,.d (sgD O false)),(7,.d (.v (.int .i64 i)))] [(1,.cells 33 ((rmC r).map .d))]
set_option maxHeartbeats 4000000 in
theorem kR_ (r:Rm) (h:rmOk r) (hf:fewD r.dk=true):Fn0 Tryz.prog 16 [rmD r] (.v (.int .i64 (ckR r))):=by
 have h51:=dq_ r.seed r.many r.used
 have h52:=qi_ r.dk h.dk
 have h43:=gi_ r.dk h.dk
 refine ad_ (pn:=an_) ac_ Tryz.func16 rfl fun β0=>?_
 simp only[Tryz.f16]
 repeat(first|apply wG|(apply wR;simp -dsimp[rmD,rmC])|refine aI ?_)
 refine ae_ dD_ (fun _=>h51) rfl (fun _=>rfl) (fun _=>by simp[keyD,slB]) ?_
 simp -dsimp
 refine sG ?_
 refine ae_ jp_ (fun _=>h52) rfl (fun _=>rfl) (fun _=>by simp[dkD,dkC]) ?_
 simp -dsimp
 refine sG ?_
 have hbad:rmB r=false→ckR r=440:=Cg_
 have hdk:dkE r.dk=0↔dkB r.dk=true:=by
  rw[dkE];cases dkB r.dk<;>simp
 have hrm:rmB r=true→(0≤r.crew∧r.crew<32∧r.used=r.fs.length∧0≤r.sent∧r.sent≤r.fs.length)∧keyV r.seed r.many r.used=true∧dkB r.dk=true∧r.dk.st=false∧r.dk.p.length=0∧((r.dk.s.length:Int)=r.lm∧((recs r.dk.s).length:Int)=r.ls∧recs r.dk.s=r.lr)∧onB r.crew r.many 0 r.lr=true∧ih_ (onL r.seed r.many r.lr) r.fs=true:=fun h=>by
  simp only[rmB,Bool.and_eq_true,decide_eq_true_eq,Bool.not_eq_true'] at h
  exact⟨h.1,h.2.1,h.2.2.1.1,h.2.2.1.2.1,h.2.2.1.2.2,h.2.2.2.1,h.2.2.2.2.1,h.2.2.2.2.2⟩
 by_cases H1:0≤r.crew∧r.crew<32∧keyV r.seed r.many r.used=true∧dkB r.dk=true∧r.dk.st=false∧r.dk.p.length=0
 ·have hb:(decide (r.crew<0)||decide (32≤r.crew) || !keyV r.seed r.many r.used || !decide (dkE r.dk=0)||r.dk.st||decide (0<r.dk.p.length))=false:=by
   obtain⟨a,b,c,d,e,f⟩:=H1
   simp only[Bool.or_eq_false_iff,decide_eq_false_iff_not,Bool.not_eq_false',decide_eq_true_eq]
   exact⟨⟨⟨⟨⟨by omega,by omega⟩,c⟩,hdk.2 d⟩,e⟩,by omega⟩
  obtain⟨c0,c1,kv,dv,hst,hp⟩:=H1
  have hpn:r.dk.p=[]:=List.length_eq_zero_iff.1 hp
  obtain⟨⟨n1,n2,_,l1,l2⟩,_,h128⟩:=a1_.1 dv
  have hkk:=a0_.1 kv
  have hrf:=qk_ h128 (qN_ hf h128)
  have hus:=dY_ h128
  rw[k2_,if_pos dv,if_neg (by rw[hst];decide),if_neg (by omega)] at h43
  have h26:=oQ_ r.dk.s.length (recs r.dk.s) (recs r.dk.s).length r.lm r.lr r.ls (by omega) h.lr
  have h53:=qh_ r.crew r.seed h.sd r.many r.used r.dk.s.length (recs r.dk.s) (recs r.dk.s).length kv (by omega) hrf
  refine cF (congrArg (fun x=>AV.d (D.v (Value.bool x))) hb) ?_
  refine WP.skip ?_
  simp -dsimp
  refine sG ?_
  refine aa_ dE_ h43 rfl rfl (by simp[dkD,dkC]) ?_
  simp -dsimp[logD,lgC]
  repeat(first|apply wG|(apply wR;simp -dsimp[logD,lgC])|refine aI ?_)
  refine ae_ ju_ (fun _=>h26) rfl (fun _=>rfl) (fun _=>by simp[logD,lgC]) ?_
  simp -dsimp
  refine sG ?_
  by_cases H2:(r.dk.s.length:Int)=r.lm∧((recs r.dk.s).length:Int)=r.ls∧recs r.dk.s=r.lr
  ·have hlr:(r.lr.length:Int)=r.ls:=by rw[← H2.2.2];exact H2.2.1
   refine cF (by simp[H2.1,H2.2.1,H2.2.2,hlr]) ?_
   refine WP.skip ?_
   simp -dsimp
   refine sG ?_
   refine aa_ jo_ h53 rfl rfl (by simp[keyD,slB,logD,lgC]) ?_
   unfold onR
   have hTl:=wd_ (crew:=r.crew) (seed:=r.seed) (m:=r.many) (i:=0) (l:=recs r.dk.s)
   cases hon:onB r.crew r.many 0 (recs r.dk.s) with
   | false =>
    have hB:rmB r=false:=by
     rw[Bool.eq_false_iff];intro h2
     have:=(hrm h2).2.2.2.2.2.2.1
     rw[← H2.2.2,hon] at this;cases this
    rw[if_neg (by decide)]
    simp -dsimp
    repeat(first|apply wG|(apply wR;simp -dsimp[sgC])|refine aI ?_)
    refine cT (by simp) ?_
    refine sG ?_
    refine WP.ret (ab_ ?_)
    simp -dsimp[hbad hB]
   | true =>
    rw[if_pos rfl]
    have hT:=hTl hon hkk.2.2.2.1 (fun b hb=>by have:=hrf b hb;omega)
    have lon:=cm_ r.seed r.many (recs r.dk.s)
    generalize hO:onL r.seed r.many (recs r.dk.s)=O at *
    have hOo:∀ p∈O,dN_ p:=fun p hp=>sS_ (hT p hp).1 (hT p hp).2
    have lC1:=sgC_len hOo
    have lC2:=sgC_len (l:=r.fs) fun p hp=>(h.fo p hp).1
    simp -dsimp
    repeat(first|apply wG|(apply wR;simp -dsimp[lon])|refine aI ?_)
    by_cases H3:O.length=r.fs.length∧r.used=O.length∧0≤r.sent∧r.sent≤O.length
    ·refine cF (by simp[lon];omega) ?_
     refine WP.skip ?_
     simp -dsimp
     refine sG ?_
     obtain⟨hlen,hus2,hse0,hse1⟩:=H3
     refine ai_ (fun q S=>∃ i:Nat,q=O.length-i∧i≤O.length∧(∀ j (h:j<O.length),j<i→O[j]=r.fs[j]'(by omega))∧S=rcK r O i) O.length (S0:=rcK r O 0) (af_ [3] (by simp[lon]) (by simp[rmC])) ⟨0,rfl,by omega,fun j _ h=>by omega,rfl⟩ ?_
     rintro _ _ ⟨i,rfl,hi,hall,rfl⟩
     simp -dsimp[rmC]
     repeat(first|apply wG|(apply wR;simp -dsimp[rmC])|refine aI ?_)
     by_cases hin:i<O.length
     ·have hif:i<r.fs.length:=by omega
      have e1:IntKind.i64.wrap ((i:Int)+1)=((i+1:Nat):Int):=by rw[IntWalk.i64_in _ (by omega)];omega
      have mO:=hOo _ (List.getElem_mem hin)
      have mF:=h.fo _ (List.getElem_mem hif)
      obtain⟨b,k28,hbq⟩:=rx_ O[i] r.fs[i] mO mF.1 (hT _ (List.getElem_mem hin)).2 mF.2
      have aO:=jX_ hin hOo
      have aF:=jX_ hif fun p hp=>(h.fo p hp).1
      have lO:=bu_ mO
      have lF:=bu_ mF.1
      have tO:=yt_ mO
      have tF:=yt_ mF.1
      refine cT (by simp;omega) ?_
      refine WP.skip ?_
      simp -dsimp
      repeat(first|apply wG|(apply wR;simp -dsimp[rmC,aO,aF,lC1,lC2,hin,hif,lO,lF,tO,tF])|refine aI ?_)
      refine ao_ jt_ k28 rfl rfl (And.intro (by simp[sgV,tO];try exact .refl _) (And.intro (by simp[sgV,tF];try exact .refl _) trivial)) ?_
      simp -dsimp
      repeat refine aI ?_
      cases b with
      | true =>
       refine cF (by simp) ?_
       refine WP.skip ?_
       simp -dsimp
       refine sG ?_
       refine loopW.next (rcK r O (i+1)) (af_ [] (by simp[e1]) (by simp[rmC])) (O.length-(i+1)) (by omega) ⟨i+1,rfl,by omega,fun j h1 h2=>?_,rfl⟩
       rcases Nat.lt_or_eq_of_le (show j≤i by omega) with h3|h3
       ·exact hall j h1 h3
       ·subst h3;exact hbq.1 rfl
      | false =>
       have hB:rmB r=false:=by
        rw[Bool.eq_false_iff];intro h2
        obtain⟨_,_,_,_,_,_,_,g4⟩:=hrm h2
        rw[← H2.2.2,hO] at g4
        have he:=(sgsB_iff hT (fun p hp=>⟨(h.fo p hp).1.1,(h.fo p hp).2⟩)).1 g4
        subst he
        have:=hbq.2 rfl
        cases this
       refine cT (by simp) ?_
       refine sG ?_
       refine WP.ret (ab_ ?_)
       simp -dsimp[hbad hB]
     ·obtain rfl:i=O.length:=by omega
      have heq:O=r.fs:=List.ext_getElem hlen fun j h1 h2=>hall j h1 h1
      have hB:rmB r=true:=by
       simp only[rmB,Bool.and_eq_true,decide_eq_true_eq,Bool.not_eq_true']
       refine⟨⟨c0,c1,by rw[hus2,hlen],hse0,by rw[← hlen];exact hse1⟩,kv,⟨dv,hst,hp⟩,H2,by rw[← H2.2.2];exact hon,?_⟩
       rw[← H2.2.2,hO]
       exact (sgsB_iff hT (fun p hp=>⟨(h.fo p hp).1.1,(h.fo p hp).2⟩)).2 heq
      refine cF (by simp) ?_
      refine WP.exit ?_
      simp -dsimp
      refine sG ?_
      refine WP.ret (ab_ ?_)
      simp -dsimp[zO_ hB]
    ·have hB:rmB r=false:=by
      rw[Bool.eq_false_iff];intro h2
      obtain⟨⟨_,_,g1,g2,g3⟩,_,_,_,_,_,_,g4⟩:=hrm h2
      rw[← H2.2.2,hO] at g4
      have:=(sgsB_iff hT (fun p hp=>⟨(h.fo p hp).1.1,(h.fo p hp).2⟩)).1 g4
      apply H3
      rw[this]
      exact⟨rfl,g1,g2,g3⟩
     refine cT (by simp[lon];omega) ?_
     refine sG ?_
     refine WP.ret (ab_ ?_)
     simp -dsimp[hbad hB]
  ·have hB:rmB r=false:=by
    rw[Bool.eq_false_iff];intro h2
    exact H2 (hrm h2).2.2.2.2.2.1
   have hb2:¬ (r.dk.s.length:Int)=r.lm∨¬ ((recs r.dk.s).length:Int)=r.ls∨¬ recs r.dk.s=r.lr:=by
    by_cases a:(r.dk.s.length:Int)=r.lm
    ·by_cases b:((recs r.dk.s).length:Int)=r.ls
     ·exact .inr (.inr fun c=>H2 ⟨a,b,c⟩)
     ·exact .inr (.inl b)
    ·exact .inl a
   refine cT (by simp;exact hb2) ?_
   refine sG ?_
   refine WP.ret (ab_ ?_)
   simp -dsimp[hbad hB]
 ·have hb:(decide (r.crew<0)||decide (32≤r.crew) || !keyV r.seed r.many r.used || !decide (dkE r.dk=0)||r.dk.st||decide (0<r.dk.p.length))=true:=by
   rw[← Bool.not_eq_false]
   intro h2
   simp only[Bool.or_eq_false_iff,decide_eq_false_iff_not,Bool.not_eq_false',decide_eq_true_eq] at h2
   obtain⟨⟨⟨⟨⟨a,b⟩,c⟩,d⟩,e⟩,f⟩:=h2
   exact H1 ⟨by omega,by omega,c,hdk.1 d,e,by omega⟩
  have hB:rmB r=false:=by
   rw[Bool.eq_false_iff];intro h2
   obtain⟨⟨g1,g2,_⟩,g3,g4,g5,g6,_⟩:=hrm h2
   exact H1 ⟨g1,g2,g3,g4,g5,g6⟩
  refine cT (congrArg (fun x=>AV.d (D.v (Value.bool x))) hb) ?_
  refine sG ?_
  refine WP.ret (ab_ ?_)
  simp -dsimp[hbad hB]
theorem rU_ (c m k:Int):Fun Tryz.prog 12 [.d (.v (.int .i64 c)),.agg [.row 1000,.d (.v (.int .i64 m)),.d (.v (.int .i64 0))],.d (.v (.int .i64 k))] [(1000,.row 5 1 1 [.d (.v (.int .u8 1))])] (.d (rmT (lV_ c [1] m 0 k))) [] fun _=>False:=by
 have h12:=hR_ c [1] (by decide) m 0 k
 have h12':Fun Tryz.prog 12 [.d (.v (.int .i64 c)),.agg [.d (slB [1]),.d (.v (.int .i64 m)),.d (.v (.int .i64 0))],.d (.v (.int .i64 k))] [] (.d (rmT (lV_ c [1] m 0 k))) [] fun _=>False :=
  rf_ h12 (And.intro (.refl _) (And.intro (al_ [slB [1],.v (.int .i64 m),.v (.int .i64 0)]) (And.intro (.refl _) trivial)))
 exact bo_ 1000 (T:=5) (cs:=bys [1]) h12' rfl rfl trivial
theorem jW_ (t:Int):Fn0 Tryz.prog 35 [.v (.int .i64 t)] (fD (shF 0 9 t)):=by
 refine ad_ (pn:=an_) ac_ Tryz.func35 rfl fun β0=>?_
 simp only[Tryz.f35]
 refine sG ?_
 refine WP.ret (ab_ ?_)
 simp -dsimp
 exact al_ (fcs (shF 0 9 t) 0 57)
theorem AI_ (p:Sg) (l:List Sg):((sgC (p::l))[0]?).getD .any=.v (.int .i64 (p.1 0))∧((sgC (p::l))[1]?).getD .any=.v (.int .i64 (p.1 1)):=⟨rfl,rfl⟩
set_option maxRecDepth 10000 in
set_option maxHeartbeats 8000000 in
theorem mg_:Fn0 Tryz.prog 10 [] (.v (.bool true)):=by
 have h31:=vK_ 1 2
 rw[EE_] at h31
 have h12:=rU_ 32 1 9
 rw[yL_] at h12
 have k5:=jW_ 5
 have k6:=jW_ 6
 have o5:fOk (shF 0 9 5):=zd_ _ _ _ (by decide) (by decide) (by decide) (by decide) (by decide) (by decide)
 have o6:fOk (shF 0 9 6):=zd_ _ _ _ (by decide) (by decide) (by decide) (by decide) (by decide) (by decide)
 have r0:rmOk q0:=iH_ rQ_ (by decide)
 have r1:rmOk q1:=iH_ o5_.1 (by decide)
 have r2:rmOk q2:=iH_ yN_ (by decide)
 have rz:rmOk zeR:=⟨by unfold isI;decide,by unfold isI;decide,by unfold isI;decide,⟨by decide,by decide,by unfold isI;decide⟩,by decide,by decide,by decide,fun _ h=>by cases h⟩
 have g0:=kI_ q0 r0 (shF 0 9 5) o5
 have g1:=kI_ q1 r1 (shF 0 9 6) o6
 have gz:=kI_ q0 r0 f0 uw_
 have c0:=kJ_ q0 r0 1
 have c1:=kJ_ q1 r1 1
 have b1:=kK_ q1 r1 (by rw[tz_];decide)
 have b2:=kK_ q2 r2 (by show q1.fs.length≤_;rw[tz_];decide)
 have s2:=kH_ q2 r2
 have x0:=cq_ q0 r0
 have xz:=cq_ zeR rz
 have sm:=ft_ q1 r1 rfl
 rw[ED_] at g0
 rw[AP_] at g1
 rw[AQ_] at gz
 rw[AW_] at c0
 rw[AV_] at c1
 rw[AY_] at b1
 rw[AX_] at b2
 rw[EC_] at s2
 rw[EG_] at x0
 rw[EF_] at xz
 have p0:(sgQ [1] 1 qF).1 0=2:=rfl
 have p1:(sgQ [1] 1 qF).1 1=1:=rfl
 have hso:dN_ (sgQ [1] 1 qF):=⟨yM_,rfl,fun d hd=>dm_ hd⟩
 generalize sgQ [1] 1 qF=p at *
 have lp:=sgC_len (l:=[p]) (fun q hq=>by rw[List.mem_singleton.1 hq];exact hso)
 have t01:=AI_ p []
 rw[p0,p1] at t01
 obtain⟨t0,t1⟩:=t01
 generalize q0=q0 at *
 generalize q1=q1 at *
 generalize q2=q2 at *
 refine ad_ (pn:=an_) ac_ Tryz.func10 rfl fun β0=>?_
 simp only[Tryz.f10]
 refine sG ?_
 refine aa_ pU_ h31 rfl rfl (by simp) ?_
 simp -dsimp[rmT,rmD,rmC]
 refine sG ?_
 refine vcStop.call fi_ (h12) (rl [(1000,26)]) rfl rfl (by simp[BoxLeq]) aGq (fun _ h=>h.elim) (fun ⟨_,h⟩=>h.elim) (fun ⟨_,h⟩=>h.elim) (by simp[BoxLeq]) ?_
 simp -dsimp[rmT,rmD_ze]
 refine sG ?_
 refine aa_ js_ k5 rfl rfl (by simp) ?_
 simp -dsimp
 refine sG ?_
 refine aa_ fh_ g0 rfl rfl (by simp[rmD,rmC,fD]) ?_
 simp -dsimp[rmT,rmD,rmC]
 refine sG ?_
 refine aa_ js_ k6 rfl rfl (by simp) ?_
 simp -dsimp
 refine sG ?_
 refine aa_ fh_ g1 rfl rfl (by simp[rmD,rmC,fD]) ?_
 simp -dsimp[rmT,rmD_ze]
 refine sG ?_
 refine ao_ fh_ gz rfl rfl (And.intro (by simp[rmD,rmC]) (And.intro (al_ (fcs f0 0 57)) trivial)) ?_
 simp -dsimp[rmT,rmD_ze]
 refine sG ?_
 refine aa_ ff_ c0 rfl rfl (by simp[rmD,rmC]) ?_
 simp -dsimp[rmT,rmD_ze]
 refine sG ?_
 refine aa_ ff_ c1 rfl rfl (by simp[rmD,rmC]) ?_
 simp -dsimp[rmT,rmD,rmC]
 refine sG ?_
 refine aa_ fg_ b1 rfl rfl (by simp[rmD,rmC]) ?_
 simp -dsimp
 refine sG ?_
 refine aa_ fg_ b2 rfl rfl (by simp[rmD,rmC]) ?_
 simp -dsimp
 refine sG ?_
 refine aa_ fe_ s2 rfl rfl (by simp[rmD,rmC]) ?_
 simp -dsimp[rmT,rmD,rmC]
 refine sG ?_
 refine cF (by simp) ?_
 refine WP.skip ?_
 simp -dsimp
 repeat(first|apply wG|(apply wR;simp -dsimp[lp,t0,t1,p0,p1,Nat.zero_add])|refine aI ?_)
 simp -dsimp[p0,p1,lp]
 refine And.intro (by simp[lp]) ?_
 simp -dsimp[t0,t1,p0,p1,lp]
 repeat refine aI ?_
 refine ae_ bl_ (fun _=>x0) rfl (fun _=>rfl) (fun _=>by simp[rmD,rmC]) ?_
 simp -dsimp
 refine sG ?_
 refine cZ_ bl_ (fun _=>xz) rfl (fun _=>rfl) (fun _=>And.intro (by simp[rmD_ze]) trivial) ?_
 simp -dsimp
 refine sG ?_
 refine ae_ dG_ (fun _=>sm) rfl (fun _=>rfl) (fun _=>by simp[rmD,rmC]) ?_
 simp -dsimp
 refine sG ?_
 refine WP.ret (ab_ ?_)
 simp -dsimp
theorem rb_:ownKnob Tryz.prog.godebug=none:=by kernel_rfl
theorem g1_:laidOutB Tryz.prog=true:=by kernel_rfl
def Dj_:List TypeId:=[5,22,24,87,78,80,82,25,147,26,28,30,31,33,77]++FL
theorem rc_:gOk ak_ Dj_=true:=by decide
theorem eP_ {n:Nat} {ds:List D} (h:OkD ak_ n 3 ds):∃ x,ds=[.v (.int .i64 x)]∧isI x:=by
 cases n with
 | zero=>exact h.elim
 | succ n =>
  simp only[OkD,Aa_] at h
  exact h
theorem y6_ {n:Nat} {ds:List D} (h:OkD ak_ n 4 ds):∃ b,ds=[.v (.bool b)]:=by
 cases n with
 | zero=>exact h.elim
 | succ n =>
  simp only[OkD,z9_] at h
  exact h
theorem y5_ {n:Nat} {ds:List D} (h:OkD ak_ n 5 ds):∃ c:UInt8,ds=[a8_ c]:=by
 cases n with
 | zero=>exact h.elim
 | succ n =>
  simp only[OkD,vg_] at h
  obtain⟨x,rfl,h1,h2⟩:=h
  have h1:(0:Int)≤x:=h1
  have h2:x≤255:=h2
  refine⟨UInt8.ofNat x.toNat,?_⟩
  rw[a8_]
  simp
  omega
theorem tR_ {n:Nat}:∀ l:List (List D),(∀ x∈l,OkD ak_ n 5 x)→∃ bs:List UInt8,l.flatten=bys bs∧l.length=bs.length
 | [],_=>⟨[],rfl,rfl⟩
 | x::l,h=>by
  obtain⟨c,hc⟩:=y5_ (h x (by simp))
  obtain⟨bs,h2,h3⟩:=tR_ l fun y hy=>h y (by simp[hy])
  exact⟨c::bs,by rw[List.flatten_cons,hc,h2];rfl,by simp[h3]⟩
theorem lb_ {n:Nat} {ds:List D} (h:OkD ak_ n 22 ds):∃ bs:List UInt8,ds=[slB bs]∧bs.length≤200000000000000:=by
 cases n with
 | zero=>exact h.elim
 | succ n =>
  simp only[OkD,xo_] at h
  obtain⟨l,rfl,h1,hb⟩:=h
  obtain⟨bs,h2,h3⟩:=tR_ l h1
  have e:tby ak_ 5=1:=rfl
  rw[e] at hb
  exact⟨bs,by rw[h2,h3];rfl,by omega⟩
theorem tQ_ {n:Nat} {ds:List D} (h:OkD ak_ n 25 ds):∃ l:List By,ds=[slLB l]∧(∀ b∈l,b.length≤200000000000000)∧l.length≤10000000000000:=by
 cases n with
 | zero=>exact h.elim
 | succ n =>
  simp only[OkD,xm_] at h
  obtain⟨m,rfl,h1,hb⟩:=h
  have key:∀ m:List (List D),(∀ x∈m,OkD ak_ n 22 x)→∃ l:List By,m.flatten=lsB l∧m.length=l.length∧∀ b∈l,b.length≤200000000000000:=by
   intro m
   induction m with
   | nil=>intro _;exact⟨[],rfl,rfl,fun _ h=>by cases h⟩
   | cons x m ih =>
    intro h
    obtain⟨d,hd,hl⟩:=lb_ (h x (by simp))
    obtain⟨l,h2,h3,h4⟩:=ih fun y hy=>h y (by simp[hy])
    refine⟨d::l,by rw[List.flatten_cons,hd,h2];rfl,by simp[h3],fun y hy=>?_⟩
    rcases List.mem_cons.1 hy with rfl|hy
    ·exact hl
    ·exact h4 y hy
  obtain⟨l,h2,h3,h4⟩:=key m h1
  have e:tby ak_ 22=24:=rfl
  rw[e] at hb
  exact⟨l,by rw[h2,h3];rfl,h4,by omega⟩
theorem EM_ {n:Nat} {ds:List D} (h:OkD ak_ n 87 ds):∃ d:Dg,ds=bys d∧d.length=32:=by
 cases n with
 | zero=>exact h.elim
 | succ n =>
  simp only[OkD,lM_] at h
  obtain⟨l,rfl,h1,h2⟩:=h
  obtain⟨bs,h3,h4⟩:=tR_ l h2
  exact⟨bs,h3,by rw[← h4,h1]⟩
theorem o9_ {n:Nat} {ds:List D} (h:OkD ak_ n 78 ds):∃ l:List Dg,ds=[slG l]∧a9_ l∧l.length≤10000000000000:=by
 cases n with
 | zero=>exact h.elim
 | succ n =>
  simp only[OkD,xg_] at h
  obtain⟨m,rfl,h1,hb⟩:=h
  have key:∀ m:List (List D),(∀ x∈m,OkD ak_ n 87 x)→∃ l:List Dg,m.flatten=dgL l∧m.length=l.length∧a9_ l:=by
   intro m
   induction m with
   | nil=>intro _;exact⟨[],rfl,rfl,fun _ h=>by cases h⟩
   | cons x m ih =>
    intro h
    obtain⟨d,hd,hl⟩:=EM_ (h x (by simp))
    obtain⟨l,h2,h3,h4⟩:=ih fun y hy=>h y (by simp[hy])
    refine⟨d::l,by rw[List.flatten_cons,hd,h2];rfl,by simp[h3],fun y hy=>?_⟩
    rcases List.mem_cons.1 hy with rfl|hy
    ·exact hl
    ·exact h4 y hy
  obtain⟨l,h2,h3,h4⟩:=key m h1
  have e:tby ak_ 87=32:=rfl
  rw[e] at hb
  exact⟨l,by rw[h2,h3];rfl,h4,by omega⟩
theorem y3_ {n:Nat} {ds:List D} (h:OkD ak_ n 80 ds):∃ (k:Int) (op cl pa:List Dg),ds=f3_ k op cl pa∧sigG k op cl pa:=by
 cases n with
 | zero=>exact h.elim
 | succ n =>
  simp only[OkD,xf_] at h
  obtain⟨l,rfl,hl,h⟩:=h
  match l,hl,h with
  | [a,b,c,d],_,h =>
   obtain⟨x,ha,hx⟩:=eP_ (h 0 a (0,3) rfl rfl)
   obtain⟨l1,hb,h1,n1⟩:=o9_ (h 1 b (1,78) rfl rfl)
   obtain⟨l2,hc,h2,n2⟩:=o9_ (h 2 c (2,78) rfl rfl)
   obtain⟨l3,hd,h3,n3⟩:=o9_ (h 3 d (3,78) rfl rfl)
   subst ha hb hc hd
   exact⟨x,l1,l2,l3,rfl,hx,h1,h2,h3,n1,n2,n3⟩
theorem rS_ {n:Nat} {ds:List D} (h:OkD ak_ n 82 ds):∃ p:Sg,ds=sgc p∧fOk p.1∧sgT p:=by
 cases n with
 | zero=>exact h.elim
 | succ n =>
  simp only[OkD,xe_] at h
  obtain⟨l,rfl,hl,h⟩:=h
  match l,hl,h with
  | [a,b],_,h =>
   obtain⟨f,rfl,hf⟩:=zt_ (h 0 a (0,67) rfl rfl)
   obtain⟨k,l1,l2,l3,rfl,hg⟩:=y3_ (h 1 b (57,80) rfl rfl)
   exact⟨(f,_),by simp[sgc,f3_],hf,k,l1,l2,l3,rfl,hg⟩
theorem o8_ {n:Nat} {ds:List D} (h:OkD ak_ n 31 ds):∃ l:List Sg,ds=[sgD l false]∧(∀ p∈l,fOk p.1∧sgT p)∧l.length≤1000000000000:=by
 cases n with
 | zero=>exact h.elim
 | succ n =>
  simp only[OkD,xi_] at h
  obtain⟨m,rfl,h1,h2⟩:=h
  have key:∀ m:List (List D),(∀ x∈m,OkD ak_ n 82 x)→∃ l:List Sg,m.flatten=sgC l∧l.length=m.length∧∀ p∈l,fOk p.1∧sgT p:=by
   intro m
   induction m with
   | nil=>intro _;exact⟨[],rfl,rfl,fun _ h=>by cases h⟩
   | cons x m ih =>
    intro h
    obtain⟨p,hp,hpo⟩:=rS_ (h x (by simp))
    obtain⟨l,h3,h4,h5⟩:=ih fun y hy=>h y (by simp[hy])
    refine⟨p::l,?_,by simp[h4],fun q hq=>?_⟩
    ·rw[List.flatten_cons,hp,h3];rfl
    ·rcases List.mem_cons.1 hq with rfl|hq
     ·exact hpo
     ·exact h5 q hq
  obtain⟨l,h3,h4,h5⟩:=key m h1
  refine⟨l,?_,h5,?_⟩
  ·rw[h3,← h4]
   rfl
  ·have e:tby ak_ 82=536:=rfl
   rw[e] at h2
   omega
theorem we_ {n:Nat} {ds:List D} (h:OkD ak_ n 147 ds):∃ w:Int×By,ds=[.v (.int .i64 w.1),slB w.2]∧isI w.1∧w.2.length≤200000000000000:=by
 cases n with
 | zero=>exact h.elim
 | succ n =>
  simp only[OkD,vh_] at h
  obtain⟨l,rfl,hl,h⟩:=h
  match l,hl,h with
  | [a,b],_,h =>
   obtain⟨x,rfl,hx⟩:=eP_ (h 0 a (0,3) rfl rfl)
   obtain⟨s,rfl,hs⟩:=lb_ (h 1 b (1,22) rfl rfl)
   exact⟨(x,s),rfl,hx,hs⟩
theorem tP_ {n:Nat} {ds:List D} (h:OkD ak_ n 26 ds):∃ l:List (Int×By),ds=[wrD l]∧(∀ w∈l,isI w.1∧w.2.length≤200000000000000)∧l.length≤10000000000000:=by
 cases n with
 | zero=>exact h.elim
 | succ n =>
  simp only[OkD,xl_] at h
  obtain⟨m,rfl,h1,h2⟩:=h
  have key:∀ m:List (List D),(∀ x∈m,OkD ak_ n 147 x)→∃ l:List (Int×By),m.flatten=wrC l∧l.length=m.length∧∀ w∈l,isI w.1∧w.2.length≤200000000000000:=by
   intro m
   induction m with
   | nil=>intro _;exact⟨[],rfl,rfl,fun _ h=>by cases h⟩
   | cons x m ih =>
    intro h
    obtain⟨p,hp,hpo⟩:=we_ (h x (by simp))
    obtain⟨l,h3,h4,h5⟩:=ih fun y hy=>h y (by simp[hy])
    refine⟨p::l,?_,by simp[h4],fun q hq=>?_⟩
    ·rw[List.flatten_cons,hp,h3];rfl
    ·rcases List.mem_cons.1 hq with rfl|hq
     ·exact hpo
     ·exact h5 q hq
  obtain⟨l,h3,h4,h5⟩:=key m h1
  refine⟨l,?_,h5,?_⟩
  ·rw[h3,← h4]
   rfl
  ·have e:tby ak_ 147=32:=rfl
   rw[e] at h2
   omega
abbrev Ky:=List UInt8×Int×Int
def kyD (k:Ky):D:=keyD k.1 k.2.1 k.2.2
theorem xF_ {n:Nat} {ds:List D} (h:OkD ak_ n 24 ds):∃ k:Ky,ds=[slB k.1,.v (.int .i64 k.2.1),.v (.int .i64 k.2.2)]∧isI k.2.1∧isI k.2.2∧k.1.length≤200000000000000:=by
 cases n with
 | zero=>exact h.elim
 | succ n =>
  simp only[OkD,xn_] at h
  obtain⟨l,rfl,hl,h⟩:=h
  match l,hl,h with
  | [a,b,c],_,h =>
   obtain⟨s,rfl,hs⟩:=lb_ (h 0 a (0,22) rfl rfl)
   obtain⟨x,rfl,hx⟩:=eP_ (h 1 b (1,3) rfl rfl)
   obtain⟨y,rfl,hy⟩:=eP_ (h 2 c (2,3) rfl rfl)
   exact⟨(s,x,y),rfl,hx,hy,hs⟩
theorem y4_ {n:Nat} {ds:List D} (h:OkD ak_ n 28 ds):∃ d:Dk,ds=dkC d∧((∀ b∈d.s,b.length≤200000000000000)∧d.s.length≤10000000000000)∧((∀ w∈d.p,isI w.1∧w.2.length≤200000000000000)∧d.p.length≤10000000000000)∧isI d.left:=by
 cases n with
 | zero=>exact h.elim
 | succ n =>
  simp only[OkD,xk_] at h
  obtain⟨l,rfl,hl,h⟩:=h
  match l,hl,h with
  | [a,b,c,d],_,h =>
   obtain⟨s,rfl,hs⟩:=tQ_ (h 0 a (0,25) rfl rfl)
   obtain⟨p,rfl,hp⟩:=tP_ (h 1 b (1,26) rfl rfl)
   obtain⟨x,rfl,hx⟩:=eP_ (h 2 c (2,3) rfl rfl)
   obtain⟨y,rfl⟩:=y6_ (h 3 d (3,4) rfl rfl)
   exact⟨⟨s,p,x,y⟩,rfl,hs,hp,hx⟩
theorem Bq_ {n:Nat} {ds:List D} (h:OkD ak_ n 30 ds):∃ (m:Int) (l:List By) (s:Int),ds=[.v (.int .i64 m),slLB l,.v (.int .i64 s)]∧isI m∧((∀ b∈l,b.length≤200000000000000)∧l.length≤10000000000000)∧isI s:=by
 cases n with
 | zero=>exact h.elim
 | succ n =>
  simp only[OkD,xj_] at h
  obtain⟨l,rfl,hl,h⟩:=h
  match l,hl,h with
  | [a,b,c],_,h =>
   obtain⟨x,rfl,hx⟩:=eP_ (h 0 a (0,3) rfl rfl)
   obtain⟨s,rfl,hs⟩:=tQ_ (h 1 b (1,25) rfl rfl)
   obtain⟨y,rfl,hy⟩:=eP_ (h 2 c (2,3) rfl rfl)
   exact⟨x,s,y,rfl,hx,hs,hy⟩
theorem ko_ {n:Nat} {ds:List D} (h:OkD ak_ n 33 ds):∃ r:Rm,jJ_ ak_ 33 ds=rmD r∧rmG r:=by
 cases n with
 | zero=>exact h.elim
 | succ n =>
  simp only[OkD,xh_] at h
  obtain⟨l,rfl,hl,h⟩:=h
  match l,hl,h with
  | [a,b,c,d,e,f],_,h =>
   obtain⟨x,rfl,hx⟩:=eP_ (h 0 a (0,3) rfl rfl)
   obtain⟨k,rfl,k1,k2,k3⟩:=xF_ (h 1 b (1,24) rfl rfl)
   obtain⟨dk,rfl,d1,d2,d3⟩:=y4_ (h 2 c (4,28) rfl rfl)
   obtain⟨m,lr,s,rfl,l1,l2,l3⟩:=Bq_ (h 3 d (8,30) rfl rfl)
   obtain⟨fs,rfl,f1,f2⟩:=o8_ (h 4 e (11,31) rfl rfl)
   obtain⟨y,rfl,hy⟩:=eP_ (h 5 f (12,3) rfl rfl)
   exact⟨⟨x,k.1,k.2.1,k.2.2,dk,m,lr,s,fs,y⟩,rfl,hx,k1,k2,k3,d1,d2,d3,l1,l2,l3,f1,f2,hy⟩
theorem pr_ {n:Nat} {ds:List D} (h:OkD ak_ n 3 ds):∃ x,jJ_ ak_ 3 ds=.v (.int .i64 x)∧isI x:=by
 obtain⟨x,rfl,hx⟩:=eP_ h
 exact⟨x,rfl,hx⟩
def Az_:Value:=.agg #[.int .i64 0,.slice none 0 0,.int .i64 0,.int .i64 0,.slice none 0 0,.slice none 0 0,.int .i64 0,.bool false,.int .i64 0,.slice none 0 0,.int .i64 0,.slice none 0 0,.int .i64 0]
def vi_:List TypeId:=[3,5,236,249,307,329,330]
theorem ra_:pOk ak_ vi_=true:=by decide
def laidL : List (String × DataW Unit) := [("stopwatch/digest.start", Rows.laid_stopwatch_digest_start), ("stopwatch/digest.permutations", Rows.laid_stopwatch_digest_permutations), ("stopwatch/facts.timeS", Rows.laid_stopwatch_facts_timeS), ("stopwatch/facts.lengthS", Rows.laid_stopwatch_facts_lengthS), ("stopwatch/facts.bibS", Rows.laid_stopwatch_facts_bibS), ("stopwatch/facts.matS", Rows.laid_stopwatch_facts_matS), ("stopwatch/facts.epochS", Rows.laid_stopwatch_facts_epochS), ("stopwatch/facts.chipS", Rows.laid_stopwatch_facts_chipS), ("stopwatch/facts.positionS", Rows.laid_stopwatch_facts_positionS), ("stopwatch/facts.caseS", Rows.laid_stopwatch_facts_caseS), ("stopwatch/facts.crewS", Rows.laid_stopwatch_facts_crewS), ("stopwatch/facts.numberS", Rows.laid_stopwatch_facts_numberS), ("stopwatch/facts.bitS", Rows.laid_stopwatch_facts_bitS)]
theorem qC_:iL_ Tryz.prog vi_ laidL=true:=by kernel_rfl
theorem iM_:(laidL.all fun x=>x.2.handleName?.isNone)=true:=by kernel_rfl
theorem qU_ (os:Os) (args:Array Value):laidMetH Tryz.prog laidL ((World.doorLaid Tryz.prog (400) os).forCall (fun _ _=>0) ⟨#[],args,[]⟩).memory :=
 laidMetH_of_parts3 (fuel:=8) (laidMet_of_run' 8 (by kernel_rfl) (by kernel_rfl)) (by kernel_rfl) (by kernel_rfl)
theorem t6_ (g:Nat) (ds:List D) (h:Glob.laid g=some ds):mP_ Tryz.prog laidL g=some ds:=by
 dsimp only[Glob.laid,instGlob] at h
 split at h<;>cases h<;>kernel_rfl
end Go.Proofs.YtfgcgagcpnbgmaaGreatDoor
