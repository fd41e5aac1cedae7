/-
  Joined texts.
-/
import Derived.Test.YtkcgffilldklcaaGreatDoorHOb
import Derived.Test.YtkcgffilldklcaaGreatDoorHTr
import Derived.Test.YtkcgffilldklcaaGreatDoorHNl
import Derived.Test.YtkcgffilldklcaaGreatDoorHMa
set_option linter.all false
namespace Go.Proofs.YtkcgffilldklcaaGreatDoor
open Go.Xe Go.RowKit
abbrev edS (a b:List Dg) (i:Nat):St:=mkS 26 [(0,.d (slG a)),(1,.d (slG b)),(12,.d (.v (.int .i64 a.length))),(13,.d (.v (.int .i64 i)))] []
set_option maxRecDepth 10000 in
set_option maxHeartbeats 4000000 in
theorem o7_ (a b:List Dg) (ha:bb_ a) (hb:bb_ b) (hna:a.length≤10000000000000) (hnb:b.length≤10000000000000):Fn0 Tryz.prog 149 [slG a,slG b] (.v (.bool (decide (a=b)))):=by
 refine ad_ (pn:=an_) ac_ Tryz.func149 rfl fun β0=>?_
 simp only[Tryz.f149]
 repeat(first|apply wG|(apply wR;simp -dsimp[slG])|refine aI ?_)
 by_cases hl:a.length=b.length
 ·refine cF (by simp[hl]) ?_
  refine WP.skip ?_
  refine sH ?_
  refine ai_ (fun q S=>∃ i:Nat,q=a.length-i∧i≤a.length∧(∀ j,j<i→digA a j=digA b j)∧S=edS a b i) a.length (S0:=edS a b 0) (ae_ [] (by simp[slG]) (by simp)) ⟨0,rfl,by omega,fun j h=>by omega,rfl⟩ ?_
  rintro _ _ ⟨i,rfl,hi,hj,rfl⟩
  simp -dsimp[slG]
  refine sG ?_
  by_cases hil:i<a.length
  ·have hib:i<b.length:=by omega
   have aa:=g4_ ha i hil
   have ab:=g4_ hb i hib
   have la:=ec_ ha i hil
   have lb:=ec_ hb i hib
   have ca:=aV_ ha
   have cb:=aV_ hb
   have ta:=h4_ la
   have tb:=h4_ lb
   have e1:IntKind.i64.wrap ((i:Int)+1)=((i+1:Nat):Int):=by rw[IntWalk.i64_in _ (by omega)];omega
   have hstep:digA a i=digA b i→∀ j,j<i+1→digA a j=digA b j:=fun h j hj1=>by
    rcases Nat.lt_or_ge j i with h1|h1
    ·exact hj j h1
    ·rw[show j=i by omega];exact h
   have hbad:digA a i≠digA b i→a≠b:=fun h e=>h (by rw[e])
   generalize digA a i=x at *
   generalize digA b i=y at *
   refine cT (by simp;omega) ?_
   refine WP.skip ?_
   simp -dsimp
   repeat(first|apply wG|(apply wR;simp -dsimp[aa,ab,ta,tb])|refine aI ?_)
   refine jX_ ac_ FN_ xH_ rfl (.inr rfl) (q:=4) (by omega) (T:=97) lN_ np_ (by decide) q9_ (cs:=fM_ x) (es:=fM_ y) (by simp[cs_]) (by simp[cs_]) (by simp[fM_,la]) (by simp[fM_,lb]) (hW_ x) (hW_ y) (mO_ x y) ?_
   simp -dsimp[eqRes]
   refine sG ?_
   by_cases hxy:x=y
   ·refine cF (by simp[eqRes,hxy]) ?_
    refine WP.skip ?_
    refine sH ?_
    refine loopW.next (edS a b (i+1)) (ae_ [] (by simp[e1,slG]) (by simp)) (a.length-(i+1)) (by omega) ⟨i+1,rfl,by omega,hstep hxy,rfl⟩
   ·refine cT (by simp[eqRes,hxy]) ?_
    have hr:decide (a=b)=false:=decide_eq_false (hbad hxy)
    refine sG ?_
    refine WP.ret (ab_ ?_)
    simp -dsimp[hr]
  ·refine cF (by simp;omega) ?_
   refine WP.exit ?_
   have hr:decide (a=b)=true:=decide_eq_true (h1_ hl fun j h=>hj j (by omega))
   refine sH ?_
   refine WP.ret (ab_ ?_)
   simp -dsimp[hr]
 ·refine cT (by simp;omega) ?_
  have hr:decide (a=b)=false:=decide_eq_false fun h=>hl (by rw[h])
  refine sG ?_
  refine WP.ret (ab_ ?_)
  simp -dsimp[hr]
set_option maxRecDepth 10000 in
set_option maxHeartbeats 4000000 in
theorem yv_ (p q:Sg) (hp:dP_ p) (hq:dP_ q) (up:sgT p) (uq:sgT q):Fn0 Tryz.prog 93 [sgV p,sgV q] (.v (.bool (sU_ p q))):=by
 have k1:=yz_ p.1 q.1 hp.1 hq.1
 have l1:=bp_ hp
 have l2:=bp_ hq
 have h57:=j2_ p
 have g57:=j2_ q
 have h4:List.take 4 (List.drop 57 ((sgc p).map AV.d))=p.2.map .d:=by rw[← List.map_drop,← List.map_take,dr_ hp]
 have g4:List.take 4 (List.drop 57 ((sgc q).map AV.d))=q.2.map .d:=by rw[← List.map_drop,← List.map_take,dr_ hq]
 obtain⟨k,o,c,a,e,h⟩:=up
 obtain⟨k',o',c',a',e',h'⟩:=uq
 have k2:=o7_ o o' h.ho h'.ho h.no h'.no
 have k3:=o7_ c c' h.hc h'.hc h.nc h'.nc
 have k4:=o7_ a a' h.hp h'.hp h.np h'.np
 have hr:sU_ p q=(eqF p.1 q.1&&(decide (k=k')&&(decide (o=o')&&(decide (c=c')&&decide (a=a'))))):=by
  rw[sU_,e,e',(bI_ h).1,(bI_ h).2.1,(bI_ h).2.2,(bI_ h').1,(bI_ h').2.1,(bI_ h').2.2];rfl
 rw[hr]
 rw[e] at h4
 rw[e'] at g4
 clear hr h h' e e'
 generalize eqF p.1 q.1=b1 at *
 generalize decide (o=o')=b2 at *
 generalize decide (c=c')=b3 at *
 generalize decide (a=a')=b4 at *
 simp only[sgV]
 refine ad_ (pn:=an_) ac_ Tryz.func93 rfl fun β0=>?_
 simp only[Tryz.f93]
 refine sG ?_
 refine And.intro (sgc_oneD hp) ?_
 refine sG ?_
 refine And.intro (sgc_oneD hq) ?_
 repeat(first|apply wG|(apply wR;simp -dsimp[h57,h4,g57,g4,f5_,slG])|refine aI ?_)
 refine ao_ nP_ k1 rfl rfl (And.intro (by simp[fD]) (And.intro (by simp[fD]) trivial)) ?_
 cases b1 with
 | false =>
  refine sH ?_
  refine vcStopG.skip (.d (.v (.bool false))) ?_
  refine sH ?_
  refine vcStopG.skip (.d (.v (.bool false))) ?_
  refine sH ?_
  refine vcStopG.skip (.d (.v (.bool false))) ?_
  refine sH ?_
  refine WP.ret (ab_ ?_)
  simp -dsimp
 | true =>
  refine sH ?_
  refine af_ em_ (fun _=>k2) rfl (fun _=>rfl) (fun _=>by simp[slG]) ?_
  refine sH ?_
  refine af_ em_ (fun _=>k3) rfl (fun _=>rfl) (fun _=>by simp[slG]) ?_
  refine sH ?_
  refine af_ em_ (fun _=>k4) rfl (fun _=>rfl) (fun _=>by simp[slG]) ?_
  refine sH ?_
  refine WP.ret (ab_ ?_)
  simp -dsimp[Bool.and_assoc]
theorem p9_:∀ {a b:List Sg},hM_ a b=true→a.length=b.length
 | [],[],_=>rfl
 | [],_::_,h=>by simp[hM_] at h
 | _::_,[],h=>by simp[hM_] at h
 | p::a,q::b,h=>by
  rw[hM_,Bool.and_eq_true] at h
  rw[List.length_cons,List.length_cons,p9_ h.2]
theorem yt_ {a b:List Sg} {i:Nat} (ha:i<a.length) (hb:i<b.length):hM_ (a.drop i) (b.drop i)=(sU_ a[i] b[i]&&hM_ (a.drop (i+1)) (b.drop (i+1))):=by
 rw[List.drop_eq_getElem_cons ha,List.drop_eq_getElem_cons hb,hM_]
abbrev FP_:D:=.v (.func (.func 93) #[] #[])
abbrev esS (a b:List Sg) (i:Nat):St:=mkS 32 [(0,.d (sgD a false)),(1,.d (sgD b false)),(2,.d FP_),(15,.d (sgD a false)),(16,.d (.v (.int .i64 a.length))),(17,.d (.v (.int .i64 i)))] []
set_option maxRecDepth 10000 in
set_option maxHeartbeats 2000000 in
theorem wC_ (a b:List Sg) (ha:a.length≤1000000000000) (hb:b.length≤1000000000000) (oa:∀ p∈a,dP_ p∧sgT p) (ob:∀ p∈b,dP_ p∧sgT p):Fn0 Tryz.prog 92 [sgD a false,sgD b false,FP_] (.v (.bool (hM_ a b))):=by
 have la:=sgC_len (l:=a) fun p h=>(oa p h).1
 have lb:=sgC_len (l:=b) fun p h=>(ob p h).1
 refine ad_ (pn:=an_) ac_ Tryz.func92 rfl fun β0=>?_
 simp only[Tryz.f92]
 refine sG ?_
 by_cases hl:a.length=b.length
 ·refine cF (by simp[hl]) ?_
  refine WP.skip ?_
  refine sH ?_
  refine ai_ (fun q S=>∃ i:Nat,q=a.length-i∧i≤a.length∧hM_ a b=hM_ (a.drop i) (b.drop i)∧S=esS a b i) a.length (S0:=esS a b 0) (ae_ [] (by simp) (by simp)) ⟨0,rfl,by omega,rfl,rfl⟩ ?_
  rintro _ _ ⟨i,rfl,hi,ht,rfl⟩
  refine sH ?_
  by_cases hin:i<a.length
  ·have hib:i<b.length:=by omega
   have e1:IntKind.i64.wrap ((i:Int)+1)=((i+1:Nat):Int):=by rw[IntWalk.i64_in _ (by omega)];omega
   obtain⟨o1,t1⟩:=oa _ (List.getElem_mem hin)
   obtain⟨o2,t2⟩:=ob _ (List.getElem_mem hib)
   have heq:=yv_ a[i] b[i] o1 o2 t1 t2
   have aa:=j1_ hin fun p h=>(oa p h).1
   have ab:=j1_ hib fun p h=>(ob p h).1
   have hs:=yt_ hin hib
   rw[hs] at ht
   generalize a[i]=x at *
   generalize b[i]=y at *
   have lx:=bp_ o1
   have ly:=bp_ o2
   have tx:=gT_ o1
   have ty:=gT_ o2
   have ox:=dY_ o1
   have oy:=dY_ o2
   refine cT (by simp;omega) ?_
   refine WP.skip ?_
   simp -dsimp
   repeat(first|apply wG|(apply wR;simp -dsimp[aa,ab,la,lb,hin,hib,setL_whole,lx,ly,tx,ty])|refine aI ?_)
   refine ao_ po_ heq rfl rfl (And.intro (by simp[sgV]) (And.intro (by simp[sgV]) trivial)) ?_
   refine sH ?_
   refine WP.cond (b := !sU_ x y) (by simp) (fun hc=>?_) (fun hc=>?_)
   ·have hc:sU_ x y=false:=by simpa using hc
    rw[hc,Bool.false_and] at ht
    refine sG ?_
    refine WP.ret (ab_ ?_)
    simp -dsimp[ht]
   ·have hc:sU_ x y=true:=by simpa using hc
    rw[hc,Bool.true_and] at ht
    refine WP.skip ?_
    refine sH ?_
    refine loopW.next (esS a b (i+1)) (ae_ [8,9] (by simp[e1]) (by simp)) (a.length-(i+1)) (by omega) ⟨i+1,rfl,by omega,ht,rfl⟩
  ·obtain rfl:i=a.length:=by omega
   have hab:hM_ a b=true:=by rw[ht,List.drop_length,hl,List.drop_length];rfl
   refine cE ?_
   refine WP.exit ?_
   refine sH ?_
   refine WP.ret (ab_ ?_)
   simp -dsimp[hab]
 ·have hne:hM_ a b=false:=by
   cases h:hM_ a b with
   | false=>rfl
   | true=>exact absurd (p9_ h) hl
  refine cT (by simp;omega) ?_
  refine sG ?_
  refine WP.ret (ab_ ?_)
  simp -dsimp[hne]
end Go.Proofs.YtkcgffilldklcaaGreatDoor
set_option maxRecDepth 10000
namespace Go.Proofs.YtkcgffilldklcaaGreatDoor
open Go.Xe Go.RowKit
set_option maxHeartbeats 2000000 in
theorem j8_ (d:Dk) (hd:dkOk d):Fn0 Tryz.prog 65 [dkD d] (.tup [logD (lW_ d).1.1 (lW_ d).1.2.1 (lW_ d).1.2.2,.v (.int .i64 (lW_ d).2)]):=by
 have h1:=fF_ d hd
 refine ad_ (pn:=an_) ac_ Tryz.func65 rfl fun β0=>?_
 simp only[Tryz.f65]
 unfold lW_
 unfold dkE at h1
 repeat(first|apply wG|(apply wR;simp -dsimp[dkD,dkC])|refine aI ?_)
 refine aa_ cF_ h1 rfl rfl (by simp[dkD,dkC]) ?_
 refine sH ?_
 cases hB:dkB d with
 | false =>
  rw[if_neg (by decide)]
  refine cT (by simp[hB]) ?_
  repeat(first|apply wG|(apply wR;simp -dsimp[hB])|refine aI ?_)
  refine WP.ret (ab_ ?_)
  simp -dsimp[logD,lgC,lsB]
 | true =>
  rw[if_pos rfl]
  refine cF (by simp[hB]) ?_
  refine WP.skip ?_
  refine sH ?_
  obtain⟨⟨d1,d2,d3,d4,d5⟩,_,d6⟩:=aZ_.1 hB
  cases hst:d.st with
  | true =>
   rw[if_pos rfl]
   refine cT (by simp[hst]) ?_
   refine sG ?_
   refine WP.ret (ab_ ?_)
   simp -dsimp[logD,lgC,lsB]
  | false =>
   rw[if_neg (by decide)]
   refine cF (by simp[hst]) ?_
   refine WP.skip ?_
   refine sH ?_
   have h86:=j7_ d.s d6 d2
   by_cases hp:0<d.p.length
   ·rw[if_pos hp]
    refine cT (congrArg (fun x=>AV.d (D.v (Value.bool x))) (decide_eq_true (by omega))) ?_
    refine sG ?_
    refine WP.ret (ab_ ?_)
    simp -dsimp[logD,lgC,lsB]
   ·rw[if_neg hp]
    refine cF (congrArg (fun x=>AV.d (D.v (Value.bool x))) (decide_eq_false (by omega))) ?_
    refine WP.skip ?_
    refine sH ?_
    refine aa_ jf_ h86 rfl rfl (by simp) ?_
    refine sH ?_
    refine WP.ret (ab_ ?_)
    simp -dsimp[logD,lgC]
abbrev srX (a b:List By) (i:Nat):St:=mkS 28 [(0,.d (slLB a)),(1,.d (slLB b)),(5,.d (.v (.int .i64 i)))] []
set_option maxHeartbeats 1000000 in
theorem mh_ (a b:List By) (ha:a.length≤1000000000000) (hb:b.length≤1000000000000):Fn0 Tryz.prog 78 [slLB a,slLB b] (.v (.bool (decide (a=b)))):=by
 have la:=aI_ a
 have lb:=aI_ b
 refine ad_ (pn:=an_) ac_ Tryz.func78 rfl fun β0=>?_
 simp only[Tryz.f78]
 refine sG ?_
 by_cases hl:a.length=b.length
 ·refine cF (by simp;omega) ?_
  refine WP.skip ?_
  refine sH ?_
  refine ai_ (fun q S=>∃ i:Nat,q=a.length-i∧i≤a.length∧(∀ j (h:j<a.length),j<i→a[j]=b[j]'(by omega))∧S=srX a b i) a.length (S0:=srX a b 0) (ae_ [] (by simp) (by simp)) ⟨0,rfl,by omega,fun j _ h=>by omega,rfl⟩ ?_
  rintro _ _ ⟨i,rfl,hi,hall,rfl⟩
  refine sH ?_
  by_cases hin:i<a.length
  ·have hib:i<b.length:=by omega
   have e1:IntKind.i64.wrap ((i:Int)+1)=((i+1:Nat):Int):=by rw[IntWalk.i64_in _ (by omega)];omega
   refine cT (by simp;omega) ?_
   refine WP.skip ?_
   simp -dsimp
   repeat(first|apply wG|(apply wR;simp -dsimp[as_,la,lb,hin,hib])|refine aI ?_)
   by_cases hx:a[i]=b[i]
   ·refine cF (by simp[hx]) ?_
    refine WP.skip ?_
    refine sH ?_
    refine loopW.next (srX a b (i+1)) (ae_ [] (by simp[e1]) (by simp)) (a.length-(i+1)) (by omega) ⟨i+1,rfl,by omega,fun j h1 h2=>?_,rfl⟩
    rcases Nat.lt_or_eq_of_le (show j≤i by omega) with h|h
    ·exact hall j h1 h
    ·subst h;exact hx
   ·have hR:decide (a=b)=false:=decide_eq_false fun h=>hx (by subst h;rfl)
    rw[hR]
    refine cT (by simp[hx]) ?_
    refine sG ?_
    refine WP.ret (ab_ ?_)
    simp -dsimp
  ·obtain rfl:i=a.length:=by omega
   have hR:decide (a=b)=true:=decide_eq_true (List.ext_getElem hl fun j h1 h2=>hall j h1 h1)
   rw[hR]
   refine cE ?_
   refine WP.exit ?_
   refine sH ?_
   refine WP.ret (ab_ ?_)
   simp -dsimp
 ·have hR:decide (a=b)=false:=decide_eq_false fun h=>hl (by rw[h])
  rw[hR]
  refine cT (by simp;omega) ?_
  refine sG ?_
  refine WP.ret (ab_ ?_)
  simp -dsimp
theorem oG_ (M:Int) (l:List By) (Y:Int) (M':Int) (l':List By) (Y':Int) (hl:l.length≤1000000000000) (hl':l'.length≤1000000000000):Fn0 Tryz.prog 32 [logD M l Y,logD M' l' Y'] (.v (.bool (decide (M=M')&&(decide (Y=Y')&&decide (l=l'))))):=by
 have h67:=mh_ l l' hl hl'
 generalize decide (l=l')=x at *
 refine ad_ (pn:=an_) ac_ Tryz.func32 rfl fun β0=>?_
 simp only[Tryz.f32]
 repeat(first|apply wG|(apply wR;simp -dsimp[logD,lgC])|refine aI ?_)
 refine af_ fi_ (fun _=>h67) rfl (fun _=>rfl) (fun _=>by simp) ?_
 refine sH ?_
 refine WP.ret (ab_ ?_)
 simp -dsimp[Bool.and_assoc]
end Go.Proofs.YtkcgffilldklcaaGreatDoor
set_option maxRecDepth 10000
namespace Go.Proofs.YtkcgffilldklcaaGreatDoor
open Go.Xe Go.RowKit
def rmC (r:Rm):List D:=.v (.int .i64 r.crew)::slB r.seed :: .v (.int .i64 r.many) :: .v (.int .i64 r.used)::slLB r.dk.s::wrD r.dk.p :: .v (.int .i64 r.dk.left) :: .v (.bool r.dk.st) :: .v (.int .i64 r.lm)::slLB r.lr :: .v (.int .i64 r.ls)::sgD r.fs false :: .v (.int .i64 r.sent)::[]
def rmD (r:Rm):D:=.agg (rmC r)
structure rmOk (r:Rm):Prop where
 c:isI r.crew
 m:isI r.many
 u:isI r.used
 dk:dkOk r.dk
 sd:r.seed.length≤1000
 lr:r.lr.length≤1000000000000
 fl:r.fs.length≤1000000000000
 fo:∀ p∈r.fs,dP_ p∧sgT p
theorem mK_ (r:Rm):Fn0 Tryz.prog 40 [rmD r] (.v (.bool (decide (0≤r.crew∧r.crew<32∧r.used=r.fs.length∧0≤r.sent∧r.sent≤r.fs.length)))):=by
 have h38:=iS_ r.crew
 refine ad_ (pn:=an_) ac_ Tryz.func40 rfl fun β0=>?_
 simp only[Tryz.f40]
 repeat(first|apply wG|(apply wR;simp -dsimp[rmD,rmC])|refine aI ?_)
 refine aa_ fp_ h38 rfl rfl (by simp) ?_
 refine sH ?_
 refine WP.ret (ab_ ?_)
 simp -dsimp[Bool.and_assoc]
theorem yP_ (seed:By) (m u:Int):(oW_ seed m u).1.length=32:=by
 unfold oW_
 split
 ·exact aP_ _
 ·rfl
theorem rj_ (r:Rm) (hs:r.seed.length≤1000):Fn0 Tryz.prog 41 [rmD r] (.v (.bool (keyV r.seed r.many r.used))):=by
 have h29:=gq_ r.seed hs r.many r.used
 obtain⟨d,e,hde,h32⟩:∃ (d:Dg) (e:Int),oW_ r.seed r.many r.used=(d,e)∧d.length=32:=⟨_,_,rfl,yP_ _ _ _⟩
 have hke:decide (e=0)=keyV r.seed r.many r.used:=by
  have h2:(oW_ r.seed r.many r.used).2=e:=by rw[hde]
  rw[← h2,oW_]
  cases keyV r.seed r.many r.used<;>rfl
 rw[hde,dD] at h29
 have ld:=ah_ d
 have h1:∀ c∈bys d,oneD c=true:=fun c hc=>by
  obtain⟨x,_,rfl⟩:=List.mem_map.1 hc
  rfl
 refine ad_ (pn:=an_) ac_ Tryz.func41 rfl fun β0=>?_
 simp only[Tryz.f41]
 repeat(first|apply wG|(apply wR;simp -dsimp[rmD,rmC])|refine aI ?_)
 refine aa_ cH_ h29 rfl rfl (by simp[keyD,slB]) ?_
 simp -dsimp
 repeat(first|apply wG|(apply wR;simp -dsimp[ld,h32,setL_whole])|refine aI ?_)
 refine WP.ret (ab_ ?_)
 simp -dsimp[hke]
theorem s6_ (r:Rm) (hd:dkOk r.dk):Fn0 Tryz.prog 42 [rmD r] (.v (.bool (dkB r.dk&&(!r.dk.st&&decide (r.dk.p.length=0))))):=by
 have h82:=eD_ r.dk hd
 refine ad_ (pn:=an_) ac_ Tryz.func42 rfl fun β0=>?_
 simp only[Tryz.f42]
 repeat(first|apply wG|(apply wR;simp -dsimp[rmD,rmC])|refine aI ?_)
 refine aa_ dH_ h82 rfl rfl (by simp[dkD,dkC]) ?_
 refine sH ?_
 refine WP.ret (ab_ ?_)
 simp -dsimp[qT_,Bool.and_assoc]
theorem o3_ (r:Rm) (h:rmOk r) (hb:dkB r.dk=true) (hst:r.dk.st=false) (hp:r.dk.p.length=0):Fn0 Tryz.prog 43 [rmD r] (.v (.bool (decide ((r.dk.s.length:Int)=r.lm∧((recs r.dk.s).length:Int)=r.ls∧recs r.dk.s=r.lr)))):=by
 have h40:=hT_ r.dk h.dk
 rw[lW_,if_pos hb,if_neg (by rw[hst];decide),if_neg (by omega),logD,lgC] at h40
 have h87:=m5_ (recs r.dk.s) r.lr (by have:=c9_ (aZ_.1 hb).2.2;have:=(aZ_.1 hb).1.2.1;omega) h.lr
 refine ad_ (pn:=an_) ac_ Tryz.func43 rfl fun β0=>?_
 simp only[Tryz.f43]
 repeat(first|apply wG|(apply wR;simp -dsimp[rmD,rmC])|refine aI ?_)
 refine aa_ cG_ h40 rfl rfl (by simp[dkD,dkC]) ?_
 refine sH ?_
 refine af_ jm_ (fun _=>h87) rfl (fun _=>rfl) (fun _=>by simp) ?_
 refine sH ?_
 refine WP.ret (ab_ ?_)
 simp -dsimp[Bool.decide_and,Bool.and_assoc]
theorem mG_ {crew m:Int} {seed:By} {i:Nat} {l:List By} (h:onB crew m i l=true) (hm:m≤4096) (hl:∀ b∈l,b.length≤1000000000000):∀ p∈onL seed m l,dP_ p∧sgT p:=by
 intro p hp
 obtain⟨h1,h2⟩:=wb_ h hm hl p hp
 refine⟨⟨h1,?_,?_⟩,h2⟩
 ·obtain⟨b,_,rfl⟩:=List.mem_map.1 hp
  rfl
 ·obtain⟨b,_,rfl⟩:=List.mem_map.1 hp
  exact fun d hd=>cK_ hd
theorem lv_ (r:Rm) (h:rmOk r) (hk:keyV r.seed r.many r.used=true) (hR:r.lr.length≤1000000) (hb:∀ b∈r.lr,b.length≤1000000):Fn0 Tryz.prog 44 [rmD r] (.v (.bool (onB r.crew r.many 0 r.lr&&hM_ (onL r.seed r.many r.lr) r.fs))):=by
 have h65:=ii_ r.crew r.seed r.many r.used r.lm r.lr r.ls hk hR hb
 refine ad_ (pn:=an_) ac_ Tryz.func44 rfl fun β0=>?_
 simp only[Tryz.f44]
 repeat(first|apply wG|(apply wR;simp -dsimp[rmD,rmC])|refine aI ?_)
 refine aa_ jr_ h65 rfl rfl (by simp[keyD,slB,logD,lgC]) ?_
 unfold DD_
 cases hon:onB r.crew r.many 0 r.lr with
 | true =>
  rw[if_pos rfl,Bool.true_and]
  have hm:=(bd_.1 hk).2.2.2.1
  have heq:=wC_ (onL r.seed r.many r.lr) r.fs (by rw[b4_];omega) h.fl (fun p hp=>mG_ hon hm (fun b hh=>by have:=hb b hh;omega) p hp) h.fo
  refine sH ?_
  refine af_ pp_ (fun _=>heq) rfl (fun _=>rfl) (fun _=>by simp) ?_
  refine sH ?_
  refine WP.ret (ab_ ?_)
  simp -dsimp
 | false =>
  rw[if_neg (by decide),Bool.false_and]
  refine sH ?_
  refine vcStopG.skip (.d (.v (.bool false))) ?_
  refine sH ?_
  refine WP.ret (ab_ ?_)
  simp -dsimp
def c5 (r:Rm):Nat→Bool
 | 0=>decide (0≤r.crew∧r.crew<32∧r.used=r.fs.length∧0≤r.sent∧r.sent≤r.fs.length)
 | 1=>keyV r.seed r.many r.used
 | 2=>dkB r.dk&&(!r.dk.st&&decide (r.dk.p.length=0))
 | 3=>decide ((r.dk.s.length:Int)=r.lm∧((recs r.dk.s).length:Int)=r.ls∧recs r.dk.s=r.lr)
 | _=>onB r.crew r.many 0 r.lr&&hM_ (onL r.seed r.many r.lr) r.fs
theorem kp_ (r:Rm):rmB r=(c5 r 0&&(c5 r 1&&(c5 r 2&&(c5 r 3&&c5 r 4)))):=rfl
abbrev rA (r:Rm):AV:=.agg ((rmC r).map .d)
abbrev ckS (r:Rm) (i:Nat):St:=mkS 26 [(2,.d (.v (.int .i64 0))),(18,.agg [.fn (.func 40) [rA r] [],.fn (.func 41) [rA r] [],.fn (.func 42) [rA r] [],.fn (.func 43) [rA r] [],.fn (.func 44) [rA r] []]),(19,.d (.v (.int .i64 i)))] []
def ckR (r:Rm):Int:=if rmB r=true then 0 else 440
set_option maxRecDepth 10000 in
set_option maxHeartbeats 2000000 in
theorem c8_ (r:Rm) (h:rmOk r):Fn0 Tryz.prog 15 [rmD r] (.v (.int .i64 (ckR r))):=by
 have hs1:=rj_ r h.sd
 have hs0:=mK_ r
 have hs2:=s6_ r h.dk
 refine ad_ (pn:=an_) ac_ Tryz.func15 rfl fun β0=>?_
 simp only[Tryz.f15]
 repeat(first|apply wG|(apply wR;simp -dsimp[rmD,rmC])|refine aI ?_)
 refine ai_ (fun q S=>∃ i:Nat,q=5-i∧i≤5∧(∀ j,j<i→c5 r j=true)∧S=ckS r i) 5 (S0:=ckS r 0) (ae_ [] (by simp[rmC];exact Leq.refl _) (by simp)) ⟨0,rfl,by omega,fun j hj=>by omega,rfl⟩ ?_
 rintro _ _ ⟨i,rfl,hi,hj,rfl⟩
 refine sH ?_
 rcases (by omega:i=5∨i=0∨i=1∨i=2∨i=3∨i=4) with rfl|rfl|rfl|rfl|rfl|rfl
 ·have hR:ckR r=0:=by rw[ckR,kp_,hj 0 (by omega),hj 1 (by omega),hj 2 (by omega),hj 3 (by omega),hj 4 (by omega)];rfl
  refine cE ?_
  refine WP.exit ?_
  refine sH ?_
  refine WP.ret (ab_ ?_)
  simp -dsimp[hR]
 ·refine cU ?_
  refine WP.skip ?_
  simp -dsimp
  repeat(first|apply wG|(apply wR;simp -dsimp[rmC])|refine aI ?_)
  refine aa_ pN_ hs0 rfl rfl (by simp[rmD,rmC]) ?_
  refine sH ?_
  refine WP.cond (b := !c5 r 0) (by simp[c5]) (fun hc=>?_) (fun hc=>?_)
  ·have hc:c5 r 0=false:=by simpa using hc
   have hR:ckR r=440:=by rw[ckR,kp_,hc];simp
   refine sG ?_
   refine WP.ret (ab_ ?_)
   simp -dsimp[hR]
  ·have hc:c5 r 0=true:=by simpa using hc
   have w1:IntKind.i64.wrap (1:Int)=(1:Int):=by decide
   refine WP.skip ?_
   refine sH ?_
   refine loopW.next (ckS r 1) (ae_ [] (by simp[w1,rmC]) (by simp)) (5-1) (by omega) ⟨1,rfl,by omega,fun j hj1=>?_,rfl⟩
   rcases Nat.lt_or_eq_of_le (Nat.le_of_lt_succ hj1) with h1|rfl
   ·exact hj j h1
   ·exact hc
 ·refine cU ?_
  refine WP.skip ?_
  simp -dsimp
  repeat(first|apply wG|(apply wR;simp -dsimp[rmC])|refine aI ?_)
  refine aa_ pM_ hs1 rfl rfl (by simp[rmD,rmC]) ?_
  refine sH ?_
  refine WP.cond (b := !c5 r 1) (by simp[c5]) (fun hc=>?_) (fun hc=>?_)
  ·have hc:c5 r 1=false:=by simpa using hc
   have hR:ckR r=440:=by rw[ckR,kp_,hc];simp
   refine sG ?_
   refine WP.ret (ab_ ?_)
   simp -dsimp[hR]
  ·have hc:c5 r 1=true:=by simpa using hc
   have w1:IntKind.i64.wrap 2=2:=by decide
   refine WP.skip ?_
   refine sH ?_
   refine loopW.next (ckS r 2) (ae_ [] (by simp[w1,rmC]) (by simp)) (5-2) (by omega) ⟨2,rfl,by omega,fun j hj1=>?_,rfl⟩
   rcases Nat.lt_or_eq_of_le (Nat.le_of_lt_succ hj1) with h1|rfl
   ·exact hj j h1
   ·exact hc
 ·refine cU ?_
  refine WP.skip ?_
  simp -dsimp
  repeat(first|apply wG|(apply wR;simp -dsimp[rmC])|refine aI ?_)
  refine aa_ pL_ hs2 rfl rfl (by simp[rmD,rmC]) ?_
  refine sH ?_
  refine WP.cond (b := !c5 r 2) (by simp[c5]) (fun hc=>?_) (fun hc=>?_)
  ·have hc:c5 r 2=false:=by simpa using hc
   have hR:ckR r=440:=by rw[ckR,kp_,hc];simp
   refine sG ?_
   refine WP.ret (ab_ ?_)
   simp -dsimp[hR]
  ·have hc:c5 r 2=true:=by simpa using hc
   have w1:IntKind.i64.wrap 3=3:=by decide
   refine WP.skip ?_
   refine sH ?_
   refine loopW.next (ckS r 3) (ae_ [] (by simp[w1,rmC]) (by simp)) (5-3) (by omega) ⟨3,rfl,by omega,fun j hj1=>?_,rfl⟩
   rcases Nat.lt_or_eq_of_le (Nat.le_of_lt_succ hj1) with h1|rfl
   ·exact hj j h1
   ·exact hc
 ·refine cU ?_
  refine WP.skip ?_
  simp -dsimp
  repeat(first|apply wG|(apply wR;simp -dsimp[rmC])|refine aI ?_)
  have b2:=hj 2 (by omega)
  simp only[c5,Bool.and_eq_true,Bool.not_eq_true',decide_eq_true_eq] at b2
  have hs3:=o3_ r h b2.1 b2.2.1 b2.2.2
  refine aa_ pK_ hs3 rfl rfl (by simp[rmD,rmC]) ?_
  refine sH ?_
  refine WP.cond (b := !c5 r 3) (by simp[c5]) (fun hc=>?_) (fun hc=>?_)
  ·have hc:c5 r 3=false:=by simpa using hc
   have hR:ckR r=440:=by rw[ckR,kp_,hc];simp
   refine sG ?_
   refine WP.ret (ab_ ?_)
   simp -dsimp[hR]
  ·have hc:c5 r 3=true:=by simpa using hc
   have w1:IntKind.i64.wrap 4=4:=by decide
   refine WP.skip ?_
   refine sH ?_
   refine loopW.next (ckS r 4) (ae_ [] (by simp[w1,rmC]) (by simp)) (5-4) (by omega) ⟨4,rfl,by omega,fun j hj1=>?_,rfl⟩
   rcases Nat.lt_or_eq_of_le (Nat.le_of_lt_succ hj1) with h1|rfl
   ·exact hj j h1
   ·exact hc
 ·refine cU ?_
  refine WP.skip ?_
  simp -dsimp
  repeat(first|apply wG|(apply wR;simp -dsimp[rmC])|refine aI ?_)
  have b1:keyV r.seed r.many r.used=true:=hj 1 (by omega)
  have b2:=hj 2 (by omega)
  have b3:=hj 3 (by omega)
  simp only[c5,Bool.and_eq_true,Bool.not_eq_true',decide_eq_true_eq] at b2 b3
  have hdd:=aZ_.1 b2.1
  have hrl:=c9_ hdd.2.2
  have hsm:=bn_ hdd.2.2 hdd.1.2.1
  rw[b3.2.2] at hrl hsm
  have hs4:=lv_ r h b1 (by have:=hdd.1.2.1;omega) (fun b hb=>by have:=hsm b hb;omega)
  refine aa_ pJ_ hs4 rfl rfl (by simp[rmD,rmC]) ?_
  refine sH ?_
  refine WP.cond (b := !c5 r 4) (by simp[c5]) (fun hc=>?_) (fun hc=>?_)
  ·have hc:c5 r 4=false:=by simpa using hc
   have hR:ckR r=440:=by rw[ckR,kp_,hc];simp
   refine sG ?_
   refine WP.ret (ab_ ?_)
   simp -dsimp[hR]
  ·have hc:c5 r 4=true:=by simpa using hc
   have w1:IntKind.i64.wrap 5=5:=by decide
   refine WP.skip ?_
   refine sH ?_
   refine loopW.next (ckS r 5) (ae_ [] (by simp[w1,rmC]) (by simp)) (5-5) (by omega) ⟨5,rfl,by omega,fun j hj1=>?_,rfl⟩
   rcases Nat.lt_or_eq_of_le (Nat.le_of_lt_succ hj1) with h1|rfl
   ·exact hj j h1
   ·exact hc
end Go.Proofs.YtkcgffilldklcaaGreatDoor
