/-
  Joined texts.
-/
import Derived.Test.YtfgcgagcpnbgmaaGreatDoorGNc
import Derived.Test.YtfgcgagcpnbgmaaGreatDoorGJd
import Derived.Test.YtfgcgagcpnbgmaaGreatDoorGMa
import Derived.Test.YtfgcgagcpnbgmaaGreatDoorGG
import Derived.Test.YtfgcgagcpnbgmaaGreatDoorGA
import Derived.Test.YtfgcgagcpnbgmaaGreatDoorGTd
import Derived.Test.YtfgcgagcpnbgmaaGreatDoorGT
import Derived.Test.YtfgcgagcpnbgmaaGreatDoorGTo
set_option linter.all false
namespace Go.Proofs.YtfgcgagcpnbgmaaGreatDoor
open Go.Xe Go.RowKit
theorem mF_ {crew m:Int} {i:Nat} {b:By} (h:onK crew m i b=true) (hb:b.length≤1000000000000) :
  fOk (decF b).1∧(numF (decF b).1).2=true∧(decF b).1 0=crew∧(decF b).1 1=(i:Int)+1∧(i:Int)<m:=by
 rw[onK,decide_eq_true_eq] at h
 obtain⟨h1,h2,h3,h4⟩:=h
 refine⟨lA_ hb,?_,h2,h3,h4⟩
 rcases decF_val hb with⟨_,he⟩|⟨hne,_⟩
 ·by_cases hv:(numF (decF b).1).2=true
  ·exact hv
  ·rw[x2_ hv] at he
   have:=congrArg Prod.snd he
   simp at this
 ·exact absurd h1 hne
theorem mj_ (n:Nat) (hn:n<65536):Fn0 Tryz.prog 203 [.v (.int .i64 n)] (slB (twoB n)):=by
 have e0:(n:Int).fdiv (2^8)=((n/256:Nat):Int):=by
  rw[show ((2:Int)^8)=256 by decide,Int.fdiv_eq_ediv_of_nonneg _ (by decide)]
  omega
 have e1:IntKind.u8.wrap ((n/256:Nat):Int)=((UInt8.ofNat (n/256)).toNat:Int):=by rw[IntKind.wrap_u8,UInt8.toNat_ofNat'];omega
 have e2:IntKind.u8.wrap (n:Int)=((UInt8.ofNat n).toNat:Int):=by rw[IntKind.wrap_u8,UInt8.toNat_ofNat'];omega
 have e3:shN .i64 8=8:=by decide
 have e4:IntKind.u8.wrap ((n:Int).fdiv 256)=(n:Int)/256%256:=by rw[IntKind.wrap_u8,Int.fdiv_eq_ediv_of_nonneg _ (by decide)]
 have e5:IntKind.u8.wrap (n:Int)=(n:Int)%256:=IntKind.wrap_u8 _
 have eb:bys (twoB n)=[.v (.int .u8 ((UInt8.ofNat (n/256)).toNat:Int)),.v (.int .u8 ((UInt8.ofNat n).toNat:Int))]:=rfl
 rw[slB,eb]
 refine ad_ (pn:=an_) ac_ Tryz.func203 rfl fun β0=>?_
 simp only[Tryz.f203]
 repeat(first|apply wG|(apply wR;simp -dsimp[e0,e1,e2,e3])|refine aI ?_)
 refine WP.ret (aj_ (Wk.freeze (k:=8) (T:=5) (sz:=1) (n:=2) (ds:=[.v (.int .u8 ((UInt8.ofNat (n/256)).toNat:Int)),.v (.int .u8 ((UInt8.ofNat n).toNat:Int))]) (by simp[e4,e5])) ?_)
 simp -dsimp[twoB]
theorem q2_ (l:List Dg):bys l.flatten=dgL l:=by
 induction l with
 | nil=>rfl
 | cons d l ih=>rw[List.flatten_cons,dgL,← ih,bys,bys,bys,List.map_append]
theorem flat_len {l:List Dg} (h:a9_ l):l.flatten.length=l.length*32:=by rw[← ah_,q2_,aT_ h]
abbrev onS (l l1:List Dg):St:=mkS 20 [(0,.d (slG l)),(2,.ptr 2 0),(3,.row 500),(4,.d (.v (.int .i64 l1.length)))] [(2,.cells 87 ((bys z32).map .d)),(500,.row 5 1 (l1.length*32) ((dgL l1).map .d))]
set_option maxRecDepth 10000 in
theorem tk_ (hsum : ∀ b : List UInt8, b.length ≤ 100000 → Fn0 Tryz.prog 202 [slB b] (dD (gb_ b))) (l : List Dg) (hl : a9_ l) (hn : l.length ≤ 1000) : Fn0 Tryz.prog 153 [slG l] (dD (tagB (tB "one") l.flatten)) := by
 have fl:=flat_len hl
 have ht:=cy_ hsum ⟨#[111,110,101]⟩ (by decide) l.flatten (by omega)
 rw [show (⟨#[111, 110, 101]⟩ : ByteArray).data.toList = tB "one" by decide +kernel] at ht
 have ho : (tagB (tB "one") l.flatten).length = 32 := aH_ _ _
 rw[slB,q2_,fl] at ht
 generalize tagB (tB "one") l.flatten = r at *
 have htr:Fun Tryz.prog 148 [.d (.v (.string ⟨#[111,110,101]⟩)),.row 1000] [(1000,.row 5 1 (l.length*32) ((dgL l).map .d))] (.d (dD r)) [] fun _=>False:=bo_ 1000 (T:=5) (cs:=dgL l) (args':=[.d (.v (.string ⟨#[111,110,101]⟩)),.row 1000]) (bi':=[(1000,.row 5 1 (l.length*32) ((dgL l).map .d))]) ht rfl rfl trivial
 have lz:z32.length=32:=rfl
 refine ad_ (pn:=an_) ac_ Tryz.func153 rfl fun β0=>?_
 simp only[Tryz.f153]
 repeat(first|apply wG|(apply wR;simp -dsimp[slG])|refine aI ?_)
 refine ai_ (fun m S=>∃ l1 l2,l=l1++l2∧m=l2.length∧S=onS l l1) l.length (S0:=onS l []) (Wk.go [] 5 500 (by decide) (by simp[slG]) (by simp[slG]) (by simp[slG];try exact⟨rfl,rfl⟩)) ⟨[],l,rfl,rfl,rfl⟩ ?_
 rintro _ _ ⟨l1,l2,hl12,rfl,rfl⟩
 simp -dsimp[slG]
 refine sG ?_
 cases l2 with
 | nil =>
  simp only[List.append_nil] at hl12
  subst hl12
  refine cF (by simp) ?_
  refine WP.exit ?_
  simp -dsimp
  refine sG ?_
  refine vcStop.call bE_ (htr) (rl [(1000,500)]) rfl rfl (by simp[BoxLeq]) aGq (fun _ h=>h.elim) (fun ⟨_,h⟩=>h.elim) (fun ⟨_,h⟩=>h.elim) (by simp[BoxLeq]) ?_
  simp -dsimp[dD,ah_,lz]
  refine And.intro ⟨ho,fun a h=>ap_ h⟩ ?_
  repeat(first|apply wG|(apply wR;simp -dsimp[ah_,ho,lz])|refine aI ?_)
  refine WP.ret (ab_ ?_)
  simp -dsimp[setL_whole,ah_,ho,lz,aF_]
  exact al_ _
 | cons d l2 =>
  have hll:l.length=l1.length+(l2.length+1):=by rw[hl12];simp
  have hlt:l1.length<l.length:=by omega
  have hat:=gY_ hl l1.length hlt
  have hd32:=ea_ hl l1.length hlt
  have hde:digA l l1.length=d:=by rw[digA,hl12];simp
  rw[hde] at hat hd32
  have lC:=aT_ hl
  have e1:IntKind.i64.wrap ((l1.length:Int)+1)=(l1.length:Int)+1:=IntWalk.i64_in _ (by omega)
  have tb:List.take 32 ((bys d).map AV.d)=(bys d).map .d:=List.take_of_length_le (by rw[List.length_map,ah_];omega)
  have esn:dgL (l1++[d])=dgL l1++bys d:=dgL_snoc l1 d
  refine cT (by simp;omega) ?_
  refine WP.skip ?_
  simp -dsimp
  repeat(first|apply wG|(apply wR;simp -dsimp[hat,lC])|refine aI ?_)
  refine aw_ ac_ rfl rfl rfl rfl (by simp[hat,ah_,hd32,lC];try omega) (by decide) rfl ?_
  simp -dsimp[hat,ah_,hd32]
  repeat(first|apply wG|(apply wR;simp -dsimp[hat,ah_,hd32])|refine aI ?_)
  refine loopW.next (onS l (l1++[d])) (Wk.go [] 17 500 (by decide) (by simp[slG,tb]) (by simp[e1,slG]) (by simp[esn,slG,tb];try omega)) l2.length (by simp) ⟨l1++[d],l2,by simp[hl12],rfl,rfl⟩
end Go.Proofs.YtfgcgagcpnbgmaaGreatDoor
set_option maxRecDepth 10000
namespace Go.Proofs.YtfgcgagcpnbgmaaGreatDoor
open Go.Xe Go.RowKit
abbrev smS0 (a b:List Dg) (i:Nat):St:=mkS 26 [(0,.d (slG a)),(1,.d (slG b)),(5,.d (.v (.int .i64 i)))] []
theorem rd_:Tryz.prog.eqGuardType Tryz.prog.depth 87=false:=by kernel_rfl
theorem h6_ {x:Dg} (h:x.length=32):List.take 32 (bys x)=bys x:=List.take_of_length_le (by rw[ah_];omega)
set_option maxHeartbeats 4000000 in
theorem ip_ (a b:List Dg) (ha:a9_ a) (hb:a9_ b) (hna:a.length≤10000000000000) (hnb:b.length≤10000000000000):Fn0 Tryz.prog 119 [slG a,slG b] (.v (.bool (decide (a=b)))):=by
 refine ad_ (pn:=an_) ac_ Tryz.func119 rfl fun β0=>?_
 simp only[Tryz.f119]
 repeat(first|apply wG|(apply wR;simp -dsimp[slG])|refine aI ?_)
 by_cases hl:a.length=b.length
 ·refine cF (by simp[hl]) ?_
  refine WP.skip ?_
  simp -dsimp
  refine sG ?_
  refine ai_ (fun q S=>∃ i:Nat,q=a.length-i∧i≤a.length∧(∀ j,j<i→digA a j=digA b j)∧S=smS0 a b i) a.length (S0:=smS0 a b 0) (af_ [] (by simp[slG]) (by simp)) ⟨0,rfl,by omega,fun j h=>by omega,rfl⟩ ?_
  rintro _ _ ⟨i,rfl,hi,hj,rfl⟩
  simp -dsimp[slG]
  refine sG ?_
  by_cases hil:i<a.length
  ·have hib:i<b.length:=by omega
   have aa:=gY_ ha i hil
   have ab:=gY_ hb i hib
   have la:=ea_ ha i hil
   have lb:=ea_ hb i hib
   have ca:=aT_ ha
   have cb:=aT_ hb
   have ta:=h6_ la
   have tb:=h6_ lb
   have e1:IntKind.i64.wrap ((i:Int)+1)=((i+1:Nat):Int):=by rw[IntWalk.i64_in _ (by omega)];omega
   have hstep:digA a i=digA b i→∀ j,j<i+1→digA a j=digA b j:=fun h j hj1=>by
    rcases Nat.lt_or_ge j i with h1|h1
    ·exact hj j h1
    ·rw[show j=i by omega];exact h
   have hbad:digA a i≠digA b i→a≠b:=fun h e=>h (by rw[e])
   generalize digA a i=x at *
   generalize digA b i=y at *
   refine cT (by simp;omega) ?_
   refine WP.skip ?_
   simp -dsimp
   repeat(first|apply wG|(apply wR;simp -dsimp[aa,ab,ta,tb])|refine aI ?_)
   refine jT_ ac_ FH_ xH_ rfl (.inr rfl) (q:=4) (by omega) (T:=87) lM_ nm_ (by decide) rd_ (cs:=fL_ x) (es:=fL_ y) (by simp[cs_]) (by simp[cs_]) (by simp[fL_,la]) (by simp[fL_,lb]) (hY_ x) (hY_ y) (mM_ x y) ?_
   simp -dsimp[eqRes]
   refine sG ?_
   by_cases hxy:x=y
   ·refine cF (by simp[eqRes,hxy]) ?_
    refine WP.skip ?_
    simp -dsimp
    refine sG ?_
    refine loopW.next (smS0 a b (i+1)) (af_ [] (by simp[e1,slG]) (by simp)) (a.length-(i+1)) (by omega) ⟨i+1,rfl,by omega,hstep hxy,rfl⟩
   ·refine cT (by simp[eqRes,hxy]) ?_
    have hr:decide (a=b)=false:=decide_eq_false (hbad hxy)
    refine sG ?_
    refine WP.ret (ab_ ?_)
    simp -dsimp[hr]
  ·refine cF (by simp;omega) ?_
   refine WP.exit ?_
   have hr:decide (a=b)=true:=decide_eq_true (h3_ hl fun j h=>hj j (by omega))
   simp -dsimp
   refine sG ?_
   refine WP.ret (ab_ ?_)
   simp -dsimp[hr]
 ·refine cT (by simp;omega) ?_
  have hr:decide (a=b)=false:=decide_eq_false fun h=>hl (by rw[h])
  refine sG ?_
  refine WP.ret (ab_ ?_)
  simp -dsimp[hr]
theorem io_ (k k':Int) (o c p o' c' p':List Dg) (h:sigG k o c p) (h':sigG k' o' c' p'):∃ r,Fn0 Tryz.prog 69 [.agg (f3_ k o c p),.agg (f3_ k' o' c' p')] (.v (.bool r))∧(r=true↔k=k'∧o=o'∧c=c'∧p=p'):=by
 have k1:=ip_ o o' h.ho h'.ho h.no h'.no
 have k2:=ip_ c c' h.hc h'.hc h.nc h'.nc
 have k3:=ip_ p p' h.hp h'.hp h.np h'.np
 have e:(decide (k=k')&&(decide (o=o')&&(decide (c=c')&&decide (p=p'))))=true↔k=k'∧o=o'∧c=c'∧p=p':=by simp
 refine⟨_,?_,e⟩
 generalize decide (o=o')=b1 at *
 generalize decide (c=c')=b2 at *
 generalize decide (p=p')=b3 at *
 clear e
 by_cases hk:k=k'
 ·subst hk
  refine ad_ (pn:=an_) ac_ Tryz.func69 rfl fun β0=>?_
  simp only[Tryz.f69]
  repeat(first|apply wG|(apply wR;simp -dsimp[f3_,slG])|refine aI ?_)
  refine ae_ eo_ (fun _=>k1) rfl (fun _=>rfl) (fun _=>by simp[slG]) ?_
  cases b1 with
  | false =>
   simp -dsimp
   refine sG ?_
   refine vcStopG.skip (.d (.v (.bool false))) ?_
   simp -dsimp
   refine sG ?_
   refine vcStopG.skip (.d (.v (.bool false))) ?_
   simp -dsimp
   refine sG ?_
   refine WP.ret (ab_ ?_)
   simp -dsimp
  | true =>
   simp -dsimp
   refine sG ?_
   refine ae_ eo_ (fun _=>k2) rfl (fun _=>rfl) (fun _=>by simp[slG]) ?_
   cases b2 with
   | false =>
    simp -dsimp
    refine sG ?_
    refine vcStopG.skip (.d (.v (.bool false))) ?_
    simp -dsimp
    refine sG ?_
    refine WP.ret (ab_ ?_)
    simp -dsimp
   | true =>
    simp -dsimp
    refine sG ?_
    refine ae_ eo_ (fun _=>k3) rfl (fun _=>rfl) (fun _=>by simp[slG]) ?_
    simp -dsimp
    refine sG ?_
    refine WP.ret (ab_ ?_)
    simp -dsimp
 ·have hd:decide (k=k')=false:=decide_eq_false hk
  refine ad_ (pn:=an_) ac_ Tryz.func69 rfl fun β0=>?_
  simp only[Tryz.f69]
  repeat(first|apply wG|(apply wR;simp -dsimp[f3_,slG,hd])|refine aI ?_)
  refine vcStopG.skip (.d (.v (.bool false))) ?_
  simp -dsimp
  refine sG ?_
  refine vcStopG.skip (.d (.v (.bool false))) ?_
  simp -dsimp
  refine sG ?_
  refine vcStopG.skip (.d (.v (.bool false))) ?_
  simp -dsimp
  refine sG ?_
  refine WP.ret (ab_ ?_)
  simp -dsimp[hd]
theorem sQ_ {k k':Int} {o c p o' c' p':List Dg} (h:sigG k o c p) (h':sigG k' o' c' p') (e:f3_ k o c p=f3_ k' o' c' p'):k=k'∧o=o'∧c=c'∧p=p':=by
 have key:∀ {a b:List Dg},a9_ a→a9_ b→dgL a=dgL b→a.length=b.length→a=b:=fun {a b} ha hb e hl=>by
  rw[← dS_ ha,e,hl,dS_ hb]
 simp only[f3_,slG,List.cons.injEq,D.v.injEq,Value.int.injEq,D.sl.injEq,true_and,and_true] at e
 obtain⟨e1,⟨e2,n2⟩,⟨e3,n3⟩,e4,n4⟩:=e
 exact⟨e1,key h.ho h'.ho e2 n2,key h.hc h'.hc e3 n3,key h.hp h'.hp e4 n4⟩
theorem ry_ (p q:Sg) (hp:dN_ p) (hq:dN_ q) (up:sgT p) (uq:sgT q):∃ r,Fn0 Tryz.prog 28 [sgV p,sgV q] (.v (.bool r))∧(p=q→r=true):=by
 have k1:=j2_ p.1 q.1 hp.1 hq.1
 have l1:=bu_ hp
 have l2:=bu_ hq
 have h57:=jY_ p
 have g57:=jY_ q
 have h4:List.take 4 (List.drop 57 ((sgc p).map AV.d))=p.2.map .d:=by rw[← List.map_drop,← List.map_take,do_ hp]
 have g4:List.take 4 (List.drop 57 ((sgc q).map AV.d))=q.2.map .d:=by rw[← List.map_drop,← List.map_take,do_ hq]
 obtain⟨k,op,cl,pa,e,hg⟩:=up
 obtain⟨k',op',cl',pa',e',hg'⟩:=uq
 obtain⟨r2,k2,hr2⟩:=io_ k k' op cl pa op' cl' pa' hg hg'
 rw[← e,← e'] at k2
 have hr:p=q→(eqF p.1 q.1&&r2)=true:=fun h=>by
  subst h
  rw[(gD_ hp.1 hp.1).2 rfl,hr2.2 (sQ_ hg hg' (e.symm.trans e'))]
  rfl
 refine⟨_,?_,hr⟩
 clear hr hr2 hg hg' e e'
 generalize eqF p.1 q.1=b1 at k1
 simp only[sgV]
 refine ad_ (pn:=an_) ac_ Tryz.func28 rfl fun β0=>?_
 simp only[Tryz.f28]
 refine sG ?_
 refine And.intro (sgc_oneD hp) ?_
 refine sG ?_
 refine And.intro (sgc_oneD hq) ?_
 repeat(first|apply wG|(apply wR;simp -dsimp[h57,h4,g57,g4])|refine aI ?_)
 refine ao_ ji_ k1 rfl rfl (And.intro (by simp[fD]) (And.intro (by simp[fD]) trivial)) ?_
 cases b1 with
 | true =>
  simp -dsimp
  repeat(first|apply wG|(apply wR;simp -dsimp[h57,h4,g57,g4])|refine aI ?_)
  refine cZ_ jh_ (fun _=>k2) rfl (fun _=>rfl) (fun _=>And.intro (by simp[h4]) (And.intro (by simp[g4]) trivial)) ?_
  simp -dsimp
  refine sG ?_
  refine WP.ret (ab_ ?_)
  simp -dsimp
 | false =>
  simp -dsimp
  repeat(first|apply wG|(apply wR;simp -dsimp[h57,h4,g57,g4])|refine aI ?_)
  refine vcStopG.skip (.d (.v (.bool false))) ?_
  simp -dsimp
  refine sG ?_
  refine WP.ret (ab_ ?_)
  simp -dsimp
def i1_ (f:Nat→Bool) (i:Nat):List Bool:=(List.range i).map f
theorem sn_ (f:Nat→Bool) (i:Nat):i1_ f (i+1)=i1_ f i++[f i]:=by simp[i1_,List.range_succ]
theorem u4_ (f:Nat→Bool) (i:Nat):(i1_ f i).length=i:=by simp[i1_]
abbrev btS (g:List UInt8) (f:Nat→Bool) (i:Nat):St:=mkS 46 [(8,.ptr 8 0),(9,.row 500),(10,.d (.v (.int .i64 i)))] [(8,.cells 87 ((bys g).map .d)),(500,.row 4 1 i ((boD (i1_ f i)).map .d))]
set_option maxRecDepth 10000 in
set_option maxHeartbeats 4000000 in
theorem rN_ (hsum:∀ b:List UInt8,b.length≤100000→Fn0 Tryz.prog 202 [slB b] (dD (gb_ b))) (root:Dg) (hr:root.length=32) (index:Nat) (hi:index<4096) (msg:List UInt8) (hm:msg.length≤65536) :
  Fn0 Tryz.prog 177 [dD root,.v (.int .i64 index),slB msg] (.sl 1 (boD (sgnB root index msg)) 64 false):=by
 have h63:=mj_ index (by omega)
 have l2:(twoB index).length=2:=rfl
 obtain⟨tw,htw⟩:∃ t,twoB index=t:=⟨_,rfl⟩
 rw[htw] at h63 l2
 have ht:=cy_ hsum ⟨#[109,101,115,115,97,103,101]⟩ (by decide) (root++(tw++msg)) (by simp;omega)
 rw [show (⟨#[109, 101, 115, 115, 97, 103, 101]⟩ : ByteArray).data.toList = tB "message" by decide +kernel] at ht
 have hl : (tagB (tB "message") (root ++ (tw ++ msg))).length = 32 := aH_ _ _
 have hf : ∀ j, bitB root index msg j = (((byA (tagB (tB "message") (root ++ (tw ++ msg))) (j / 8)).toNat / 2 ^ (7 - j % 8)) % 2 == 1) := fun j => by rw [bitB, htw]
 have hs:i1_ (bitB root index msg) 64=sgnB root index msg:=rfl
 generalize tagB (tB "message") (root ++ (tw ++ msg)) = g at *
 have hlen:(root++(tw++msg)).length=34+msg.length:=by simp;omega
 rw[slB,hlen] at ht
 have htr:Fun Tryz.prog 148 [.d (.v (.string ⟨#[109,101,115,115,97,103,101]⟩)),.row 1000] [(1000,.row 5 1 (34+msg.length) ((bys (root++(tw++msg))).map .d))] (.d (dD g)) [] fun _=>False:=bo_ 1000 (T:=5) (cs:=bys (root++(tw++msg))) (args':=[.d (.v (.string ⟨#[109,101,115,115,97,103,101]⟩)),.row 1000]) (bi':=[(1000,.row 5 1 (34+msg.length) ((bys (root++(tw++msg))).map .d))]) ht rfl rfl trivial
 have eb:bys (root++(tw++msg))=bys root++(bys tw++bys msg):=by rw[bys,bys,bys,bys,List.map_append,List.map_append]
 generalize bitB root index msg=f at *
 rw[← hs]
 refine ad_ (pn:=an_) ac_ Tryz.func177 rfl fun β0=>?_
 simp only[Tryz.f177]
 refine WP.seq ?_
 refine WP.region ac_ ?_
 simp -dsimp[dD,ah_,hr]
 refine And.intro (fun a h=>ap_ h) ?_
 refine ar_ (aR_ (k:=3) (T:=87) (ds:=bys root) (by simp[ah_,hr])) ?_
 simp -dsimp[fS_,fzc,de_,op_]
 refine sG ?_
 refine cF (by simp;omega) ?_
 refine WP.skip ?_
 simp -dsimp
 refine sG ?_
 refine aw_ ac_ rfl rfl rfl rfl (by simp[ah_,hr]) (by decide) rfl ?_
 simp -dsimp[bM_,hr,slB]
 repeat(first|apply wG|(apply wR;simp -dsimp[slB,ah_,hr])|refine aI ?_)
 refine aa_ he_ h63 rfl rfl (by simp) ?_
 simp -dsimp[slB]
 repeat(first|apply wG|(apply wR;simp -dsimp[slB,ah_,l2,hr])|refine aI ?_)
 refine vcStop.call bE_ (htr) (rl [(1000,25)]) rfl rfl (by simp[eb,hr,l2,BoxLeq]) (ag_ (by simp[eb,hr,l2,BoxLeq]) rfl (by first|rfl|(simp[eb,hr,l2,BoxLeq];done)) (by simp[eb,hr,l2,BoxLeq]) (by simp[eb,hr,l2,BoxLeq])) (fun _ h=>h.elim) (fun ⟨_,h⟩=>h.elim) (fun ⟨_,h⟩=>h.elim) (by simp[eb,hr,l2,BoxLeq]) ?_
 simp -dsimp[dD]
 refine And.intro ⟨hl,fun a h=>ap_ h⟩ ?_
 refine sG ?_
 refine ai_ (fun q S=>∃ i:Nat,q=64-i∧i≤64∧S=btS g f i) 64 (S0:=btS g f 0) (Wk.go [] 27 500 (by decide) (by simp[setL_whole,ah_,hl]) (by simp[setL_whole,ah_,hl]) (by simp[setL_whole,ah_,hl,boD,i1_])) ⟨0,rfl,by omega,rfl⟩ ?_
 rintro _ _ ⟨i,rfl,hi6,rfl⟩
 simp -dsimp
 refine sG ?_
 by_cases hi64:i<64
 ·refine cT (by simp;omega) ?_
  refine WP.skip ?_
  obtain⟨q,hq⟩:∃ q,i/8=q:=⟨_,rfl⟩
  obtain⟨m,hm8⟩:∃ m,i%8=m:=⟨_,rfl⟩
  have k0:(i:Int).tmod 8=(m:Int):=by rw[Int.tmod_eq_emod_of_nonneg (by omega)];omega
  have k1:IntKind.i64.wrap ((i:Int)/8)=(q:Int):=by rw[IntWalk.i64_in _ (by omega)];omega
  have k2:IntKind.i64.wrap (m:Int)=(m:Int):=by rw[IntWalk.i64_in _ (by omega)]
  have k3:IntKind.i64.wrap (7-(m:Int))=((7-m:Nat):Int):=by rw[IntWalk.i64_in _ (by omega)];omega
  have k5:IntKind.i64.wrap ((i:Int)+1)=((i+1:Nat):Int):=by rw[IntWalk.i64_in _ (by omega)];omega
  have h2:q<32:=by omega
  have hat:=pm_ g q (by omega)
  have hfi:=hf i
  rw[hq,hm8] at hfi
  obtain⟨s,hs7⟩:∃ s,7-m=s:=⟨_,rfl⟩
  rw[hs7] at k3 hfi
  have k4:shN .u8 (s:Int)=s:=by simp[shN,IntKind.bits];omega
  have hx:=(byA g q).toNat_lt
  have k6:((byA g q).toNat:Int).fdiv (2^s)=(((byA g q).toNat/2^s:Nat):Int):=by
   rw[show ((2:Int)^s)=((2^s:Nat):Int) by simp,Int.fdiv_eq_ediv_of_nonneg _ (Int.natCast_nonneg _)];exact (Int.natCast_ediv _ _).symm
  have hy:(byA g q).toNat/2^s<256:=Nat.lt_of_le_of_lt (Nat.div_le_self _ _) hx
  obtain⟨y,hye⟩:∃ y,(byA g q).toNat/2^s=y:=⟨_,rfl⟩
  rw[hye] at k6 hy hfi
  have k7:=u7_ y hy
  obtain⟨z,hz⟩:∃ z,y%2=z:=⟨_,rfl⟩
  rw[hz] at k7 hfi
  have hbe:decide ((z:Int)=1)=f i:=by
   rw[hfi,Bool.eq_iff_iff];simp;omega
  have hn:boD (i1_ f (i+1))=boD (i1_ f i)++[.v (.bool (f i))]:=by rw[sn_];simp[boD]
  have hlo:=u4_ f i
  simp -dsimp
  repeat(first|apply wG|(apply wR;simp -dsimp[k0,k1,k2,k3,k4,k6,k7,hat,h2,hl,ah_,hbe])|refine aI ?_)
  refine loopW.next (btS g f (i+1)) (Wk.go [] 44 500 (by decide) (by simp) (by simp[k5]) (by simp[hn])) (64-(i+1)) (by omega) ⟨i+1,rfl,by omega,rfl⟩
 ·refine cF (by simp;omega) ?_
  refine WP.exit ?_
  obtain rfl:i=64:=by omega
  simp -dsimp
  refine sG ?_
  refine WP.ret (aj_ (Wk.freeze (k:=500) (T:=4) (sz:=1) (n:=64) (ds:=boD (i1_ f 64)) (by simp)) ?_)
  simp -dsimp
set_option maxRecDepth 10000 in
theorem rK_ (hsum:∀ b:List UInt8,b.length≤100000→Fn0 Tryz.prog 202 [slB b] (dD (gb_ b))) (a b:Dg) (ha:a.length=32) (hb:b.length=32):Fn0 Tryz.prog 150 [dD a,dD b] (dD (nodeB a b)):=by
 have ht:=cy_ hsum ⟨#[110,111,100,101]⟩ (by decide) (a++b) (by simp;omega)
 rw [show (⟨#[110, 111, 100, 101]⟩ : ByteArray).data.toList = tB "node" by decide +kernel, show tagB (tB "node") (a ++ b) = nodeB a b from rfl] at ht
 have ho:(nodeB a b).length=32:=iE_ _ _
 have hlen:(a++b).length=64:=by simp;omega
 have eb:bys (a++b)=bys a++bys b:=by rw[bys,bys,bys,List.map_append]
 rw[slB,hlen] at ht
 generalize nodeB a b=r at *
 have htr:Fun Tryz.prog 148 [.d (.v (.string ⟨#[110,111,100,101]⟩)),.row 1000] [(1000,.row 5 1 64 ((bys (a++b)).map .d))] (.d (dD r)) [] fun _=>False:=bo_ 1000 (T:=5) (cs:=bys (a++b)) (args':=[.d (.v (.string ⟨#[110,111,100,101]⟩)),.row 1000]) (bi':=[(1000,.row 5 1 64 ((bys (a++b)).map .d))]) ht rfl rfl trivial
 refine ad_ (pn:=an_) ac_ Tryz.func150 rfl fun β0=>?_
 simp only[Tryz.f150]
 refine WP.seq ?_
 refine WP.region ac_ ?_
 simp -dsimp[dD,ah_,ha,hb]
 refine And.intro (fun a h=>ap_ h) ?_
 refine And.intro (fun a h=>ap_ h) ?_
 refine ar_ (aR_ (k:=2) (T:=87) (ds:=bys a) (by simp[ah_,ha])) ?_
 simp -dsimp[fS_,fzc,de_,op_]
 refine ar_ (aR_ (k:=3) (T:=87) (ds:=bys b) (by simp[ah_,hb])) ?_
 simp -dsimp[fS_,fzc,de_,op_]
 refine sG ?_
 refine aw_ ac_ rfl rfl rfl rfl (by simp[ah_,ha]) (by decide) rfl ?_
 simp -dsimp[bM_,ha]
 repeat(first|apply wG|(apply wR;simp -dsimp[ah_,ha])|refine aI ?_)
 refine aw_ ac_ rfl rfl rfl rfl (by simp[ah_,hb]) (by decide) rfl ?_
 simp -dsimp[bM_,ha,hb]
 repeat(first|apply wG|(apply wR;simp -dsimp[ah_,ha,hb])|refine aI ?_)
 refine vcStop.call bE_ (htr) (rl [(1000,9)]) rfl rfl (by simp[eb,BoxLeq]) (ag_ (by simp[eb,BoxLeq]) rfl (by first|rfl|(simp[eb,BoxLeq];done)) (by simp[eb,BoxLeq]) (by simp[eb,BoxLeq])) (fun _ h=>h.elim) (fun ⟨_,h⟩=>h.elim) (fun ⟨_,h⟩=>h.elim) (by simp[eb,BoxLeq]) ?_
 simp -dsimp[dD]
 refine And.intro ⟨ho,fun a h=>ap_ h⟩ ?_
 repeat(first|apply wG|(apply wR;simp -dsimp[ah_,ho])|refine aI ?_)
 refine WP.ret (ab_ ?_)
 simp -dsimp[setL_whole,ah_,ho,aF_]
 exact al_ _
def hshL (f:Nat→Bool→Dg):Nat→List Dg
 | 0=>[]
 | j+1=>hshL f j++[f j false,f j true]
theorem qG_ (f:Nat→Bool→Dg):∀ j,(hshL f j).length=2*j
 | 0=>rfl
 | j+1=>by rw[hshL,List.length_append,qG_ f j];simp;omega
theorem mT_ (f:Nat→Bool→Dg):∀ j,(hshL f j).flatten=sv_ f j
 | 0=>rfl
 | j+1=>by rw[hshL,List.flatten_append,mT_ f j,sv_];simp
theorem ub_ {f:Nat→Bool→Dg} (h:∀ j b,(f j b).length=32):∀ j,a9_ (hshL f j)
 | 0=>fun d hd=>by cases hd
 | j+1=>fun d hd=>by
  rcases List.mem_append.1 hd with hd|hd
  ·exact ub_ h j d hd
  ·simp at hd
   rcases hd with rfl|rfl
   ·exact h _ _
   ·exact h _ _
theorem wo_ (f : Nat → Bool → Dg) : tagB (tB "one") (hshL f 64).flatten = pubB f := by rw [mT_]; rfl
theorem Ey_ {a b:Dg} (ha:a.length=32) (hb:b.length=32) (Z:List AV) (hZ:Z.length=64):setL (setL Z 0 ((bys a).map .d)) 32 ((bys b).map .d)=(bys a).map .d++(bys b).map .d:=by
 have la:((bys a).map AV.d).length=32:=by rw[List.length_map,ah_,ha]
 have lb:((bys b).map AV.d).length=32:=by rw[List.length_map,ah_,hb]
 have e:setL Z 0 ((bys a).map AV.d)=(bys a).map .d++Z.drop 32:=by
  rw[oI_ _ _ _ (by omega),List.take_zero,List.nil_append,la]
 rw[e,oI_ _ _ _ (by simp[la,lb,hZ]),lb,List.take_left' la,List.drop_of_length_le (by simp[ah_,ha,hZ]),List.append_nil]
end Go.Proofs.YtfgcgagcpnbgmaaGreatDoor
set_option maxRecDepth 10000
set_option maxHeartbeats 4000000
namespace Go.Proofs.YtfgcgagcpnbgmaaGreatDoor
open Go.Xe Go.RowKit
theorem dq_ (seed:List UInt8) (m u:Int):Fn0 Tryz.prog 51 [keyD seed m u] (.v (.bool (keyV seed m u))):=by
 refine ad_ (pn:=an_) ac_ Tryz.func51 rfl fun β0=>?_
 simp only[Tryz.f51]
 repeat(first|apply wG|(apply wR;simp -dsimp[keyD,slB])|refine aI ?_)
 refine WP.ret (ab_ ?_)
 simp -dsimp
 refine FF_ ?_
 rw[Bool.eq_iff_iff,keyV,decide_eq_true_iff]
 simp
 omega
def bI (b:Bool):Int:=if b=true then 1 else 0
theorem cM_ (hsum:∀ b:List UInt8,b.length≤100000→Fn0 Tryz.prog 202 [slB b] (dD (gb_ b))) (seed:List UInt8) (hs:seed.length≤1000) (m u:Int) (i:Nat) (hi:i<65536) (j:Nat) (hj:j<64) (b:Bool) :
  Fn0 Tryz.prog 152 [keyD seed m u,.v (.int .i64 i),.v (.int .i64 j),.v (.int .i64 (bI b))] (dD (secretB seed i j b)):=by
 have h183:=mj_ i hi
 have l2:(twoB i).length=2:=rfl
 have e1:IntKind.u8.wrap (j:Int)=((UInt8.ofNat j).toNat:Int):=by rw[IntKind.wrap_u8,UInt8.toNat_ofNat'];omega
 have e2:IntKind.u8.wrap (bI b)=(((if b=true then 1 else 0:UInt8)).toNat:Int):=by cases b<;>decide
 have ho:(secretB seed i j b).length=32:=aH_ _ _
 rw[secretB] at ho ⊢
 generalize (if b=true then 1 else 0:UInt8)=b1 at *
 generalize UInt8.ofNat j=j1 at *
 generalize twoB i=tw at *
 have ht:=cy_ hsum ⟨#[115,101,99,114,101,116]⟩ (by decide) (seed++(tw++[j1,b1])) (by simp;omega)
 rw [show (⟨#[115, 101, 99, 114, 101, 116]⟩ : ByteArray).data.toList = tB "secret" by decide +kernel] at ht
 have hlen:(seed++(tw++[j1,b1])).length=seed.length+4:=by simp;omega
 rw[slB,hlen] at ht
 have eb:bys (seed++(tw++[j1,b1]))=bys seed++(bys tw++[D.v (.int .u8 (j1.toNat:Int)),D.v (.int .u8 (b1.toNat:Int))]):=by rw[bys,bys,bys,List.map_append,List.map_append];rfl
 rw[eb] at ht
 generalize tagB (tB "secret") (seed ++ (tw ++ [j1, b1])) = r at *
 have htr:Fun Tryz.prog 148 [.d (.v (.string ⟨#[115,101,99,114,101,116]⟩)),.row 1000] [(1000,.row 5 1 (seed.length+4) ((bys seed++(bys tw++[D.v (.int .u8 (j1.toNat:Int)),D.v (.int .u8 (b1.toNat:Int))])).map .d))] (.d (dD r)) [] fun _=>False:=bo_ 1000 (T:=5) (cs:=bys seed++(bys tw++[D.v (.int .u8 (j1.toNat:Int)),D.v (.int .u8 (b1.toNat:Int))])) (args':=[.d (.v (.string ⟨#[115,101,99,114,101,116]⟩)),.row 1000]) (bi':=[(1000,.row 5 1 (seed.length+4) ((bys seed++(bys tw++[D.v (.int .u8 (j1.toNat:Int)),D.v (.int .u8 (b1.toNat:Int))])).map .d))]) ht rfl rfl trivial
 refine ad_ (pn:=an_) ac_ Tryz.func152 rfl fun β0=>?_
 simp only[Tryz.f152]
 repeat(first|apply wG|(apply wR;simp -dsimp[keyD,slB])|refine aI ?_)
 refine aa_ he_ h183 rfl rfl (by simp) ?_
 simp -dsimp[slB]
 repeat(first|apply wG|(apply wR;simp -dsimp[slB,ah_,l2,e1,e2])|refine aI ?_)
 refine vcStop.call bE_ (htr) (rl [(1000,23)]) rfl rfl (by simp[l2,BoxLeq]) (ag_ (by simp[l2,BoxLeq]) rfl (by first|rfl|(simp[l2,BoxLeq];done)) (by simp[l2,BoxLeq]) (by simp[l2,BoxLeq])) (fun _ h=>h.elim) (fun ⟨_,h⟩=>h.elim) (fun ⟨_,h⟩=>h.elim) (by simp[l2,BoxLeq]) ?_
 simp -dsimp[dD]
 refine And.intro ⟨ho,fun a h=>ap_ h⟩ ?_
 repeat(first|apply wG|(apply wR;simp -dsimp[ah_,ho])|refine aI ?_)
 refine WP.ret (ab_ ?_)
 simp -dsimp[setL_whole,ah_,ho,aF_]
 exact al_ _
theorem zn_ (seed:List UInt8) (i:Nat) (j:Nat) (b:Bool):(keyH seed i j b).length=32:=aH_ _ _
abbrev kyB (seed:List UInt8) (m u:Int) (i:Nat):Bxs:=[(1,.cells 24 [.d (slB seed),.d (.v (.int .i64 m)),.d (.v (.int .i64 u))]),(500,.row 87 32 i ((dgL (pubsB seed i)).map .d))]
abbrev kyS (seed:List UInt8) (m u:Int) (i:Nat):St:=mkS 38 [(1,.ptr 1 0),(3,.row 500),(4,.d (.v (.int .i64 i)))] (kyB seed m u i)
abbrev kyT (seed:List UInt8) (m u:Int) (i j:Nat):St:=mkS 38 [(1,.ptr 1 0),(3,.row 500),(4,.d (.v (.int .i64 i))),(5,.row 501),(6,.d (.v (.int .i64 j)))] (kyB seed m u i++[(501,.row 87 32 (2*j) ((dgL (hshL (keyH seed i) j)).map .d))])
theorem j3_ (hsum:∀ b:List UInt8,b.length≤100000→Fn0 Tryz.prog 202 [slB b] (dD (gb_ b))) (seed:List UInt8) (hs:seed.length≤1000) (m:Nat) (hm:m≤4096) (u:Int):Fn0 Tryz.prog 85 [keyD seed m u] (slG (pubsB seed m)):=by
 refine ad_ (pn:=an_) ac_ Tryz.func85 rfl fun β0=>?_
 simp only[Tryz.f85]
 repeat(first|apply wG|(apply wR;simp -dsimp[keyD,slB])|refine aI ?_)
 refine ai_ (fun q S=>∃ i:Nat,q=m-i∧i≤m∧S=kyS seed m u i) m (S0:=kyS seed m u 0) (Wk.go [] 7 500 (by decide) (by simp) (by simp) (by simp[slB,pubsB,dgL])) ⟨0,rfl,by omega,rfl⟩ ?_
 rintro _ _ ⟨i,rfl,hi,rfl⟩
 simp -dsimp
 refine sG ?_
 by_cases him:i<m
 ·refine cT (by simp;omega) ?_
  refine WP.skip ?_
  have e1:IntKind.i64.wrap ((i:Int)+1)=((i+1:Nat):Int):=by rw[IntWalk.i64_in _ (by omega)];omega
  have h32:=ub_ (zn_ seed i)
  have lh:=qG_ (keyH seed i)
  have hdl:=aT_ (ex_ seed i)
  have hpl:=bw_ seed i
  simp -dsimp[slB]
  repeat(first|apply wG|(apply wR;simp -dsimp[slB])|refine aI ?_)
  refine ai_ (fun q S=>∃ j:Nat,q=64-j∧j≤64∧S=kyT seed m u i j) 64 (S0:=kyT seed m u i 0) (Wk.go [] 14 501 (by decide) (by simp) (by simp) (by simp[slB,hshL,dgL])) ⟨0,rfl,by omega,rfl⟩ ?_
  rintro _ _ ⟨j,rfl,hj,rfl⟩
  simp -dsimp
  refine sG ?_
  by_cases hj64:j<64
  ·refine cT (by simp;omega) ?_
   refine WP.skip ?_
   have e2:IntKind.i64.wrap ((j:Int)+1)=((j+1:Nat):Int):=by rw[IntWalk.i64_in _ (by omega)];omega
   have k0:=cM_ hsum seed hs m u i (by omega) j hj64 false
   have k1:=cM_ hsum seed hs m u i (by omega) j hj64 true
   have l0:(secretB seed i j false).length=32:=aH_ _ _
   have l1:(secretB seed i j true).length=32:=aH_ _ _
   have o0:=gj_ hsum (secretB seed i j false) l0
   have o1:=gj_ hsum (secretB seed i j true) l1
   have hnx:hshL (keyH seed i) (j+1)=hshL (keyH seed i) j++[openB (secretB seed i j false),openB (secretB seed i j true)]:=rfl
   have p0:(openB (secretB seed i j false)).length=32:=aH_ _ _
   have p1:(openB (secretB seed i j true)).length=32:=aH_ _ _
   have lhj:=lh j
   have ldj:=aT_ (h32 j)
   rw[show bI false=0 from rfl] at k0
   rw[show bI true=1 from rfl] at k1
   generalize openB (secretB seed i j false)=q0 at *
   generalize openB (secretB seed i j true)=q1 at *
   generalize secretB seed i j false=r0 at *
   generalize secretB seed i j true=r1 at *
   generalize hshL (keyH seed i) j=H at *
   have hsn:dgL (H++[q0,q1])=dgL H++(bys q0++bys q1):=by rw[gG_,dgL,dgL,dgL,List.append_nil]
   simp -dsimp[slB]
   repeat(first|apply wG|(apply wR;simp -dsimp[slB])|refine aI ?_)
   refine aa_ bU_ k0 rfl rfl (by simp[keyD,slB]) ?_
   simp -dsimp
   refine sG ?_
   refine ao_ cY_ o0 rfl rfl (And.intro (.refl _) trivial) ?_
   simp -dsimp
   repeat(first|apply wG|(apply wR;simp -dsimp[slB])|refine aI ?_)
   refine aa_ bU_ k1 rfl rfl (by simp[keyD,slB]) ?_
   simp -dsimp
   refine sG ?_
   refine ao_ cY_ o1 rfl rfl (And.intro (.refl _) trivial) ?_
   simp -dsimp[dD,ah_,p0,p1,dp_,Ey_ p0 p1]
   refine And.intro ⟨fun a h=>ap_ h,fun a h=>ap_ h⟩ ?_
   refine sG ?_
   refine loopW.next (kyT seed m u i (j+1)) (Wk.go [30] 31 501 (by decide) (by simp) (by simp[e2]) (by simp[slB,hnx,hsn];try omega)) (64-(j+1)) (by omega) ⟨j+1,rfl,by omega,rfl⟩
  ·refine cF (by simp;omega) ?_
   refine WP.exit ?_
   obtain rfl:j=64:=by omega
   have hon:=tk_ hsum (hshL (keyH seed i) 64) (h32 64) (by rw[lh];omega)
   rw[wo_,slG,show (hshL (keyH seed i) 64).length=128 from lh 64] at hon
   have lp:=hT_ (keyH seed i)
   have hsu:=j5_ seed i
   have honr:Fun Tryz.prog 153 [.row 1000] [(1000,.row 87 32 128 ((dgL (hshL (keyH seed i) 64)).map .d))] (.d (dD (pubB (keyH seed i)))) [] fun _=>False:=bo_ 1000 (T:=87) (cs:=dgL (hshL (keyH seed i) 64)) (args':=[.row 1000]) (bi':=[(1000,.row 87 32 128 ((dgL (hshL (keyH seed i) 64)).map .d))]) hon rfl rfl trivial
   generalize pubB (keyH seed i)=P at *
   generalize hshL (keyH seed i) 64=H at *
   simp -dsimp[slB]
   refine sG ?_
   refine vcStop.call nU_ (honr) (rl [(1000,501)]) rfl rfl (by simp[BoxLeq]) aGq (fun _ h=>h.elim) (fun ⟨_,h⟩=>h.elim) (fun ⟨_,h⟩=>h.elim) (by simp[BoxLeq]) ?_
   simp -dsimp[dD,setL_whole,ah_,lp]
   refine And.intro (fun a h=>ap_ h) ?_
   repeat(first|apply wG|(apply wR;simp -dsimp[setL_whole,ah_,lp])|refine aI ?_)
   refine loopW.next (kyS seed m u (i+1)) (Wk.go [35] 36 500 (by decide) (by simp) (by simp[e1]) (by simp[slB,hsu,dgL_snoc])) (m-(i+1)) (by omega) ⟨i+1,rfl,by omega,rfl⟩
 ·refine cF (by simp;omega) ?_
  refine WP.exit ?_
  obtain rfl:i=m:=by omega
  simp -dsimp
  refine sG ?_
  refine WP.ret (aj_ (Wk.freeze (k:=500) (T:=87) (sz:=32) (n:=i) (ds:=dgL (pubsB seed i)) (by simp)) ?_)
  simp -dsimp[slG,bw_]
end Go.Proofs.YtfgcgagcpnbgmaaGreatDoor
