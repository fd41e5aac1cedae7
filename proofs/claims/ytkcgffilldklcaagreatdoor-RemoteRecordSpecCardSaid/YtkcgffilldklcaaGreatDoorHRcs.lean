/-
  Joined texts.
-/
import Derived.Test.YtkcgffilldklcaaGreatDoorHLo
import Derived.Test.YtkcgffilldklcaaGreatDoorHLk
import Derived.Test.YtkcgffilldklcaaGreatDoorHOp
import Derived.Test.YtkcgffilldklcaaGreatDoorHNc
import Derived.Test.YtkcgffilldklcaaGreatDoorH4
import Derived.Test.YtkcgffilldklcaaGreatDoorCards
import Derived.Test.YtkcgffilldklcaaGreatDoorTie
import Derived.SevenTiedAt
import Derived.Stop.Joined
import Derived.Test.YtkcgffilldklcaaGreatDoorHLm
set_option linter.all false
namespace Go.Proofs.YtkcgffilldklcaaGreatDoor
open Go.Xe Go.RowKit
abbrev rjB (s:List By) (b:By) (d:Dk):Bxs:=[(2,jB2 s b),(3,jB3 d),(4,jB4),(5,jB5)]
abbrev rjO (s:List By) (b:By) (left:Int) (w:List (Nat×By)) (at_ i:Nat):St :=
 mkS 149 [(2,.ptr 2 0),(3,.ptr 3 0),(4,.ptr 4 0),(5,.ptr 5 0),(9,.d (.v (.int .u64 (gnr s)))),(10,.d (.v (.int .i64 at_))),(11,.d (.v (.int .i64 i)))] (rjB s b ⟨s,wrI w,left,false⟩)
abbrev rjI (s:List By) (b:By) (left:Int) (N:Nat) (w:List (Nat×By)) (at_ k:Nat):St :=
 mkS 149 [(2,.ptr 2 0),(3,.ptr 3 0),(4,.ptr 4 0),(5,.ptr 5 0),(9,.d (.v (.int .u64 (gnr s)))),(10,.d (.v (.int .i64 at_))),(11,.d (.v (.int .i64 (recs s).length))),(12,.d (slB b)),(13,.d (.v (.int .i64 N))),(14,.d (.v (.int .i64 k)))] (rjB s b ⟨s,wrI w,left,false⟩)
theorem zn_ (k m:Nat):kdB (decide (k=0)) (decide (m=0))=if m=0 then (if k=0 then 1 else 0)+2 else (if k=0 then 1 else 0):=by
 unfold kdB
 by_cases h:k=0<;>by_cases h2:m=0<;>simp[h,h2]
set_option maxRecDepth 10000 in
set_option maxHeartbeats 4000000 in
theorem rC_ (s:List By) (hs:∀ x∈s,x.length=128) (n1:1≤s.length) (n2:s.length≤4096) (left:Int) (l1 : -1≤left) (l2:left≤65536) (b:By) (hb:b.length≤1000000) (hu:usd (recs s)+secs b.length≤s.length) :
  Fn0 Tryz.prog 28 [logD s.length (recs s++[b]) (recs s).length,dkD ⟨s,[],left,false⟩] (Al_ s left b):=by
 have hdk:dkB ⟨s,[],left,false⟩=true:=aZ_.2 ⟨⟨n1,n2,Nat.zero_le _,l1,l2⟩,(fun _ h=>by cases h),hs⟩
 have hus:=ce_ hs
 have hsm:=bn_ hs n2
 have lgk:lgOk s.length (recs s++[b]) (recs s).length:=⟨n1,n2,by simp,by rw[gc_];simp[usd];omega,fun x hx=>by
  rcases List.mem_append.1 hx with hx|hx
  ·have:=hsm x hx;omega
  ·rw[List.mem_singleton.1 hx];exact hb,by simp;omega⟩
 have h110:=mt_ lgk
 have h52:=fF_ ⟨s,[],left,false⟩ (g3_ hdk)
 rw[dkE,if_pos hdk] at h52
 have h113:=tq_ s hs n2
 have h86:=j7_ s hs n2
 have h67:=io_ (recs s) (by omega)
 have h112:=gm_ (recs s) (by omega) (by omega) (fun x hx=>by have:=hsm x hx;omega)
 have lR:=aI_ (recs s)
 have hla:lsB (recs s++[b])=lsB (recs s)++[slB b]:=by simp[lsB]
 have htk:List.take (recs s).length (lsB (recs s++[b]))=lsB (recs s):=by rw[hla,List.take_left' lR]
 have lA:(lsB (recs s++[b])).length=(recs s).length+1:=by rw[aI_];simp
 have lB:(recs s++[b]).length=(recs s).length+1:=by simp
 refine ad_ (pn:=an_) ac_ Tryz.func28 rfl fun β0=>?_
 simp only[Tryz.f28]
 repeat(first|apply wG|(apply wR;simp -dsimp[logD,lgC,dkD,dkC,wrC])|refine aI ?_)
 refine aa_ jg_ h110 rfl rfl (by simp[logD,lgC]) ?_
 refine sH ?_
 refine cE ?_
 refine WP.skip ?_
 refine sH ?_
 refine aa_ cF_ h52 rfl rfl (by simp[dkD,dkC,wrC]) ?_
 refine sH ?_
 refine cE ?_
 refine WP.skip ?_
 refine sH ?_
 refine cE ?_
 refine WP.skip ?_
 refine sH ?_
 refine cE ?_
 refine WP.skip ?_
 refine sH ?_
 refine aa_ px_ h113 rfl rfl (by simp) ?_
 refine sH ?_
 refine aa_ jf_ h86 rfl rfl (by simp) ?_
 simp -dsimp[htk,lA]
 repeat refine aI ?_
 refine aa_ fi_ h67 rfl rfl (by simp[htk]) ?_
 simp -dsimp
 repeat refine aI ?_
 unfold Al_
 by_cases hg:gnr s<4294967296
 ·rw[if_pos hg]
  have hgd:decide ((4294967295:Int)<(gnr s:Int))=false:=decide_eq_false (by omega)
  refine cF (by simp;omega) ?_
  refine WP.skip ?_
  refine sH ?_
  refine cF (by simp[lB];try omega) ?_
  refine WP.skip ?_
  simp -dsimp
  repeat(first|apply wG|(apply wR;simp -dsimp[htk,lA])|refine aI ?_)
  refine aa_ fj_ h112 rfl rfl (by simp[htk]) ?_
  refine sH ?_
  refine ai_ (fun q S=>(q=1∧S=rjO s b left [] (usd (recs s)) (recs s).length)∨(q=0∧S=rjO s b left (wrR s b) (usd (recs s)+secs b.length) ((recs s).length+1))) 1 (S0:=rjO s b left [] (usd (recs s)) (recs s).length) (ae_ [] (by simp) (by simp[wrI,dkC,wrC])) (.inl ⟨rfl,rfl⟩) ?_
  rintro _ _ (⟨rfl,rfl⟩|⟨rfl,rfl⟩)
  ·refine sH ?_
   have hat:=iM_ (recs s) b []
   refine cT (by simp;try omega) ?_
   refine WP.skip ?_
   simp -dsimp
   repeat(first|apply wG|(apply wR;simp -dsimp[hat,lA,lB])|refine aI ?_)
   refine aa_ fk_ (gn_ b.length (by omega)) rfl rfl (by simp) ?_
   refine sH ?_
   refine ai_ (fun q S=>∃ (k at_:Nat) (w:List (Nat×By)),q=secs b.length-k∧k≤secs b.length∧at_=usd (recs s)+k∧w.length=k∧wrR s b=w++wrt (gnr s) (secs b.length-k) at_ (if k=0 then 1 else 0) (b.drop (112*k))∧S=rjI s b left (secs b.length) w at_ k) (secs b.length) (S0:=rjI s b left (secs b.length) [] (usd (recs s)) 0) (ae_ [] (by simp[slB]) (by simp)) ⟨0,_,[],rfl,by omega,rfl,rfl,rfl,rfl⟩ ?_
   rintro _ _ ⟨k,at_,w,rfl,hkl,ha,hwl,hw,rfl⟩
   refine sH ?_
   by_cases hkn:k<secs b.length
   ·have hsl:=oE_ b.length
    obtain⟨N1,hN1⟩:∃ N1,secs b.length=N1+1:=⟨secs b.length-1,by omega⟩
    obtain⟨k1,hk1⟩:∃ k1,k+1=k1:=⟨_,rfl⟩
    obtain⟨lo,hlo⟩:∃ lo,k*112=lo:=⟨_,rfl⟩
    obtain⟨h0,hh0⟩:∃ h0,k1*112=h0:=⟨_,rfl⟩
    obtain⟨hi,hhi⟩:∃ hi,min b.length h0=hi:=⟨_,rfl⟩
    obtain⟨a1,ha1⟩:∃ a1,at_+1=a1:=⟨_,rfl⟩
    have hlb:lo≤b.length:=by omega
    have hlh:lo≤hi:=by omega
    have hhb:hi≤b.length:=by omega
    have h112':hi-lo≤112:=by omega
    have e1:IntKind.i64.wrap ((k:Int)*112)=(lo:Int):=by rw[IntWalk.i64_in _ (by omega)];omega
    have e2:IntKind.i64.wrap ((k:Int)+1)=(k1:Int):=by rw[IntWalk.i64_in _ (by omega)];omega
    have e3:IntKind.i64.wrap ((k1:Int)*112)=(h0:Int):=by rw[IntWalk.i64_in _ (by omega)];omega
    have em:min (b.length:Int) (h0:Int)=(hi:Int):=by omega
    have eN:IntKind.i64.wrap ((secs b.length:Int)-1)=(N1:Int):=by rw[IntWalk.i64_in _ (by omega)];omega
    have ea:IntKind.i64.wrap ((at_:Int)+1)=(a1:Int):=by rw[IntWalk.i64_in _ (by omega)];omega
    have lbb:=ah_ b
    have hpl:((b.drop lo).take (hi-lo)).length=hi-lo:=by rw[List.length_take,List.length_drop];omega
    have htk2:(b.drop (112*k)).take 112=(b.drop lo).take (hi-lo):=by
     rw[show 112*k=lo by omega]
     rcases Nat.le_total h0 b.length with h|h
     ·rw[show hi-lo=112 by omega]
     ·rw[List.take_of_length_le (by rw[List.length_drop];omega),List.take_of_length_le (by rw[List.length_drop];omega)]
    have hdr2:(b.drop (112*k)).drop 112=b.drop (112*k1):=by rw[List.drop_drop];congr 1;omega
    have hpre:=ly_ hs n1 n2 l1 l2 hu hw
    have h115:=ti_ (gnr s) at_ (by omega) (by omega) (decide (k=0)) (decide (k=N1)) ((b.drop lo).take (hi-lo)) (by omega)
    have lE:=ev_ (g:=gnr s) (num:=at_) (kind:=kdB (decide (k=0)) (decide (k=N1))) (b:=(b.drop lo).take (hi-lo)) (by omega)
    have hkd:kdB (decide (k=0)) (decide (k=N1))=if N1-k=0 then (if k=0 then 1 else 0)+2 else (if k=0 then 1 else 0):=by
     rw[← zn_ k (N1-k)];congr 1;exact decide_eq_decide.2 (by omega)
    rw[show secs b.length-k=(N1-k)+1 by omega,wrt,← hkd,htk2,hdr2,ha1,show N1-k=secs b.length-k1 by omega] at hw
    have hwr:=vT_ s (wrI w) left hpre at_ (by omega) (secE (gnr s) at_ (kdB (decide (k=0)) (decide (k=N1))) ((b.drop lo).take (hi-lo))) lE (by rw[kw_];omega)
    have hwi:wrI w++[((at_:Int),secE (gnr s) at_ (kdB (decide (k=0)) (decide (k=N1))) ((b.drop lo).take (hi-lo)))]=wrI (w++[(at_,secE (gnr s) at_ (kdB (decide (k=0)) (decide (k=N1))) ((b.drop lo).take (hi-lo)))]):=by rw[wrI,wrI,List.map_append];rfl
    rw[hwi] at hwr
    rw[dX_ b lo (hi-lo) (by omega)] at h115
    generalize secE (gnr s) at_ (kdB (decide (k=0)) (decide (k=N1))) ((b.drop lo).take (hi-lo))=E at *
    obtain⟨bg,hbg⟩:∃ bg,decide (k=0)=bg:=⟨_,rfl⟩
    obtain⟨en,hen⟩:∃ en,decide (k=N1)=en:=⟨_,rfl⟩
    rw[hbg,hen] at h115
    have hen2:decide ((k:Int)=(N1:Int))=en:=by rw[← hen];exact decide_eq_decide.2 (by omega)
    refine cT (by simp;omega) ?_
    refine WP.skip ?_
    simp -dsimp
    repeat(first|apply wG|(apply wR;simp -dsimp[e1,e2,e3,em,lbb,hlh,hhb,eN,hbg,hen2,dkC,wrD])|refine aI ?_)
    refine aa_ pv_ h115 rfl rfl (by simp[hen2]) ?_
    simp -dsimp
    repeat refine aI ?_
    refine aa_ pw_ hwr rfl rfl (by simp[dkD,dkC,wrD]) ?_
    simp -dsimp[dkD,dkC,wrD]
    repeat refine aI ?_
    refine sG ?_
    refine loopW.next (rjI s b left (secs b.length) (w++[(at_,E)]) a1 k1) (ae_ [] (by simp[ea,e2]) (by simp[dkC,wrD])) (secs b.length-k1) (by omega) ⟨k1,a1,w++[(at_,E)],rfl,by omega,by omega,by simp;omega,by rw[hw,if_neg (show ¬ k1=0 by omega)];simp,rfl⟩
   ·obtain rfl:k=secs b.length:=by omega
    rw[Nat.sub_self,wrt,List.append_nil] at hw
    have er:IntKind.i64.wrap (((recs s).length:Int)+1)=(recs s).length+1:=IntWalk.i64_in _ (by omega)
    refine cE ?_
    refine WP.exit ?_
    refine sH ?_
    refine loopW.next (rjO s b left (wrR s b) (usd (recs s)+secs b.length) ((recs s).length+1)) (ae_ [] (by simp[er,ha]) (by simp[hw])) 0 (by omega) (.inr ⟨rfl,rfl⟩)
  ·refine sH ?_
   refine cF (by simp;try omega) ?_
   refine WP.exit ?_
   simp -dsimp
   have h116:=th_ s (wrI (wrR s b)) left (ly_ hs n1 n2 l1 l2 hu (w':=[]) (by simp))
   rw[qS_] at h116
   repeat(first|apply wG|(apply wR;simp -dsimp[dkC,wrD])|refine aI ?_)
   refine aa_ pu_ h116 rfl rfl (by simp[dkD,dkC,wrD]) ?_
   simp -dsimp
   by_cases hc:0≤left∧left<secs b.length
   ·rw[if_pos hc,if_pos hc]
    simp -dsimp[dkD,dkC,wrC,wrD]
    refine sG ?_
    refine cU ?_
    refine sG ?_
    refine WP.ret (ab_ ?_)
    simp -dsimp[logD,lgC,dkD,dkC,wrC,slLB,lsB,wrD]
   ·rw[if_neg hc,if_neg hc]
    simp -dsimp[dkD,dkC,wrC,wrD]
    refine sG ?_
    refine cE ?_
    refine WP.skip ?_
    simp -dsimp
    repeat(first|apply wG|(apply wR;simp -dsimp[lA])|refine aI ?_)
    refine WP.ret (ab_ ?_)
    simp -dsimp[logD,lgC,dkD,dkC,wrC,slLB,wrD]
 ·rw[if_neg hg]
  refine cT (by simp;omega) ?_
  refine sG ?_
  refine WP.ret (ab_ ?_)
  simp -dsimp[logD,lgC,dkD,dkC,wrC,slLB,lsB,wrD]
theorem xn_:ownKnob Tryz.prog.godebug=none:=by kernel_rfl
theorem no_:laidOutB Tryz.prog=true:=by kernel_rfl
def Du_:List TypeId:=[5,22,24,97,74,76,78,25,110,26,28,30,31,33]++FL
theorem xo_:gOk ak_ Du_=true:=by decide
theorem fO_ {n:Nat} {ds:List D} (h:OkD ak_ n 3 ds):∃ x,ds=[.v (.int .i64 x)]∧isI x:=by
 cases n with
 | zero=>exact h.elim
 | succ n =>
  simp only[OkD,Ac_] at h
  exact h
theorem y6_ {n:Nat} {ds:List D} (h:OkD ak_ n 4 ds):∃ b,ds=[.v (.bool b)]:=by
 cases n with
 | zero=>exact h.elim
 | succ n =>
  simp only[OkD,Ab_] at h
  exact h
theorem y5_ {n:Nat} {ds:List D} (h:OkD ak_ n 5 ds):∃ c:UInt8,ds=[a6_ c]:=by
 cases n with
 | zero=>exact h.elim
 | succ n =>
  simp only[OkD,vc_] at h
  obtain⟨x,rfl,h1,h2⟩:=h
  have h1:(0:Int)≤x:=h1
  have h2:x≤255:=h2
  refine⟨UInt8.ofNat x.toNat,?_⟩
  rw[a6_]
  simp
  omega
theorem tR_ {n:Nat}:∀ l:List (List D),(∀ x∈l,OkD ak_ n 5 x)→∃ bs:List UInt8,l.flatten=bys bs∧l.length=bs.length
 | [],_=>⟨[],rfl,rfl⟩
 | x::l,h=>by
  obtain⟨c,hc⟩:=y5_ (h x (by simp))
  obtain⟨bs,h2,h3⟩:=tR_ l fun y hy=>h y (by simp[hy])
  exact⟨c::bs,by rw[List.flatten_cons,hc,h2];rfl,by simp[h3]⟩
theorem ld_ {n:Nat} {ds:List D} (h:OkD ak_ n 22 ds):∃ bs:List UInt8,ds=[slB bs]∧bs.length≤200000000000000:=by
 cases n with
 | zero=>exact h.elim
 | succ n =>
  simp only[OkD,xl_] at h
  obtain⟨l,rfl,h1,hb⟩:=h
  obtain⟨bs,h2,h3⟩:=tR_ l h1
  have e:tby ak_ 5=1:=rfl
  rw[e] at hb
  exact⟨bs,by rw[h2,h3];rfl,by omega⟩
theorem tQ_ {n:Nat} {ds:List D} (h:OkD ak_ n 25 ds):∃ l:List By,ds=[slLB l]∧(∀ b∈l,b.length≤200000000000000)∧l.length≤10000000000000:=by
 cases n with
 | zero=>exact h.elim
 | succ n =>
  simp only[OkD,xj_] at h
  obtain⟨m,rfl,h1,hb⟩:=h
  have key:∀ m:List (List D),(∀ x∈m,OkD ak_ n 22 x)→∃ l:List By,m.flatten=lsB l∧m.length=l.length∧∀ b∈l,b.length≤200000000000000:=by
   intro m
   induction m with
   | nil=>intro _;exact⟨[],rfl,rfl,fun _ h=>by cases h⟩
   | cons x m ih =>
    intro h
    obtain⟨d,hd,hl⟩:=ld_ (h x (by simp))
    obtain⟨l,h2,h3,h4⟩:=ih fun y hy=>h y (by simp[hy])
    refine⟨d::l,by rw[List.flatten_cons,hd,h2];rfl,by simp[h3],fun y hy=>?_⟩
    rcases List.mem_cons.1 hy with rfl|hy
    ·exact hl
    ·exact h4 y hy
  obtain⟨l,h2,h3,h4⟩:=key m h1
  have e:tby ak_ 22=24:=rfl
  rw[e] at hb
  exact⟨l,by rw[h2,h3];rfl,h4,by omega⟩
theorem ES_ {n:Nat} {ds:List D} (h:OkD ak_ n 97 ds):∃ d:Dg,ds=bys d∧d.length=32:=by
 cases n with
 | zero=>exact h.elim
 | succ n =>
  simp only[OkD,lN_] at h
  obtain⟨l,rfl,h1,h2⟩:=h
  obtain⟨bs,h3,h4⟩:=tR_ l h2
  exact⟨bs,h3,by rw[← h4,h1]⟩
theorem oZ_ {n:Nat} {ds:List D} (h:OkD ak_ n 74 ds):∃ l:List Dg,ds=[slG l]∧bb_ l∧l.length≤10000000000000:=by
 cases n with
 | zero=>exact h.elim
 | succ n =>
  simp only[OkD,xd_] at h
  obtain⟨m,rfl,h1,hb⟩:=h
  have key:∀ m:List (List D),(∀ x∈m,OkD ak_ n 97 x)→∃ l:List Dg,m.flatten=dgL l∧m.length=l.length∧bb_ l:=by
   intro m
   induction m with
   | nil=>intro _;exact⟨[],rfl,rfl,fun _ h=>by cases h⟩
   | cons x m ih =>
    intro h
    obtain⟨d,hd,hl⟩:=ES_ (h x (by simp))
    obtain⟨l,h2,h3,h4⟩:=ih fun y hy=>h y (by simp[hy])
    refine⟨d::l,by rw[List.flatten_cons,hd,h2];rfl,by simp[h3],fun y hy=>?_⟩
    rcases List.mem_cons.1 hy with rfl|hy
    ·exact hl
    ·exact h4 y hy
  obtain⟨l,h2,h3,h4⟩:=key m h1
  have e:tby ak_ 97=32:=rfl
  rw[e] at hb
  exact⟨l,by rw[h2,h3];rfl,h4,by omega⟩
theorem y3_ {n:Nat} {ds:List D} (h:OkD ak_ n 76 ds):∃ (k:Int) (op cl pa:List Dg),ds=f5_ k op cl pa∧sigG k op cl pa:=by
 cases n with
 | zero=>exact h.elim
 | succ n =>
  simp only[OkD,xc_] at h
  obtain⟨l,rfl,hl,h⟩:=h
  match l,hl,h with
  | [a,b,c,d],_,h =>
   obtain⟨x,ha,hx⟩:=fO_ (h 0 a (0,3) rfl rfl)
   obtain⟨l1,hb,h1,n1⟩:=oZ_ (h 1 b (1,74) rfl rfl)
   obtain⟨l2,hc,h2,n2⟩:=oZ_ (h 2 c (2,74) rfl rfl)
   obtain⟨l3,hd,h3,n3⟩:=oZ_ (h 3 d (3,74) rfl rfl)
   subst ha hb hc hd
   exact⟨x,l1,l2,l3,rfl,hx,h1,h2,h3,n1,n2,n3⟩
theorem rP_ {n:Nat} {ds:List D} (h:OkD ak_ n 78 ds):∃ p:Sg,ds=sgc p∧fOk p.1∧sgT p:=by
 cases n with
 | zero=>exact h.elim
 | succ n =>
  simp only[OkD,xb_] at h
  obtain⟨l,rfl,hl,h⟩:=h
  match l,hl,h with
  | [a,b],_,h =>
   obtain⟨f,rfl,hf⟩:=us_ (h 0 a (0,59) rfl rfl)
   obtain⟨k,l1,l2,l3,rfl,hg⟩:=y3_ (h 1 b (57,76) rfl rfl)
   exact⟨(f,_),by simp[sgc,f5_],hf,k,l1,l2,l3,rfl,hg⟩
theorem oY_ {n:Nat} {ds:List D} (h:OkD ak_ n 31 ds):∃ l:List Sg,ds=[sgD l false]∧(∀ p∈l,fOk p.1∧sgT p)∧l.length≤1000000000000:=by
 cases n with
 | zero=>exact h.elim
 | succ n =>
  simp only[OkD,xf_] at h
  obtain⟨m,rfl,h1,h2⟩:=h
  have key:∀ m:List (List D),(∀ x∈m,OkD ak_ n 78 x)→∃ l:List Sg,m.flatten=sgC l∧l.length=m.length∧∀ p∈l,fOk p.1∧sgT p:=by
   intro m
   induction m with
   | nil=>intro _;exact⟨[],rfl,rfl,fun _ h=>by cases h⟩
   | cons x m ih =>
    intro h
    obtain⟨p,hp,hpo⟩:=rP_ (h x (by simp))
    obtain⟨l,h3,h4,h5⟩:=ih fun y hy=>h y (by simp[hy])
    refine⟨p::l,?_,by simp[h4],fun q hq=>?_⟩
    ·rw[List.flatten_cons,hp,h3];rfl
    ·rcases List.mem_cons.1 hq with rfl|hq
     ·exact hpo
     ·exact h5 q hq
  obtain⟨l,h3,h4,h5⟩:=key m h1
  refine⟨l,?_,h5,?_⟩
  ·rw[h3,← h4]
   rfl
  ·have e:tby ak_ 78=536:=rfl
   rw[e] at h2
   omega
theorem wc_ {n:Nat} {ds:List D} (h:OkD ak_ n 110 ds):∃ w:Int×By,ds=[.v (.int .i64 w.1),slB w.2]∧isI w.1∧w.2.length≤200000000000000:=by
 cases n with
 | zero=>exact h.elim
 | succ n =>
  simp only[OkD,vd_] at h
  obtain⟨l,rfl,hl,h⟩:=h
  match l,hl,h with
  | [a,b],_,h =>
   obtain⟨x,rfl,hx⟩:=fO_ (h 0 a (0,3) rfl rfl)
   obtain⟨s,rfl,hs⟩:=ld_ (h 1 b (1,22) rfl rfl)
   exact⟨(x,s),rfl,hx,hs⟩
theorem tP_ {n:Nat} {ds:List D} (h:OkD ak_ n 26 ds):∃ l:List (Int×By),ds=[wrD l]∧(∀ w∈l,isI w.1∧w.2.length≤200000000000000)∧l.length≤10000000000000:=by
 cases n with
 | zero=>exact h.elim
 | succ n =>
  simp only[OkD,xi_] at h
  obtain⟨m,rfl,h1,h2⟩:=h
  have key:∀ m:List (List D),(∀ x∈m,OkD ak_ n 110 x)→∃ l:List (Int×By),m.flatten=wrC l∧l.length=m.length∧∀ w∈l,isI w.1∧w.2.length≤200000000000000:=by
   intro m
   induction m with
   | nil=>intro _;exact⟨[],rfl,rfl,fun _ h=>by cases h⟩
   | cons x m ih =>
    intro h
    obtain⟨p,hp,hpo⟩:=wc_ (h x (by simp))
    obtain⟨l,h3,h4,h5⟩:=ih fun y hy=>h y (by simp[hy])
    refine⟨p::l,?_,by simp[h4],fun q hq=>?_⟩
    ·rw[List.flatten_cons,hp,h3];rfl
    ·rcases List.mem_cons.1 hq with rfl|hq
     ·exact hpo
     ·exact h5 q hq
  obtain⟨l,h3,h4,h5⟩:=key m h1
  refine⟨l,?_,h5,?_⟩
  ·rw[h3,← h4]
   rfl
  ·have e:tby ak_ 110=32:=rfl
   rw[e] at h2
   omega
abbrev Ky:=List UInt8×Int×Int
theorem By_ {n:Nat} {ds:List D} (h:OkD ak_ n 24 ds):∃ k:Ky,ds=[slB k.1,.v (.int .i64 k.2.1),.v (.int .i64 k.2.2)]∧isI k.2.1∧isI k.2.2∧k.1.length≤200000000000000:=by
 cases n with
 | zero=>exact h.elim
 | succ n =>
  simp only[OkD,xk_] at h
  obtain⟨l,rfl,hl,h⟩:=h
  match l,hl,h with
  | [a,b,c],_,h =>
   obtain⟨s,rfl,hs⟩:=ld_ (h 0 a (0,22) rfl rfl)
   obtain⟨x,rfl,hx⟩:=fO_ (h 1 b (1,3) rfl rfl)
   obtain⟨y,rfl,hy⟩:=fO_ (h 2 c (2,3) rfl rfl)
   exact⟨(s,x,y),rfl,hx,hy,hs⟩
theorem y4_ {n:Nat} {ds:List D} (h:OkD ak_ n 28 ds):∃ d:Dk,ds=dkC d∧((∀ b∈d.s,b.length≤200000000000000)∧d.s.length≤10000000000000)∧((∀ w∈d.p,isI w.1∧w.2.length≤200000000000000)∧d.p.length≤10000000000000)∧isI d.left:=by
 cases n with
 | zero=>exact h.elim
 | succ n =>
  simp only[OkD,xh_] at h
  obtain⟨l,rfl,hl,h⟩:=h
  match l,hl,h with
  | [a,b,c,d],_,h =>
   obtain⟨s,rfl,hs⟩:=tQ_ (h 0 a (0,25) rfl rfl)
   obtain⟨p,rfl,hp⟩:=tP_ (h 1 b (1,26) rfl rfl)
   obtain⟨x,rfl,hx⟩:=fO_ (h 2 c (2,3) rfl rfl)
   obtain⟨y,rfl⟩:=y6_ (h 3 d (3,4) rfl rfl)
   exact⟨⟨s,p,x,y⟩,rfl,hs,hp,hx⟩
theorem Bx_ {n:Nat} {ds:List D} (h:OkD ak_ n 30 ds):∃ (m:Int) (l:List By) (s:Int),ds=[.v (.int .i64 m),slLB l,.v (.int .i64 s)]∧isI m∧((∀ b∈l,b.length≤200000000000000)∧l.length≤10000000000000)∧isI s:=by
 cases n with
 | zero=>exact h.elim
 | succ n =>
  simp only[OkD,xg_] at h
  obtain⟨l,rfl,hl,h⟩:=h
  match l,hl,h with
  | [a,b,c],_,h =>
   obtain⟨x,rfl,hx⟩:=fO_ (h 0 a (0,3) rfl rfl)
   obtain⟨s,rfl,hs⟩:=tQ_ (h 1 b (1,25) rfl rfl)
   obtain⟨y,rfl,hy⟩:=fO_ (h 2 c (2,3) rfl rfl)
   exact⟨x,s,y,rfl,hx,hs,hy⟩
theorem sn_ {n:Nat} {ds:List D} (h:OkD ak_ n 33 ds):∃ r:Rm,lL_ ak_ 33 ds=rmD r∧rmG r:=by
 cases n with
 | zero=>exact h.elim
 | succ n =>
  simp only[OkD,xe_] at h
  obtain⟨l,rfl,hl,h⟩:=h
  match l,hl,h with
  | [a,b,c,d,e,f],_,h =>
   obtain⟨x,rfl,hx⟩:=fO_ (h 0 a (0,3) rfl rfl)
   obtain⟨k,rfl,k1,k2,k3⟩:=By_ (h 1 b (1,24) rfl rfl)
   obtain⟨dk,rfl,d1,d2,d3⟩:=y4_ (h 2 c (4,28) rfl rfl)
   obtain⟨m,lr,s,rfl,l1,l2,l3⟩:=Bx_ (h 3 d (8,30) rfl rfl)
   obtain⟨fs,rfl,f1,f2⟩:=oY_ (h 4 e (11,31) rfl rfl)
   obtain⟨y,rfl,hy⟩:=fO_ (h 5 f (12,3) rfl rfl)
   exact⟨⟨x,k.1,k.2.1,k.2.2,dk,m,lr,s,fs,y⟩,rfl,hx,k1,k2,k3,d1,d2,d3,l1,l2,l3,f1,f2,hy⟩
theorem w8_ {n:Nat} {ds:List D} (h:OkD ak_ n 59 ds):∃ f,lL_ ak_ 59 ds=fD f∧fOk f:=by
 obtain⟨f,rfl,h1⟩:=us_ h
 exact⟨f,rfl,h1⟩
def Ew_:Value:=.agg #[.int .i64 0,.int .i64 0,.int .i64 0,.int .i64 0,.int .i64 0,.int .i64 0,.int .i64 0,.int .i64 0,.int .i64 0,.int .i64 0,.int .i64 0,.int .i64 0,.int .i64 0,.int .i64 0,.int .i64 0,.int .i64 0,.int .i64 0,.int .i64 0,.int .i64 0,.int .i64 0,.int .i64 0,.int .i64 0,.int .i64 0,.int .i64 0,.int .i64 0,.int .i64 0,.int .i64 0,.int .i64 0,.int .i64 0,.int .i64 0,.int .i64 0,.int .i64 0,.int .i64 0,.int .i64 0,.int .i64 0,.int .i64 0,.int .i64 0,.int .i64 0,.int .i64 0,.int .i64 0,.int .i64 0,.int .i64 0,.int .i64 0,.int .i64 0,.int .i64 0,.int .i64 0,.int .i64 0,.int .i64 0,.int .i64 0,.int .i64 0,.int .i64 0,.int .i64 0,.int .i64 0,.int .i64 0,.bool false,.int .i64 0,.int .i64 0]
def Ev_:Value:=.agg #[.int .i64 0,.slice none 0 0,.int .i64 0,.int .i64 0,.slice none 0 0,.slice none 0 0,.int .i64 0,.bool false,.int .i64 0,.slice none 0 0,.int .i64 0,.slice none 0 0,.int .i64 0]
def ve_:List TypeId:=[3,5,174,191,258,274,275]
theorem xm_:pOk ak_ ve_=true:=by decide
def laidL : List (String × DataW Unit) := [("stopwatch/digest.start", Rows.laid_stopwatch_digest_start), ("stopwatch/digest.permutations", Rows.laid_stopwatch_digest_permutations), ("stopwatch/facts.timeS", Rows.laid_stopwatch_facts_timeS), ("stopwatch/facts.lengthS", Rows.laid_stopwatch_facts_lengthS), ("stopwatch/facts.bibS", Rows.laid_stopwatch_facts_bibS), ("stopwatch/facts.matS", Rows.laid_stopwatch_facts_matS), ("stopwatch/facts.epochS", Rows.laid_stopwatch_facts_epochS), ("stopwatch/facts.chipS", Rows.laid_stopwatch_facts_chipS), ("stopwatch/facts.positionS", Rows.laid_stopwatch_facts_positionS), ("stopwatch/facts.caseS", Rows.laid_stopwatch_facts_caseS), ("stopwatch/facts.crewS", Rows.laid_stopwatch_facts_crewS), ("stopwatch/facts.numberS", Rows.laid_stopwatch_facts_numberS), ("stopwatch/facts.bitS", Rows.laid_stopwatch_facts_bitS)]
theorem wk_:iO_ Tryz.prog ve_ laidL=true:=by kernel_rfl
theorem o4_:(laidL.all fun x=>x.2.handleName?.isNone)=true:=by kernel_rfl
theorem wI_ (os:Os) (args:Array Value):laidMetH Tryz.prog laidL ((World.doorLaid Tryz.prog (400) os).forCall (fun _ _=>0) ⟨#[],args,[]⟩).memory :=
 laidMetH_of_parts3 (fuel:=8) (laidMet_of_run' 8 (by kernel_rfl) (by kernel_rfl)) (by kernel_rfl) (by kernel_rfl)
theorem zm_ (g:Nat) (ds:List D) (h:Glob.laid g=some ds):mR_ Tryz.prog laidL g=some ds:=by
 dsimp only[Glob.laid,instGlob] at h
 split at h<;>cases h<;>kernel_rfl
end Go.Proofs.YtkcgffilldklcaaGreatDoor
set_option maxRecDepth 10000
set_option maxHeartbeats 4000000
namespace Go.Proofs.YtkcgffilldklcaaGreatDoor
open Go.Xe Go.RowKit
theorem rD_ {crew:Int} {seed:By} {m:Int} {s:List By} {left sent:Int} (ho:okR crew seed m s left sent) (hsd:seed.length≤1000) (h80:s.length≤80) (h16:Fn0 Tryz.prog 24 [rmD (mkR crew seed m s left sent)] (.v (.int .i64 0)))
  (f:Nat→Int) (hf:fOk f):Fn0 Tryz.prog 7 [rmD (mkR crew seed m s left sent),fD f] (rmT (gV_ crew seed m s left sent (ownF crew (recs s).length f))):=by
 have hus:=ce_ ho.h128
 have hsm:=bn_ ho.h128 ho.n2
 have hn1:=ho.n1
 have hn2:=ho.n2
 have hkk:=bd_.1 ho.key
 have hg:fOk (ownF crew (recs s).length f):=k4_ hf (by have:=ho.c0;have:=ho.c1;simp[isI];omega) (by omega)
 have g1:=tJ_ crew (recs s).length f
 have hrf:=ql_ f crew (recs s).length
 have lG:=b4_ seed m (recs s)
 have eR:IntKind.i64.wrap (((recs s).length:Int)+1)=((recs s).length:Int)+1:=IntWalk.i64_in _ (by omega)
 have hmk:rmD (mkR crew seed m s left sent)=.agg [.v (.int .i64 crew),slB seed,.v (.int .i64 m),.v (.int .i64 (recs s).length),slLB s,.sl 2 [] 0 false,.v (.int .i64 left),.v (.bool false),.v (.int .i64 s.length),slLB (recs s),.v (.int .i64 (recs s).length),.sl 61 (sgC (onL seed m (recs s))) (recs s).length false,.v (.int .i64 sent)]:=by
  simp only[rmD,rmC,mkR,sgD,lG];rfl
 rw[hmk] at h16 ⊢
 have h60:=gU_ seed m (recs s).length (ownF crew (recs s).length f) hg
 have h61:=d1_ (ownF crew (recs s).length f) hg
 rw[← o8_ hg] at h61
 have hbl:=qR_ hg
 generalize ownF crew (recs s).length f=g at *
 have hl57:=aU_ f
 have hl57g:=aU_ g
 refine ad_ (pn:=an_) ac_ Tryz.func7 rfl fun β0=>?_
 simp only[Tryz.f7]
 repeat(first|apply wG|(apply wR;simp -dsimp[fD,slB])|refine aI ?_)
 refine aa_ ju_ h16 rfl rfl (by simp[slB]) ?_
 refine sH ?_
 refine cE ?_
 refine WP.skip ?_
 simp -dsimp
 repeat(first|apply wG|(apply wR;simp -dsimp[eR,hrf])|refine aI ?_)
 by_cases hok:(numF g).2=true∧((recs s).length:Int)<m
 ·obtain⟨hn,hm⟩:=hok
  have hsr:sgnR seed m (recs s).length g=(sgc (sgQ seed m g),0):=by
   rw[sgnR,if_pos hn,if_pos ⟨ho.key,by omega⟩];rfl
  rw[hsr] at h60
  simp only at h60
  have hl61:=gf_ seed m g
  have hso:dP_ (sgQ seed m g):=⟨hg,rfl,fun d hd=>cK_ hd⟩
  have h1o:=sgc_oneD hso
  rw[encR,if_pos hn] at h61
  simp only at h61
  have lgk:lgOk s.length (recs s) (recs s).length:=⟨hn1,hn2,Nat.le_refl _,hus.1,fun b hb=>by have:=hsm b hb;omega,by omega⟩
  have h62:=tr_ lgk (encF g) (by omega)
  have hrec:gV_ crew seed m s left sent g=(if usd (recs s)+secs (encF g).length≤s.length then
    if gnr s<4294967296 then
     if 0≤left∧left<secs (encF g).length then (mkR crew seed m (stopS s (wrR s (encF g)) left.toNat) (-1) 0,380)
     else (mkR crew seed m (perf s (wrI (wrR s (encF g)))) (iN_ left (secs (encF g).length)) sent,0)
    else (zeR,390) else (zeR,2)):=by rw[gV_,if_pos hn,if_pos hm]
  rw[hrec]
  refine aa_ dI_ h60 rfl rfl (by simp[keyD,fD,slB]) ?_
  simp -dsimp
  repeat(first|apply wG|(apply wR;simp -dsimp[setL_whole,hl61])|refine aI ?_)
  refine cE ?_
  refine WP.skip ?_
  refine sH ?_
  refine aa_ fq_ h61 rfl rfl (by simp[fD]) ?_
  refine sH ?_
  refine aa_ pU_ h62 rfl rfl (by simp[logD,lgC]) ?_
  by_cases hu:usd (recs s)+secs (encF g).length≤s.length
  ·rw[if_pos hu,if_pos hu]
   have h63:=rC_ s ho.h128 hn1 hn2 left ho.l1 ho.l2 (encF g) (by omega) hu
   unfold Al_ at h63
   simp -dsimp[logD,lgC]
   repeat(first|apply wG|(apply wR;simp -dsimp[logD,lgC])|refine aI ?_)
   refine cE ?_
   refine WP.skip ?_
   refine sH ?_
   refine aa_ pT_ h63 rfl rfl (by simp[logD,lgC,dkD,dkC,wrC]) ?_
   by_cases hgn:gnr s<4294967296
   ·rw[if_pos hgn,if_pos hgn]
    by_cases hst:0≤left∧left<secs (encF g).length
    ·rw[if_pos hst,if_pos hst]
     obtain⟨ho2,hr2⟩:=kD_ (k:=left.toNat) (g:=g) ho hu hgn (by omega)
     have hX:(stopS s (wrR s (encF g)) left.toNat).length≤80:=by rw[stopS,List.length_set,a9_];exact h80
     have hfo:=mG_ (seed:=seed) ho.on hkk.2.2.2.1 (fun b hb=>by have:=hsm b hb;omega)
     have hst:=te_ (s:=s) (sent:=sent) ho2 hr2
     generalize stopS s (wrR s (encF g)) left.toNat=X at *
     have h24:=tj_ (stR crew seed m s X sent) ⟨by have:=ho.c0;have:=ho.c1;simp[isI,stR];omega,by simp[isI,stR];omega,by simp[isI,stR];omega,⟨by simp only[stR];omega,Nat.zero_le _,by simp[isI,stR]⟩,hsd,by simp only[stR];omega,by simp only[stR,lG];omega,hfo⟩ (fun _=>hX)
     rw[hst,xy_,rmT] at h24
     simp only[j5_] at h24
     simp -dsimp[logD,lgC,dkD,dkC]
     repeat(first|apply wG|(apply wR;simp -dsimp[logD,lgC,dkD,dkC])|refine aI ?_)
     refine cU ?_
     refine sG ?_
     refine aa_ pS_ h24 rfl rfl (by simp[slB,wrC]) ?_
     refine sH ?_
     refine WP.ret (ab_ ?_)
     simp -dsimp[rmT,j5_]
    ·rw[if_neg hst,if_neg hst]
     obtain⟨ho2,hr2⟩:=kU_ ho hg hn (by rw[← hrf];simp[fup]) g1 hm hu hgn hst
     have hPl:=a9_ s (wrI (wrR s (encF g)))
     have lC:=de_ seed m (recs s)
     have hsC:sgC (onL seed m (recs s++[encF g]))=sgC (onL seed m (recs s))++sgc (sgQ seed m g):=by
      rw[onL,List.map_append,c6_]
      simp[onL,sgC,sgc,di_ hg hn]
     have hrm:=j5_ crew seed m (perf s (wrI (wrR s (encF g)))) (iN_ left (secs (encF g).length)) sent
     rw[hr2,hPl] at hrm
     have h61:=gT_ hso
     have h1a:=dY_ hso
     generalize perf s (wrI (wrR s (encF g)))=P at *
     simp -dsimp[logD,lgC,dkD,dkC]
     repeat(first|apply wG|(apply wR;simp -dsimp[logD,lgC,dkD,dkC])|refine aI ?_)
     refine cE ?_
     refine WP.skip ?_
     refine sH ?_
     refine cE ?_
     refine WP.skip ?_
     simp -dsimp
     repeat(first|apply wG|(apply wR;simp -dsimp[h61,hl61,lC,eR])|refine aI ?_)
     refine WP.ret (aj_ (Wk.freeze (k:=87) (T:=78) (sz:=61) (n:=(recs s).length+1) (ds:=sgC (onL seed m (recs s++[encF g]))) (by simp[hsC])) ?_)
     simp -dsimp[rmT,hrm,slB,wrC]
   ·rw[if_neg hgn,if_neg hgn]
    simp -dsimp[logD,lgC,dkD,dkC]
    repeat(first|apply wG|(apply wR;simp -dsimp[logD,lgC,dkD,dkC])|refine aI ?_)
    refine cE ?_
    refine WP.skip ?_
    refine sH ?_
    refine cU ?_
    refine sG ?_
    refine WP.ret (ab_ ?_)
    simp -dsimp[rmT,rmD_ze]
  ·rw[if_neg hu,if_neg hu]
   simp -dsimp[logD,lgC]
   repeat(first|apply wG|(apply wR;simp -dsimp[logD,lgC])|refine aI ?_)
   refine cU ?_
   refine sG ?_
   refine WP.ret (ab_ ?_)
   simp -dsimp[rmT,rmD_ze]
 ·have hsr:(sgnR seed m (recs s).length g).1=fcs f0 0 57++zsC∧(sgnR seed m (recs s).length g).2≠0∧gV_ crew seed m s left sent g=(zeR,(sgnR seed m (recs s).length g).2):=by
   unfold sgnR gV_
   by_cases hn:(numF g).2=true
   ·rw[if_pos hn,if_neg (by rintro⟨_,h⟩;exact hok ⟨hn,by omega⟩),if_pos hn,if_neg (fun h=>hok ⟨hn,h⟩)]
    exact⟨rfl,by decide,rfl⟩
   ·rw[if_neg hn,if_neg hn]
    exact⟨rfl,by decide,rfl⟩
  obtain⟨hs1,hs2,hs3⟩:=hsr
  rw[hs3]
  rw[hs1] at h60
  have hzo:dP_ (f0,zsC):=⟨r8_,rfl,by decide⟩
  have hz1:=sgc_oneD hzo
  have hz61:=bp_ hzo
  simp only[sgc] at hz1 hz61
  generalize fcs f0 0 57++zsC=Z at *
  generalize (sgnR seed m (recs s).length g).2=z at *
  refine aa_ dI_ h60 rfl rfl (by simp[keyD,fD,slB]) ?_
  simp -dsimp
  repeat(first|apply wG|(apply wR;simp -dsimp[setL_whole])|refine aI ?_)
  refine cT (by simp[hs2]) ?_
  refine sG ?_
  refine WP.ret (ab_ ?_)
  simp -dsimp[rmT,rmD_ze]
theorem oL_ (r:Rm) (h:rmOk r) (hfd:fewD r.dk=true) (f:Nat→Int) (hf:fOk f):Fn0 Tryz.prog 7 [rmD r,fD f] (rmT (oQ_ r f)):=by
 have h16:=vU_ r h hfd
 unfold oQ_
 cases hv:rmB r with
 | false =>
  rw[x6_ hv] at h16
  rw[if_neg (by decide)]
  refine ad_ (pn:=an_) ac_ Tryz.func7 rfl fun β0=>?_
  simp only[Tryz.f7]
  repeat(first|apply wG|(apply wR;simp -dsimp[rmD,rmC,fD])|refine aI ?_)
  refine aa_ ju_ h16 rfl rfl (by simp[rmD,rmC]) ?_
  refine sH ?_
  refine cU ?_
  refine sG ?_
  refine WP.ret (ab_ ?_)
  simp -dsimp[rmT,rmD_ze]
 | true =>
  rw[uV_ hv] at h16
  rw[if_pos rfl]
  obtain⟨ho,hr⟩:=AT_ (fun p hp=>⟨(h.fo p hp).1.1,(h.fo p hp).2⟩) hv
  have hres:=rD_ ho h.sd (qM_ hfd ho.h128) (by rw[← hr];exact h16) f hf
  rw[← hr] at hres
  exact hres
theorem yI_ {crew:Int} {seed:By} {m:Int} {s:List By} {left sent:Int} (ho:okR crew seed m s left sent) (hs:seed.length≤1000) {g:Nat→Int} (hg:fOk g) (g0:g 0=crew) (g1:g 1=(recs s).length+1) :
  rmOk (gV_ crew seed m s left sent g).1∧(gV_ crew seed m s left sent g).1.dk.p=[]:=by
 rcases recV_cases ho hg g0 g1 with⟨s',l',e1,o1,_,_⟩|⟨s',e1,o1,_⟩|⟨e,e1,_,_⟩
 ·rw[e1];exact⟨iI_ o1 hs,rfl⟩
 ·rw[e1];exact⟨iI_ o1 hs,rfl⟩
 ·rw[e1];exact⟨xr_,rfl⟩
theorem ts_ (r:Rm) (h:rmOk r) (f:Nat→Int) (hf:fOk f):rmOk (oQ_ r f).1∧(oQ_ r f).1.dk.p=[]:=by
 unfold oQ_
 by_cases hv:rmB r=true
 ·rw[if_pos hv]
  obtain⟨ho,_⟩:=AT_ (fun p hp=>⟨(h.fo p hp).1.1,(h.fo p hp).2⟩) hv
  have hus:=ce_ ho.h128
  have hn2:=ho.n2
  exact yI_ ho h.sd (k4_ hf h.c (by omega)) (A8_ _ _ _) (tJ_ _ _ _)
 ·rw[if_neg hv];exact⟨xr_,rfl⟩
set_option maxRecDepth 10000 in
set_option maxHeartbeats 4000000 in
theorem jJ_ (r:Rm) (g:rmG r) (f:Nat→Int) (hf:fOk f):Fn0 Tryz.prog 3 [rmD r,fD f] (.v (.bool true)):=by
 have h10:=s2_
 have ho:∀ p∈r.fs,dP_ p∧sgT p:=fun p hp=>⟨xu_ (g.fo p hp).1 (g.fo p hp).2,(g.fo p hp).2⟩
 have h36:=wy_ r.dk g.ds.1 g.ds.2 (fun w hw=>(g.dp.1 w hw).2) g.dp.2
 have h11:=wx_ r h36 g.lr.1 g.lr.2 ho g.fl
 refine ad_ (pn:=an_) ac_ Tryz.func3 rfl fun β0=>?_
 simp only[Tryz.f3]
 repeat(first|apply wG|(apply wR;simp -dsimp[rmD,rmC,fD])|refine aI ?_)
 refine aa_ st_ h10 rfl rfl (by simp) ?_
 refine sH ?_
 refine cE ?_
 refine WP.skip ?_
 refine sH ?_
 refine aa_ ss_ h11 rfl rfl (by simp[rmD,rmC]) ?_
 refine sH ?_
 cases hfw:xQ_ r with
 | false =>
  refine cT (by simp[hfw]) ?_
  refine sG ?_
  refine WP.ret (ab_ ?_)
  simp -dsimp
 | true =>
  obtain⟨hk,h6⟩:=zv_ hfw ⟨g.c,g.m,g.u,g.dl⟩ ho
  have h17:=hP_ r hk f hf
  have h18:=oL_ r hk (B5_ hfw) f hf
  have h14:=mg_ (oQ_ r f).1 (ts_ r hk f hf).1 (ts_ r hk f hf).2
  obtain⟨X,e,hX⟩:∃ X e,oQ_ r f=(X,e):=⟨_,_,rfl⟩
  rw[hX] at h17 h18 h14
  refine cF (by simp[hfw]) ?_
  refine WP.skip ?_
  refine sH ?_
  refine aa_ eL_ h17 rfl rfl (by simp[rmD,rmC,fD]) ?_
  simp -dsimp[rmT,rmD,rmC]
  refine sG ?_
  refine aa_ sr_ h18 rfl rfl (by simp[rmD,rmC,fD]) ?_
  simp -dsimp[rmT,rmD,rmC]
  refine sG ?_
  refine aa_ ks_ h14 rfl rfl (by simp[rmD,rmC]) ?_
  refine sH ?_
  refine WP.ret (ab_ ?_)
  simp -dsimp
end Go.Proofs.YtkcgffilldklcaaGreatDoor
