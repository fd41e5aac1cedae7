/-
  Joined texts.
-/
import Derived.Test.YtkcgffilldklcaaGreatDoorHNl
import Derived.Test.YtkcgffilldklcaaGreatDoorHNc
import Derived.Test.YtkcgffilldklcaaGreatDoorHEngFz
import Derived.Test.YtkcgffilldklcaaGreatDoorHOg
import Derived.Test.YtkcgffilldklcaaGreatDoorHNg
set_option linter.all false
namespace Go.Proofs.YtkcgffilldklcaaGreatDoor
open Go.Xe Go.RowKit
def Al_ (s:List By) (left:Int) (b:By):D :=
 if gnr s<4294967296 then
  if 0≤left∧left<secs b.length then .tup [logD 0 [] 0,dkD ⟨stopS s (wrR s b) left.toNat,[],0,true⟩,.v (.int .i64 380)]
  else .tup [logD s.length (recs s++[b]) ((recs s).length+1),dkD ⟨perf s (wrI (wrR s b)),[],iN_ left (secs b.length),false⟩,.v (.int .i64 0)]
 else .tup [logD 0 [] 0,dkD ⟨[],[],0,false⟩,.v (.int .i64 390)]
theorem qI_ (s:List By) {i:Nat} (h:i<s.length):gnr (s.take (i+1))=max (gnr (s.take i)) (max (genS s[i]+1) (tailS s[i]+1)):=by
 have e:s.take (i+1)=s.take i++[s[i]]:=by rw[List.take_add_one,List.getElem?_eq_getElem h];rfl
 rw[e,gnr,List.foldl_append];rfl
abbrev jB2 (s:List By) (b:By):Box:=.cells 30 [.d (.v (.int .i64 s.length)),.d (slLB (recs s++[b])),.d (.v (.int .i64 (recs s).length))]
abbrev jB3 (d:Dk):Box:=.cells 28 ((dkC d).map .d)
abbrev jB4:Box:=.cells 30 [.d (.v (.int .i64 0)),.d (.v (.slice none 0 0)),.d (.v (.int .i64 0))]
abbrev jB5:Box:=.cells 28 [.d (.v (.slice none 0 0)),.d (.v (.slice none 0 0)),.d (.v (.int .i64 0)),.d (.v (.bool false))]
abbrev jB9 (s:List By):Box:=.cells 30 [.d (.v (.int .i64 s.length)),.d (slLB (recs s)),.d (.v (.int .i64 (recs s).length))]
abbrev jBx (s:List By) (b:By) (d:Dk):Bxs:=[(2,jB2 s b),(3,jB3 d),(4,jB4),(5,jB5),(9,jB9 s)]
abbrev jG (s:List By) (b:By) (d:Dk) (i:Nat):St:=mkS 167 [(2,.ptr 2 0),(3,.ptr 3 0),(4,.ptr 4 0),(5,.ptr 5 0),(9,.ptr 9 0),(10,.d (.v (.int .u64 (gnr (s.take i))))),(57,.d (slLB s)),(58,.d (.v (.int .i64 s.length))),(59,.d (.v (.int .i64 i)))] (jBx s b d)
abbrev jI (s:List By) (b:By) (left:Int) (at_ n kind:Nat) (rest:By) (w:List (Nat×By)):St :=
 mkS 167 [(2,.ptr 2 0),(3,.ptr 3 0),(4,.ptr 4 0),(5,.ptr 5 0),(9,.ptr 9 0),(10,.d (.v (.int .u64 (gnr s)))),(13,.d (.v (.int .i64 at_))),(15,.d (slB rest)),(16,.d (.v (.int .u8 kind))),(17,.d (.v (.int .i64 n))),(108,.d (.sl 1 [slB b] 1 false)),(109,.d (.v (.int .i64 1))),(110,.d (.v (.int .i64 0)))] (jBx s b ⟨s,wrI w,left,false⟩)
abbrev jO (s:List By) (b:By) (left:Int) (at_:Nat) (w:List (Nat×By)) (i:Nat):St :=
 mkS 167 [(2,.ptr 2 0),(3,.ptr 3 0),(4,.ptr 4 0),(5,.ptr 5 0),(9,.ptr 9 0),(10,.d (.v (.int .u64 (gnr s)))),(13,.d (.v (.int .i64 at_))),(108,.d (.sl 1 [slB b] 1 false)),(109,.d (.v (.int .i64 1))),(110,.d (.v (.int .i64 i)))] (jBx s b ⟨s,wrI w,left,false⟩)
theorem vq_ (w:List (Nat×By)) (m:Nat):(wrI w).take m=wrI (w.take m):=by rw[wrI,wrI,List.map_take]
theorem vr_ (w:List (Nat×By)) (m:Nat):(wrI w).getD m (0,[])=(((w.getD m (0,[])).1:Int),(w.getD m (0,[])).2):=by
 simp only[wrI,List.getD_eq_getElem?_getD,List.getElem?_map]
 cases w[m]? <;> rfl
theorem yh_ {s:List By} {b:By} (hu:usd (recs s)+secs b.length≤s.length) {w:Nat×By} (h:w∈wrR s b):w.1<s.length∧w.2.length=128:=by
 refine⟨?_,h5_ _ _ _ _ _ w h⟩
 have h2:w.1∈(wrR s b).map (·.1):=List.mem_map_of_mem h
 rw[wrR,f8_,List.mem_range'_1] at h2
 omega
theorem oq_ (s:List By) (b:By):(wrR s b).length=secs b.length:=eU_ _ _ _ _ _
theorem ly_ {s:List By} (hs:∀ x∈s,x.length=128) (n1:1≤s.length) (n2:s.length≤4096) {left:Int} (l1 : -1≤left) (l2:left≤65536) {b:By} (hu:usd (recs s)+secs b.length≤s.length) {w w':List (Nat×By)} (h:wrR s b=w++w') :
  dkB ⟨s,wrI w,left,false⟩=true:=by
 have hl:w.length≤secs b.length:=by rw[← oq_ s b,h,List.length_append];omega
 refine aZ_.2 ⟨⟨n1,n2,?_,l1,l2⟩,fun x hx=>?_,hs⟩
 ·simp only[kw_];omega
 ·obtain⟨y,hy,rfl⟩:=List.mem_map.1 hx
  have:=yh_ hu (w:=y) (by rw[h];exact List.mem_append_left _ hy)
  exact⟨Int.natCast_nonneg _,by simp only;omega,this.2⟩
theorem qS_ (s:List By) (b:By) (left:Int):lx_ ⟨s,wrI (wrR s b),left,false⟩ =
  if 0≤left∧left<secs b.length then (⟨stopS s (wrR s b) left.toNat,[],0,true⟩,380) else (⟨perf s (wrI (wrR s b)),[],iN_ left (secs b.length),false⟩,0):=by
 simp only[lx_,kw_,oq_,Ak_,Aj_,vq_,vr_,Int.toNat_natCast,stopS,iN_]
theorem yR_ {k:Nat} (h:k≤1):bits .or .u8 (k:Int) 2=((k+2:Nat):Int):=by
 rcases (by omega:k=0∨k=1) with rfl|rfl<;>decide
theorem BN_ (n:Nat):(n:Int).fdiv (2^shN .u64 32)=((n/4294967296:Nat):Int):=by
 rw[show ((2:Int)^shN .u64 32)=((4294967296:Nat):Int) by decide,Int.fdiv_eq_ediv_of_nonneg _ (Int.natCast_nonneg _),← Int.natCast_ediv]
set_option maxRecDepth 10000 in
set_option maxHeartbeats 4000000 in
theorem wl_ (s:List By) (hs:∀ x∈s,x.length=128) (n1:1≤s.length) (n2:s.length≤4096) (left:Int) (l1 : -1≤left) (l2:left≤65536) (b:By) (hb:b.length≤1000000) (hu:usd (recs s)+secs b.length≤s.length) :
  Fn0 Tryz.prog 21 [logD s.length (recs s++[b]) (recs s).length,dkD ⟨s,[],left,false⟩] (Al_ s left b):=by
 have hdk:dkB ⟨s,[],left,false⟩=true:=aZ_.2 ⟨⟨n1,n2,Nat.zero_le _,l1,l2⟩,(fun _ h=>by cases h),hs⟩
 have hus:=ce_ hs
 have hsm:=bn_ hs n2
 have lgk:lgOk s.length (recs s++[b]) (recs s).length:=⟨n1,n2,by simp,by rw[gc_];simp[usd];omega,fun x hx=>by
  rcases List.mem_append.1 hx with hx|hx
  ·have:=hsm x hx;omega
  ·rw[List.mem_singleton.1 hx];exact hb,by simp;omega⟩
 have h95:=mS_ lgk
 have h82:=eD_ ⟨s,[],left,false⟩ (g3_ hdk)
 rw[dkE,if_pos hdk] at h82
 have h40:=hT_ ⟨s,[],left,false⟩ (g3_ hdk)
 rw[lW_,if_pos hdk,if_neg (by simp),if_neg (by simp)] at h40
 have h87:=m5_ (recs s) (recs s) (by omega) (by omega)
 rw[decide_eq_true rfl] at h87
 have h97:=ou_ (recs s) (by omega) (by omega) (fun x hx=>by have:=hsm x hx;omega)
 have lR:=aI_ (recs s)
 have hla:lsB (recs s++[b])=lsB (recs s)++[slB b]:=by simp[lsB]
 refine ad_ (pn:=an_) ac_ Tryz.func21 rfl fun β0=>?_
 simp only[Tryz.f21]
 repeat(first|apply wG|(apply wR;simp -dsimp[logD,lgC,dkD,dkC,wrC])|refine aI ?_)
 refine aa_ jo_ h95 rfl rfl (by simp[logD,lgC]) ?_
 refine sH ?_
 refine cE ?_
 refine WP.skip ?_
 refine sH ?_
 refine aa_ dH_ h82 rfl rfl (by simp[dkD,dkC,wrC]) ?_
 refine sH ?_
 refine cE ?_
 refine WP.skip ?_
 refine sH ?_
 refine cE ?_
 refine WP.skip ?_
 refine sH ?_
 refine aa_ cG_ h40 rfl rfl (by simp[dkD,dkC,wrC]) ?_
 simp -dsimp[logD,lgC]
 refine sG ?_
 refine cE ?_
 refine WP.skip ?_
 refine sH ?_
 refine ai_ (fun q S=>∃ i:Nat,q=s.length-i∧i≤s.length∧S=jG s b ⟨s,[],left,false⟩ i) s.length (S0:=jG s b ⟨s,[],left,false⟩ 0) (ae_ [] (by simp[gnr]) (by simp[dkC,wrC])) ⟨0,rfl,by omega,rfl⟩ ?_
 rintro _ _ ⟨i,rfl,hi,rfl⟩
 refine sH ?_
 by_cases hx:i=s.length
 ·subst hx
  refine cE ?_
  refine WP.exit ?_
  simp -dsimp[List.take_length]
  have htk:List.take (recs s).length (lsB (recs s++[b]))=lsB (recs s):=by rw[hla,List.take_left' lR]
  have lA:(lsB (recs s++[b])).length=(recs s).length+1:=by rw[aI_];simp
  repeat(first|apply wG|(apply wR;simp -dsimp[htk,lA,List.take_length])|refine aI ?_)
  refine aa_ jm_ h87 rfl rfl (by simp[htk]) ?_
  simp -dsimp
  repeat refine aI ?_
  have hsh:=BN_ (gnr s)
  unfold Al_
  by_cases hg:gnr s<4294967296
  ·rw[if_pos hg]
   have hg0:gnr s/4294967296=0:=by omega
   rw[hg0] at hsh
   refine cF (by simp[hsh]) ?_
   refine WP.skip ?_
   refine sH ?_
   refine cF (by simp[lA];omega) ?_
   refine WP.skip ?_
   simp -dsimp
   repeat(first|apply wG|(apply wR;simp -dsimp[htk,lA])|refine aI ?_)
   refine aa_ fn_ h97 rfl rfl (by simp[htk]) ?_
   simp -dsimp
   have hdr:List.drop (recs s).length (lsB (recs s++[b]))=[slB b]:=by rw[hla,List.drop_left' lR]
   repeat(first|apply wG|(apply wR;simp -dsimp[htk,hdr,lA])|refine aI ?_)
   have i1:∀ i:Nat,IntKind.i64.wrap ((((recs s).length+1:Nat):Int)-((recs s).length:Nat))=1:=fun _=>by rw[IntWalk.i64_in _ (by omega)];omega
   refine ai_ (fun q S=>(q=1∧S=jO s b left (usd (recs s)) [] 0)∨(q=0∧S=jO s b left (usd (recs s)+secs b.length) (wrR s b) 1)) 1 (S0:=jO s b left (usd (recs s)) [] 0) (ae_ [] (by simp[hdr,lA,List.take_length]) (by simp[wrI,dkC,wrC])) (.inl ⟨rfl,rfl⟩) ?_
   rintro _ _ (⟨rfl,rfl⟩|⟨rfl,rfl⟩)
   ·refine sH ?_
    refine cU ?_
    refine WP.skip ?_
    refine sH ?_
    refine aa_ fo_ (gi_ b (by omega)) rfl rfl (by simp) ?_
    refine sH ?_
    refine ai_ (fun q S=>∃ (n kind at_:Nat) (rest:By) (w:List (Nat×By)),q=n∧at_=usd (recs s)+w.length∧wrR s b=w++wrt (gnr s) n at_ kind rest∧kind≤1∧rest.length≤1000000∧S=jI s b left at_ n kind rest w) (secs b.length) (S0:=jI s b left (usd (recs s)) (secs b.length) 1 b []) (ae_ [] (by simp[slB]) (by simp)) ⟨secs b.length,1,usd (recs s),b,[],rfl,rfl,rfl,by omega,hb,rfl⟩ ?_
    rintro n _ ⟨_,kind,at_,rest,w,rfl,ha,hw,hk,hr,rfl⟩
    have hwl:=oq_ s b
    rw[hw,List.length_append,eU_] at hwl
    refine sH ?_
    cases n with
    | zero =>
     rw[wrt,List.append_nil] at hw
     refine cE ?_
     refine WP.exit ?_
     refine sH ?_
     have w1:IntKind.i64.wrap 1=1:=by decide
     obtain rfl:at_=usd (recs s)+secs b.length:=by omega
     refine loopW.next (jO s b left (usd (recs s)+secs b.length) (wrR s b) 1) (ae_ [] (by simp[w1]) (by simp[hw])) 0 (by omega) (.inr ⟨rfl,rfl⟩)
    | succ n =>
     have hpre:=ly_ hs n1 n2 l1 l2 hu hw
     obtain⟨m,hm⟩:∃ m:Nat,m=min rest.length 112:=⟨_,rfl⟩
     have em:min (rest.length:Int) 112=(m:Int):=by omega
     have hml:m≤rest.length:=by omega
     have htm:rest.take 112=rest.take m:=by
      rcases Nat.le_total rest.length 112 with h|h
      ·rw[List.take_of_length_le h,List.take_of_length_le (by omega)]
      ·rw[show m=112 by omega]
     have hdm:rest.drop 112=rest.drop m:=by
      rcases Nat.le_total rest.length 112 with h|h
      ·rw[List.drop_of_length_le h,List.drop_of_length_le (by omega)]
      ·rw[show m=112 by omega]
     have lr:=ah_ rest
     obtain⟨k2,hk2,hk3⟩:∃ k2:Nat,k2=(if n=0 then kind+2 else kind)∧k2≤3:=⟨_,rfl,by split<;>omega⟩
     have hkk:(UInt8.ofNat k2).toNat=k2:=by rw[UInt8.toNat_ofNat'];omega
     have henc:=ko_ (gnr s) at_ (by omega) (by omega) (UInt8.ofNat k2) (rest.take m) (by rw[List.length_take];omega)
     rw[cb_ rest m hml,hkk] at henc
     have lE:=ev_ (g:=gnr s) (num:=at_) (kind:=k2) (b:=rest.take m) (by rw[List.length_take];omega)
     have hwr:=vo_ ⟨s,wrI w,left,false⟩ hpre rfl at_ (by simp only;omega) (secE (gnr s) at_ k2 (rest.take m)) lE (by simp only[kw_];omega)
     rw[wrt,← hk2,htm,hdm] at hw
     have hwi:wrI w++[((at_:Int),secE (gnr s) at_ k2 (rest.take m))]=wrI (w++[(at_,secE (gnr s) at_ k2 (rest.take m))]):=by rw[wrI,wrI,List.map_append];rfl
     rw[hwi] at hwr
     generalize secE (gnr s) at_ k2 (rest.take m)=E at *
     have hor:=yR_ hk
     refine cU ?_
     refine WP.skip ?_
     refine sH ?_
     refine WP.cond (b:=decide (n=0)) (by simp;omega) (fun hb=>?_) (fun hb=>?_)
     have hb:=of_decide_eq_true hb
     rw[if_pos hb] at hk2
     refine WP.region ac_ ?_
     simp -dsimp[hor]
     repeat refine aI ?_
     refine aq_ (S':=jI s b left at_ (n+1) k2 rest w) (ae_ [] (by simp[hk2]) (by simp)) ?_
     rotate_left
     have hb:=of_decide_eq_false hb
     rw[if_neg hb] at hk2
     refine WP.skip ?_
     refine aq_ (S':=jI s b left at_ (n+1) k2 rest w) (ae_ [] (by simp[hk2]) (by simp)) ?_
     all_goals
      simp -dsimp
      repeat(first|apply wG|(apply wR;simp -dsimp[em,dkC,wrD,lr,hml])|refine aI ?_)
      have ea:IntKind.i64.wrap ((at_:Int)+1)=(at_:Int)+1:=IntWalk.i64_in _ (by omega)
      have en:IntKind.i64.wrap (n:Int)=(n:Int):=IntWalk.i64_in _ (by omega)
      have hbd:bys (rest.drop m)=(bys rest).drop m:=by rw[bys,List.map_drop];rfl
      have htd:List.take (rest.length-m) ((bys rest).drop m)=(bys rest).drop m:=List.take_of_length_le (by rw[List.length_drop,lr];exact Nat.le_refl _)
      refine aa_ jl_ henc rfl rfl (by simp) ?_
      simp -dsimp
      repeat refine aI ?_
      refine aa_ pD_ hwr rfl rfl (by simp[dkD,dkC,wrD]) ?_
      simp -dsimp[dkD,dkC,wrD]
      repeat refine aI ?_
      refine sG ?_
      refine cE ?_
      refine WP.skip ?_
      simp -dsimp
      repeat(first|apply wG|(apply wR;simp -dsimp[lr,hml])|refine aI ?_)
      refine loopW.next (jI s b left (at_+1) n 0 (rest.drop m) (w++[(at_,E)])) (ae_ [] (by simp[ea,en,hbd,htd]) (by simp[dkC,wrD])) n (by omega) ⟨n,0,at_+1,rest.drop m,w++[(at_,E)],rfl,by simp;omega,by rw[hw];simp,by omega,by rw[List.length_drop];omega,rfl⟩
   ·refine sH ?_
    refine cE ?_
    refine WP.exit ?_
    simp -dsimp
    have h103:=wG_ ⟨s,wrI (wrR s b),left,false⟩ (ly_ hs n1 n2 l1 l2 hu (w':=[]) (by simp)) rfl
    rw[qS_] at h103
    repeat(first|apply wG|(apply wR;simp -dsimp[dkC,wrD])|refine aI ?_)
    refine aa_ pC_ h103 rfl rfl (by simp[dkD,dkC,wrD]) ?_
    simp -dsimp
    by_cases hc:0≤left∧left<secs b.length
    ·rw[if_pos hc,if_pos hc]
     simp -dsimp[dkD,dkC,wrC,wrD]
     refine sG ?_
     refine cU ?_
     refine sG ?_
     refine WP.ret (ab_ ?_)
     simp -dsimp[logD,lgC,dkD,dkC,wrC,slLB,lsB,wrD]
    ·rw[if_neg hc,if_neg hc]
     simp -dsimp[dkD,dkC,wrC,wrD]
     refine sG ?_
     refine cE ?_
     refine WP.skip ?_
     simp -dsimp
     repeat(first|apply wG|(apply wR;simp -dsimp[lA])|refine aI ?_)
     refine WP.ret (ab_ ?_)
     simp -dsimp[logD,lgC,dkD,dkC,wrC,slLB,wrD]
  ·rw[if_neg hg]
   have hg0:gnr s/4294967296≠0:=by omega
   refine cT (by simp[hsh];omega) ?_
   refine sG ?_
   refine WP.ret (ab_ ?_)
   simp -dsimp[logD,lgC,dkD,dkC,wrC,slLB,lsB,wrD]
 ·have hlt:i<s.length:=by omega
  have e1:IntKind.i64.wrap ((i:Int)+1)=(i:Int)+1:=IntWalk.i64_in _ (by omega)
  have hsi:s[i].length=128:=hs _ (List.getElem_mem _)
  have hat:=iM_ (s.take i) s[i] (s.drop (i+1))
  rw[← List.drop_eq_getElem_cons hlt,List.take_append_drop,List.length_take,Nat.min_eq_left hi] at hat
  have lS:=aI_ s
  have hst:=qI_ s hlt
  have g0:=iR_ (s[i].take 4) (by rw[List.length_take];omega)
  have g1:=iR_ ((s[i].drop 124).take 4) (by rw[List.length_take];omega)
  rw[cb_ _ _ (by omega),← genS] at g0
  rw[dX_ _ _ _ (by omega),List.take_of_length_le (l:=s[i].drop 124) (by rw[List.length_drop];omega),← tailS] at g1
  have hg0:=fc_ s[i]
  have hg1:=p6_ hsi
  generalize s[i]=x at *
  have lx:=ah_ x
  refine cT (by simp;omega) ?_
  refine WP.skip ?_
  simp -dsimp
  repeat(first|apply wG|(apply wR;simp -dsimp[hat,lS,hlt,slB,hsi,lx])|refine aI ?_)
  refine aa_ a0_ g0 rfl rfl (by simp) ?_
  simp -dsimp
  repeat refine aI ?_
  refine aa_ a0_ g1 rfl rfl (by simp[lx,hsi]) ?_
  simp -dsimp
  repeat refine aI ?_
  refine h9_ rfl rfl rfl rfl ?_
  simp -dsimp
  repeat refine aI ?_
  have em:max ((gnr (s.take i):Nat):Int) (max (IntKind.u64.wrap ((genS x:Int)+1)) (IntKind.u64.wrap ((tailS x:Int)+1)))=((gnr (s.take (i+1)):Nat):Int):=by
   rw[hst,IntKind.wrap_u64,IntKind.wrap_u64,Int.emod_eq_of_lt (by omega) (by omega),Int.emod_eq_of_lt (by omega) (by omega)];omega
  refine sG ?_
  refine loopW.next (jG s b ⟨s,[],left,false⟩ (i+1)) (ae_ [12] (by simp[e1,em]) (by simp)) (s.length-(i+1)) (by omega) ⟨i+1,rfl,by omega,rfl⟩
def rmT (x:Rm×Int):D:=.tup [rmD x.1,.v (.int .i64 x.2)]
theorem rmD_ze:rmD zeR=.agg [.v (.int .i64 0),.sl 1 [] 0 false,.v (.int .i64 0),.v (.int .i64 0),.sl 1 [] 0 false,.sl 2 [] 0 false,.v (.int .i64 0),.v (.bool false),.v (.int .i64 0),.sl 1 [] 0 false,.v (.int .i64 0),.sl 61 [] 0 false,.v (.int .i64 0)]:=rfl
theorem k1_ {seed:By} {m u:Int} (h:keyV seed m u=true):∃ d:Dg,oW_ seed m u=(d,0)∧d.length=32:=⟨_,by rw[oW_,if_pos h],aP_ _⟩
theorem oV_ {seed:By} {m u:Int} (h:¬ keyV seed m u=true):oW_ seed m u=(z32,40):=by rw[oW_,if_neg h]
theorem eJ_ (d:By):∀ c∈bys d,oneD c=true:=fun c hc=>by
 obtain⟨x,_,rfl⟩:=List.mem_map.1 hc
 rfl
set_option maxRecDepth 10000 in
set_option maxHeartbeats 2000000 in
theorem kN_ (crew:Int) (seed:By) (hs:seed.length≤1000) (m u k:Int):Fn0 Tryz.prog 10 [.v (.int .i64 crew),keyD seed m u,.v (.int .i64 k)] (rmT (tY_ crew seed m u k)):=by
 have h38:=iS_ crew
 have h29:=gq_ seed hs m u
 unfold tY_
 refine ad_ (pn:=an_) ac_ Tryz.func10 rfl fun β0=>?_
 simp only[Tryz.f10]
 repeat(first|apply wG|(apply wR;simp -dsimp[keyD,slB])|refine aI ?_)
 refine aa_ fp_ h38 rfl rfl (by simp) ?_
 refine sH ?_
 by_cases hc:0≤crew∧crew<32
 ·rw[if_pos hc]
  refine cF (by simp;omega) ?_
  refine WP.skip ?_
  simp -dsimp
  by_cases hk:keyV seed m u=true
  ·rw[if_pos hk]
   obtain⟨d,hd,h32⟩:=k1_ hk
   rw[hd,dD] at h29
   have ld:=ah_ d
   have h1:=eJ_ d
   repeat(first|apply wG|(apply wR;simp -dsimp[slB])|refine aI ?_)
   refine aa_ cH_ h29 rfl rfl (by simp[keyD,slB]) ?_
   simp -dsimp
   repeat(first|apply wG|(apply wR;simp -dsimp[ld,h32,setL_whole])|refine aI ?_)
   refine cE ?_
   refine WP.skip ?_
   simp -dsimp
   by_cases hn:1≤k∧k≤4096
   ·rw[if_pos hn]
    obtain⟨n,rfl⟩:∃ n:Nat,k=n:=⟨k.toNat,by omega⟩
    have h39:=wK_ n (by omega) (by omega)
    have hz:List.replicate n (List.replicate 128 (0:UInt8))=zeS n:=rfl
    have hzl:(zeS n).length=n:=by simp[zeS]
    rw[hz] at h39
    have hdb:dkB ⟨zeS n,[],-1,false⟩=true:=aZ_.2 ⟨⟨by simp only[hzl];omega,by simp only[hzl];omega,Nat.zero_le _,by simp,by simp⟩,(fun _ h=>by cases h),fun b hb=>by rw[(List.mem_replicate.1 hb).2];simp⟩
    have h40:=hT_ ⟨zeS n,[],-1,false⟩ (g3_ hdb)
    rw[lW_,if_pos hdb,if_neg (by simp),if_neg (by simp)] at h40
    simp only[bJ_,hzl] at h40
    rw[dkD,dkC] at h39 h40
    rw[logD,lgC] at h40
    rw[Int.toNat_natCast,mkR,bJ_,hzl]
    refine sG ?_
    refine aa_ js_ h39 rfl rfl (by simp) ?_
    refine sH ?_
    refine cE ?_
    refine WP.skip ?_
    refine sH ?_
    refine aa_ cG_ h40 rfl rfl (by simp) ?_
    refine sH ?_
    refine WP.ret (ab_ ?_)
    simp -dsimp[rmT,rmD,rmC,slB,onL,sgC,lsB,hzl]
   ·rw[if_neg hn]
    have h39:=wL_ k hn
    refine sG ?_
    refine aa_ js_ h39 rfl rfl (by simp) ?_
    simp -dsimp[dkD,dkC]
    repeat(first|apply wG|(apply wR;simp -dsimp[dkD,dkC])|refine aI ?_)
    refine cU ?_
    refine sG ?_
    refine WP.ret (ab_ ?_)
    simp -dsimp[rmT,rmD_ze]
  ·rw[if_neg hk]
   rw[oV_ hk,dD] at h29
   have ld:=ah_ z32
   have h32:z32.length=32:=rfl
   have h1:=eJ_ z32
   repeat(first|apply wG|(apply wR;simp -dsimp[slB])|refine aI ?_)
   refine aa_ cH_ h29 rfl rfl (by simp[keyD,slB]) ?_
   simp -dsimp
   repeat(first|apply wG|(apply wR;simp -dsimp[ld,h32,setL_whole])|refine aI ?_)
   refine cU ?_
   refine sG ?_
   refine WP.ret (ab_ ?_)
   simp -dsimp[rmT,rmD_ze]
 ·rw[if_neg hc]
  refine cT (by simp;omega) ?_
  refine sG ?_
  refine WP.ret (ab_ ?_)
  simp -dsimp[rmT,rmD_ze]
set_option maxRecDepth 10000 in
set_option maxHeartbeats 4000000 in
theorem qe_ (r:Rm) (h:rmOk r):Fn0 Tryz.prog 14 [rmD r] (rmT (vR_ r)):=by
 have h38:=iS_ r.crew
 have h29:=gq_ r.seed h.sd r.many 0
 have h64:=wJ_ r.dk
 have hdo:dkOk ⟨r.dk.s,[],-1,false⟩:=⟨h.dk.ns,Nat.zero_le _,by simp[isI]⟩
 have h40:=hT_ ⟨r.dk.s,[],-1,false⟩ hdo
 unfold vR_
 refine ad_ (pn:=an_) ac_ Tryz.func14 rfl fun β0=>?_
 simp only[Tryz.f14]
 repeat(first|apply wG|(apply wR;simp -dsimp[rmD,rmC])|refine aI ?_)
 refine aa_ fp_ h38 rfl rfl (by simp) ?_
 refine sH ?_
 by_cases hc:0≤r.crew∧r.crew<32
 ·rw[if_pos hc]
  refine cF (by simp;omega) ?_
  refine WP.skip ?_
  simp -dsimp
  by_cases hk:keyV r.seed r.many 0=true
  ·rw[if_pos hk]
   obtain⟨d,hd,h32⟩:=k1_ hk
   rw[hd,dD] at h29
   have ld:=ah_ d
   have h1:=eJ_ d
   repeat(first|apply wG|(apply wR;simp -dsimp[slB])|refine aI ?_)
   refine aa_ cH_ h29 rfl rfl (by simp[keyD,slB]) ?_
   simp -dsimp
   repeat(first|apply wG|(apply wR;simp -dsimp[ld,h32,setL_whole])|refine aI ?_)
   refine cE ?_
   refine WP.skip ?_
   refine sH ?_
   refine aa_ pO_ h64 rfl rfl (by simp[dkD,dkC]) ?_
   simp -dsimp[dkD,dkC]
   refine sG ?_
   by_cases hb:dkB ⟨r.dk.s,[],-1,false⟩=true
   ·rw[if_pos hb]
    rw[lW_,if_pos hb,if_neg (by simp),if_neg (by simp)] at h40
    simp only at h40
    have hdd:=aZ_.1 hb
    have hrl:=c9_ hdd.2.2
    have hsm:=bn_ hdd.2.2 hdd.1.2.1
    have hsl:=hdd.1.2.1
    simp only at hrl hsl hsm
    have h65:=ii_ r.crew r.seed r.many 0 r.dk.s.length (recs r.dk.s) (recs r.dk.s).length hk (by omega) (fun b hb=>by have:=hsm b hb;omega)
    unfold DD_ at h65
    rw[dkD,dkC] at h40
    rw[logD,lgC] at h40 h65
    refine aa_ cG_ h40 rfl rfl (by simp) ?_
    refine sH ?_
    refine cE ?_
    refine WP.skip ?_
    refine sH ?_
    refine aa_ jr_ h65 rfl rfl (by simp[keyD,slB]) ?_
    cases hon:onB r.crew r.many 0 (recs r.dk.s) with
    | true =>
     rw[if_pos rfl,if_pos rfl]
     refine sH ?_
     refine cE ?_
     refine WP.skip ?_
     refine sH ?_
     refine WP.ret (ab_ ?_)
     simp -dsimp[rmT,rmD,rmC,slB,mkR,b4_]
    | false =>
     rw[if_neg (by decide),if_neg (by decide)]
     refine sH ?_
     refine cU ?_
     refine sG ?_
     refine WP.ret (ab_ ?_)
     simp -dsimp[rmT,rmD_ze]
   ·rw[if_neg hb]
    rw[lW_,if_neg hb] at h40
    simp only at h40
    rw[dkD,dkC] at h40
    refine aa_ cG_ h40 rfl rfl (by simp) ?_
    simp -dsimp[logD,lgC]
    repeat(first|apply wG|(apply wR;simp -dsimp[logD,lgC])|refine aI ?_)
    refine cU ?_
    refine sG ?_
    refine WP.ret (ab_ ?_)
    simp -dsimp[rmT,rmD_ze]
  ·rw[if_neg hk]
   rw[oV_ hk,dD] at h29
   have ld:=ah_ z32
   have h32:z32.length=32:=rfl
   have h1:=eJ_ z32
   repeat(first|apply wG|(apply wR;simp -dsimp[slB])|refine aI ?_)
   refine aa_ cH_ h29 rfl rfl (by simp[keyD,slB]) ?_
   simp -dsimp
   repeat(first|apply wG|(apply wR;simp -dsimp[ld,h32,setL_whole])|refine aI ?_)
   refine cU ?_
   refine sG ?_
   refine WP.ret (ab_ ?_)
   simp -dsimp[rmT,rmD_ze]
 ·rw[if_neg hc]
  refine cT (by simp;omega) ?_
  refine sG ?_
  refine WP.ret (ab_ ?_)
  simp -dsimp[rmT,rmD_ze]
end Go.Proofs.YtkcgffilldklcaaGreatDoor
set_option maxRecDepth 10000
namespace Go.Proofs.YtkcgffilldklcaaGreatDoor
open Go.Xe Go.RowKit
theorem gn_ (n:Nat) (hb:n≤1000000000000):Fn0 Tryz.prog 75 [.v (.int .i64 n)] (.v (.int .i64 (secs n))):=by
 have e1:IntKind.i64.wrap ((n:Int)+112)=(n:Int)+112:=IntWalk.i64_in _ (by omega)
 have e2:IntKind.i64.wrap ((n:Int)+112-1)=((n+111:Nat):Int):=by rw[IntWalk.i64_in _ (by omega)];omega
 obtain⟨q,hq⟩:∃ q,(n+111)/112=q:=⟨_,rfl⟩
 have e3:IntKind.i64.wrap (((n+111:Nat):Int).tdiv 112)=(q:Int):=by
  rw[Int.tdiv_eq_ediv_of_nonneg (by omega),IntWalk.i64_in _ (by omega)];omega
 rw[secs,hq]
 obtain⟨w,hw⟩:∃ w,n+111=w:=⟨_,rfl⟩
 rw[hw] at e2 e3
 have e4:IntKind.i64.wrap ((w:Int)/112)=(q:Int):=by rw[IntWalk.i64_in _ (by omega)];omega
 refine ad_ (pn:=an_) ac_ Tryz.func75 rfl fun β0=>?_
 simp only[Tryz.f75]
 repeat(first|apply wG|(apply wR;simp -dsimp[e1,e2,e3,e4])|refine aI ?_)
 refine WP.ret (ab_ ?_)
 simp -dsimp[e3,e4]
 exact BM_ (by omega)
abbrev ruS (l:List By) (i:Nat):St:=mkS 20 [(0,.d (slLB l)),(3,.d (.v (.int .i64 (usd (l.take i))))),(4,.d (.v (.int .i64 i)))] []
theorem vz_ (l:List By) {i:Nat} (h:i<l.length):usd (l.take (i+1))=usd (l.take i)+secs l[i].length:=by
 have e:l.take (i+1)=l.take i++[l[i]]:=by rw[List.take_add_one,List.getElem?_eq_getElem h];rfl
 rw[e,gc_];simp[usd]
theorem AH_ (l:List By) (i:Nat):usd (l.take i)≤usd l:=by
 have h:=gc_ (l.take i) (l.drop i)
 rw[List.take_append_drop] at h;omega
set_option maxHeartbeats 1000000 in
theorem gm_ (l:List By) (hn:l.length≤1000000000000) (hu:usd l≤1000000000000) (hl:∀ b∈l,b.length≤1000000000000):Fn0 Tryz.prog 76 [slLB l] (.v (.int .i64 (usd l))):=by
 have la:=aI_ l
 refine ad_ (pn:=an_) ac_ Tryz.func76 rfl fun β0=>?_
 simp only[Tryz.f76]
 refine sG ?_
 refine ai_ (fun q S=>∃ i:Nat,q=l.length-i∧i≤l.length∧S=ruS l i) l.length (S0:=ruS l 0) (ae_ [] (by simp[usd]) (by simp)) ⟨0,rfl,by omega,rfl⟩ ?_
 rintro _ _ ⟨i,rfl,hi,rfl⟩
 refine sH ?_
 by_cases hin:i<l.length
 ·have e1:IntKind.i64.wrap ((i:Int)+1)=((i+1:Nat):Int):=by rw[IntWalk.i64_in _ (by omega)];omega
  have hst:=vz_ l hin
  have hle:=AH_ l (i+1)
  have hc:=gn_ l[i].length (hl _ (List.getElem_mem hin))
  obtain⟨q,hq⟩:∃ q,secs l[i].length=q:=⟨_,rfl⟩
  rw[hq] at hst hc
  have e2:IntKind.i64.wrap ((usd (l.take i):Int)+(q:Int))=(usd (l.take (i+1)):Int):=by rw[IntWalk.i64_in _ (by omega)];omega
  refine cT (by simp;omega) ?_
  refine WP.skip ?_
  simp -dsimp
  repeat(first|apply wG|(apply wR;simp -dsimp[as_,la,hin,slB])|refine aI ?_)
  refine aa_ fk_ hc rfl rfl (by simp) ?_
  simp -dsimp
  repeat(first|apply wG|(apply wR;simp -dsimp[e2])|refine aI ?_)
  refine loopW.next (ruS l (i+1)) (ae_ [] (by simp[e1,e2]) (by simp)) (l.length-(i+1)) (by omega) ⟨i+1,rfl,by omega,rfl⟩
 ·obtain rfl:i=l.length:=by omega
  refine cE ?_
  refine WP.exit ?_
  simp -dsimp
  repeat(first|apply wG|(apply wR;simp -dsimp[List.take_length])|refine aI ?_)
  refine WP.ret (ab_ ?_)
  simp -dsimp[List.take_length]
theorem mt_ {many:Nat} {R:List By} {n:Nat} (h:lgOk many R n):Fn0 Tryz.prog 74 [logD many R n] (.v (.int .i64 0)):=by
 have hu:=gm_ R (by have:=h.ln;omega) (by have:=h.u;have:=h.m2;omega) (fun b hb=>by have:=h.sm b hb;omega)
 have h1:=h.m1
 have h2:=h.m2
 have h3:=h.n1
 have h4:=h.u
 have a1:decide ((many:Int)<1)=false:=decide_eq_false (by omega)
 have a2:decide (4096<(many:Int))=false:=decide_eq_false (by omega)
 have a3:decide ((n:Int)<0)=false:=decide_eq_false (by omega)
 have a4:decide ((R.length:Int)<(n:Int))=false:=decide_eq_false (by omega)
 refine ad_ (pn:=an_) ac_ Tryz.func74 rfl fun β0=>?_
 simp only[Tryz.f74]
 repeat(first|apply wG|(apply wR;simp -dsimp[logD,lgC,a1,a2,a3,a4])|refine aI ?_)
 refine af_ fj_ (fun _=>hu) rfl (fun _=>rfl) (fun _=>by simp) ?_
 simp -dsimp
 repeat refine aI ?_
 refine cF (by simp;omega) ?_
 refine WP.skip ?_
 refine sH ?_
 refine WP.ret (ab_ ?_)
 simp -dsimp
theorem tr_ {many:Nat} {R:List By} {n:Nat} (h:lgOk many R n) (b:By) (hb:b.length≤1000000) :
  Fn0 Tryz.prog 27 [logD many R n,slB b] (if usd R+secs b.length≤many then .tup [logD many (R++[b]) n,.v (.int .i64 0)] else .tup [logD 0 [] 0,.v (.int .i64 2)]):=by
 have hck:=mt_ h
 have hu:=gm_ R (by have:=h.ln;omega) (by have:=h.u;have:=h.m2;omega) (fun b hb=>by have:=h.sm b hb;omega)
 have hs:=gn_ b.length (by omega)
 have h1:=h.m1
 have h2:=h.m2
 have h4:=h.u
 have h5:=h.ln
 have e1:IntKind.i64.wrap ((many:Int)-(usd R:Nat))=((many-usd R:Nat):Int):=by rw[IntWalk.i64_in _ (by omega)];omega
 refine ad_ (pn:=an_) ac_ Tryz.func27 rfl fun β0=>?_
 simp only[Tryz.f27]
 repeat(first|apply wG|(apply wR;simp -dsimp[logD,lgC,slB])|refine aI ?_)
 refine aa_ jg_ hck rfl rfl (by simp[logD,lgC]) ?_
 refine sH ?_
 refine cE ?_
 refine WP.skip ?_
 refine sH ?_
 refine aa_ fk_ hs rfl rfl (by simp) ?_
 simp -dsimp
 repeat refine aI ?_
 refine aa_ fj_ hu rfl rfl (by simp) ?_
 simp -dsimp[e1]
 repeat refine aI ?_
 by_cases hc:usd R+secs b.length≤many
 ·rw[if_pos hc]
  refine cF (congrArg (fun x=>AV.d (D.v (Value.bool x))) (decide_eq_false (by omega))) ?_
  refine WP.skip ?_
  simp -dsimp
  repeat(first|apply wG|(apply wR;simp -dsimp[aI_])|refine aI ?_)
  have hla:lsB (R++[b])=lsB R++[slB b]:=by simp[lsB]
  refine WP.ret (aj_ (Wk.freeze (k:=30) (T:=22) (sz:=1) (n:=R.length+1) (ds:=lsB (R++[b])) (by simp[hla,slB])) ?_)
  simp -dsimp[logD,lgC]
 ·rw[if_neg hc]
  refine cT (congrArg (fun x=>AV.d (D.v (Value.bool x))) (decide_eq_true (by omega))) ?_
  refine sG ?_
  refine WP.ret (ab_ ?_)
  simp -dsimp[logD,lgC,lsB]
abbrev rgG (l:List By) (i:Nat):St:=mkS 27 [(0,.d (slLB l)),(3,.d (.v (.int .u64 ((gnr (l.take i)-1:Nat):Int)))),(4,.d (.v (.int .i64 i)))] []
set_option maxHeartbeats 2000000 in
theorem tq_ (l:List By) (hl:∀ b∈l,b.length=128) (hn:l.length≤4096):Fn0 Tryz.prog 77 [slLB l] (.v (.int .u64 (gnr l))):=by
 have lll:=aI_ l
 refine ad_ (pn:=an_) ac_ Tryz.func77 rfl fun β0=>?_
 simp only[Tryz.f77]
 refine sG ?_
 refine ai_ (fun q S=>∃ i:Nat,q=l.length-i∧i≤l.length∧gnr (l.take i)≤4294967296∧S=rgG l i) l.length (S0:=rgG l 0) (ae_ [] (by simp[gnr]) (by simp)) ⟨0,rfl,by omega,by simp[gnr],rfl⟩ ?_
 rintro _ _ ⟨i,rfl,hi,hg,rfl⟩
 have hp:=fb_ (l.take i)
 refine sH ?_
 by_cases hin:i<l.length
 ·have e1:IntKind.i64.wrap ((i:Int)+1)=((i+1:Nat):Int):=by rw[IntWalk.i64_in _ (by omega)];omega
  have hst:=qI_ l hin
  have hs:=hl _ (List.getElem_mem hin)
  have g0:=bY_ (l[i].take 4) (by rw[List.length_take];omega)
  have g1:=bY_ ((l[i].drop 124).take 4) (by rw[List.length_take];omega)
  rw[cb_ _ _ (by omega),← genS] at g0
  rw[dX_ _ _ _ (by omega),List.take_of_length_le (l:=l[i].drop 124) (by rw[List.length_drop];omega),← tailS] at g1
  have hg0:=fc_ l[i]
  have hg1:=p6_ hs
  have lx:=ah_ l[i]
  have em:max ((gnr (l.take i)-1:Nat):Int) (max ((genS l[i]:Nat):Int) ((tailS l[i]:Nat):Int))=((gnr (l.take (i+1))-1:Nat):Int):=by rw[hst];omega
  have hg':gnr (l.take (i+1))≤4294967296:=by rw[hst];omega
  refine cT (by simp;omega) ?_
  refine WP.skip ?_
  simp -dsimp
  repeat(first|apply wG|(apply wR;simp -dsimp[as_,lll,hin,slB,hs,lx])|refine aI ?_)
  refine aa_ aW_ g0 rfl rfl (by simp) ?_
  simp -dsimp[as_,lll,hin,slB,hs,lx]
  repeat refine aI ?_
  refine aa_ aW_ g1 rfl rfl (by simp[lx,hs]) ?_
  simp -dsimp
  repeat refine aI ?_
  refine h9_ rfl rfl rfl rfl ?_
  simp -dsimp
  repeat refine aI ?_
  refine sG ?_
  refine loopW.next (rgG l (i+1)) (ae_ [] (by simp[e1,em]) (by simp)) (l.length-(i+1)) (by omega) ⟨i+1,rfl,by omega,hg',rfl⟩
 ·obtain rfl:i=l.length:=by omega
  rw[List.take_length] at hp hg
  have e2:IntKind.u64.wrap (((gnr l-1:Nat):Int)+1)=(gnr l:Int):=by rw[IntKind.wrap_u64];omega
  refine cE ?_
  refine WP.exit ?_
  simp -dsimp
  repeat(first|apply wG|(apply wR;simp -dsimp[List.take_length,e2])|refine aI ?_)
  refine WP.ret (ab_ ?_)
  simp -dsimp[List.take_length,e2]
end Go.Proofs.YtkcgffilldklcaaGreatDoor
