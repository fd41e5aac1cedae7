/-
  Joined texts.
-/
import Derived.Test.YtfgcgagcpnbgmaaGreatDoorGNl
import Derived.Test.YtfgcgagcpnbgmaaGreatDoorGNc
import Derived.Test.YtfgcgagcpnbgmaaGreatDoorGEngFz
import Derived.Test.YtfgcgagcpnbgmaaGreatDoorGOg
import Derived.Test.YtfgcgagcpnbgmaaGreatDoorGNg
set_option linter.all false
namespace Go.Proofs.YtfgcgagcpnbgmaaGreatDoor
open Go.Xe Go.RowKit
def Eu_ (s:List By) (left:Int) (b:By):D :=
 if gnr s<4294967296 then
  if 0≤left∧left<secs b.length then .tup [logD 0 [] 0,dkD ⟨stopS s (wrR s b) left.toNat,[],0,true⟩,.v (.int .i64 380)]
  else .tup [logD s.length (recs s++[b]) ((recs s).length+1),dkD ⟨perf s (wrI (wrR s b)),[],lh_ left (secs b.length),false⟩,.v (.int .i64 0)]
 else .tup [logD 0 [] 0,dkD ⟨[],[],0,false⟩,.v (.int .i64 390)]
theorem wt_ (s:List By) {i:Nat} (h:i<s.length):gnr (s.take (i+1))=max (gnr (s.take i)) (max (genS s[i]+1) (tailS s[i]+1)):=by
 have e:s.take (i+1)=s.take i++[s[i]]:=by rw[List.take_add_one,List.getElem?_eq_getElem h];rfl
 rw[e,gnr,List.foldl_append];rfl
abbrev jB2 (s:List By) (b:By):Box:=.cells 30 [.d (.v (.int .i64 s.length)),.d (slLB (recs s++[b])),.d (.v (.int .i64 (recs s).length))]
abbrev jB3 (d:Dk):Box:=.cells 28 ((dkC d).map .d)
abbrev jB4:Box:=.cells 30 [.d (.v (.int .i64 0)),.d (.v (.slice none 0 0)),.d (.v (.int .i64 0))]
abbrev jB5:Box:=.cells 28 [.d (.v (.slice none 0 0)),.d (.v (.slice none 0 0)),.d (.v (.int .i64 0)),.d (.v (.bool false))]
abbrev jB9 (s:List By):Box:=.cells 30 [.d (.v (.int .i64 s.length)),.d (slLB (recs s)),.d (.v (.int .i64 (recs s).length))]
abbrev jBx (s:List By) (b:By) (d:Dk):Bxs:=[(2,jB2 s b),(3,jB3 d),(4,jB4),(5,jB5),(9,jB9 s)]
abbrev jG (s:List By) (b:By) (d:Dk) (i:Nat):St:=mkS 167 [(2,.ptr 2 0),(3,.ptr 3 0),(4,.ptr 4 0),(5,.ptr 5 0),(9,.ptr 9 0),(10,.d (.v (.int .u64 (gnr (s.take i))))),(57,.d (slLB s)),(58,.d (.v (.int .i64 s.length))),(59,.d (.v (.int .i64 i)))] (jBx s b d)
abbrev jI (s:List By) (b:By) (left:Int) (at_ n kind:Nat) (rest:By) (w:List (Nat×By)):St :=
 mkS 167 [(2,.ptr 2 0),(3,.ptr 3 0),(4,.ptr 4 0),(5,.ptr 5 0),(9,.ptr 9 0),(10,.d (.v (.int .u64 (gnr s)))),(13,.d (.v (.int .i64 at_))),(15,.d (slB rest)),(16,.d (.v (.int .u8 kind))),(17,.d (.v (.int .i64 n))),(108,.d (.sl 1 [slB b] 1 false)),(109,.d (.v (.int .i64 1))),(110,.d (.v (.int .i64 0)))] (jBx s b ⟨s,wrI w,left,false⟩)
abbrev jO (s:List By) (b:By) (left:Int) (at_:Nat) (w:List (Nat×By)) (i:Nat):St :=
 mkS 167 [(2,.ptr 2 0),(3,.ptr 3 0),(4,.ptr 4 0),(5,.ptr 5 0),(9,.ptr 9 0),(10,.d (.v (.int .u64 (gnr s)))),(13,.d (.v (.int .i64 at_))),(108,.d (.sl 1 [slB b] 1 false)),(109,.d (.v (.int .i64 1))),(110,.d (.v (.int .i64 i)))] (jBx s b ⟨s,wrI w,left,false⟩)
theorem vv_ (w:List (Nat×By)) (m:Nat):(wrI w).take m=wrI (w.take m):=by rw[wrI,wrI,List.map_take]
theorem vw_ (w:List (Nat×By)) (m:Nat):(wrI w).getD m (0,[])=(((w.getD m (0,[])).1:Int),(w.getD m (0,[])).2):=by
 simp only[wrI,List.getD_eq_getElem?_getD,List.getElem?_map]
 cases w[m]? <;> rfl
theorem yg_ {s:List By} {b:By} (hu:usd (recs s)+secs b.length≤s.length) {w:Nat×By} (h:w∈wrR s b):w.1<s.length∧w.2.length=128:=by
 refine⟨?_,h7_ _ _ _ _ _ w h⟩
 have h2:w.1∈(wrR s b).map (·.1):=List.mem_map_of_mem h
 rw[wrR,f6_,List.mem_range'_1] at h2
 omega
theorem ow_ (s:List By) (b:By):(wrR s b).length=secs b.length:=eT_ _ _ _ _ _
theorem uD_ {s:List By} (hs:∀ x∈s,x.length=128) (n1:1≤s.length) (n2:s.length≤4096) {left:Int} (l1 : -1≤left) (l2:left≤65536) {b:By} (hu:usd (recs s)+secs b.length≤s.length) {w w':List (Nat×By)} (h:wrR s b=w++w') :
  dkB ⟨s,wrI w,left,false⟩=true:=by
 have hl:w.length≤secs b.length:=by rw[← ow_ s b,h,List.length_append];omega
 refine a1_.2 ⟨⟨n1,n2,?_,l1,l2⟩,fun x hx=>?_,hs⟩
 ·simp only[oy_];omega
 ·obtain⟨y,hy,rfl⟩:=List.mem_map.1 hx
  have:=yg_ hu (w:=y) (by rw[h];exact List.mem_append_left _ hy)
  exact⟨Int.natCast_nonneg _,by simp only;omega,this.2⟩
theorem wK_ (s:List By) (b:By) (left:Int):uC_ ⟨s,wrI (wrR s b),left,false⟩ =
  if 0≤left∧left<secs b.length then (⟨stopS s (wrR s b) left.toNat,[],0,true⟩,380) else (⟨perf s (wrI (wrR s b)),[],lh_ left (secs b.length),false⟩,0):=by
 simp only[uC_,oy_,ow_,Dt_,Ds_,vv_,vw_,Int.toNat_natCast,stopS,lh_]
theorem yR_ {k:Nat} (h:k≤1):bits .or .u8 (k:Int) 2=((k+2:Nat):Int):=by
 rcases (by omega:k=0∨k=1) with rfl|rfl<;>decide
theorem BD_ (n:Nat):(n:Int).fdiv (2^shN .u64 32)=((n/4294967296:Nat):Int):=by
 rw[show ((2:Int)^shN .u64 32)=((4294967296:Nat):Int) by decide,Int.fdiv_eq_ediv_of_nonneg _ (Int.natCast_nonneg _),← Int.natCast_ediv]
set_option maxRecDepth 10000 in
set_option maxHeartbeats 4000000 in
theorem wl_ (s:List By) (hs:∀ x∈s,x.length=128) (n1:1≤s.length) (n2:s.length≤4096) (left:Int) (l1 : -1≤left) (l2:left≤65536) (b:By) (hb:b.length≤1000000) (hu:usd (recs s)+secs b.length≤s.length) :
  Fn0 Tryz.prog 57 [logD s.length (recs s++[b]) (recs s).length,dkD ⟨s,[],left,false⟩] (Eu_ s left b):=by
 have hdk:dkB ⟨s,[],left,false⟩=true:=a1_.2 ⟨⟨n1,n2,Nat.zero_le _,l1,l2⟩,(fun _ h=>by cases h),hs⟩
 have hus:=dY_ hs
 have hsm:=b2_ hs n2
 have lgk:lgOk s.length (recs s++[b]) (recs s).length:=⟨n1,n2,by simp,by rw[oE_];simp[usd];omega,fun x hx=>by
  rcases List.mem_append.1 hx with hx|hx
  ·have:=hsm x hx;omega
  ·rw[List.mem_singleton.1 hx];exact hb,by simp;omega⟩
 have h95:=mQ_ lgk
 have h82:=eC_ ⟨s,[],left,false⟩ (kl_ hdk)
 rw[dkE,if_pos hdk] at h82
 have h40:=hV_ ⟨s,[],left,false⟩ (kl_ hdk)
 rw[k2_,if_pos hdk,if_neg (by simp),if_neg (by simp)] at h40
 have h87:=m3_ (recs s) (recs s) (by omega) (by omega)
 rw[decide_eq_true rfl] at h87
 have h97:=oD_ (recs s) (by omega) (by omega) (fun x hx=>by have:=hsm x hx;omega)
 have lR:=aZ_ (recs s)
 have hla:lsB (recs s++[b])=lsB (recs s)++[slB b]:=by simp[lsB]
 refine ad_ (pn:=an_) ac_ Tryz.func57 rfl fun β0=>?_
 simp only[Tryz.f57]
 repeat(first|apply wG|(apply wR;simp -dsimp[logD,lgC,dkD,dkC,wrC])|refine aI ?_)
 refine aa_ ja_ h95 rfl rfl (by simp[logD,lgC]) ?_
 simp -dsimp
 refine sG ?_
 refine cF (by simp) ?_
 refine WP.skip ?_
 simp -dsimp
 refine sG ?_
 refine aa_ dC_ h82 rfl rfl (by simp[dkD,dkC,wrC]) ?_
 simp -dsimp
 refine sG ?_
 refine cF (by simp) ?_
 refine WP.skip ?_
 simp -dsimp
 refine sG ?_
 refine cF (by simp) ?_
 refine WP.skip ?_
 simp -dsimp
 refine sG ?_
 refine aa_ cH_ h40 rfl rfl (by simp[dkD,dkC,wrC]) ?_
 simp -dsimp[logD,lgC]
 refine sG ?_
 refine cF (by simp) ?_
 refine WP.skip ?_
 simp -dsimp
 refine sG ?_
 refine ai_ (fun q S=>∃ i:Nat,q=s.length-i∧i≤s.length∧S=jG s b ⟨s,[],left,false⟩ i) s.length (S0:=jG s b ⟨s,[],left,false⟩ 0) (af_ [] (by simp[gnr]) (by simp[dkC,wrC])) ⟨0,rfl,by omega,rfl⟩ ?_
 rintro _ _ ⟨i,rfl,hi,rfl⟩
 simp -dsimp
 refine sG ?_
 by_cases hx:i=s.length
 ·subst hx
  refine cF (by simp) ?_
  refine WP.exit ?_
  simp -dsimp[List.take_length]
  have htk:List.take (recs s).length (lsB (recs s++[b]))=lsB (recs s):=by rw[hla,List.take_left' lR]
  have lA:(lsB (recs s++[b])).length=(recs s).length+1:=by rw[aZ_];simp
  repeat(first|apply wG|(apply wR;simp -dsimp[htk,lA,List.take_length])|refine aI ?_)
  refine aa_ jd_ h87 rfl rfl (by simp[htk]) ?_
  simp -dsimp
  repeat refine aI ?_
  have hsh:=BD_ (gnr s)
  unfold Eu_
  by_cases hg:gnr s<4294967296
  ·rw[if_pos hg]
   have hg0:gnr s/4294967296=0:=by omega
   rw[hg0] at hsh
   refine cF (by simp[hsh]) ?_
   refine WP.skip ?_
   simp -dsimp
   refine sG ?_
   refine cF (by simp[lA];omega) ?_
   refine WP.skip ?_
   simp -dsimp
   repeat(first|apply wG|(apply wR;simp -dsimp[htk,lA])|refine aI ?_)
   refine aa_ e8_ h97 rfl rfl (by simp[htk]) ?_
   simp -dsimp
   have hdr:List.drop (recs s).length (lsB (recs s++[b]))=[slB b]:=by rw[hla,List.drop_left' lR]
   repeat(first|apply wG|(apply wR;simp -dsimp[htk,hdr,lA])|refine aI ?_)
   have i1:∀ i:Nat,IntKind.i64.wrap ((((recs s).length+1:Nat):Int)-((recs s).length:Nat))=1:=fun _=>by rw[IntWalk.i64_in _ (by omega)];omega
   refine ai_ (fun q S=>(q=1∧S=jO s b left (usd (recs s)) [] 0)∨(q=0∧S=jO s b left (usd (recs s)+secs b.length) (wrR s b) 1)) 1 (S0:=jO s b left (usd (recs s)) [] 0) (af_ [] (by simp[hdr,lA,List.take_length]) (by simp[wrI,dkC,wrC])) (.inl ⟨rfl,rfl⟩) ?_
   rintro _ _ (⟨rfl,rfl⟩|⟨rfl,rfl⟩)
   ·simp -dsimp
    refine sG ?_
    refine cT (by simp) ?_
    refine WP.skip ?_
    simp -dsimp
    refine sG ?_
    refine aa_ e9_ (gf_ b (by omega)) rfl rfl (by simp) ?_
    simp -dsimp
    refine sG ?_
    refine ai_ (fun q S=>∃ (n kind at_:Nat) (rest:By) (w:List (Nat×By)),q=n∧at_=usd (recs s)+w.length∧wrR s b=w++wrt (gnr s) n at_ kind rest∧kind≤1∧rest.length≤1000000∧S=jI s b left at_ n kind rest w) (secs b.length) (S0:=jI s b left (usd (recs s)) (secs b.length) 1 b []) (af_ [] (by simp[slB]) (by simp)) ⟨secs b.length,1,usd (recs s),b,[],rfl,rfl,rfl,by omega,hb,rfl⟩ ?_
    rintro n _ ⟨_,kind,at_,rest,w,rfl,ha,hw,hk,hr,rfl⟩
    have hwl:=ow_ s b
    rw[hw,List.length_append,eT_] at hwl
    simp -dsimp
    refine sG ?_
    cases n with
    | zero =>
     rw[wrt,List.append_nil] at hw
     refine cF (by simp) ?_
     refine WP.exit ?_
     simp -dsimp
     refine sG ?_
     have w1:IntKind.i64.wrap 1=1:=by decide
     obtain rfl:at_=usd (recs s)+secs b.length:=by omega
     refine loopW.next (jO s b left (usd (recs s)+secs b.length) (wrR s b) 1) (af_ [] (by simp[w1]) (by simp[hw])) 0 (by omega) (.inr ⟨rfl,rfl⟩)
    | succ n =>
     have hpre:=uD_ hs n1 n2 l1 l2 hu hw
     obtain⟨m,hm⟩:∃ m:Nat,m=min rest.length 112:=⟨_,rfl⟩
     have em:min (rest.length:Int) 112=(m:Int):=by omega
     have hml:m≤rest.length:=by omega
     have htm:rest.take 112=rest.take m:=by
      rcases Nat.le_total rest.length 112 with h|h
      ·rw[List.take_of_length_le h,List.take_of_length_le (by omega)]
      ·rw[show m=112 by omega]
     have hdm:rest.drop 112=rest.drop m:=by
      rcases Nat.le_total rest.length 112 with h|h
      ·rw[List.drop_of_length_le h,List.drop_of_length_le (by omega)]
      ·rw[show m=112 by omega]
     have lr:=ah_ rest
     obtain⟨k2,hk2,hk3⟩:∃ k2:Nat,k2=(if n=0 then kind+2 else kind)∧k2≤3:=⟨_,rfl,by split<;>omega⟩
     have hkk:(UInt8.ofNat k2).toNat=k2:=by rw[UInt8.toNat_ofNat'];omega
     have henc:=kk_ (gnr s) at_ (by omega) (by omega) (UInt8.ofNat k2) (rest.take m) (by rw[List.length_take];omega)
     rw[cp_ rest m hml,hkk] at henc
     have lE:=hO_ (g:=gnr s) (num:=at_) (kind:=k2) (b:=rest.take m) (by rw[List.length_take];omega)
     have hwr:=vt_ ⟨s,wrI w,left,false⟩ hpre rfl at_ (by simp only;omega) (secE (gnr s) at_ k2 (rest.take m)) lE (by simp only[oy_];omega)
     rw[wrt,← hk2,htm,hdm] at hw
     have hwi:wrI w++[((at_:Int),secE (gnr s) at_ k2 (rest.take m))]=wrI (w++[(at_,secE (gnr s) at_ k2 (rest.take m))]):=by rw[wrI,wrI,List.map_append];rfl
     rw[hwi] at hwr
     generalize secE (gnr s) at_ k2 (rest.take m)=E at *
     have hor:=yR_ hk
     refine cT (by simp) ?_
     refine WP.skip ?_
     simp -dsimp
     refine sG ?_
     refine WP.cond (b:=decide (n=0)) (by simp;omega) (fun hb=>?_) (fun hb=>?_)
     have hb:=of_decide_eq_true hb
     rw[if_pos hb] at hk2
     refine WP.region ac_ ?_
     simp -dsimp[hor]
     repeat refine aI ?_
     refine ar_ (S':=jI s b left at_ (n+1) k2 rest w) (af_ [] (by simp[hk2]) (by simp)) ?_
     rotate_left
     have hb:=of_decide_eq_false hb
     rw[if_neg hb] at hk2
     refine WP.skip ?_
     refine ar_ (S':=jI s b left at_ (n+1) k2 rest w) (af_ [] (by simp[hk2]) (by simp)) ?_
     all_goals
      simp -dsimp
      repeat(first|apply wG|(apply wR;simp -dsimp[em,dkC,wrD,lr,hml])|refine aI ?_)
      have ea:IntKind.i64.wrap ((at_:Int)+1)=(at_:Int)+1:=IntWalk.i64_in _ (by omega)
      have en:IntKind.i64.wrap (n:Int)=(n:Int):=IntWalk.i64_in _ (by omega)
      have hbd:bys (rest.drop m)=(bys rest).drop m:=by rw[bys,List.map_drop];rfl
      have htd:List.take (rest.length-m) ((bys rest).drop m)=(bys rest).drop m:=List.take_of_length_le (by rw[List.length_drop,lr];exact Nat.le_refl _)
      refine aa_ hx_ henc rfl rfl (by simp) ?_
      simp -dsimp
      repeat refine aI ?_
      refine aa_ od_ hwr rfl rfl (by simp[dkD,dkC,wrD]) ?_
      simp -dsimp[dkD,dkC,wrD]
      repeat refine aI ?_
      refine sG ?_
      refine cF (by simp) ?_
      refine WP.skip ?_
      simp -dsimp
      repeat(first|apply wG|(apply wR;simp -dsimp[lr,hml])|refine aI ?_)
      refine loopW.next (jI s b left (at_+1) n 0 (rest.drop m) (w++[(at_,E)])) (af_ [] (by simp[ea,en,hbd,htd]) (by simp[dkC,wrD])) n (by omega) ⟨n,0,at_+1,rest.drop m,w++[(at_,E)],rfl,by simp;omega,by rw[hw];simp,by omega,by rw[List.length_drop];omega,rfl⟩
   ·simp -dsimp
    refine sG ?_
    refine cF (by simp) ?_
    refine WP.exit ?_
    simp -dsimp
    have h103:=wI_ ⟨s,wrI (wrR s b),left,false⟩ (uD_ hs n1 n2 l1 l2 hu (w':=[]) (by simp)) rfl
    rw[wK_] at h103
    repeat(first|apply wG|(apply wR;simp -dsimp[dkC,wrD])|refine aI ?_)
    refine aa_ oc_ h103 rfl rfl (by simp[dkD,dkC,wrD]) ?_
    simp -dsimp
    by_cases hc:0≤left∧left<secs b.length
    ·rw[if_pos hc,if_pos hc]
     simp -dsimp[dkD,dkC,wrC,wrD]
     refine sG ?_
     refine cT (by simp) ?_
     refine sG ?_
     refine WP.ret (ab_ ?_)
     simp -dsimp[logD,lgC,dkD,dkC,wrC,slLB,lsB,wrD]
    ·rw[if_neg hc,if_neg hc]
     simp -dsimp[dkD,dkC,wrC,wrD]
     refine sG ?_
     refine cF (by simp) ?_
     refine WP.skip ?_
     simp -dsimp
     repeat(first|apply wG|(apply wR;simp -dsimp[lA])|refine aI ?_)
     refine WP.ret (ab_ ?_)
     simp -dsimp[logD,lgC,dkD,dkC,wrC,slLB,wrD]
  ·rw[if_neg hg]
   have hg0:gnr s/4294967296≠0:=by omega
   refine cT (by simp[hsh];omega) ?_
   refine sG ?_
   refine WP.ret (ab_ ?_)
   simp -dsimp[logD,lgC,dkD,dkC,wrC,slLB,lsB,wrD]
 ·have hlt:i<s.length:=by omega
  have e1:IntKind.i64.wrap ((i:Int)+1)=(i:Int)+1:=IntWalk.i64_in _ (by omega)
  have hsi:s[i].length=128:=hs _ (List.getElem_mem _)
  have hat:=kb_ (s.take i) s[i] (s.drop (i+1))
  rw[← List.drop_eq_getElem_cons hlt,List.take_append_drop,List.length_take,Nat.min_eq_left hi] at hat
  have lS:=aZ_ s
  have hst:=wt_ s hlt
  have g0:=iP_ (s[i].take 4) (by rw[List.length_take];omega)
  have g1:=iP_ ((s[i].drop 124).take 4) (by rw[List.length_take];omega)
  rw[cp_ _ _ (by omega),← genS] at g0
  rw[gc_ _ _ _ (by omega),List.take_of_length_le (l:=s[i].drop 124) (by rw[List.length_drop];omega),← tailS] at g1
  have hg0:=gu_ s[i]
  have hg1:=vI_ hsi
  generalize s[i]=x at *
  have lx:=ah_ x
  refine cT (by simp;omega) ?_
  refine WP.skip ?_
  simp -dsimp
  repeat(first|apply wG|(apply wR;simp -dsimp[hat,lS,hlt,slB,hsi,lx])|refine aI ?_)
  refine aa_ aM_ g0 rfl rfl (by simp) ?_
  simp -dsimp
  repeat refine aI ?_
  refine aa_ aM_ g1 rfl rfl (by simp[lx,hsi]) ?_
  simp -dsimp
  repeat refine aI ?_
  refine oC_ rfl rfl rfl rfl ?_
  simp -dsimp
  repeat refine aI ?_
  have em:max ((gnr (s.take i):Nat):Int) (max (IntKind.u64.wrap ((genS x:Int)+1)) (IntKind.u64.wrap ((tailS x:Int)+1)))=((gnr (s.take (i+1)):Nat):Int):=by
   rw[hst,IntKind.wrap_u64,IntKind.wrap_u64,Int.emod_eq_of_lt (by omega) (by omega),Int.emod_eq_of_lt (by omega) (by omega)];omega
  refine sG ?_
  refine loopW.next (jG s b ⟨s,[],left,false⟩ (i+1)) (af_ [12] (by simp[e1,em]) (by simp)) (s.length-(i+1)) (by omega) ⟨i+1,rfl,by omega,rfl⟩
def rmT (x:Rm×Int):D:=.tup [rmD x.1,.v (.int .i64 x.2)]
theorem rmD_ze:rmD zeR=.agg [.v (.int .i64 0),.sl 1 [] 0 false,.v (.int .i64 0),.v (.int .i64 0),.sl 1 [] 0 false,.sl 2 [] 0 false,.v (.int .i64 0),.v (.bool false),.v (.int .i64 0),.sl 1 [] 0 false,.v (.int .i64 0),.sl 61 [] 0 false,.v (.int .i64 0)]:=rfl
theorem hU_ {seed:By} {m u:Int} (h:keyV seed m u=true):∃ d:Dg,o6_ seed m u=(d,0)∧d.length=32:=⟨_,by rw[o6_,if_pos h],aO_ _⟩
theorem kZ_ {seed:By} {m u:Int} (h:¬ keyV seed m u=true):o6_ seed m u=(z32,40):=by rw[o6_,if_neg h]
theorem cP_ (d:By):∀ c∈bys d,oneD c=true:=fun c hc=>by
 obtain⟨x,_,rfl⟩:=List.mem_map.1 hc
 rfl
set_option maxRecDepth 10000 in
set_option maxHeartbeats 2000000 in
theorem hR_ (crew:Int) (seed:By) (hs:seed.length≤1000) (m u k:Int):Fn0 Tryz.prog 12 [.v (.int .i64 crew),keyD seed m u,.v (.int .i64 k)] (rmT (lV_ crew seed m u k)):=by
 have h38:=iQ_ crew
 have h29:=gl_ seed hs m u
 unfold lV_
 refine ad_ (pn:=an_) ac_ Tryz.func12 rfl fun β0=>?_
 simp only[Tryz.f12]
 repeat(first|apply wG|(apply wR;simp -dsimp[keyD,slB])|refine aI ?_)
 refine aa_ fd_ h38 rfl rfl (by simp) ?_
 simp -dsimp
 refine sG ?_
 by_cases hc:0≤crew∧crew<32
 ·rw[if_pos hc]
  refine cF (by simp;omega) ?_
  refine WP.skip ?_
  simp -dsimp
  by_cases hk:keyV seed m u=true
  ·rw[if_pos hk]
   obtain⟨d,hd,h32⟩:=hU_ hk
   rw[hd,dD] at h29
   have ld:=ah_ d
   have h1:=cP_ d
   repeat(first|apply wG|(apply wR;simp -dsimp[slB])|refine aI ?_)
   refine aa_ cI_ h29 rfl rfl (by simp[keyD,slB]) ?_
   simp -dsimp
   repeat(first|apply wG|(apply wR;simp -dsimp[ld,h32,setL_whole])|refine aI ?_)
   refine cF (by simp) ?_
   refine WP.skip ?_
   simp -dsimp
   by_cases hn:1≤k∧k≤4096
   ·rw[if_pos hn]
    obtain⟨n,rfl⟩:∃ n:Nat,k=n:=⟨k.toNat,by omega⟩
    have h39:=wM_ n (by omega) (by omega)
    have hz:List.replicate n (List.replicate 128 (0:UInt8))=zeS n:=rfl
    have hzl:(zeS n).length=n:=by simp[zeS]
    rw[hz] at h39
    have hdb:dkB ⟨zeS n,[],-1,false⟩=true:=a1_.2 ⟨⟨by simp only[hzl];omega,by simp only[hzl];omega,Nat.zero_le _,by simp,by simp⟩,(fun _ h=>by cases h),fun b hb=>by rw[(List.mem_replicate.1 hb).2];simp⟩
    have h40:=hV_ ⟨zeS n,[],-1,false⟩ (kl_ hdb)
    rw[k2_,if_pos hdb,if_neg (by simp),if_neg (by simp)] at h40
    simp only[bq_,hzl] at h40
    rw[dkD,dkC] at h39 h40
    rw[logD,lgC] at h40
    rw[Int.toNat_natCast,mkR,bq_,hzl]
    refine sG ?_
    refine aa_ jr_ h39 rfl rfl (by simp) ?_
    simp -dsimp
    refine sG ?_
    refine cF (by simp) ?_
    refine WP.skip ?_
    simp -dsimp
    refine sG ?_
    refine aa_ cH_ h40 rfl rfl (by simp) ?_
    simp -dsimp
    refine sG ?_
    refine WP.ret (ab_ ?_)
    simp -dsimp[rmT,rmD,rmC,slB,onL,sgC,lsB,hzl]
   ·rw[if_neg hn]
    have h39:=wN_ k hn
    refine sG ?_
    refine aa_ jr_ h39 rfl rfl (by simp) ?_
    simp -dsimp[dkD,dkC]
    repeat(first|apply wG|(apply wR;simp -dsimp[dkD,dkC])|refine aI ?_)
    refine cT (by simp) ?_
    refine sG ?_
    refine WP.ret (ab_ ?_)
    simp -dsimp[rmT,rmD_ze]
  ·rw[if_neg hk]
   rw[kZ_ hk,dD] at h29
   have ld:=ah_ z32
   have h32:z32.length=32:=rfl
   have h1:=cP_ z32
   repeat(first|apply wG|(apply wR;simp -dsimp[slB])|refine aI ?_)
   refine aa_ cI_ h29 rfl rfl (by simp[keyD,slB]) ?_
   simp -dsimp
   repeat(first|apply wG|(apply wR;simp -dsimp[ld,h32,setL_whole])|refine aI ?_)
   refine cT (by simp) ?_
   refine sG ?_
   refine WP.ret (ab_ ?_)
   simp -dsimp[rmT,rmD_ze]
 ·rw[if_neg hc]
  refine cT (by simp;omega) ?_
  refine sG ?_
  refine WP.ret (ab_ ?_)
  simp -dsimp[rmT,rmD_ze]
set_option maxRecDepth 10000 in
set_option maxHeartbeats 4000000 in
theorem kH_ (r:Rm) (h:rmOk r):Fn0 Tryz.prog 23 [rmD r] (rmT (qe_ r)):=by
 have h38:=iQ_ r.crew
 have h29:=gl_ r.seed h.sd r.many 0
 have h64:=wL_ r.dk
 have hdo:dkOk ⟨r.dk.s,[],-1,false⟩:=⟨h.dk.ns,Nat.zero_le _,by simp[isI]⟩
 have h40:=hV_ ⟨r.dk.s,[],-1,false⟩ hdo
 unfold qe_
 refine ad_ (pn:=an_) ac_ Tryz.func23 rfl fun β0=>?_
 simp only[Tryz.f23]
 repeat(first|apply wG|(apply wR;simp -dsimp[rmD,rmC])|refine aI ?_)
 refine aa_ fd_ h38 rfl rfl (by simp) ?_
 simp -dsimp
 refine sG ?_
 by_cases hc:0≤r.crew∧r.crew<32
 ·rw[if_pos hc]
  refine cF (by simp;omega) ?_
  refine WP.skip ?_
  simp -dsimp
  by_cases hk:keyV r.seed r.many 0=true
  ·rw[if_pos hk]
   obtain⟨d,hd,h32⟩:=hU_ hk
   rw[hd,dD] at h29
   have ld:=ah_ d
   have h1:=cP_ d
   repeat(first|apply wG|(apply wR;simp -dsimp[slB])|refine aI ?_)
   refine aa_ cI_ h29 rfl rfl (by simp[keyD,slB]) ?_
   simp -dsimp
   repeat(first|apply wG|(apply wR;simp -dsimp[ld,h32,setL_whole])|refine aI ?_)
   refine cF (by simp) ?_
   refine WP.skip ?_
   simp -dsimp
   refine sG ?_
   refine aa_ pH_ h64 rfl rfl (by simp[dkD,dkC]) ?_
   simp -dsimp[dkD,dkC]
   refine sG ?_
   by_cases hb:dkB ⟨r.dk.s,[],-1,false⟩=true
   ·rw[if_pos hb]
    rw[k2_,if_pos hb,if_neg (by simp),if_neg (by simp)] at h40
    simp only at h40
    have hdd:=a1_.1 hb
    have hrl:=c7_ hdd.2.2
    have hsm:=b2_ hdd.2.2 hdd.1.2.1
    have hsl:=hdd.1.2.1
    simp only at hrl hsl hsm
    have h65:=ig_ r.crew r.seed r.many 0 r.dk.s.length (recs r.dk.s) (recs r.dk.s).length hk (by omega) (fun b hb=>by have:=hsm b hb;omega)
    unfold Du_ at h65
    rw[dkD,dkC] at h40
    rw[logD,lgC] at h40 h65
    refine aa_ cH_ h40 rfl rfl (by simp) ?_
    simp -dsimp
    refine sG ?_
    refine cF (by simp) ?_
    refine WP.skip ?_
    simp -dsimp
    refine sG ?_
    refine aa_ jk_ h65 rfl rfl (by simp[keyD,slB]) ?_
    cases hon:onB r.crew r.many 0 (recs r.dk.s) with
    | true =>
     rw[if_pos rfl,if_pos rfl]
     simp -dsimp
     refine sG ?_
     refine cF (by simp) ?_
     refine WP.skip ?_
     simp -dsimp
     refine sG ?_
     refine WP.ret (ab_ ?_)
     simp -dsimp[rmT,rmD,rmC,slB,mkR,cm_]
    | false =>
     rw[if_neg (by decide),if_neg (by decide)]
     simp -dsimp
     refine sG ?_
     refine cT (by simp) ?_
     refine sG ?_
     refine WP.ret (ab_ ?_)
     simp -dsimp[rmT,rmD_ze]
   ·rw[if_neg hb]
    rw[k2_,if_neg hb] at h40
    simp only at h40
    rw[dkD,dkC] at h40
    refine aa_ cH_ h40 rfl rfl (by simp) ?_
    simp -dsimp[logD,lgC]
    repeat(first|apply wG|(apply wR;simp -dsimp[logD,lgC])|refine aI ?_)
    refine cT (by simp) ?_
    refine sG ?_
    refine WP.ret (ab_ ?_)
    simp -dsimp[rmT,rmD_ze]
  ·rw[if_neg hk]
   rw[kZ_ hk,dD] at h29
   have ld:=ah_ z32
   have h32:z32.length=32:=rfl
   have h1:=cP_ z32
   repeat(first|apply wG|(apply wR;simp -dsimp[slB])|refine aI ?_)
   refine aa_ cI_ h29 rfl rfl (by simp[keyD,slB]) ?_
   simp -dsimp
   repeat(first|apply wG|(apply wR;simp -dsimp[ld,h32,setL_whole])|refine aI ?_)
   refine cT (by simp) ?_
   refine sG ?_
   refine WP.ret (ab_ ?_)
   simp -dsimp[rmT,rmD_ze]
 ·rw[if_neg hc]
  refine cT (by simp;omega) ?_
  refine sG ?_
  refine WP.ret (ab_ ?_)
  simp -dsimp[rmT,rmD_ze]
end Go.Proofs.YtfgcgagcpnbgmaaGreatDoor
set_option maxRecDepth 10000
set_option maxHeartbeats 4000000
namespace Go.Proofs.YtfgcgagcpnbgmaaGreatDoor
open Go.Xe Go.RowKit
theorem tc_ (crew:Int) (seed:By) (m:Int) (s:List By) (left sent:Int):rmD (mkR crew seed m s left sent)=.agg [.v (.int .i64 crew),slB seed,.v (.int .i64 m),.v (.int .i64 (recs s).length),slLB s,.sl 2 [] 0 false,.v (.int .i64 left),.v (.bool false),.v (.int .i64 s.length),slLB (recs s),.v (.int .i64 (recs s).length),.sl 61 (sgC (onL seed m (recs s))) (recs s).length false,.v (.int .i64 sent)]:=by
 simp only[rmD,rmC,mkR,sgD,cm_];rfl
def stR (crew:Int) (seed:By) (m:Int) (s:List By) (X:List By) (sent:Int):Rm:=⟨crew,seed,m,(recs s).length,⟨X,[],0,true⟩,s.length,recs s,(recs s).length,onL seed m (recs s),sent⟩
theorem AM_ (crew:Int) (seed:By) (m:Int) (s X:List By) (sent:Int):rmD (stR crew seed m s X sent)=.agg [.v (.int .i64 crew),slB seed,.v (.int .i64 m),.v (.int .i64 (recs s).length),slLB X,.sl 2 [] 0 false,.v (.int .i64 0),.v (.bool true),.v (.int .i64 s.length),slLB (recs s),.v (.int .i64 (recs s).length),.sl 61 (sgC (onL seed m (recs s))) (recs s).length false,.v (.int .i64 sent)]:=by
 simp only[rmD,rmC,stR,sgD,cm_];rfl
theorem yD_ {crew:Int} {seed:By} {m:Int} {s X:List By} {sent:Int} (ho:okR crew seed m X (-1) 0) (hr:recs X=recs s):qe_ (stR crew seed m s X sent)=(mkR crew seed m X (-1) 0,0):=by
 have hk:=a0_.1 ho.key
 have k0:keyV seed m 0=true:=a0_.2 ⟨hk.1,hk.2.1,hk.2.2.1,hk.2.2.2.1,Int.le_refl _,by omega⟩
 have hb:dkB ⟨X,[],-1,false⟩=true:=a1_.2 ⟨⟨ho.n1,ho.n2,Nat.zero_le _,by simp,by simp⟩,(fun _ h=>by cases h),ho.h128⟩
 unfold qe_
 exact (if_pos ⟨ho.c0,ho.c1⟩).trans ((if_pos k0).trans ((if_pos hb).trans (if_pos ho.on)))
theorem vX_ (f:Nat→Int) (c:Int) (n:Nat):fup (fup f 0 c) 1 ((n:Int)+1)=ownF c n f:=rfl
theorem tb_ {crew:Int} {seed:By} {m:Int} {s:List By} {left sent:Int} (ho:okR crew seed m s left sent) (hsd:seed.length≤1000) (h15:Fn0 Tryz.prog 15 [rmD (mkR crew seed m s left sent)] (.v (.int .i64 0)))
  (f:Nat→Int) (hf:fOk f):Fn0 Tryz.prog 17 [rmD (mkR crew seed m s left sent),fD f] (rmT (o1_ crew seed m s left sent (ownF crew (recs s).length f))):=by
 have hus:=dY_ ho.h128
 have hsm:=b2_ ho.h128 ho.n2
 have hn1:=ho.n1
 have hn2:=ho.n2
 have hkk:=a0_.1 ho.key
 have hg:fOk (ownF crew (recs s).length f):=tJ_ hf (by have:=ho.c0;have:=ho.c1;simp[isI];omega) (by omega)
 have g1:=A1_ crew (recs s).length f
 have hrf:=vX_ f crew (recs s).length
 have lG:=cm_ seed m (recs s)
 have eR:IntKind.i64.wrap (((recs s).length:Int)+1)=((recs s).length:Int)+1:=IntWalk.i64_in _ (by omega)
 have hmk:rmD (mkR crew seed m s left sent)=.agg [.v (.int .i64 crew),slB seed,.v (.int .i64 m),.v (.int .i64 (recs s).length),slLB s,.sl 2 [] 0 false,.v (.int .i64 left),.v (.bool false),.v (.int .i64 s.length),slLB (recs s),.v (.int .i64 (recs s).length),.sl 61 (sgC (onL seed m (recs s))) (recs s).length false,.v (.int .i64 sent)]:=by
  simp only[rmD,rmC,mkR,sgD,lG];rfl
 rw[hmk] at h15 ⊢
 have h54:=eF_ seed hsd m (recs s).length (ownF crew (recs s).length f) hg
 have h55:=iY_ (ownF crew (recs s).length f) hg
 have hbl:=wH_ hg
 generalize ownF crew (recs s).length f=g at *
 have hl57:=a4_ f
 have hl57g:=a4_ g
 refine ad_ (pn:=an_) ac_ Tryz.func17 rfl fun β0=>?_
 simp only[Tryz.f17]
 repeat(first|apply wG|(apply wR;simp -dsimp[fD,slB])|refine aI ?_)
 refine aa_ bl_ h15 rfl rfl (by simp[slB]) ?_
 simp -dsimp
 refine sG ?_
 refine cF (by simp) ?_
 refine WP.skip ?_
 simp -dsimp
 repeat(first|apply wG|(apply wR;simp -dsimp[eR,hrf])|refine aI ?_)
 by_cases hok:(numF g).2=true∧((recs s).length:Int)<m
 ·obtain⟨hn,hm⟩:=hok
  have hsr:sgnR seed m (recs s).length g=(sgc (sgQ seed m g),0):=by
   rw[sgnR,if_pos hn,if_pos ⟨ho.key,by omega⟩];rfl
  rw[hsr] at h54
  simp only at h54
  have hl61:=ij_ seed m g
  have hso:dN_ (sgQ seed m g):=⟨hg,rfl,fun d hd=>dm_ hd⟩
  have h1o:=sgc_oneD hso
  rw[Ce_,encR,if_pos hn] at h55
  simp only at h55
  have lgk:lgOk s.length (recs s) (recs s).length:=⟨hn1,hn2,Nat.le_refl _,hus.1,fun b hb=>by have:=hsm b hb;omega,by omega⟩
  have h56:=sp_ lgk (encF g) (by omega)
  have hrec:o1_ crew seed m s left sent g=(if usd (recs s)+secs (encF g).length≤s.length then
    if gnr s<4294967296 then
     if 0≤left∧left<secs (encF g).length then (mkR crew seed m (stopS s (wrR s (encF g)) left.toNat) (-1) 0,380)
     else (mkR crew seed m (perf s (wrI (wrR s (encF g)))) (lh_ left (secs (encF g).length)) sent,0)
    else (zeR,390) else (zeR,2)):=by rw[o1_,if_pos hn,if_pos hm]
  rw[hrec]
  refine aa_ cG_ h54 rfl rfl (by simp[keyD,fD,slB]) ?_
  simp -dsimp
  repeat(first|apply wG|(apply wR;simp -dsimp[setL_whole,hl61])|refine aI ?_)
  refine cF (by simp) ?_
  refine WP.skip ?_
  simp -dsimp
  refine sG ?_
  refine aa_ fc_ h55 rfl rfl (by simp[fD]) ?_
  simp -dsimp
  refine sG ?_
  refine aa_ pK_ h56 rfl rfl (by simp[logD,lgC]) ?_
  by_cases hu:usd (recs s)+secs (encF g).length≤s.length
  ·rw[if_pos hu,if_pos hu]
   have h57:=wl_ s ho.h128 hn1 hn2 left ho.l1 ho.l2 (encF g) (by omega) hu
   unfold Eu_ at h57
   simp -dsimp[logD,lgC]
   repeat(first|apply wG|(apply wR;simp -dsimp[logD,lgC])|refine aI ?_)
   refine cF (by simp) ?_
   refine WP.skip ?_
   simp -dsimp
   refine sG ?_
   refine aa_ pJ_ h57 rfl rfl (by simp[logD,lgC,dkD,dkC,wrC]) ?_
   by_cases hgn:gnr s<4294967296
   ·rw[if_pos hgn,if_pos hgn]
    by_cases hst:0≤left∧left<secs (encF g).length
    ·rw[if_pos hst,if_pos hst]
     obtain⟨ho2,hr2⟩:=vJ_ (k:=left.toNat) (g:=g) ho hu hgn (by omega)
     have hX:(stopS s (wrR s (encF g)) left.toNat).length≤4096:=ho2.n2
     have hfo:=qx_ (seed:=seed) ho.on hkk.2.2.2.1 (fun b hb=>by have:=hsm b hb;omega)
     have hst:=yD_ (s:=s) (sent:=sent) ho2 hr2
     generalize stopS s (wrR s (encF g)) left.toNat=X at *
     have h23:=kH_ (stR crew seed m s X sent) ⟨by have:=ho.c0;have:=ho.c1;simp[isI,stR];omega,by simp[isI,stR];omega,by simp[isI,stR];omega,⟨by simp only[stR];omega,Nat.zero_le _,by simp[isI,stR]⟩,hsd,by simp only[stR];omega,by simp only[stR,lG];omega,hfo⟩
     rw[hst,AM_,rmT] at h23
     simp only[tc_] at h23
     simp -dsimp[logD,lgC,dkD,dkC]
     repeat(first|apply wG|(apply wR;simp -dsimp[logD,lgC,dkD,dkC])|refine aI ?_)
     refine cF (by simp) ?_
     refine sG ?_
     refine cT (by simp) ?_
     refine sG ?_
     refine aa_ fe_ h23 rfl rfl (by simp[slB,wrC]) ?_
     simp -dsimp
     refine sG ?_
     refine WP.ret (ab_ ?_)
     simp -dsimp[rmT,tc_]
    ·rw[if_neg hst,if_neg hst]
     obtain⟨ho2,hr2⟩:=tq_ ho hg hn (by rw[← hrf];simp[fup]) g1 hm hu hgn hst
     have hPl:=bK_ s (wrI (wrR s (encF g)))
     have hcl:=na_ (onL seed m (recs s)) (by omega) (fun p hp=>(qx_ (seed:=seed) ho.on hkk.2.2.2.1 (fun b hb=>by have:=hsm b hb;omega) p hp).1)
     have hcp:=wU_ (sgC (onL seed m (recs s))) (recs s).length false
     have lC:=d2_ seed m (recs s)
     have hsC:sgC (onL seed m (recs s++[encF g]))=sgC (onL seed m (recs s))++sgc (sgQ seed m g):=by
      rw[onL,List.map_append,eu_]
      simp[onL,sgC,sgc,gH_ hg hn]
     have hrm:=tc_ crew seed m (perf s (wrI (wrR s (encF g)))) (lh_ left (secs (encF g).length)) sent
     rw[hr2,hPl] at hrm
     have h61:=ii_ hso
     have h1a:=eU_ hso
     rw[lG] at hcl
     rw[List.take_of_length_le (by rw[lC];exact Nat.le_refl _)] at hcp
     have eu:IntKind.i64.wrap (((recs s).length:Int)+1)=((recs s).length:Int)+1:=eR
     generalize perf s (wrI (wrR s (encF g)))=P at *
     simp -dsimp[logD,lgC,dkD,dkC]
     repeat(first|apply wG|(apply wR;simp -dsimp[logD,lgC,dkD,dkC])|refine aI ?_)
     refine cT (by simp) ?_
     refine sG ?_
     refine aa_ jn_ hcl rfl rfl (by simp) ?_
     simp -dsimp
     repeat refine aI ?_
     refine aa_ pI_ hcp rfl rfl (by simp) ?_
     simp -dsimp[h61,hl61,lC]
     refine And.intro h1o ?_
     refine And.intro (by omega) ?_
     refine And.intro (by first|rfl|decide) ?_
     repeat(first|apply wG|(apply wR;simp -dsimp[h61,hl61,lC,eu])|refine aI ?_)
     refine WP.ret (aj_ (Wk.freeze (k:=73) (T:=82) (sz:=61) (n:=(recs s).length+1) (ds:=sgC (onL seed m (recs s++[encF g]))) (by simp[hsC])) ?_)
     simp -dsimp[rmT,hrm,slB,wrC]
   ·rw[if_neg hgn,if_neg hgn]
    simp -dsimp[logD,lgC,dkD,dkC]
    repeat(first|apply wG|(apply wR;simp -dsimp[logD,lgC,dkD,dkC])|refine aI ?_)
    refine cF (by simp) ?_
    refine sG ?_
    refine cF (by simp) ?_
    refine WP.skip ?_
    simp -dsimp
    refine sG ?_
    refine WP.ret (ab_ ?_)
    simp -dsimp[rmT,rmD_ze]
  ·rw[if_neg hu,if_neg hu]
   simp -dsimp[logD,lgC]
   repeat(first|apply wG|(apply wR;simp -dsimp[logD,lgC])|refine aI ?_)
   refine cT (by simp) ?_
   refine sG ?_
   refine WP.ret (ab_ ?_)
   simp -dsimp[rmT,rmD_ze]
 ·have hsr:(sgnR seed m (recs s).length g).1=fcs f0 0 57++zsC∧(sgnR seed m (recs s).length g).2≠0∧o1_ crew seed m s left sent g=(zeR,(sgnR seed m (recs s).length g).2):=by
   unfold sgnR o1_
   by_cases hn:(numF g).2=true
   ·rw[if_pos hn,if_neg (by rintro⟨_,h⟩;exact hok ⟨hn,by omega⟩),if_pos hn,if_neg (fun h=>hok ⟨hn,h⟩)]
    exact⟨rfl,by decide,rfl⟩
   ·rw[if_neg hn,if_neg hn]
    exact⟨rfl,by decide,rfl⟩
  obtain⟨hs1,hs2,hs3⟩:=hsr
  rw[hs3]
  rw[hs1] at h54
  have hzo:dN_ (f0,zsC):=⟨uw_,rfl,by decide⟩
  have hz1:=sgc_oneD hzo
  have hz61:=bu_ hzo
  simp only[sgc] at hz1 hz61
  generalize fcs f0 0 57++zsC=Z at *
  generalize (sgnR seed m (recs s).length g).2=z at *
  refine aa_ cG_ h54 rfl rfl (by simp[keyD,fD,slB]) ?_
  simp -dsimp
  repeat(first|apply wG|(apply wR;simp -dsimp[setL_whole])|refine aI ?_)
  refine cT (by simp[hs2]) ?_
  refine sG ?_
  refine WP.ret (ab_ ?_)
  simp -dsimp[rmT,rmD_ze]
theorem kI_ (r:Rm) (h:rmOk r) (f:Nat→Int) (hf:fOk f):Fn0 Tryz.prog 17 [rmD r,fD f] (rmT (xy_ r f)):=by
 have h15:=cq_ r h
 unfold xy_
 cases hv:rmB r with
 | false =>
  have hck:ckR r=440:=by rw[ckR,hv];rfl
  rw[hck] at h15
  rw[if_neg (by decide)]
  refine ad_ (pn:=an_) ac_ Tryz.func17 rfl fun β0=>?_
  simp only[Tryz.f17]
  repeat(first|apply wG|(apply wR;simp -dsimp[rmD,rmC,fD])|refine aI ?_)
  refine aa_ bl_ h15 rfl rfl (by simp[rmD,rmC]) ?_
  simp -dsimp
  refine sG ?_
  refine cT (by simp) ?_
  refine sG ?_
  refine WP.ret (ab_ ?_)
  simp -dsimp[rmT,rmD_ze]
 | true =>
  have hck:ckR r=0:=by rw[ckR,hv];rfl
  rw[hck] at h15
  rw[if_pos rfl]
  have hd0:dkB r.dk=true:=by
   have:=hv
   simp only[rmB,Bool.and_eq_true] at this
   exact this.2.2.1.1
  have hdd:=a1_.1 hd0
  have hsm:=b2_ hdd.2.2 hdd.1.2.1
  obtain⟨ho,hr⟩:=vE_ (fun p hp=>⟨(h.fo p hp).1.1,(h.fo p hp).2⟩) (fun b hb=>by have:=hsm b hb;omega) hv
  have hres:=tb_ ho h.sd (by rw[← hr];exact h15) f hf
  rw[← hr] at hres
  exact hres
end Go.Proofs.YtfgcgagcpnbgmaaGreatDoor
