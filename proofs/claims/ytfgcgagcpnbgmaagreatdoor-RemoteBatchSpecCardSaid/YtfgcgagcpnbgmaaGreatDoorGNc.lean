/-
  Joined texts.
-/
import Derived.Test.YtfgcgagcpnbgmaaGreatDoorGTo
import Derived.Test.YtfgcgagcpnbgmaaGreatDoorGG
import Derived.Test.YtfgcgagcpnbgmaaGreatDoorGJz
import Derived.Test.YtfgcgagcpnbgmaaGreatDoorGJd
import Derived.Test.YtfgcgagcpnbgmaaGreatDoorGKh
import Derived.Test.YtfgcgagcpnbgmaaGreatDoorGKc
import Derived.Test.YtfgcgagcpnbgmaaGreatDoorGJa
import Derived.Test.YtfgcgagcpnbgmaaGreatDoorGF
import Derived.Test.YtfgcgagcpnbgmaaGreatDoorGEngFz
import Derived.Test.YtfgcgagcpnbgmaaGreatDoorGMa
import Derived.Test.YtfgcgagcpnbgmaaGreatDoorGEngCr
import Derived.Test.YtfgcgagcpnbgmaaGreatDoorGH
import Derived.Test.YtfgcgagcpnbgmaaGreatDoorGNb
import Derived.Test.YtfgcgagcpnbgmaaGreatDoorGFu
set_option linter.all false
namespace Go.Proofs.YtfgcgagcpnbgmaaGreatDoor
open Go.Xe Go.RowKit
def sD_ (c:List D) (n:Nat):List Dg:=(List.range n).map fun i=>((c.drop (i*32)).take 32).map AC_
theorem dS_ {l:List Dg} (h:a9_ l):sD_ (dgL l) l.length=l:=by
 refine h3_ (by simp[sD_]) fun i hi=>?_
 have hi:i<l.length:=by simpa [sD_] using hi
 rw[digA,List.getD_eq_getElem?_getD,sD_,List.getElem?_map,List.getElem?_range hi,Option.map_some,Option.getD_some,gY_ h i hi]
 exact wj_ _
def sgK (s:List D):Int:=match s with
 | .v (.int _ k)::_=>k
 | _=>0
def vn_ (s:List D) (i:Nat):List Dg:=match s[i]? with
 | some (.sl _ c n _)=>sD_ c n
 | _=>[]
def sgT (p:Sg):Prop:=∃ k op cl pa,p.2=f3_ k op cl pa∧sigG k op cl pa
theorem sS_ {p:Sg} (hf:fOk p.1) (h:sgT p):dN_ p:=by
 obtain⟨k,op,cl,pa,e,_⟩:=h
 refine⟨hf,by rw[e];rfl,fun d hd=>?_⟩
 rw[e] at hd
 exact dm_ hd
end Go.Proofs.YtfgcgagcpnbgmaaGreatDoor
set_option maxRecDepth 10000
namespace Go.Proofs.YtfgcgagcpnbgmaaGreatDoor
open Go.Xe Go.RowKit
def Ex_ (p:Sg):Prop:=∃ (k:Int) (s1 n1 s2 n2 s3 n3:Nat) (c1 c2 c3:List D),isI k∧p.2=[.v (.int .i64 k),.sl s1 c1 n1 false,.sl s2 c2 n2 false,.sl s3 c3 n3 false]
def ky_ (p:Sg):Bool:=match p.2 with
 | [_,.sl _ _ n1 _,.sl _ _ n2 _,.sl _ _ n3 _]=>decide (n1≤100)&&(decide (n2≤100)&&decide (n3≤20))
 | _=>false
theorem sR_ (p:Sg) (h:Ex_ p):Fn0 Tryz.prog 80 [.agg p.2] (.v (.bool (ky_ p))):=by
 obtain⟨k,s1,n1,s2,n2,s3,n3,c1,c2,c3,_,e⟩:=h
 have hs:ky_ p=(decide (n1≤100)&&(decide (n2≤100)&&decide (n3≤20))):=by rw[ky_,e]
 rw[hs,e]
 have e1:((n1:Int)≤100)=(n1≤100):=propext (by omega)
 have e2:((n2:Int)≤100)=(n2≤100):=propext (by omega)
 have e3:((n3:Int)≤20)=(n3≤20):=propext (by omega)
 refine ad_ (pn:=an_) ac_ Tryz.func80 rfl fun β0=>?_
 simp only[Tryz.f80]
 refine sG ?_
 refine WP.ret (ab_ ?_)
 simp -dsimp[e1,e2,e3,Bool.and_assoc]
theorem do_ {p:Sg} (h:dN_ p):List.take 4 (List.drop 57 (sgc p))=p.2:=by
 rw[sgc,List.drop_left' (a4_ _),List.take_of_length_le (by rw[h.2.1];omega)]
abbrev fwT (l:List Sg) (b:Bool) (m:Int) (i:Nat):St:=mkS 23 [(0,.d (sgD l b)),(1,.d (.v (.int .i64 m))),(5,.d (.v (.int .i64 i)))] []
theorem ur_ (l:List Sg) (b:Bool) (m:Nat) (hl:∀ p∈l,dN_ p) (hf:∀ p∈l,Ex_ p) (hn:l.length≤1000000000000):Fn0 Tryz.prog 37 [sgD l b,.v (.int .i64 m)] (.v (.bool (decide (l.length≤m)&&l.all ky_))):=by
 refine ad_ (pn:=an_) ac_ Tryz.func37 rfl fun β0=>?_
 simp only[Tryz.f37]
 refine sG ?_
 by_cases hlm:l.length≤m
 ·have hd:decide (l.length≤m)=true:=by simpa using hlm
  rw[hd,Bool.true_and]
  refine cF (by simp;omega) ?_
  refine WP.skip ?_
  simp -dsimp
  refine sG ?_
  refine ai_ (fun q S=>∃ l1 l2,l=l1++l2∧q=l2.length∧l1.all ky_=true∧S=fwT l b m l1.length) l.length (S0:=fwT l b m 0) (af_ [] (by simp) (by simp)) ⟨[],l,rfl,rfl,rfl,rfl⟩ ?_
  rintro _ _ ⟨l1,l2,hl12,rfl,ha,rfl⟩
  simp -dsimp
  refine sG ?_
  cases l2 with
  | nil =>
   simp only[List.append_nil] at hl12
   subst hl12
   refine cF (by simp) ?_
   refine WP.exit ?_
   simp -dsimp
   refine sG ?_
   refine WP.ret (ab_ ?_)
   simp -dsimp[ha]
  | cons p l2 =>
   have hll:l.length=l1.length+(l2.length+1):=by rw[hl12];simp
   have hlt:l1.length<l.length:=by omega
   have hp:=hl p (by rw[hl12];simp)
   have hat:=jX_ hlt hl
   have hpe:l[l1.length]=p:=by simp[hl12]
   rw[hpe] at hat
   have lc:=sgC_len hl
   have l2':=bu_ hp
   have hsg:=do_ hp
   have hsl:=hp.2.1
   have hso:=hp.2.2
   have e1:IntKind.i64.wrap ((l1.length:Int)+1)=(l1.length:Int)+1:=IntWalk.i64_in _ (by omega)
   refine cT (by simp;omega) ?_
   refine WP.skip ?_
   simp -dsimp
   repeat(first|apply wG|(apply wR;simp -dsimp[hat,hsg,l2'])|refine aI ?_)
   refine ao_ pD_ (sR_ p (hf p (by rw[hl12];simp))) rfl rfl (And.intro (.refl _) trivial) ?_
   simp -dsimp
   refine sG ?_
   cases hs:ky_ p with
   | true =>
    refine cF (by simp[hs]) ?_
    refine WP.skip ?_
    simp -dsimp
    refine sG ?_
    refine loopW.next (fwT l b m (l1++[p]).length) (af_ [] (by simp[e1]) (by simp)) l2.length (by simp) ⟨l1++[p],l2,by simp[hl12],rfl,by rw[List.all_append,ha];simp[hs],rfl⟩
   | false =>
    refine cT (by simp[hs]) ?_
    have hal:l.all ky_=false:=by rw[hl12,List.all_append,List.all_cons,hs];simp
    refine sG ?_
    refine WP.ret (ab_ ?_)
    simp -dsimp[hal]
 ·have hd:decide (l.length≤m)=false:=by simpa using hlm
  rw[hd,Bool.false_and]
  refine cT (by simp;omega) ?_
  refine sG ?_
  refine WP.ret (ab_ ?_)
  simp -dsimp
theorem Ew_ {p:Sg} (h:sgT p):Ex_ p:=by
 obtain⟨k,op,cl,pa,e,h⟩:=h
 exact⟨k,32,op.length,32,cl.length,32,pa.length,dgL op,dgL cl,dgL pa,h.isk,e⟩
end Go.Proofs.YtfgcgagcpnbgmaaGreatDoor
namespace Go.Proofs.YtfgcgagcpnbgmaaGreatDoor
open Go.Xe Go.RowKit
theorem zc_ {x:Int} (h1 : -1000≤x) (h2:x≤1000):isI x:=by unfold isI;omega
theorem zd_ (c n t:Int) (h1 : -1000≤c) (h2:c≤1000) (h3 : -1000≤n) (h4:n≤1000) (h5 : -1000≤t) (h6:t≤1000):fOk (shF c n t):=AG_ (zc_ h1 h2) (zc_ h3 h4) (zc_ h5 h6)
theorem uw_:fOk f0:=⟨fun i=>by simp[f0,isI],.inl rfl,fun i _=>rfl⟩
theorem yr_ (seed:List UInt8) (m i:Nat) (msg:List UInt8) (hm:m≤4096) (hi:i<m):sigG i (openedB seed i (kbB seed m i msg) 64) (closedB seed i (kbB seed m i msg) 64) (pathB (pubsB seed m) i):=by
 refine⟨by unfold isI;omega,ez_ _ _ _ _,eH_ _ _ _ _,gn_ _ _ _ (Nat.le_refl _),by rw[bx_];decide,by rw[bA_];decide,?_⟩
 have h1:=(iw_ _ (pubsB seed m) i (Nat.le_refl _) (by rw[bw_];exact hi)).1
 have h2:=fX_ (pubsB seed m).length i (pubsB seed m).length (Nat.le_refl _)
 rw[bw_] at h1 h2
 omega
end Go.Proofs.YtfgcgagcpnbgmaaGreatDoor
set_option maxRecDepth 10000
namespace Go.Proofs.YtfgcgagcpnbgmaaGreatDoor
open Go.Xe Go.RowKit
theorem tl_ (hsum:∀ b:List UInt8,b.length≤100000→Fn0 Tryz.prog 202 [slB b] (dD (gb_ b))) (f:Nat→Int) (hf:fOk f):Fn0 Tryz.prog 106 [fD f] (slB (msgB f)):=by
 have h41:=gR_ f hf
 rw[← uA_ hf] at h41
 have hle:=qT_ hf
 have hm:=h0_ f
 have ht:=cy_ hsum ⟨#[102,97,99,116]⟩ (by decide) (encR f).1 (by omega)
 rw [show (⟨#[102, 97, 99, 116]⟩ : ByteArray).data.toList = tB "fact" by decide +kernel, show tagB (tB "fact") (encR f).1 = msgB f from rfl] at ht
 generalize msgB f=r at *
 generalize encR f=R at *
 obtain⟨l,e⟩:=R
 refine ad_ (pn:=an_) ac_ Tryz.func106 rfl fun β0=>?_
 simp only[Tryz.f106]
 rw[fD]
 refine sG ?_
 refine aa_ jl_ h41 rfl rfl (by simp[fD]) ?_
 simp -dsimp
 refine sG ?_
 refine aa_ bE_ ht rfl rfl (by simp[slB]) ?_
 simp -dsimp[dD]
 refine And.intro ⟨hm,fun a h=>ap_ h⟩ ?_
 refine ar_ (aR_ (k:=5) (T:=87) (ds:=bys r) (by simp[setL_whole,ah_,hm])) ?_
 simp -dsimp[fS_,fzc,de_,op_]
 refine sG ?_
 refine aw_ ac_ rfl rfl rfl rfl (by simp[ah_,hm]) (by decide) rfl ?_
 simp -dsimp[bM_,hm]
 refine sG ?_
 refine WP.ret (ab_ ?_)
 simp -dsimp[slB,hm]
theorem gj_ (hsum:∀ b:List UInt8,b.length≤100000→Fn0 Tryz.prog 202 [slB b] (dD (gb_ b))) (d:Dg) (hd:d.length=32):Fn0 Tryz.prog 151 [dD d] (dD (openB d)):=by
 have ht:=cy_ hsum ⟨#[111,112,101,110]⟩ (by decide) d (by omega)
 rw [show (⟨#[111, 112, 101, 110]⟩ : ByteArray).data.toList = tB "open" by decide +kernel, show tagB (tB "open") d = openB d from rfl] at ht
 have ho:(openB d).length=32:=aH_ _ _
 generalize openB d=r at *
 refine ad_ (pn:=an_) ac_ Tryz.func151 rfl fun β0=>?_
 simp only[Tryz.f151]
 refine WP.seq ?_
 refine WP.region ac_ ?_
 simp -dsimp[dD,ah_,hd]
 refine And.intro (fun a h=>ap_ h) ?_
 refine ar_ (aR_ (k:=1) (T:=87) (ds:=bys d) (by simp[setL_whole,ah_,hd])) ?_
 simp -dsimp[fS_,fzc,de_,op_]
 refine sG ?_
 refine aw_ ac_ rfl rfl rfl rfl (by simp[ah_,hd]) (by decide) rfl ?_
 simp -dsimp[bM_,hd]
 refine sG ?_
 refine aa_ bE_ ht rfl rfl (by simp[slB,hd]) ?_
 simp -dsimp[dD]
 refine And.intro ⟨ho,fun a h=>ap_ h⟩ ?_
 repeat(first|apply wG|(apply wR;simp -dsimp[ah_,ho])|refine aI ?_)
 refine WP.ret (ab_ ?_)
 simp -dsimp[setL_whole,ah_,ho,aF_]
 exact al_ _
end Go.Proofs.YtfgcgagcpnbgmaaGreatDoor
namespace Go.Proofs.YtfgcgagcpnbgmaaGreatDoor
open Go.Xe Go.RowKit
def sgQ (seed:By) (m:Int) (f:Nat→Int):Sg:=(f,su_ seed m.toNat (f 1-1).toNat (msgB f))
def onK (crew m:Int) (i:Nat) (b:By):Bool:=decide ((decF b).2=0∧(decF b).1 0=crew∧(decF b).1 1=(i:Int)+1∧(i:Int)<m)
def onB (crew m:Int):Nat→List By→Bool
 | _,[]=>true
 | i,b::l=>onK crew m i b&&onB crew m (i+1) l
def onL (seed:By) (m:Int) (l:List By):List Sg:=l.map fun b=>sgQ seed m (decF b).1
theorem o7_ (crew m:Int):∀ (i:Nat) (a b:List By),onB crew m i (a++b)=(onB crew m i a&&onB crew m (i+a.length) b)
 | i,[],b=>by simp[onB]
 | i,x::a,b=>by rw[List.cons_append,onB,onB,o7_ crew m (i+1) a b,List.length_cons,Bool.and_assoc,Nat.add_assoc,Nat.add_comm 1]
theorem onB_len {crew m:Int}:∀ {i:Nat} {l:List By},onB crew m i l=true→l=[]∨((i+l.length:Nat):Int)≤m
 | _,[],_=>.inl rfl
 | i,b::l,h=>by
  rw[onB,Bool.and_eq_true,onK,decide_eq_true_eq] at h
  obtain⟨⟨_,_,_,h1⟩,h2⟩:=h
  right
  rcases onB_len h2 with rfl|h3
  ·simp;omega
  ·rw[List.length_cons];omega
theorem iB_ {crew m:Int}:∀ {i:Nat} {l:List By} (_:onB crew m i l=true) {j:Nat} (hj:j<l.length),onK crew m (i+j) l[j]=true
 | _,[],_,j,hj=>by simp at hj
 | i,b::l,h,0,hj=>by rw[onB,Bool.and_eq_true] at h;exact h.1
 | i,b::l,h,j+1,hj=>by
  rw[onB,Bool.and_eq_true] at h
  have:=iB_ h.2 (j:=j) (by simpa using hj)
  rw[List.getElem_cons_succ,show i+(j+1)=i+1+j by omega];exact this
structure Rm where
 crew:Int
 seed:By
 many:Int
 used:Int
 dk:Dk
 lm:Int
 lr:List By
 ls:Int
 fs:List Sg
 sent:Int
def zeR:Rm:=⟨0,[],0,0,⟨[],[],0,false⟩,0,[],0,[],0⟩
def sT_ (p q:Sg):Bool:=eqF p.1 q.1&&(decide (sgK p.2=sgK q.2)&&(decide (vn_ p.2 1=vn_ q.2 1)&&(decide (vn_ p.2 2=vn_ q.2 2)&&decide (vn_ p.2 3=vn_ q.2 3))))
def ih_:List Sg→List Sg→Bool
 | [],[]=>true
 | p::a,q::b=>sT_ p q&&ih_ a b
 | _,_=>false
def rmB (r:Rm):Bool :=
 decide (0≤r.crew∧r.crew<32∧r.used=r.fs.length∧0≤r.sent∧r.sent≤r.fs.length)&&(keyV r.seed r.many r.used&&((dkB r.dk&&(!r.dk.st&&decide (r.dk.p.length=0))) &&
  (decide ((r.dk.s.length:Int)=r.lm∧((recs r.dk.s).length:Int)=r.ls∧recs r.dk.s=r.lr)&&(onB r.crew r.many 0 r.lr&&ih_ (onL r.seed r.many r.lr) r.fs))))
def mkR (crew:Int) (seed:By) (m:Int) (s:List By) (left sent:Int):Rm:=⟨crew,seed,m,(recs s).length,⟨s,[],left,false⟩,s.length,recs s,(recs s).length,onL seed m (recs s),sent⟩
structure okR (crew:Int) (seed:By) (m:Int) (s:List By) (left sent:Int):Prop where
 c0:0≤crew
 c1:crew<32
 key:keyV seed m (recs s).length=true
 n1:1≤s.length
 n2:s.length≤4096
 l1 : -1≤left
 l2:left≤65536
 h128:∀ b∈s,b.length=128
 on:onB crew m 0 (recs s)=true
 s0:0≤sent
 s1:sent≤(recs s).length
theorem a0_ {seed:By} {m u:Int}:keyV seed m u=true↔1≤seed.length∧seed.length≤64∧1≤m∧m≤4096∧0≤u∧u≤m:=by rw[keyV,decide_eq_true_eq]
theorem bJ_ {k:Int} {op cl pa:List Dg} (h:sigG k op cl pa):vn_ (f3_ k op cl pa) 1=op∧vn_ (f3_ k op cl pa) 2=cl∧vn_ (f3_ k op cl pa) 3=pa:=by
 simp only[f3_,slG,vn_,List.getElem?_cons_succ,List.getElem?_cons_zero]
 exact⟨dS_ h.ho,dS_ h.hc,dS_ h.hp⟩
theorem vO_ {p q:Sg} (hp:fOk p.1) (hq:fOk q.1) (tp:sgT p) (tq:sgT q):sT_ p q=true↔p=q:=by
 constructor
 ·intro h
  obtain⟨f,ps⟩:=p
  obtain⟨g,qs⟩:=q
  obtain⟨k,o,c,a,e,h1⟩:=tp
  obtain⟨k',o',c',a',e',h2⟩:=tq
  simp only at e e' hp hq
  subst e e'
  simp only[sT_,Bool.and_eq_true,decide_eq_true_eq] at h
  obtain⟨g1,g2,g3,g4,g5⟩:=h
  rw[gD_ hp hq] at g1
  have e1:sgK (f3_ k o c a)=k:=rfl
  have e2:sgK (f3_ k' o' c' a')=k':=rfl
  rw[e1,e2] at g2
  rw[(bJ_ h1).1,(bJ_ h2).1] at g3
  rw[(bJ_ h1).2.1,(bJ_ h2).2.1] at g4
  rw[(bJ_ h1).2.2,(bJ_ h2).2.2] at g5
  subst g1 g2 g3 g4 g5
  rfl
 ·rintro rfl
  simp only[sT_,decide_true,Bool.and_true]
  exact (gD_ hp hp).2 rfl
theorem sgsB_iff:∀ {a b:List Sg},(∀ p∈a,fOk p.1∧sgT p)→(∀ p∈b,fOk p.1∧sgT p)→(ih_ a b=true↔a=b)
 | [],[],_,_=>by simp[ih_]
 | [],_::_,_,_=>by simp[ih_]
 | _::_,[],_,_=>by simp[ih_]
 | p::a,q::b,h,h'=>by
  rw[ih_,Bool.and_eq_true,vO_ (h p (by simp)).1 (h' q (by simp)).1 (h p (by simp)).2 (h' q (by simp)).2,sgsB_iff (fun x hx=>h x (by simp[hx])) (fun x hx=>h' x (by simp[hx])),List.cons.injEq]
theorem wd_ {crew m:Int} {seed:By} {i:Nat} {l:List By} (h:onB crew m i l=true) (hm:m≤4096) (hl:∀ b∈l,b.length≤1000000000000):∀ p∈onL seed m l,fOk p.1∧sgT p:=by
 intro p hp
 obtain⟨b,hb,rfl⟩:=List.mem_map.1 hp
 obtain⟨j,hj,rfl⟩:=List.mem_iff_getElem.1 hb
 have hk:=iB_ h hj
 rw[onK,decide_eq_true_eq] at hk
 obtain⟨_,_,h3,h4⟩:=hk
 exact⟨lA_ (hl _ hb),_,_,_,_,rfl,yr_ seed m.toNat _ _ (by omega) (by omega)⟩
theorem cm_ (seed:By) (m:Int) (l:List By):(onL seed m l).length=l.length:=by rw[onL,List.length_map]
theorem wi_ {crew:Int} {seed:By} {m:Int} {s:List By} {left sent:Int} (h:okR crew seed m s left sent) (hl:∀ b∈recs s,b.length≤1000000000000):rmB (mkR crew seed m s left sent)=true:=by
 have hm:=(a0_.1 h.key).2.2.2.1
 have hT:=wd_ (seed:=seed) h.on hm hl
 simp only[rmB,mkR,Bool.and_eq_true,decide_eq_true_eq,cm_,Bool.not_eq_true',List.length_nil]
 exact⟨⟨h.c0,h.c1,trivial,h.s0,h.s1⟩,h.key,⟨a1_.2 ⟨⟨h.n1,h.n2,Nat.zero_le _,h.l1,h.l2⟩,(fun _ h=>by cases h),h.h128⟩,trivial,trivial⟩,⟨trivial,trivial,trivial⟩,h.on,(sgsB_iff hT hT).2 rfl⟩
theorem vE_ {r:Rm} (hr:∀ p∈r.fs,fOk p.1∧sgT p) (hl:∀ b∈recs r.dk.s,b.length≤1000000000000) (h:rmB r=true):okR r.crew r.seed r.many r.dk.s r.dk.left r.sent∧r=mkR r.crew r.seed r.many r.dk.s r.dk.left r.sent:=by
 obtain⟨crew,seed,m,u,⟨s,p,left,st⟩,lm,lr,ls,fs,sent⟩:=r
 simp only[rmB,Bool.and_eq_true,decide_eq_true_eq,Bool.not_eq_true'] at h hr hl ⊢
 obtain⟨⟨h1,h2,h3,h4,h5⟩,hk,⟨hd,hst,hp⟩,⟨e1,e2,e3⟩,hon,hs⟩:=h
 subst e3
 have hm:=(a0_.1 hk).2.2.2.1
 have hT:=wd_ (seed:=seed) hon hm hl
 have hfs:=(sgsB_iff hT hr).1 hs
 have hpn:p=[]:=List.length_eq_zero_iff.1 hp
 subst hfs e1 e2 hst hpn
 obtain⟨⟨d1,d2,_,d4,d5⟩,_,d6⟩:=a1_.1 hd
 rw[cm_] at h3 h5
 subst h3
 exact⟨⟨h1,h2,hk,d1,d2,d4,d5,d6,hon,h4,h5⟩,rfl⟩
def zeS (n:Nat):List By:=List.replicate n (List.replicate 128 0)
theorem bq_ (n:Nat):recs (zeS n)=[]:=by
 have hz:gdB (List.replicate 128 0) 0=false:=by
  have:genS (List.replicate 128 0)=0:=by decide
  simp only[gdB,this,Nat.lt_irrefl,decide_false,Bool.false_and,Bool.and_false]
 rw[recs]
 cases n with
 | zero=>rfl
 | succ n =>
  have hl:(zeS (n+1)).length=n+1:=by simp[zeS]
  have h0:(zeS (n+1)).getD 0 []=List.replicate 128 0:=by simp[zeS]
  rw[hl,rcs,hl,Nat.sub_zero,rd,h0,if_neg (by rw[hz];rintro⟨h,_⟩;cases h)]
  rfl
theorem tX_ {crew:Int} {seed:By} {m:Int} {n:Nat} (h0:0≤crew) (h1:crew<32) (hk:keyV seed m 0=true) (hn:1≤n) (hn2:n≤4096):okR crew seed m (zeS n) (-1) 0:=by
 have hr:=bq_ n
 refine⟨h0,h1,by rw[hr];exact hk,by simp[zeS];omega,by simp[zeS];omega,by omega,by omega,?_,by rw[hr];rfl,by omega,by rw[hr];exact Int.le_refl _⟩
 intro b hb
 rw[(List.mem_replicate.1 hb).2];simp
def ownF (crew:Int) (n:Nat) (f:Nat→Int):Nat→Int:=fup (fup f 0 crew) 1 ((n:Int)+1)
def lh_ (left:Int) (n:Nat):Int:=if 0≤left then left-n else left
section
variable {crew:Int} {seed:By} {m:Int} {s:List By} {left sent:Int} (h:okR crew seed m s left sent) {g:Nat→Int} (hg:fOk g) (hv:(numF g).2=true) (hc:g 0=crew) (hn:g 1=(recs s).length+1)
 (hm:((recs s).length:Int)<m) (hu:usd (recs s)+secs (encF g).length≤s.length) (hgen:gnr s<4294967296)
include h hg hv hc hn hm hu hgen
omit hu hgen in
theorem AO_:onB crew m 0 (recs s++[encF g])=true:=by
 rw[o7_,h.on,Bool.true_and,Nat.zero_add,onB,onB,Bool.and_true,onK,gH_ hg hv,decide_eq_true_eq]
 exact⟨rfl,hc,hn,hm⟩
theorem tq_ (hno:¬ (0≤left∧left<secs (encF g).length)):okR crew seed m (perf s (wrI (wrR s (encF g)))) (lh_ left (secs (encF g).length)) sent∧recs (perf s (wrI (wrR s (encF g))))=recs s++[encF g]:=by
 have hr:=rk_ h.h128 hgen hu
 refine⟨⟨h.c0,h.c1,?_,by rw[bK_];exact h.n1,by rw[bK_];exact h.n2,?_,?_,?_,?_,h.s0,?_⟩,hr⟩
 ·rw[hr,List.length_append]
  have hk:=a0_.1 h.key
  exact a0_.2 ⟨hk.1,hk.2.1,hk.2.2.1,hk.2.2.2.1,by simp;omega,by simp;omega⟩
 ·have:=h.l1;unfold lh_;split<;>omega
 ·have:=h.l2;unfold lh_;split<;>omega
 ·refine kY_ h.h128 fun w hw=>?_
  obtain⟨x,hx,rfl⟩:=List.mem_map.1 hw
  exact h7_ _ _ _ _ _ x hx
 ·rw[hr];exact AO_ h hg hv hc hn hm
 ·rw[hr,List.length_append];have:=h.s1;simp;omega
omit hg hv hc hn hm in
theorem vJ_ {k:Nat} (hk:k<secs (encF g).length):okR crew seed m (stopS s (wrR s (encF g)) k) (-1) 0∧recs (stopS s (wrR s (encF g)) k)=recs s:=by
 have hr:=sK_ h.h128 hgen hu hk
 have hl:(stopS s (wrR s (encF g)) k).length=s.length:=by rw[stopS,List.length_set,bK_]
 have hw:∀ x∈wrR s (encF g),x.2.length=128:=fun x hx=>h7_ _ _ _ _ _ x hx
 have hp:∀ b∈perf s (wrI ((wrR s (encF g)).take k)),b.length=128:=kY_ h.h128 fun w hw'=>by
  obtain⟨x,hx,rfl⟩:=List.mem_map.1 hw'
  exact hw x (List.mem_of_mem_take hx)
 refine⟨⟨h.c0,h.c1,by rw[hr];exact h.key,by rw[hl];exact h.n1,by rw[hl];exact h.n2,by omega,by omega,?_,by rw[hr];exact h.on,by omega,by omega⟩,hr⟩
 intro b hb
 rw[stopS] at hb
 have hwl:(wrR s (encF g)).length=secs (encF g).length:=eT_ _ _ _ _ _
 have hkk:(wrR s (encF g)).getD k (0,[])∈wrR s (encF g):=by
  rw[List.getD_eq_getElem?_getD,List.getElem?_eq_getElem (by omega),Option.getD_some];exact List.getElem_mem _
 have hat:((wrR s (encF g)).getD k (0,[])).1<s.length:=by
  have hf:=f6_ (gnr s) (secs (encF g).length) (usd (recs s)) 1 (encF g)
  have h1:((wrR s (encF g)).getD k (0,[])).1∈(wrR s (encF g)).map (·.1):=List.mem_map_of_mem hkk
  rw[wrR,hf,List.mem_range'_1] at h1
  rw[wrR];omega
 rcases List.mem_or_eq_of_mem_set hb with hb|rfl
 ·exact hp b hb
 ·have h1:=hw _ hkk
  have h2:((perf s (wrI ((wrR s (encF g)).take k))).getD ((wrR s (encF g)).getD k (0,[])).1 []).length=128:=by
   refine hp _ ?_
   rw[List.getD_eq_getElem?_getD,List.getElem?_eq_getElem (by rw[bK_];omega),Option.getD_some];exact List.getElem_mem _
  rw[tornB,List.length_append,List.length_take,List.length_drop,h1,h2]
  rfl
end
theorem b2_ {s:List By} (hs:∀ b∈s,b.length=128) (hn:s.length≤4096):∀ b∈recs s,b.length≤458752:=by
 have key:∀ {l:List By},∀ b∈l,b.length≤112*usd l:=by
  intro l
  induction l with
  | nil=>intro b h;cases h
  | cons x l ih =>
   intro b hb
   rw[usd]
   rcases List.mem_cons.1 hb with rfl|hb
   ·have:secs b.length≥(b.length+111)/112:=by rw[secs];omega
    omega
   ·have:=ih b hb;omega
 obtain⟨h1,h2,h3⟩:=c8_ hs
 obtain⟨_,g2,_⟩:=dZ_ hs (gnr s) (fun x hx=>(kc_ hx).1) (k:=s.length) (at_:=0) (last:=0) (Nat.zero_le _) (gt_ s)
 intro b hb
 have:=key b hb
 omega
theorem dY_ {s:List By} (hs:∀ b∈s,b.length=128):usd (recs s)≤s.length∧(recs s).length≤usd (recs s):=by
 obtain⟨h1,h2,h3⟩:=c8_ hs
 obtain⟨_,g2,_⟩:=dZ_ hs (gnr s) (fun x hx=>(kc_ hx).1) (k:=s.length) (at_:=0) (last:=0) (Nat.zero_le _) (gt_ s)
 exact⟨by omega,by rw[recs,List.length_map];exact h3⟩
theorem yC_ {crew:Int} {seed:By} {m:Int} {s:List By} (h0:0≤crew) (h1:crew<32) (hk:keyV seed m 0=true) (hd:dkB ⟨s,[],-1,false⟩=true) (hon:onB crew m 0 (recs s)=true):okR crew seed m s (-1) 0:=by
 obtain⟨⟨d1,d2,_,d4,d5⟩,_,d6⟩:=a1_.1 hd
 have hk:=a0_.1 hk
 have hl:=onB_len hon
 refine⟨h0,h1,a0_.2 ⟨hk.1,hk.2.1,hk.2.2.1,hk.2.2.2.1,by omega,?_⟩,d1,d2,by omega,by omega,d6,hon,by omega,by omega⟩
 rcases hl with hl|hl
 ·rw[hl];simp;omega
 ·omega
def lV_ (crew:Int) (seed:By) (m u k:Int):Rm×Int :=
 if 0≤crew∧crew<32 then
  if keyV seed m u=true then if 1≤k∧k≤4096 then (mkR crew seed m (zeS k.toNat) (-1) 0,0) else (zeR,1) else (zeR,40)
 else (zeR,440)
def qe_ (r:Rm):Rm×Int :=
 if 0≤r.crew∧r.crew<32 then
  if keyV r.seed r.many 0=true then
   if dkB ⟨r.dk.s,[],-1,false⟩=true then if onB r.crew r.many 0 (recs r.dk.s)=true then (mkR r.crew r.seed r.many r.dk.s (-1) 0,0) else (zeR,440)
   else (zeR,380)
  else (zeR,40)
 else (zeR,440)
def o1_ (crew:Int) (seed:By) (m:Int) (s:List By) (left sent:Int) (g:Nat→Int):Rm×Int :=
 if (numF g).2=true then
  if ((recs s).length:Int)<m then
   if usd (recs s)+secs (encF g).length≤s.length then
    if gnr s<4294967296 then
     if 0≤left∧left<secs (encF g).length then (mkR crew seed m (stopS s (wrR s (encF g)) left.toNat) (-1) 0,380)
     else (mkR crew seed m (perf s (wrI (wrR s (encF g)))) (lh_ left (secs (encF g).length)) sent,0)
    else (zeR,390)
   else (zeR,2)
  else (zeR,40)
 else (zeR,120)
def xy_ (r:Rm) (f:Nat→Int):Rm×Int:=if rmB r=true then o1_ r.crew r.seed r.many r.dk.s r.dk.left r.sent (ownF r.crew (recs r.dk.s).length f) else (zeR,440)
theorem tJ_ {crew:Int} {n:Nat} {f:Nat→Int} (hf:fOk f) (hc:isI crew) (hn:n≤1000000):fOk (ownF crew n f):=by
 have h1:isI ((n:Int)+1):=by unfold isI;omega
 refine⟨fun i=>?_,?_,fun i hi=>?_⟩
 ·unfold ownF fup
  split
  ·exact h1
  ·split
   ·exact hc
   ·exact hf.1 i
 ·have e:ownF crew n f 54=f 54:=by unfold ownF fup;rw[if_neg (by omega),if_neg (by omega)]
  rw[e];exact hf.2.1
 ·have e:ownF crew n f i=f i:=by unfold ownF fup;rw[if_neg (by omega),if_neg (by omega)]
  rw[e];exact hf.2.2 i hi
theorem A1_ (crew:Int) (n:Nat) (f:Nat→Int):ownF crew n f 1=n+1:=by unfold ownF fup;rw[if_pos rfl]
end Go.Proofs.YtfgcgagcpnbgmaaGreatDoor
