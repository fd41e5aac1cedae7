/-
  Joined texts.
-/
import Derived.Test.YtfgcgagcpnbgmaaGreatDoorW9
import Derived.Test.YtfgcgagcpnbgmaaGreatDoorWG
import Derived.Test.YtfgcgagcpnbgmaaGreatDoorWUd
import Derived.Test.YtfgcgagcpnbgmaaGreatDoorWMa
import Derived.Test.YtfgcgagcpnbgmaaGreatDoorWEngCr
import Derived.Test.YtfgcgagcpnbgmaaGreatDoorWNb
import Derived.Test.YtfgcgagcpnbgmaaGreatDoorWPe
import Derived.Test.YtfgcgagcpnbgmaaGreatDoorWJd
set_option linter.unusedVariables false
set_option linter.unusedSimpArgs false
set_option linter.unusedSectionVars false
namespace Go.Proofs.YtfgcgagcpnbgmaaGreatDoor
open Go.Xe Go.RowKit
def ro_ (c:List D) (n:Nat):List Dg:=(List.range n).map fun i=>((c.drop (i*32)).take 32).map yR_
theorem bS_ {l:List Dg} (h:aY_ l):ro_ (dgL l) l.length=l:=by
 refine g9_ (by simp[ro_]) fun i hi=>?_
 have hi:i<l.length:=by simpa [ro_] using hi
 rw[digA,List.getD_eq_getElem?_getD,ro_,List.getElem?_map,List.getElem?_range hi,Option.map_some,Option.getD_some,eb_ h i hi]
 exact uO_ _
def sgK (s:List D):Int:=match s with
 | .v (.int _ k)::_=>k
 | _=>0
def oK_ (s:List D) (i:Nat):List Dg:=match s[i]? with
 | some (.sl _ c n _)=>ro_ c n
 | _=>[]
def sgT (p:Sg):Prop:=∃ k op cl pa,p.2=cz_ k op cl pa∧sigG k op cl pa
def yP_ (l:List Crw) (p:Sg):Int:=yp_ l p.1 (sgK p.2) (oK_ p.2 1) (oK_ p.2 2) (oK_ p.2 3)
theorem rm_ {l:List Crw} {p:Sg} {k:Int} {op cl pa:List Dg} (e:p.2=cz_ k op cl pa) (h:sigG k op cl pa):yP_ l p=yp_ l p.1 k op cl pa:=by
 rw[yP_,e]
 simp only[cz_,slG,sgK,oK_,List.getElem?_cons_succ,List.getElem?_cons_zero]
 rw[bS_ h.ho,bS_ h.hc,bS_ h.hp]
theorem kE_ (l:List Crw) (hl:∀ c∈l,pD_ c) (hn:l.length≤1000000000000) (p:Sg) (hf:fOk p.1) (hp:sgT p):Fn0 Tryz.prog 30 [crwD l,sgV p] (.v (.int .i64 (yP_ l p))):=by
 obtain⟨k,op,cl,pa,e,h⟩:=hp
 rw[rm_ e h,sgV,sgc,e]
 exact lQ_ l hl hn p.1 hf k op cl pa h
end Go.Proofs.YtfgcgagcpnbgmaaGreatDoor
set_option linter.unusedVariables false
set_option linter.unusedSimpArgs false
set_option linter.unusedSectionVars false
namespace Go.Proofs.YtfgcgagcpnbgmaaGreatDoor
open Go.Xe Go.RowKit
theorem gS_ {p:Sg} (h:b2_ p):List.take 4 (List.drop 57 (sgc p))=p.2:=by
 rw[sgc,List.drop_left' (ar_ _),List.take_of_length_le (by rw[h.2.1];omega)]
end Go.Proofs.YtfgcgagcpnbgmaaGreatDoor
set_option linter.unusedVariables false
set_option linter.unusedSimpArgs false
set_option linter.unusedSectionVars false
namespace Go.Proofs.YtfgcgagcpnbgmaaGreatDoor
open Go.Xe Go.RowKit
theorem xk_ {x:Int} (h1 : -1000≤x) (h2:x≤1000):isI x:=by unfold isI;omega
theorem xl_ (c n t:Int) (h1 : -1000≤c) (h2:c≤1000) (h3 : -1000≤n) (h4:n≤1000) (h5 : -1000≤t) (h6:t≤1000):fOk (shF c n t):=yV_ (xk_ h1 h2) (xk_ h3 h4) (xk_ h5 h6)
theorem xL_:fOk f0:=⟨fun i=>by simp[f0,isI],.inl rfl,fun i _=>rfl⟩
theorem rD_ (seed:List UInt8) (m i:Nat) (msg:List UInt8) (hm:m≤4096) (hi:i<m):sigG i (openedB seed i (kbB seed m i msg) 64) (closedB seed i (kbB seed m i msg) 64) (pathB (pubsB seed m) i):=by
 refine⟨by unfold isI;omega,fx_ _ _ _ _,fL_ _ _ _ _,nw_ _ _ _ (Nat.le_refl _),by rw[bx_];decide,by rw[by_];decide,?_⟩
 have h1:=(j5_ _ (pubsB seed m) i (Nat.le_refl _) (by rw[bs_];exact hi)).1
 have h2:=g8_ (pubsB seed m).length i (pubsB seed m).length (Nat.le_refl _)
 rw[bs_] at h1 h2
 omega
theorem wx_ (seed:List UInt8) (m:Nat) (u:Int) (f:Nat→Int) (hv:(numF f).2=true) (hk:keyV seed m u=true) (hn:f 1-1<m) (l:List Crw) (hcr:crB l=true) (hlen:f 0<l.length) (hat:l.getD (f 0).toNat (z32,0)=(treeB (pubsB seed m),(m:Int))) :
  yp_ l f (f 1-1).toNat (openedB seed (f 1-1).toNat (kbB seed m (f 1-1).toNat (msgB f)) 64) (closedB seed (f 1-1).toNat (kbB seed m (f 1-1).toNat (msgB f)) 64) (pathB (pubsB seed m) (f 1-1).toNat)=0:=by
 obtain⟨_,h1,_⟩:=so_ hv
 have hm:m≤4096:=by simp only[keyV,decide_eq_true_eq] at hk;omega
 have hs:=rN_ seed m (f 1-1).toNat (msgB f) (by omega) hm (by rw[g3_];decide)
 rw[yp_,if_pos hcr,if_pos hv,if_neg (by omega),hat,if_pos ⟨by omega,hs⟩]
end Go.Proofs.YtfgcgagcpnbgmaaGreatDoor
set_option linter.unusedVariables false
set_option linter.unusedSimpArgs false
set_option linter.unusedSectionVars false
namespace Go.Proofs.YtfgcgagcpnbgmaaGreatDoor
open Go.Xe Go.RowKit
def sgQ (seed:By) (m:Int) (f:Nat→Int):Sg:=(f,wN_ seed m.toNat (f 1-1).toNat (msgB f))
def onK (crew m:Int) (i:Nat) (b:By):Bool:=decide ((decF b).2=0∧(decF b).1 0=crew∧(decF b).1 1=(i:Int)+1∧(i:Int)<m)
def onB (crew m:Int):Nat→List By→Bool
 | _,[]=>true
 | i,b::l=>onK crew m i b&&onB crew m (i+1) l
def onL (seed:By) (m:Int) (l:List By):List Sg:=l.map fun b=>sgQ seed m (decF b).1
theorem sl_ (crew m:Int):∀ (i:Nat) (a b:List By),onB crew m i (a++b)=(onB crew m i a&&onB crew m (i+a.length) b)
 | i,[],b=>by simp[onB]
 | i,x::a,b=>by rw[List.cons_append,onB,onB,sl_ crew m (i+1) a b,List.length_cons,Bool.and_assoc,Nat.add_assoc,Nat.add_comm 1]
theorem ej_ {crew m:Int}:∀ {i:Nat} {l:List By} (_:onB crew m i l=true) {j:Nat} (hj:j<l.length),onK crew m (i+j) l[j]=true
 | _,[],_,j,hj=>by simp at hj
 | i,b::l,h,0,hj=>by rw[onB,Bool.and_eq_true] at h;exact h.1
 | i,b::l,h,j+1,hj=>by
  rw[onB,Bool.and_eq_true] at h
  have:=ej_ h.2 (j:=j) (by simpa using hj)
  rw[List.getElem_cons_succ,show i+(j+1)=i+1+j by omega];exact this
structure Rm where
 crew:Int
 seed:By
 many:Int
 used:Int
 dk:Dk
 lm:Int
 lr:List By
 ls:Int
 fs:List Sg
 sent:Int
def zeR:Rm:=⟨0,[],0,0,⟨[],[],0,false⟩,0,[],0,[],0⟩
def rF_ (p q:Sg):Bool:=eqF p.1 q.1&&(decide (sgK p.2=sgK q.2)&&(decide (oK_ p.2 1=oK_ q.2 1)&&(decide (oK_ p.2 2=oK_ q.2 2)&&decide (oK_ p.2 3=oK_ q.2 3))))
def iH_:List Sg→List Sg→Bool
 | [],[]=>true
 | p::a,q::b=>rF_ p q&&iH_ a b
 | _,_=>false
def rmB (r:Rm):Bool :=
 decide (0≤r.crew∧r.crew<32∧r.used=r.fs.length∧0≤r.sent∧r.sent≤r.fs.length)&&(keyV r.seed r.many r.used&&((dkB r.dk&&(!r.dk.st&&decide (r.dk.p.length=0))) &&
  (decide ((r.dk.s.length:Int)=r.lm∧((recs r.dk.s).length:Int)=r.ls∧recs r.dk.s=r.lr)&&(onB r.crew r.many 0 r.lr&&iH_ (onL r.seed r.many r.lr) r.fs))))
def mkR (crew:Int) (seed:By) (m:Int) (s:List By) (left sent:Int):Rm:=⟨crew,seed,m,(recs s).length,⟨s,[],left,false⟩,s.length,recs s,(recs s).length,onL seed m (recs s),sent⟩
structure okR (crew:Int) (seed:By) (m:Int) (s:List By) (left sent:Int):Prop where
 c0:0≤crew
 c1:crew<32
 key:keyV seed m (recs s).length=true
 n1:1≤s.length
 n2:s.length≤4096
 l1 : -1≤left
 l2:left≤65536
 h128:∀ b∈s,b.length=128
 on:onB crew m 0 (recs s)=true
 s0:0≤sent
 s1:sent≤(recs s).length
theorem a8_ {seed:By} {m u:Int}:keyV seed m u=true↔1≤seed.length∧seed.length≤64∧1≤m∧m≤4096∧0≤u∧u≤m:=by rw[keyV,decide_eq_true_eq]
theorem bu_ {k:Int} {op cl pa:List Dg} (h:sigG k op cl pa):oK_ (cz_ k op cl pa) 1=op∧oK_ (cz_ k op cl pa) 2=cl∧oK_ (cz_ k op cl pa) 3=pa:=by
 simp only[cz_,slG,oK_,List.getElem?_cons_succ,List.getElem?_cons_zero]
 exact⟨bS_ h.ho,bS_ h.hc,bS_ h.hp⟩
theorem un_ {p q:Sg} (hp:fOk p.1) (hq:fOk q.1) (tp:sgT p) (tq:sgT q):rF_ p q=true↔p=q:=by
 constructor
 ·intro h
  obtain⟨f,ps⟩:=p
  obtain⟨g,qs⟩:=q
  obtain⟨k,o,c,a,e,h1⟩:=tp
  obtain⟨k',o',c',a',e',h2⟩:=tq
  simp only at e e' hp hq
  subst e e'
  simp only[rF_,Bool.and_eq_true,decide_eq_true_eq] at h
  obtain⟨g1,g2,g3,g4,g5⟩:=h
  rw[fH_ hp hq] at g1
  have e1:sgK (cz_ k o c a)=k:=rfl
  have e2:sgK (cz_ k' o' c' a')=k':=rfl
  rw[e1,e2] at g2
  rw[(bu_ h1).1,(bu_ h2).1] at g3
  rw[(bu_ h1).2.1,(bu_ h2).2.1] at g4
  rw[(bu_ h1).2.2,(bu_ h2).2.2] at g5
  subst g1 g2 g3 g4 g5
  rfl
 ·rintro rfl
  simp only[rF_,decide_true,Bool.and_true]
  exact (fH_ hp hp).2 rfl
theorem sgsB_iff:∀ {a b:List Sg},(∀ p∈a,fOk p.1∧sgT p)→(∀ p∈b,fOk p.1∧sgT p)→(iH_ a b=true↔a=b)
 | [],[],_,_=>by simp[iH_]
 | [],_::_,_,_=>by simp[iH_]
 | _::_,[],_,_=>by simp[iH_]
 | p::a,q::b,h,h'=>by
  rw[iH_,Bool.and_eq_true,un_ (h p (by simp)).1 (h' q (by simp)).1 (h p (by simp)).2 (h' q (by simp)).2,sgsB_iff (fun x hx=>h x (by simp[hx])) (fun x hx=>h' x (by simp[hx])),List.cons.injEq]
theorem xf_ {crew m:Int} {seed:By} {i:Nat} {l:List By} (h:onB crew m i l=true) (hm:m≤4096) (hl:∀ b∈l,b.length≤1000000000000):∀ p∈onL seed m l,fOk p.1∧sgT p:=by
 intro p hp
 obtain⟨b,hb,rfl⟩:=List.mem_map.1 hp
 obtain⟨j,hj,rfl⟩:=List.mem_iff_getElem.1 hb
 have hk:=ej_ h hj
 rw[onK,decide_eq_true_eq] at hk
 obtain⟨_,_,h3,h4⟩:=hk
 exact⟨kD_ (hl _ hb),_,_,_,_,rfl,rD_ seed m.toNat _ _ (by omega) (by omega)⟩
theorem bn_ (seed:By) (m:Int) (l:List By):(onL seed m l).length=l.length:=by rw[onL,List.length_map]
theorem uN_ {crew:Int} {seed:By} {m:Int} {s:List By} {left sent:Int} (h:okR crew seed m s left sent) (hl:∀ b∈recs s,b.length≤1000000000000):rmB (mkR crew seed m s left sent)=true:=by
 have hm:=(a8_.1 h.key).2.2.2.1
 have hT:=xf_ (seed:=seed) h.on hm hl
 simp only[rmB,mkR,Bool.and_eq_true,decide_eq_true_eq,bn_,Bool.not_eq_true',List.length_nil]
 exact⟨⟨h.c0,h.c1,trivial,h.s0,h.s1⟩,h.key,⟨bp_.2 ⟨⟨h.n1,h.n2,Nat.zero_le _,h.l1,h.l2⟩,(fun _ h=>by cases h),h.h128⟩,trivial,trivial⟩,⟨trivial,trivial,trivial⟩,h.on,(sgsB_iff hT hT).2 rfl⟩
theorem t4_ {r:Rm} (hr:∀ p∈r.fs,fOk p.1∧sgT p) (hl:∀ b∈recs r.dk.s,b.length≤1000000000000) (h:rmB r=true):okR r.crew r.seed r.many r.dk.s r.dk.left r.sent∧r=mkR r.crew r.seed r.many r.dk.s r.dk.left r.sent:=by
 obtain⟨crew,seed,m,u,⟨s,p,left,st⟩,lm,lr,ls,fs,sent⟩:=r
 simp only[rmB,Bool.and_eq_true,decide_eq_true_eq,Bool.not_eq_true'] at h hr hl ⊢
 obtain⟨⟨h1,h2,h3,h4,h5⟩,hk,⟨hd,hst,hp⟩,⟨e1,e2,e3⟩,hon,hs⟩:=h
 subst e3
 have hm:=(a8_.1 hk).2.2.2.1
 have hT:=xf_ (seed:=seed) hon hm hl
 have hfs:=(sgsB_iff hT hr).1 hs
 have hpn:p=[]:=List.length_eq_zero_iff.1 hp
 subst hfs e1 e2 hst hpn
 obtain⟨⟨d1,d2,_,d4,d5⟩,_,d6⟩:=bp_.1 hd
 rw[bn_] at h3 h5
 subst h3
 exact⟨⟨h1,h2,hk,d1,d2,d4,d5,d6,hon,h4,h5⟩,rfl⟩
/-! ### New -/
def zeS (n:Nat):List By:=List.replicate n (List.replicate 128 0)
theorem aV_ (n:Nat):recs (zeS n)=[]:=by
 have hz:gdB (List.replicate 128 0) 0=false:=by
  have:genS (List.replicate 128 0)=0:=by decide
  simp only[gdB,this,Nat.lt_irrefl,decide_false,Bool.false_and,Bool.and_false]
 rw[recs]
 cases n with
 | zero=>rfl
 | succ n =>
  have hl:(zeS (n+1)).length=n+1:=by simp[zeS]
  have h0:(zeS (n+1)).getD 0 []=List.replicate 128 0:=by simp[zeS]
  rw[hl,rcs,hl,Nat.sub_zero,rd,h0,if_neg (by rw[hz];rintro⟨h,_⟩;cases h)]
  rfl
theorem ss_ {crew:Int} {seed:By} {m:Int} {n:Nat} (h0:0≤crew) (h1:crew<32) (hk:keyV seed m 0=true) (hn:1≤n) (hn2:n≤4096):okR crew seed m (zeS n) (-1) 0:=by
 have hr:=aV_ n
 refine⟨h0,h1,by rw[hr];exact hk,by simp[zeS];omega,by simp[zeS];omega,by omega,by omega,?_,by rw[hr];rfl,by omega,by rw[hr];exact Int.le_refl _⟩
 intro b hb
 rw[(List.mem_replicate.1 hb).2];simp
/-! ### Record -/
def ownF (crew:Int) (n:Nat) (f:Nat→Int):Nat→Int:=fup (fup f 0 crew) 1 ((n:Int)+1)
def kk_ (left:Int) (n:Nat):Int:=if 0≤left then left-n else left
section
variable {crew:Int} {seed:By} {m:Int} {s:List By} {left sent:Int} (h:okR crew seed m s left sent) {g:Nat→Int} (hg:fOk g) (hv:(numF g).2=true) (hc:g 0=crew) (hn:g 1=(recs s).length+1)
 (hm:((recs s).length:Int)<m) (hu:usd (recs s)+secs (encF g).length≤s.length) (hgen:gnr s<4294967296)
include h hg hv hc hn hm hu hgen
omit hu hgen in
theorem y2_:onB crew m 0 (recs s++[encF g])=true:=by
 rw[sl_,h.on,Bool.true_and,Nat.zero_add,onB,onB,Bool.and_true,onK,dS_ hg hv,decide_eq_true_eq]
 exact⟨rfl,hc,hn,hm⟩
theorem no_ (hno:¬ (0≤left∧left<secs (encF g).length)):okR crew seed m (perf s (wrI (wrR s (encF g)))) (kk_ left (secs (encF g).length)) sent∧recs (perf s (wrI (wrR s (encF g))))=recs s++[encF g]:=by
 have hr:=p2_ h.h128 hgen hu
 refine⟨⟨h.c0,h.c1,?_,by rw[bv_];exact h.n1,by rw[bv_];exact h.n2,?_,?_,?_,?_,h.s0,?_⟩,hr⟩
 ·rw[hr,List.length_append]
  have hk:=a8_.1 h.key
  exact a8_.2 ⟨hk.1,hk.2.1,hk.2.2.1,hk.2.2.2.1,by simp;omega,by simp;omega⟩
 ·have:=h.l1;unfold kk_;split<;>omega
 ·have:=h.l2;unfold kk_;split<;>omega
 ·refine j4_ h.h128 fun w hw=>?_
  obtain⟨x,hx,rfl⟩:=List.mem_map.1 hw
  exact hk_ _ _ _ _ _ x hx
 ·rw[hr];exact y2_ h hg hv hc hn hm
 ·rw[hr,List.length_append];have:=h.s1;simp;omega
omit hg hv hc hn hm in
theorem oD_ {k:Nat} (hk:k<secs (encF g).length):okR crew seed m (stopS s (wrR s (encF g)) k) (-1) 0∧recs (stopS s (wrR s (encF g)) k)=recs s:=by
 have hr:=rw_ h.h128 hgen hu hk
 have hl:(stopS s (wrR s (encF g)) k).length=s.length:=by rw[stopS,List.length_set,bv_]
 have hw:∀ x∈wrR s (encF g),x.2.length=128:=fun x hx=>hk_ _ _ _ _ _ x hx
 have hp:∀ b∈perf s (wrI ((wrR s (encF g)).take k)),b.length=128:=j4_ h.h128 fun w hw'=>by
  obtain⟨x,hx,rfl⟩:=List.mem_map.1 hw'
  exact hw x (List.mem_of_mem_take hx)
 refine⟨⟨h.c0,h.c1,by rw[hr];exact h.key,by rw[hl];exact h.n1,by rw[hl];exact h.n2,by omega,by omega,?_,by rw[hr];exact h.on,by omega,by omega⟩,hr⟩
 intro b hb
 rw[stopS] at hb
 have hwl:(wrR s (encF g)).length=secs (encF g).length:=ee_ _ _ _ _ _
 have hkk:(wrR s (encF g)).getD k (0,[])∈wrR s (encF g):=by
  rw[List.getD_eq_getElem?_getD,List.getElem?_eq_getElem (by omega),Option.getD_some];exact List.getElem_mem _
 have hat:((wrR s (encF g)).getD k (0,[])).1<s.length:=by
  have hf:=fe_ (gnr s) (secs (encF g).length) (usd (recs s)) 1 (encF g)
  have h1:((wrR s (encF g)).getD k (0,[])).1∈(wrR s (encF g)).map (·.1):=List.mem_map_of_mem hkk
  rw[wrR,hf,List.mem_range'_1] at h1
  rw[wrR];omega
 rcases List.mem_or_eq_of_mem_set hb with hb|rfl
 ·exact hp b hb
 ·have h1:=hw _ hkk
  have h2:((perf s (wrI ((wrR s (encF g)).take k))).getD ((wrR s (encF g)).getD k (0,[])).1 []).length=128:=by
   refine hp _ ?_
   rw[List.getD_eq_getElem?_getD,List.getElem?_eq_getElem (by rw[bv_];omega),Option.getD_some];exact List.getElem_mem _
  rw[tornB,List.length_append,List.length_take,List.length_drop,h1,h2]
  rfl
end
theorem bA_ {s:List By} (hs:∀ b∈s,b.length=128) (hn:s.length≤4096):∀ b∈recs s,b.length≤458752:=by
 have key:∀ {l:List By},∀ b∈l,b.length≤112*usd l:=by
  intro l
  induction l with
  | nil=>intro b h;cases h
  | cons x l ih =>
   intro b hb
   rw[usd]
   rcases List.mem_cons.1 hb with rfl|hb
   ·have:secs b.length≥(b.length+111)/112:=by rw[secs];omega
    omega
   ·have:=ih b hb;omega
 obtain⟨h1,h2,h3⟩:=cF_ hs
 obtain⟨_,g2,_⟩:=dj_ hs (gnr s) (fun x hx=>(jk_ hx).1) (k:=s.length) (at_:=0) (last:=0) (Nat.zero_le _) (fB_ s)
 intro b hb
 have:=key b hb
 omega
theorem hM_ {s:List By} (hs:∀ b∈s,b.length=128):usd (recs s)≤s.length∧(recs s).length≤usd (recs s):=by
 obtain⟨h1,h2,h3⟩:=cF_ hs
 obtain⟨_,g2,_⟩:=dj_ hs (gnr s) (fun x hx=>(jk_ hx).1) (k:=s.length) (at_:=0) (last:=0) (Nat.zero_le _) (fB_ s)
 exact⟨by omega,by rw[recs,List.length_map];exact h3⟩
/-! ### Restart -/
/-! ### what the functions hand back -/
def qw_ (crew:Int) (seed:By) (m u k:Int):Rm×Int :=
 if 0≤crew∧crew<32 then
  if keyV seed m u=true then if 1≤k∧k≤4096 then (mkR crew seed m (zeS k.toNat) (-1) 0,0) else (zeR,1) else (zeR,40)
 else (zeR,440)
def v2_ (r:Rm):Rm×Int :=
 if 0≤r.crew∧r.crew<32 then
  if keyV r.seed r.many 0=true then
   if dkB ⟨r.dk.s,[],-1,false⟩=true then if onB r.crew r.many 0 (recs r.dk.s)=true then (mkR r.crew r.seed r.many r.dk.s (-1) 0,0) else (zeR,440)
   else (zeR,380)
  else (zeR,40)
 else (zeR,440)
def i6_ (crew:Int) (seed:By) (m:Int) (s:List By) (left sent:Int) (g:Nat→Int):Rm×Int :=
 if (numF g).2=true then
  if ((recs s).length:Int)<m then
   if usd (recs s)+secs (encF g).length≤s.length then
    if gnr s<4294967296 then
     if 0≤left∧left<secs (encF g).length then (mkR crew seed m (stopS s (wrR s (encF g)) left.toNat) (-1) 0,380)
     else (mkR crew seed m (perf s (wrI (wrR s (encF g)))) (kk_ left (secs (encF g).length)) sent,0)
    else (zeR,390)
   else (zeR,2)
  else (zeR,40)
 else (zeR,120)
def oR_ (r:Rm) (f:Nat→Int):Rm×Int:=if rmB r=true then i6_ r.crew r.seed r.many r.dk.s r.dk.left r.sent (ownF r.crew (recs r.dk.s).length f) else (zeR,440)
theorem j7_ {crew:Int} {n:Nat} {f:Nat→Int} (hf:fOk f) (hc:isI crew) (hn:n≤1000000):fOk (ownF crew n f):=by
 have h1:isI ((n:Int)+1):=by unfold isI;omega
 refine⟨fun i=>?_,?_,fun i hi=>?_⟩
 ·unfold ownF fup
  split
  ·exact h1
  ·split
   ·exact hc
   ·exact hf.1 i
 ·have e:ownF crew n f 54=f 54:=by unfold ownF fup;rw[if_neg (by omega),if_neg (by omega)]
  rw[e];exact hf.2.1
 ·have e:ownF crew n f i=f i:=by unfold ownF fup;rw[if_neg (by omega),if_neg (by omega)]
  rw[e];exact hf.2.2 i hi
theorem ownF_0 (crew:Int) (n:Nat) (f:Nat→Int):ownF crew n f 0=crew:=by unfold ownF fup;rw[if_neg (by omega),if_pos rfl]
theorem ownF_1 (crew:Int) (n:Nat) (f:Nat→Int):ownF crew n f 1=n+1:=by unfold ownF fup;rw[if_pos rfl]
theorem recV_cases {crew:Int} {seed:By} {m:Int} {s:List By} {left sent:Int} (h:okR crew seed m s left sent) {g:Nat→Int} (hg:fOk g) (hc:g 0=crew) (hn:g 1=(recs s).length+1) :
  (∃ s' l',i6_ crew seed m s left sent g=(mkR crew seed m s' l' sent,0)∧okR crew seed m s' l' sent∧recs s'=recs s++[encF g]∧decF (encF g)=(g,0)) ∨
  (∃ s',i6_ crew seed m s left sent g=(mkR crew seed m s' (-1) 0,380)∧okR crew seed m s' (-1) 0∧recs s'=recs s) ∨
  (∃ e,i6_ crew seed m s left sent g=(zeR,e)∧e≠0∧e≠380):=by
 unfold i6_
 by_cases hv:(numF g).2=true
 ·rw[if_pos hv]
  by_cases hm:((recs s).length:Int)<m
  ·rw[if_pos hm]
   by_cases hu:usd (recs s)+secs (encF g).length≤s.length
   ·rw[if_pos hu]
    by_cases hgen:gnr s<4294967296
    ·rw[if_pos hgen]
     by_cases hl:0≤left∧left<secs (encF g).length
     ·rw[if_pos hl]
      obtain⟨h1,h2⟩:=oD_ h hu hgen (k:=left.toNat) (by omega)
      exact .inr (.inl ⟨_,rfl,h1,h2⟩)
     ·rw[if_neg hl]
      obtain⟨h1,h2⟩:=no_ h hg hv hc hn hm hu hgen hl
      exact .inl ⟨_,_,rfl,h1,h2,dS_ hg hv⟩
    ·rw[if_neg hgen];exact .inr (.inr ⟨_,rfl,by decide,by decide⟩)
   ·rw[if_neg hu];exact .inr (.inr ⟨_,rfl,by decide,by decide⟩)
  ·rw[if_neg hm];exact .inr (.inr ⟨_,rfl,by decide,by decide⟩)
 ·rw[if_neg hv];exact .inr (.inr ⟨_,rfl,by decide,by decide⟩)
end Go.Proofs.YtfgcgagcpnbgmaaGreatDoor
set_option linter.unusedVariables false
set_option linter.unusedSimpArgs false
set_option linter.unusedSectionVars false
namespace Go.Proofs.YtfgcgagcpnbgmaaGreatDoor
open Go.Xe Go.RowKit
theorem dm_ {crew m:Int} {i:Nat} {b:By} (h:onK crew m i b=true) (hb:b.length≤1000000000000) :
  fOk (decF b).1∧(numF (decF b).1).2=true∧(decF b).1 0=crew∧(decF b).1 1=(i:Int)+1∧(i:Int)<m:=by
 rw[onK,decide_eq_true_eq] at h
 obtain⟨h1,h2,h3,h4⟩:=h
 refine⟨kD_ hb,?_,h2,h3,h4⟩
 rcases decF_val hb with⟨_,he⟩|⟨hne,_⟩
 ·by_cases hv:(numF (decF b).1).2=true
  ·exact hv
  ·rw[z8_ hv] at he
   have:=congrArg Prod.snd he
   simp at this
 ·exact absurd h1 hne
theorem zu_ {crew:Int} {seed:By} {m u:Int} {l:List By} (h:onB crew m 0 l=true) (hk:keyV seed m u=true) (hc0:0≤crew) (hl:∀ b∈l,b.length≤1000000000000) {cr:List Crw} (hcr:crB cr=true) (hlen:crew<cr.length)
  (hat:cr.getD crew.toNat (z32,0)=(treeB (pubsB seed m.toNat),m)) {p:Sg} (hp:p∈onL seed m l):yP_ cr p=0:=by
 obtain⟨b,hb,rfl⟩:=List.mem_map.1 hp
 obtain⟨j,hj,rfl⟩:=List.mem_iff_getElem.1 hb
 have hkk:=a8_.1 hk
 obtain⟨h1,h2,h3,h4,h5⟩:=dm_ (ej_ h hj) (hl _ hb)
 obtain⟨M,rfl⟩:∃ M:Nat,m=M:=⟨m.toNat,by omega⟩
 rw[Int.toNat_natCast] at hat
 have hv:=wx_ seed M u (decF l[j]).1 h2 hk (by omega) cr hcr (by omega) (by rw[h3];exact hat)
 rw[sgQ,Int.toNat_natCast,rm_ rfl (rD_ seed M _ _ (by omega) (by omega))]
 exact hv
theorem u4_ {l:List Sg} (hf:∀ s∈l,fOk s.1) (h:∀ a∈l,∀ b∈l,refS a=refS b→a.1=b.1):frkL l=[]:=by
 rw[frkL,List.filterMap_eq_nil_iff]
 intro r _
 cases h2:two (shlf r l) with
 | none=>rfl
 | some q =>
  obtain⟨a,b⟩:=q
  obtain⟨fa,fb,ra,rb,hc⟩:=vW_ hf h2
  have e:=h a (cB_ fa) b (cB_ fb) (ra.trans rb.symm)
  have ha:=hf a (cB_ fa)
  obtain⟨_,_,_,va,_⟩:=fa
  have hz:=(pF_ ha ha va va).2 rfl
  rw[← e,hz] at hc
  omega
theorem zv_ {crew:Int} {seed:By} {m:Int} {l:List By} (h:onB crew m 0 l=true) (hl:∀ b∈l,b.length≤1000000000000) {all:List Sg} (ha:∀ p∈all,p∈onL seed m l):frkL all=[]:=by
 refine u4_ (fun s hs=>?_) fun a hA b hB e=>?_
 ·obtain⟨x,hx,rfl⟩:=List.mem_map.1 (ha s hs)
  exact kD_ (hl _ hx)
 ·obtain⟨x,hx,rfl⟩:=List.mem_map.1 (ha a hA)
  obtain⟨y,hy,rfl⟩:=List.mem_map.1 (ha b hB)
  obtain⟨i,hi,rfl⟩:=List.mem_iff_getElem.1 hx
  obtain⟨j,hj,rfl⟩:=List.mem_iff_getElem.1 hy
  obtain⟨_,_,_,h4,_⟩:=dm_ (ej_ h hi) (hl _ hx)
  obtain⟨_,_,_,g4,_⟩:=dm_ (ej_ h hj) (hl _ hy)
  have e1:(decF l[i]).1 1=(decF l[j]).1 1:=congrArg Prod.snd e
  have:i=j:=by omega
  subst this
  rfl
end Go.Proofs.YtfgcgagcpnbgmaaGreatDoor
set_option maxRecDepth 10000
set_option linter.unusedVariables false
set_option linter.unusedSimpArgs false
set_option linter.unusedSectionVars false
namespace Go.Proofs.YtfgcgagcpnbgmaaGreatDoor
open Go.Xe Go.RowKit
abbrev smS0 (a b:List Dg) (i:Nat):St:=mkS 26 [(0,.d (slG a)),(1,.d (slG b)),(5,.d (.v (.int .i64 i)))] []
theorem pV_:Tryz.prog.eqGuardType Tryz.prog.depth 87=false:=by kernel_rfl
theorem hf_ {x:Dg} (h:x.length=32):List.take 32 (bys x)=bys x:=List.take_of_length_le (by rw[bys_len];omega)
set_option maxHeartbeats 4000000 in
theorem hI_ (a b:List Dg) (ha:aY_ a) (hb:aY_ b) (hna:a.length≤10000000000000) (hnb:b.length≤10000000000000):Fn0 Tryz.prog 119 [slG a,slG b] (.v (.bool (decide (a=b)))):=by
 refine ad_ (pn:=ap_) aa_ Tryz.func119 rfl fun β0=>?_
 simp only[Tryz.f119]
 repeat(first|apply wG|(apply wR;simp -dsimp[slG])|refine aI ?_)
 by_cases hl:a.length=b.length
 ·refine cF (by simp[hl]) ?_
  refine WP.skip ?_
  simp -dsimp
  repeat(first|apply wG|(apply wR;simp -dsimp)|refine aI ?_)
  refine ai_ (fun q S=>∃ i:Nat,q=a.length-i∧i≤a.length∧(∀ j,j<i→digA a j=digA b j)∧S=smS0 a b i) a.length (S0:=smS0 a b 0) (ae_ [] (by simp[slG]) (by simp)) ⟨0,rfl,by omega,fun j h=>by omega,rfl⟩ ?_
  rintro _ _ ⟨i,rfl,hi,hj,rfl⟩
  simp -dsimp[slG]
  repeat(first|apply wG|(apply wR;simp -dsimp)|refine aI ?_)
  by_cases hil:i<a.length
  ·have hib:i<b.length:=by omega
   have aa:=eb_ ha i hil
   have ab:=eb_ hb i hib
   have la:=cl_ ha i hil
   have lb:=cl_ hb i hib
   have ca:=bq_ ha
   have cb:=bq_ hb
   have ta:=hf_ la
   have tb:=hf_ lb
   have e1:IntKind.i64.wrap ((i:Int)+1)=((i+1:Nat):Int):=by rw[IntWalk.i64_in _ (by omega)];omega
   have hstep:digA a i=digA b i→∀ j,j<i+1→digA a j=digA b j:=fun h j hj1=>by
    rcases Nat.lt_or_ge j i with h1|h1
    ·exact hj j h1
    ·rw[show j=i by omega];exact h
   have hbad:digA a i≠digA b i→a≠b:=fun h e=>h (by rw[e])
   generalize digA a i=x at *
   generalize digA b i=y at *
   refine cT (by simp;omega) ?_
   refine WP.skip ?_
   simp -dsimp
   repeat(first|apply wG|(apply wR;simp -dsimp[aa,ab,ta,tb])|refine aI ?_)
   refine i0_ aa_ Dk_ sr_ rfl (.inr rfl) (q:=4) (by omega) (T:=87) kR_ ik_ (by decide) pV_ (cs:=de_ x) (es:=de_ y) (by simp[bB_]) (by simp[bB_]) (by simp[de_,la]) (by simp[de_,lb]) (dL_ x) (dL_ y) (hZ_ x y) ?_
   simp -dsimp[eqRes]
   repeat(first|apply wG|(apply wR;simp -dsimp)|refine aI ?_)
   by_cases hxy:x=y
   ·refine cF (by simp[eqRes,hxy]) ?_
    refine WP.skip ?_
    simp -dsimp
    repeat(first|apply wG|(apply wR;simp -dsimp)|refine aI ?_)
    refine loopW.next (smS0 a b (i+1)) (ae_ [] (by simp[e1,slG]) (by simp)) (a.length-(i+1)) (by omega) ⟨i+1,rfl,by omega,hstep hxy,rfl⟩
   ·refine cT (by simp[eqRes,hxy]) ?_
    have hr:decide (a=b)=false:=decide_eq_false (hbad hxy)
    repeat(first|apply wG|(apply wR;simp -dsimp)|refine aI ?_)
    refine WP.ret (ac_ ?_)
    simp -dsimp[hr]
  ·refine cF (by simp;omega) ?_
   refine WP.exit ?_
   have hr:decide (a=b)=true:=decide_eq_true (g9_ hl fun j h=>hj j (by omega))
   simp -dsimp
   repeat(first|apply wG|(apply wR;simp -dsimp)|refine aI ?_)
   refine WP.ret (ac_ ?_)
   simp -dsimp[hr]
 ·refine cT (by simp;omega) ?_
  have hr:decide (a=b)=false:=decide_eq_false fun h=>hl (by rw[h])
  repeat(first|apply wG|(apply wR;simp -dsimp)|refine aI ?_)
  refine WP.ret (ac_ ?_)
  simp -dsimp[hr]
theorem ni_ (k k':Int) (o c p o' c' p':List Dg) (h:sigG k o c p) (h':sigG k' o' c' p'):∃ r,Fn0 Tryz.prog 69 [.agg (cz_ k o c p),.agg (cz_ k' o' c' p')] (.v (.bool r))∧(r=true↔k=k'∧o=o'∧c=c'∧p=p'):=by
 have k1:=hI_ o o' h.ho h'.ho h.no h'.no
 have k2:=hI_ c c' h.hc h'.hc h.nc h'.nc
 have k3:=hI_ p p' h.hp h'.hp h.np h'.np
 have e:(decide (k=k')&&(decide (o=o')&&(decide (c=c')&&decide (p=p'))))=true↔k=k'∧o=o'∧c=c'∧p=p':=by simp
 refine⟨_,?_,e⟩
 generalize decide (o=o')=b1 at *
 generalize decide (c=c')=b2 at *
 generalize decide (p=p')=b3 at *
 clear e
 by_cases hk:k=k'
 ·subst hk
  refine ad_ (pn:=ap_) aa_ Tryz.func69 rfl fun β0=>?_
  simp only[Tryz.f69]
  repeat(first|apply wG|(apply wR;simp -dsimp[cz_,slG])|refine aI ?_)
  refine aj_ dD_ (fun _=>k1) rfl (fun _=>rfl) (fun _=>by simp[slG]) ?_
  cases b1 with
  | false =>
   simp -dsimp
   repeat(first|apply wG|(apply wR;simp -dsimp)|refine aI ?_)
   refine vcStopG.skip (.d (.v (.bool false))) ?_
   simp -dsimp
   repeat(first|apply wG|(apply wR;simp -dsimp)|refine aI ?_)
   refine vcStopG.skip (.d (.v (.bool false))) ?_
   simp -dsimp
   repeat(first|apply wG|(apply wR;simp -dsimp)|refine aI ?_)
   refine WP.ret (ac_ ?_)
   simp -dsimp
  | true =>
   simp -dsimp
   repeat(first|apply wG|(apply wR;simp -dsimp)|refine aI ?_)
   refine aj_ dD_ (fun _=>k2) rfl (fun _=>rfl) (fun _=>by simp[slG]) ?_
   cases b2 with
   | false =>
    simp -dsimp
    repeat(first|apply wG|(apply wR;simp -dsimp)|refine aI ?_)
    refine vcStopG.skip (.d (.v (.bool false))) ?_
    simp -dsimp
    repeat(first|apply wG|(apply wR;simp -dsimp)|refine aI ?_)
    refine WP.ret (ac_ ?_)
    simp -dsimp
   | true =>
    simp -dsimp
    repeat(first|apply wG|(apply wR;simp -dsimp)|refine aI ?_)
    refine aj_ dD_ (fun _=>k3) rfl (fun _=>rfl) (fun _=>by simp[slG]) ?_
    simp -dsimp
    repeat(first|apply wG|(apply wR;simp -dsimp)|refine aI ?_)
    refine WP.ret (ac_ ?_)
    simp -dsimp
 ·have hd:decide (k=k')=false:=decide_eq_false hk
  refine ad_ (pn:=ap_) aa_ Tryz.func69 rfl fun β0=>?_
  simp only[Tryz.f69]
  repeat(first|apply wG|(apply wR;simp -dsimp[cz_,slG,hd])|refine aI ?_)
  refine vcStopG.skip (.d (.v (.bool false))) ?_
  simp -dsimp
  repeat(first|apply wG|(apply wR;simp -dsimp)|refine aI ?_)
  refine vcStopG.skip (.d (.v (.bool false))) ?_
  simp -dsimp
  repeat(first|apply wG|(apply wR;simp -dsimp)|refine aI ?_)
  refine vcStopG.skip (.d (.v (.bool false))) ?_
  simp -dsimp
  repeat(first|apply wG|(apply wR;simp -dsimp)|refine aI ?_)
  refine WP.ret (ac_ ?_)
  simp -dsimp[hd]
theorem wI_ {k k':Int} {o c p o' c' p':List Dg} (h:sigG k o c p) (h':sigG k' o' c' p') (e:cz_ k o c p=cz_ k' o' c' p'):k=k'∧o=o'∧c=c'∧p=p':=by
 have key:∀ {a b:List Dg},aY_ a→aY_ b→dgL a=dgL b→a.length=b.length→a=b:=fun {a b} ha hb e hl=>by
  rw[← bS_ ha,e,hl,bS_ hb]
 simp only[cz_,slG,List.cons.injEq,D.v.injEq,Value.int.injEq,D.sl.injEq,true_and,and_true] at e
 obtain⟨e1,⟨e2,n2⟩,⟨e3,n3⟩,e4,n4⟩:=e
 exact⟨e1,key h.ho h'.ho e2 n2,key h.hc h'.hc e3 n3,key h.hp h'.hp e4 n4⟩
theorem qg_ (p q:Sg) (hp:b2_ p) (hq:b2_ q) (up:sgT p) (uq:sgT q):∃ r,Fn0 Tryz.prog 28 [sgV p,sgV q] (.v (.bool r))∧(p=q→r=true):=by
 have k1:=qn_ p.1 q.1 hp.1 hq.1
 have l1:=aO_ hp
 have l2:=aO_ hq
 have h57:=fW_ p
 have g57:=fW_ q
 have h4:List.take 4 (List.drop 57 ((sgc p).map AV.d))=p.2.map .d:=by rw[← List.map_drop,← List.map_take,gS_ hp]
 have g4:List.take 4 (List.drop 57 ((sgc q).map AV.d))=q.2.map .d:=by rw[← List.map_drop,← List.map_take,gS_ hq]
 obtain⟨k,op,cl,pa,e,hg⟩:=up
 obtain⟨k',op',cl',pa',e',hg'⟩:=uq
 obtain⟨r2,k2,hr2⟩:=ni_ k k' op cl pa op' cl' pa' hg hg'
 rw[← e,← e'] at k2
 have hr:p=q→(eqF p.1 q.1&&r2)=true:=fun h=>by
  subst h
  rw[(fH_ hp.1 hp.1).2 rfl,hr2.2 (wI_ hg hg' (e.symm.trans e'))]
  rfl
 refine⟨_,?_,hr⟩
 clear hr hr2 hg hg' e e'
 generalize eqF p.1 q.1=b1 at k1
 simp only[sgV]
 refine ad_ (pn:=ap_) aa_ Tryz.func28 rfl fun β0=>?_
 simp only[Tryz.f28]
 repeat(first|apply wG|(apply wR;simp -dsimp)|refine aI ?_)
 refine And.intro (sgc_oneD hp) ?_
 repeat(first|apply wG|(apply wR;simp -dsimp)|refine aI ?_)
 refine And.intro (sgc_oneD hq) ?_
 repeat(first|apply wG|(apply wR;simp -dsimp[h57,h4,g57,g4])|refine aI ?_)
 refine al_ oa_ k1 rfl rfl (And.intro (by simp[fD]) (And.intro (by simp[fD]) trivial)) ?_
 cases b1 with
 | true =>
  simp -dsimp
  repeat(first|apply wG|(apply wR;simp -dsimp[h57,h4,g57,g4])|refine aI ?_)
  refine br_ n9_ (fun _=>k2) rfl (fun _=>rfl) (fun _=>And.intro (by simp[h4]) (And.intro (by simp[g4]) trivial)) ?_
  simp -dsimp
  repeat(first|apply wG|(apply wR;simp -dsimp)|refine aI ?_)
  refine WP.ret (ac_ ?_)
  simp -dsimp
 | false =>
  simp -dsimp
  repeat(first|apply wG|(apply wR;simp -dsimp[h57,h4,g57,g4])|refine aI ?_)
  refine vcStopG.skip (.d (.v (.bool false))) ?_
  simp -dsimp
  repeat(first|apply wG|(apply wR;simp -dsimp)|refine aI ?_)
  refine WP.ret (ac_ ?_)
  simp -dsimp
end Go.Proofs.YtfgcgagcpnbgmaaGreatDoor
