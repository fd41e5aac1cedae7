/-
  Joined texts.
-/
import Derived.Test.YtdjkbdhdejlakaaGreatDoorVEngEa
set_option linter.unusedVariables false
set_option linter.unusedSimpArgs false
set_option linter.unusedSectionVars false
namespace Go.Proofs.YtdjkbdhdejlakaaGreatDoor
open Go.Xe Go.RowKit
abbrev W:=BitVec 32
def wI (x:W):Int:=x.toNat
def u32D (x:W):D:=.v (.int .u32 (wI x))
def u32L (l:List W):List D:=l.map u32D
def gW (v:List W) (i:Nat):W:=v.getD i 0
def rr (n:Nat) (x:W):W:=(x<<<(32-n))|||(x>>>n)
theorem u32L_len (v:List W):(u32L v).length=v.length:=by simp[u32L]
theorem uK_ (v:List W) (i:Nat) (x:W):(u32L v).set i (u32D x)=u32L (v.set i x):=by simp[u32L,List.map_set]
theorem xk_ (v:List W) (i:Nat) (h:i<v.length):(u32L v)[i]? = some (u32D (gW v i)):=by
 simp[u32L,gW,h]
theorem ay_ (v:List W) (i:Nat) (h:i<v.length):atL ((u32L v).map .d) i=.d (.v (.int .u32 (wI (gW v i)))):=by
 rw[← b6_,List.getElem?_map,xk_ v i h];rfl
theorem aO_ (v:List W) (i:Nat) (x:W):((u32L v).map AV.d).set i (.d (.v (.int .u32 (wI x))))=(u32L (v.set i x)).map AV.d:=by
 rw[← uK_,List.map_set];rfl
theorem lz_ (n:Nat):IntKind.u32.wrap (n:Int)=wI (BitVec.ofNat 32 n):=by
 rw[wI,IntKind.wrap_u32,BitVec.toNat_ofNat];omega
theorem fX_ (a b:W):IntKind.u32.wrap (wI a+wI b)=wI (a+b):=by
 rw[wI,wI,wI,IntKind.wrap_u32,BitVec.toNat_add];omega
theorem Cg_ (a:W):BitVec.ofInt 32 (wI a)=a:=by
 apply BitVec.eq_of_toNat_eq
 rw[wI,BitVec.toNat_ofInt]
 have:=a.isLt
 omega
theorem wA_ (a:W):IntKind.u32.wrap (wI a)=wI a:=by
 have:=a.isLt
 rw[wI,IntKind.wrap_u32];omega
theorem cB_ (a b:W):bits .xor .u32 (wI a) (wI b)=wI (a^^^b):=by
 have h:bits .xor .u32 (wI a) (wI b)=IntKind.u32.wrap (wI (BitVec.ofInt 32 (wI a)^^^BitVec.ofInt 32 (wI b))):=rfl
 rw[h,Cg_,Cg_,wA_]
theorem Cf_ (a b:W):bits .or .u32 (wI a) (wI b)=wI (a|||b):=by
 have h:bits .or .u32 (wI a) (wI b)=IntKind.u32.wrap (wI (BitVec.ofInt 32 (wI a)|||BitVec.ofInt 32 (wI b))):=rfl
 rw[h,Cg_,Cg_,wA_]
theorem uF_ (a:W) (n:Nat):IntKind.u32.wrap (wI a*2^n)=wI (a<<<n):=by
 have h:(wI a*2^n)=((a.toNat*2^n:Nat):Int):=by simp[wI]
 rw[h,wI,IntKind.wrap_u32,BitVec.toNat_shiftLeft,Nat.shiftLeft_eq]
 omega
theorem uE_ (a:W) (n:Nat):(wI a).fdiv (2^n)=wI (a>>>n):=by
 have h:((2:Int)^n)=((2^n:Nat):Int):=by simp
 rw[h,wI,wI,BitVec.toNat_ushiftRight,Nat.shiftRight_eq_div_pow,Int.fdiv_eq_ediv_of_nonneg _ (Int.natCast_nonneg _)]
 exact (Int.natCast_ediv _ _).symm
theorem wz_ (x:W):IntKind.u8.wrap (wI x)=((UInt8.ofNat x.toNat).toNat:Int):=by
 rw[wI,IntKind.wrap_u8,UInt8.toNat_ofNat'];omega
theorem pr_ (b:UInt8):IntKind.u32.wrap (b.toNat:Int)=wI (BitVec.ofNat 32 b.toNat):=lz_ _
/-! ### the state of a block -/
def s1 (v:List W) (a b:Nat) (x:W):List W:=v.set a (gW v a+(gW v b+x))
def s2 (v:List W) (d a n:Nat):List W:=v.set d (rr n (gW v d^^^gW v a))
def s3 (v:List W) (c d:Nat):List W:=v.set c (gW v c+gW v d)
def uB_ (v:List W) (a b c d:Nat) (x y:W):List W :=
 s2 (s3 (s2 (s1 (s2 (s3 (s2 (s1 v a b x) d a 16) c d) b c 12) a b y) d a 8) c d) b c 7
theorem sy_ (v:List W) (a b:Nat) (x:W):(s1 v a b x).length=v.length:=by simp[s1]
theorem lO_ (v:List W) (d a n:Nat):(s2 v d a n).length=v.length:=by simp[s2]
theorem sx_ (v:List W) (c d:Nat):(s3 v c d).length=v.length:=by simp[s3]
theorem kL_ (v:List W) (a b c d:Nat) (x y:W):(uB_ v a b c d x y).length=v.length:=by simp only[uB_,sy_,lO_,sx_]
def permT:List (List Nat):=[[0,1,2,3,4,5,6,7,8,9,10,11,12,13,14,15],[14,10,4,8,9,15,13,6,1,12,0,2,11,7,5,3],[11,8,12,0,5,2,15,13,10,14,3,6,7,1,9,4],[7,9,3,1,13,12,11,14,2,6,5,10,4,0,15,8],[9,0,5,7,2,4,10,15,14,1,11,12,6,8,3,13],[2,12,6,10,0,11,8,3,4,13,7,5,15,14,1,9],[12,5,1,15,14,13,4,10,0,7,6,3,9,2,8,11],[13,11,7,14,12,1,3,9,5,0,15,4,8,6,2,10],[6,15,14,9,11,3,0,8,12,2,13,7,1,4,10,5],[10,2,8,4,7,6,1,5,15,11,9,14,3,12,13,0]]
def ptA (r j:Nat):Nat:=((permT.getD r []).getD j 0)
theorem sM_:∀ r,r<10→∀ j,j<16→ptA r j<16:=by decide
def colV (m:List W) (r:Nat) (v:List W):Nat→List W
 | 0=>v
 | i+1=>uB_ (colV m r v i) i (4+i) (8+i) (12+i) (gW m (ptA r (2*i))) (gW m (ptA r (2*i+1)))
def diaV (m:List W) (r:Nat) (v:List W):Nat→List W
 | 0=>v
 | i+1=>uB_ (diaV m r v i) i (4+(i+1)%4) (8+(i+2)%4) (12+(i+3)%4) (gW m (ptA r (8+2*i))) (gW m (ptA r (9+2*i)))
def rndV (m v:List W):Nat→List W
 | 0=>v
 | r+1=>diaV m r (colV m r (rndV m v r) 4) 4
theorem hw_ (m:List W) (r:Nat) (v:List W):∀ i,(colV m r v i).length=v.length
 | 0=>rfl
 | i+1=>by rw[colV,kL_,hw_ m r v i]
theorem k5_ (m:List W) (r:Nat) (v:List W):∀ i,(diaV m r v i).length=v.length
 | 0=>rfl
 | i+1=>by rw[diaV,kL_,k5_ m r v i]
theorem kh_ (m v:List W):∀ r,(rndV m v r).length=v.length
 | 0=>rfl
 | r+1=>by rw[rndV,k5_,hw_,kh_ m v r]
def byA (b:List UInt8) (i:Nat):UInt8:=b.getD i 0
def bz_ (b:List UInt8):Nat→List W
 | 0=>List.replicate 16 0
 | i+1=>(bz_ b i).set (i/4) (gW (bz_ b i) (i/4)|||(BitVec.ofNat 32 (byA b i).toNat)<<<(8*(i%4)))
theorem dM_ (b:List UInt8):∀ i,(bz_ b i).length=16
 | 0=>rfl
 | i+1=>by rw[bz_,List.length_set,dM_ b i]
def iniV:List W:=[0x6a09e667,0xbb67ae85,0x3c6ef372,0xa54ff53a,0x510e527f,0x9b05688c,0x1f83d9ab,0x5be0cd19]
def zb_ (h:List W) (n:Nat) (last:Bool):List W :=
 let v:=h++iniV
 let v:=v.set 12 (gW v 12^^^BitVec.ofNat 32 n)
 let v:=v.set 13 (gW v 13^^^BitVec.ofNat 32 (n/4294967296))
 if last=true then v.set 14 (4294967295^^^gW v 14) else v
def endV (h v:List W):Nat→List W
 | 0=>h
 | i+1=>(endV h v i).set i (gW (endV h v i) i^^^(gW v i^^^gW v (8+i)))
theorem fO_ (h v:List W):∀ i,(endV h v i).length=h.length
 | 0=>rfl
 | i+1=>by rw[endV,List.length_set,fO_ h v i]
theorem wi_ (h:List W) (n:Nat) (last:Bool) (hh:h.length=8):(zb_ h n last).length=16:=by
 unfold zb_
 simp only
 split<;>simp[iniV,hh]
def wb_ (h:List W) (b:List UInt8) (n:Nat) (last:Bool):List W:=endV h (rndV (bz_ b b.length) (zb_ h n last) 10) 8
theorem qz_ (h:List W) (b:List UInt8) (n:Nat) (last:Bool):(wb_ h b n last).length=h.length:=fO_ _ _ _
def absV (b:List UInt8):Nat→List W
 | 0=>iniV.set 0 (gW iniV 0^^^0x01010020)
 | k+1=>wb_ (absV b k) ((b.drop (64*k)).take 64) (64*(k+1)) false
theorem cM_ (b:List UInt8):∀ k,(absV b k).length=8
 | 0=>rfl
 | k+1=>by rw[absV,qz_,cM_ b k]
def blkN (b:List UInt8):Nat:=(b.length-1)/64
def nB_ (b:List UInt8):List W:=wb_ (absV b (blkN b)) (b.drop (64*blkN b)) b.length true
theorem k2_ (b:List UInt8):(nB_ b).length=8:=by rw[nB_,qz_,cM_]
def hL_ (b:List UInt8):List UInt8:=(List.range 32).map fun i=>UInt8.ofNat ((gW (nB_ b) (i/4)>>>(8*(i%4))).toNat)
theorem sumB_len (b:List UInt8):(hL_ b).length=32:=by simp[hL_]
def tagB (t b:List UInt8):List UInt8:=hL_ (hL_ t++b)
theorem bh_ (t b:List UInt8):(tagB t b).length=32:=sumB_len _
abbrev Dg:=List UInt8
def tB (s:String):List UInt8:=s.toUTF8.data.toList
def halfN (n:Nat):Nat:=2^Nat.log2 (n-1)
theorem ej_ (n:Nat) (h:2≤n):halfN n<n:=by
 have:=Nat.log2_self_le (n:=n-1) (by omega)
 unfold halfN
 omega
theorem cu_ (n:Nat):0<halfN n:=Nat.two_pow_pos _
def leafB (d : Dg) : Dg := tagB (tB "leaf") d
def nodeB (a b : Dg) : Dg := tagB (tB "node") (a ++ b)
def oj_:Nat→Nat→Nat→List Bool
 | 0,_,_=>[]
 | f+1,i,n=>if n≤1 then [] else if i<halfN n then true::oj_ f i (halfN n) else false::oj_ f (i-halfN n) (n-halfN n)
def upB:Dg→List Dg→List Bool→Dg
 | x,p::ps,b::bs=>upB (if b=true then nodeB x p else nodeB p x) ps bs
 | x,_,_=>x
theorem dY_ (d:Dg):(leafB d).length=32:=bh_ _ _
theorem bR_ (a b:Dg):(nodeB a b).length=32:=bh_ _ _
theorem j8_:∀ (p:List Dg) (b:List Bool) (x:Dg),x.length=32→(upB x p b).length=32
 | [],_,x,h=>by simpa [upB] using h
 | p::ps,[],x,h=>by simpa [upB] using h
 | p::ps,b::bs,x,h=>by
  rw[upB]
  refine j8_ ps bs _ ?_
  split
  ·exact bR_ _ _
  ·exact bR_ _ _
def t5_ (d:Dg) (i n:Nat) (p:List Dg):Option Dg :=
 if i<n∧n≤1099511627776∧p.length=(oj_ n i n).length then some (upB (leafB d) p (oj_ n i n).reverse) else none
def r1_ (n:Nat):List UInt8:=[UInt8.ofNat (n/256),UInt8.ofNat n]
def openB (d : Dg) : Dg := tagB (tB "open") d
def bitB (root:Dg) (index:Nat) (msg:List UInt8) (j:Nat):Bool :=
 ((byA (tagB (tB "message") (root ++ (r1_ index ++ msg))) (j / 8)).toNat / 2 ^ (7 - j % 8)) % 2 == 1
def nz_ (hash:Nat→Bool→Dg):Nat→List UInt8
 | 0=>[]
 | j+1=>nz_ hash j++(hash j false++hash j true)
def pubB (hash : Nat → Bool → Dg) : Dg := tagB (tB "one") (nz_ hash 64)
def digA (l:List Dg) (i:Nat):Dg:=l.getD i (List.replicate 32 0)
def tv_ (root:Dg) (index:Nat) (msg:List UInt8) (op cl:List Dg) (j:Nat) (b:Bool):Dg :=
 if bitB root index msg j=b then openB (digA op j) else digA cl j
def sealB (root:Dg) (n:Int) (msg:List UInt8) (index:Int) (op cl path:List Dg):Bool :=
 if n<1∨4096<n∨index<0∨n≤index∨op.length≠64∨cl.length≠64∨65536<msg.length then false
 else decide (t5_ (pubB (tv_ root index.toNat msg op cl)) index.toNat n.toNat path=some root)
def bitL (n:Nat):Nat:=if n=0 then 0 else Nat.log2 n+1
theorem bS_ (n:Nat) (h:2≤n):Nat.log2 n=Nat.log2 (n/2)+1:=by
 rw[Nat.log2_def n,if_pos h]
theorem AQ_ (n:Nat) (h:256≤n):bitL n=bitL (n/256)+8:=by
 unfold bitL
 rw[if_neg (by omega),if_neg (by omega)]
 rw[bS_ n (by omega),bS_ (n/2) (by omega),bS_ (n/2/2) (by omega),bS_ (n/2/2/2) (by omega),bS_ (n/2/2/2/2) (by omega),bS_ (n/2/2/2/2/2) (by omega),bS_ (n/2/2/2/2/2/2) (by omega),bS_ (n/2/2/2/2/2/2/2) (by omega)]
 simp only[Nat.div_div_eq_div_mul]
theorem tx_ (n:Nat) (h:2≤n):halfN n=2^(bitL (n-1)-1):=by
 unfold halfN bitL
 rw[if_neg (by omega)]
 simp
theorem vH_ (n j:Nat) (h1:2^j<n∨j=0) (h2:n≤2*2^j) (h0:1≤n):halfN n=2^j:=by
 unfold halfN
 by_cases h:n=1
 ·subst h
  rcases h1 with h1|rfl
  ·have:=Nat.two_pow_pos j;omega
  ·rfl
 ·have e:Nat.log2 (n-1)=j:=by
   rw[Nat.log2_eq_iff (by omega)]
   refine⟨?_,by rw[Nat.pow_succ];omega⟩
   rcases h1 with h1|rfl
   ·omega
   ·simp;omega
  rw[e]
/-! ### what the reference does with a block -/
theorem w1_ (v:List W) (i j:Nat) (x:W) (h:i<v.length):gW (v.set i x) j=if i=j then x else gW v j:=by
 unfold gW
 simp only[List.getD_eq_getElem?_getD,List.getElem?_set]
 by_cases e:i=j
 ·subst e;simp[h]
 ·simp[e]
theorem w2_ {v w:List W} (h:v.length=w.length) (hg:∀ j,gW v j=gW w j):v=w:=by
 refine List.ext_getElem h fun i h1 h2=>?_
 have:=hg i
 unfold gW at this
 simpa [List.getD_eq_getElem?_getD,h1,h2] using this
def ror (x:W) (n:Nat):W:=(x>>>n)|||(x<<<(32-n))
theorem wH_ (x:W) (n:Nat):ror x n=rr n x:=BitVec.or_comm _ _
def wU_ (a b c d x y:W):W×W×W×W :=
 let a:=a+b+x
 let d:=ror (d^^^a) 16
 let c:=c+d
 let b:=ror (b^^^c) 12
 let a:=a+b+y
 let d:=ror (d^^^a) 8
 let c:=c+d
 let b:=ror (b^^^c) 7
 (a,b,c,d)
def u5_ (v:List W) (a b c d:Nat) (q:W×W×W×W):List W:=(((v.set a q.1).set b q.2.1).set c q.2.2.1).set d q.2.2.2
theorem z5_ (v:List W) (a b c d:Nat) (x y:W) (hv:v.length=16) (ha:a<16) (hb:b<16) (hc:c<16) (hd:d<16) (hab:a≠b) (hac:a≠c) (had:a≠d) (hbc:b≠c) (hbd:b≠d) (hcd:c≠d) :
  uB_ v a b c d x y=u5_ v a b c d (wU_ (gW v a) (gW v b) (gW v c) (gW v d) x y):=by
 refine w2_ (by rw[kL_];simp[u5_]) fun j=>?_
 simp only[uB_,s1,s2,s3,u5_,wU_,wH_]
 have hba:=hab.symm
 have hca:=hac.symm
 have hda:=had.symm
 have hcb:=hbc.symm
 have hdb:=hbd.symm
 have hdc:=hcd.symm
 simp only[w1_,List.length_set,hv,ha,hb,hc,hd,hab,hac,had,hbc,hbd,hcd,hba,hca,hda,hcb,hdb,hdc,if_true,if_false,BitVec.add_assoc]
 by_cases e1:d=j
 ·subst e1;simp[*]
 ·by_cases e2:c=j
  ·subst e2;simp[*]
  ·by_cases e3:b=j
   ·subst e3;simp[*]
   ·by_cases e4:a=j
    ·subst e4;simp[*]
    ·simp[*]
def filV (h:List W):Nat→List W
 | 0=>List.replicate 16 0
 | i+1=>((filV h i).set i (gW h i)).set (8+i) (gW iniV i)
theorem k3_ (h:List W):∀ i,(filV h i).length=16
 | 0=>rfl
 | i+1=>by rw[filV,List.length_set,List.length_set,k3_ h i]
theorem Ap_ (h:List W) (hh:h.length=8):filV h 8=h++iniV:=by
 match h,hh with
 | [a,b,c,d,e,f,g,i],_=>rfl
def refRd (m:List W) (r:Nat) (v:List W):Nat→List W
 | 0=>v
 | i+1 =>
  let j:=i%4
  let w:=refRd m r v i
  let p:=if 4≤i then (j,4+(j+1)%4,8+(j+2)%4,12+(j+3)%4) else (j,4+j,8+j,12+j)
  u5_ w p.1 p.2.1 p.2.2.1 p.2.2.2 (wU_ (gW w p.1) (gW w p.2.1) (gW w p.2.2.1) (gW w p.2.2.2) (gW m (ptA r (2*i))) (gW m (ptA r (2*i+1))))
theorem u4_ (v:List W) (a b c d:Nat) (q:W×W×W×W):(u5_ v a b c d q).length=v.length:=by simp[u5_]
theorem fo_ (m:List W) (r:Nat) (v:List W):∀ i,(refRd m r v i).length=v.length
 | 0=>rfl
 | i+1=>by rw[refRd];simp only[u4_,fo_ m r v i]
theorem xJ_ (m:List W) (r:Nat) (v:List W) (hv:v.length=16):refRd m r v 8=diaV m r (colV m r v 4) 4:=by
 have key:∀ i,i<8→refRd m r v (i+1)=uB_ (refRd m r v i) (if 4≤i then i%4 else i) (if 4≤i then 4+(i%4+1)%4 else 4+i) (if 4≤i then 8+(i%4+2)%4 else 8+i) (if 4≤i then 12+(i%4+3)%4 else 12+i) (gW m (ptA r (2*i))) (gW m (ptA r (2*i+1))):=fun i hi=>by
  have hl:=fo_ m r v i
  rw[refRd]
  have e:i=0∨i=1∨i=2∨i=3∨i=4∨i=5∨i=6∨i=7:=by omega
  generalize refRd m r v i=w at *
  rcases e with rfl|rfl|rfl|rfl|rfl|rfl|rfl|rfl
  all_goals
   refine (z5_ w _ _ _ _ _ _ (by omega) ?_ ?_ ?_ ?_ ?_ ?_ ?_ ?_ ?_ ?_).symm<;>decide
 rw[key 7 (by omega),key 6 (by omega),key 5 (by omega),key 4 (by omega),key 3 (by omega),key 2 (by omega),key 1 (by omega),key 0 (by omega)]
 rfl
def refRs (m v:List W):Nat→List W
 | 0=>v
 | r+1=>refRd m r (refRs m v r) 8
theorem fn_ (m v:List W):∀ r,(refRs m v r).length=v.length
 | 0=>rfl
 | r+1=>by rw[refRs,fo_,fn_ m v r]
theorem pK_ (m v:List W) (hv:v.length=16):∀ r,refRs m v r=rndV m v r
 | 0=>rfl
 | r+1=>by rw[refRs,xJ_ m r _ (by rw[fn_,hv]),pK_ m v hv r,rndV]
theorem yJ_ (b:List UInt8) (k i:Nat):byA (b++List.replicate k 0) i=byA b i:=by
 unfold byA
 simp only[List.getD_eq_getElem?_getD,List.getElem?_append,List.getElem?_replicate]
 split
 ·rfl
 ·rename_i h
  rw[List.getElem?_eq_none (by omega)]
  split<;>rfl
theorem zw_ (v:List W) (i:Nat):v.set i (gW v i)=v:=by
 refine w2_ (by simp) fun j=>?_
 by_cases h:i<v.length
 ·rw[w1_ v i j _ h]
  split
  ·rename_i e;rw[e]
  ·rfl
 ·rw[List.set_eq_of_length_le (by omega)]
theorem jv_ (b:List UInt8) (k:Nat):∀ i,bz_ (b++List.replicate k 0) i=bz_ b i
 | 0=>rfl
 | i+1=>by rw[bz_,bz_,jv_ b k i,yJ_]
theorem ly_ (b:List UInt8):∀ n,bz_ b (b.length+n)=bz_ b b.length
 | 0=>rfl
 | n+1=>by
  rw[← Nat.add_assoc,bz_]
  have e:byA b (b.length+n)=0:=by
   unfold byA
   rw[List.getD_eq_getElem?_getD,List.getElem?_eq_none (by omega)]
   rfl
  rw[e]
  have e2:(BitVec.ofNat 32 (0:UInt8).toNat<<<(8*((b.length+n)%4)))=(0:W):=by
   rw[show BitVec.ofNat 32 (0:UInt8).toNat=(0:W) from rfl];simp
  rw[e2,show ∀ x:W,x|||(0:W)=x from fun x=>by simp,zw_,ly_ b n]
theorem r7_ (b:List UInt8) (k n:Nat) (h:b.length≤n):bz_ (b++List.replicate k 0) n=bz_ b b.length:=by
 rw[jv_]
 have:=ly_ b (n-b.length)
 rwa[show b.length+(n-b.length)=n by omega] at this
def nV_ (h:List W) (b:List UInt8) (n:Nat) (last:Bool):List W :=
 let v:=filV h 8
 let v:=v.set 12 (gW v 12^^^BitVec.ofNat 32 n)
 let v:=v.set 13 (gW v 13^^^BitVec.ofNat 32 (n/4294967296))
 let v:=if last=true then v.set 14 (gW v 14^^^4294967295) else v
 endV h (refRs (bz_ b 64) v 10) 8
theorem pL_ (h:List W) (b:List UInt8) (n k:Nat) (last:Bool) (hh:h.length=8) (hb:b.length≤64):nV_ h (b++List.replicate k 0) n last=wb_ h b n last:=by
 unfold nV_ wb_
 simp only
 rw[Ap_ h hh,r7_ b k 64 hb]
 have e:(if last=true then (((h++iniV).set 12 (gW (h++iniV) 12^^^BitVec.ofNat 32 n)).set 13 (gW ((h++iniV).set 12 (gW (h++iniV) 12^^^BitVec.ofNat 32 n)) 13^^^BitVec.ofNat 32 (n/4294967296))).set 14 (gW (((h++iniV).set 12 (gW (h++iniV) 12^^^BitVec.ofNat 32 n)).set 13 (gW ((h++iniV).set 12 (gW (h++iniV) 12^^^BitVec.ofNat 32 n)) 13^^^BitVec.ofNat 32 (n/4294967296))) 14^^^4294967295) else (((h++iniV).set 12 (gW (h++iniV) 12^^^BitVec.ofNat 32 n)).set 13 (gW ((h++iniV).set 12 (gW (h++iniV) 12^^^BitVec.ofNat 32 n)) 13^^^BitVec.ofNat 32 (n/4294967296))))=zb_ h n last:=by
  unfold zb_
  simp only[BitVec.xor_comm _ (4294967295:W)]
 rw[e,pK_ _ _ (wi_ h n last hh)]
/-! ### the reference's hash -/
def padN (b:List UInt8):Nat:=64*(blkN b+1)-b.length
theorem sS_ (b:List UInt8):b.length≤64*(blkN b+1):=by unfold blkN;omega
theorem u8_ (b:List UInt8) (j:Nat) (h:j≤padN b):(b.length+j=0∨(b.length+j)%64≠0)↔j<padN b:=by
 unfold padN blkN at *
 omega
def jc_ (b:List UInt8):List UInt8:=b++List.replicate (padN b) 0
theorem u9_ (b:List UInt8):(jc_ b).length=64*(blkN b+1):=by
 have:=sS_ b
 simp only[jc_,List.length_append,List.length_replicate,padN]
 omega
theorem xI_ (b:List UInt8) (k:Nat) (h:k<blkN b):nV_ (absV b k) (((jc_ b).drop (64*k)).take 64) (64*(k+1)) false=absV b (k+1):=by
 have hl:64*(k+1)≤b.length:=by unfold blkN at h;omega
 have e:((jc_ b).drop (64*k)).take 64=(b.drop (64*k)).take 64:=by
  rw[jc_,List.drop_append,List.take_append,List.length_drop,show 64-(b.length-64*k)=0 by omega]
  simp
 rw[e,absV]
 have:=pL_ (absV b k) ((b.drop (64*k)).take 64) (64*(k+1)) 0 false (cM_ b k) (by rw[List.length_take];omega)
 simpa using this
theorem u3_ (b:List UInt8):nV_ (absV b (blkN b)) (((jc_ b).drop (64*blkN b)).take 64) b.length true=nB_ b:=by
 have hp:=sS_ b
 have hl:64*blkN b≤b.length:=by unfold blkN;omega
 have e:((jc_ b).drop (64*blkN b)).take 64=b.drop (64*blkN b)++List.replicate (padN b) 0:=by
  rw[jc_,List.drop_append,show 64*blkN b-b.length=0 by omega,List.drop_zero]
  refine List.take_of_length_le ?_
  simp only[List.length_append,List.length_drop,List.length_replicate,padN]
  omega
 rw[e,pL_ _ _ _ _ _ (cM_ _ _) (by rw[List.length_drop];omega),nB_]
/-! ### trees -/
theorem ig_ {n:Nat} (h:¬ n≤1):halfN n<n:=ej_ n (by omega)
theorem fQ_:∀ (f g i n:Nat),n≤f→n≤g→oj_ f i n=oj_ g i n
 | 0,0,_,_,_,_=>rfl
 | 0,g+1,i,n,h,_=>by rw[oj_,oj_,if_pos (by omega)]
 | f+1,0,i,n,_,h=>by rw[oj_,oj_,if_pos (by omega)]
 | f+1,g+1,i,n,hf,hg=>by
  rw[oj_,oj_]
  by_cases h:n≤1
  ·rw[if_pos h,if_pos h]
  ·have hk:=ig_ h
   have hp:=cu_ n
   rw[if_neg h,if_neg h,fQ_ f g _ _ (by omega) (by omega),fQ_ f g _ _ (by omega) (by omega)]
def fR_ (i n:Nat):List Bool:=oj_ n i n
theorem mA_ (i n:Nat) (h:n≤1):fR_ i n=[]:=by
 rw[fR_]
 cases n with
 | zero=>rfl
 | succ n=>rw[oj_,if_pos h]
theorem mz_ (i n:Nat) (h:2≤n):fR_ i n=if i<halfN n then true::fR_ i (halfN n) else false::fR_ (i-halfN n) (n-halfN n):=by
 have hk:=ej_ n h
 have hp:=cu_ n
 rw[fR_]
 obtain⟨m,rfl⟩:∃ m,n=m+1:=⟨n-1,by omega⟩
 rw[oj_,if_neg (by omega),fR_,fR_,fQ_ m (halfN (m+1)) _ _ (by omega) (Nat.le_refl _),fQ_ m (m+1-halfN (m+1)) _ _ (by omega) (Nat.le_refl _)]
theorem em_:∀ (N i n:Nat),n≤N→(fR_ i n).length≤N
 | 0,i,n,h=>by rw[mA_ i n (by omega)];exact Nat.zero_le _
 | N+1,i,n,h=>by
  by_cases h1:n≤1
  ·rw[mA_ i n h1];exact Nat.zero_le _
  ·have hk:=ig_ h1
   have hp:=cu_ n
   rw[mz_ i n (by omega)]
   split
   ·have:=em_ N i (halfN n) (by omega);rw[List.length_cons];omega
   ·have:=em_ N (i-halfN n) (n-halfN n) (by omega);rw[List.length_cons];omega
theorem hd_:∀ (ps:List Dg) (bs:List Bool) (x q:Dg) (b:Bool),ps.length=bs.length→upB x (ps++[q]) (bs++[b])=if b=true then nodeB (upB x ps bs) q else nodeB q (upB x ps bs)
 | [],[],x,q,b,_=>by simp[upB]
 | [],_::_,_,_,_,h=>by simp at h
 | _::_,[],_,_,_,h=>by simp at h
 | p::ps,c::bs,x,q,b,h=>by
  rw[List.cons_append,List.cons_append,upB,upB,hd_ ps bs _ q b (by simpa using h)]
theorem uJ_ (x:Dg) (p:List Dg) (bs:List Bool) (h:p.length=bs.length) (i:Nat) (hi:i<p.length) :
  upB x (p.take (i+1)) (bs.take (i+1))=if bs.getD i false=true then nodeB (upB x (p.take i) (bs.take i)) (digA p i) else nodeB (digA p i) (upB x (p.take i) (bs.take i)):=by
 have e1:p.take (i+1)=p.take i++[digA p i]:=by
  rw[List.take_add_one,digA,List.getD_eq_getElem?_getD,List.getElem?_eq_getElem hi];rfl
 have e2:bs.take (i+1)=bs.take i++[bs.getD i false]:=by
  rw[List.take_add_one,List.getD_eq_getElem?_getD,List.getElem?_eq_getElem (by omega)];rfl
 rw[e1,e2,hd_ _ _ _ _ _ (by rw[List.length_take,List.length_take,h])]
def climbF:Nat→Dg→Nat→Nat→List Dg→Dg
 | 0,_,_,_,_=>[]
 | f+1,d,i,n,p=>if n≤1 then leafB d else if i<halfN n then nodeB (climbF f d i (halfN n) p.dropLast) (digA p (p.length-1)) else nodeB (digA p (p.length-1)) (climbF f d (i-halfN n) (n-halfN n) p.dropLast)
theorem it_:∀ (f:Nat) (d:Dg) (i n:Nat) (p:List Dg),n≤f→1≤n→p.length=(fR_ i n).length→climbF f d i n p=upB (leafB d) p (fR_ i n).reverse
 | 0,_,_,_,_,h,h1,_=>by omega
 | f+1,d,i,n,p,h,h1,hp=>by
  rw[climbF]
  by_cases hn:n≤1
  ·rw[if_pos hn]
   rw[mA_ i n hn] at hp ⊢
   have:p=[]:=List.length_eq_zero_iff.1 hp
   subst this
   rfl
  ·have hk:=ig_ hn
   have hq:=cu_ n
   rw[if_neg hn]
   rw[mz_ i n (by omega)] at hp ⊢
   have hpl:p=p.dropLast++[digA p (p.length-1)]:=by
    have hne:p≠[]:=by
     rintro rfl
     split at hp<;>simp at hp
    have e:digA p (p.length-1)=p.getLast hne:=by
     rw[digA,List.getD_eq_getElem?_getD,List.getElem?_eq_getElem (by have:=List.length_pos_iff.2 hne;omega),List.getLast_eq_getElem];rfl
    rw[e,List.dropLast_concat_getLast]
   by_cases hik:i<halfN n
   ·rw[if_pos hik] at hp ⊢
    rw[if_pos hik]
    have hd:p.dropLast.length=(fR_ i (halfN n)).length:=by rw[List.length_dropLast,hp];simp
    rw[it_ f d i (halfN n) p.dropLast (by omega) hq hd]
    conv=>rhs;rw[hpl]
    rw[List.reverse_cons,hd_ _ _ _ _ _ (by simp[hd]),if_pos rfl]
   ·rw[if_neg hik] at hp ⊢
    rw[if_neg hik]
    have hd:p.dropLast.length=(fR_ (i-halfN n) (n-halfN n)).length:=by rw[List.length_dropLast,hp];simp
    rw[it_ f d (i-halfN n) (n-halfN n) p.dropLast (by omega) (by omega) hd]
    conv=>rhs;rw[hpl]
    rw[List.reverse_cons,hd_ _ _ _ _ _ (by simp[hd]),if_neg (by decide)]
/-! ### one-time signatures -/
theorem jG_ {g h:Nat→Bool→Dg}:∀ n,(∀ j,j<n→∀ b,g j b=h j b)→nz_ g n=nz_ h n
 | 0,_=>rfl
 | n+1,e=>by rw[nz_,nz_,jG_ n fun j hj b=>e j (by omega) b,e n (by omega),e n (by omega)]
theorem jH_ {g h:Nat→Bool→Dg} (e:∀ j,j<64→∀ b,g j b=h j b):pubB g=pubB h:=by rw[pubB,pubB,jG_ 64 e]
theorem ky_ (g:Nat→Bool→Dg):(pubB g).length=32:=bh_ _ _
end Go.Proofs.YtdjkbdhdejlakaaGreatDoor
