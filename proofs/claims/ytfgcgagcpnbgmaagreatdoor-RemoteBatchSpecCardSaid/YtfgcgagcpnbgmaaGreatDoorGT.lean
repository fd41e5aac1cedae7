/-
  Joined texts.
-/
import Derived.Test.YtfgcgagcpnbgmaaGreatDoorGNU
set_option linter.all false
namespace Go.Proofs.YtfgcgagcpnbgmaaGreatDoor
open Go.Xe Go.RowKit
abbrev W:=BitVec 32
def wI (x:W):Int:=x.toNat
def u32D (x:W):D:=.v (.int .u32 (wI x))
def u32L (l:List W):List D:=l.map u32D
def gW (v:List W) (i:Nat):W:=v.getD i 0
def rr (n:Nat) (x:W):W:=(x<<<(32-n))|||(x>>>n)
theorem u32L_len (v:List W):(u32L v).length=v.length:=by simp[u32L]
theorem vF_ (v:List W) (i:Nat) (x:W):(u32L v).set i (u32D x)=u32L (v.set i x):=by simp[u32L,List.map_set]
theorem yj_ (v:List W) (i:Nat) (h:i<v.length):(u32L v)[i]? = some (u32D (gW v i)):=by
 simp[u32L,gW,h]
theorem aA_ (v:List W) (i:Nat) (h:i<v.length):atL ((u32L v).map .d) i=.d (.v (.int .u32 (wI (gW v i)))):=by
 rw[← df_,List.getElem?_map,yj_ v i h];rfl
theorem aV_ (v:List W) (i:Nat) (x:W):((u32L v).map AV.d).set i (.d (.v (.int .u32 (wI x))))=(u32L (v.set i x)).map AV.d:=by
 rw[← vF_,List.map_set];rfl
theorem l2_ (n:Nat):IntKind.u32.wrap (n:Int)=wI (BitVec.ofNat 32 n):=by
 rw[wI,IntKind.wrap_u32,BitVec.toNat_ofNat];omega
theorem f8_ (a b:W):IntKind.u32.wrap (wI a+wI b)=wI (a+b):=by
 rw[wI,wI,wI,IntKind.wrap_u32,BitVec.toNat_add];omega
theorem Ag_ (a:W):BitVec.ofInt 32 (wI a)=a:=by
 apply BitVec.eq_of_toNat_eq
 rw[wI,BitVec.toNat_ofInt]
 have:=a.isLt
 omega
theorem sC_ (a:W):IntKind.u32.wrap (wI a)=wI a:=by
 have:=a.isLt
 rw[wI,IntKind.wrap_u32];omega
theorem b0_ (a b:W):bits .xor .u32 (wI a) (wI b)=wI (a^^^b):=by
 have h:bits .xor .u32 (wI a) (wI b)=IntKind.u32.wrap (wI (BitVec.ofInt 32 (wI a)^^^BitVec.ofInt 32 (wI b))):=rfl
 rw[h,Ag_,Ag_,sC_]
theorem Dq_ (a b:W):bits .or .u32 (wI a) (wI b)=wI (a|||b):=by
 have h:bits .or .u32 (wI a) (wI b)=IntKind.u32.wrap (wI (BitVec.ofInt 32 (wI a)|||BitVec.ofInt 32 (wI b))):=rfl
 rw[h,Ag_,Ag_,sC_]
theorem vD_ (a:W) (n:Nat):IntKind.u32.wrap (wI a*2^n)=wI (a<<<n):=by
 have h:(wI a*2^n)=((a.toNat*2^n:Nat):Int):=by simp[wI]
 rw[h,wI,IntKind.wrap_u32,BitVec.toNat_shiftLeft,Nat.shiftLeft_eq]
 omega
theorem sB_ (a:W) (n:Nat):(wI a).fdiv (2^n)=wI (a>>>n):=by
 have h:((2:Int)^n)=((2^n:Nat):Int):=by simp
 rw[h,wI,wI,BitVec.toNat_ushiftRight,Nat.shiftRight_eq_div_pow,Int.fdiv_eq_ediv_of_nonneg _ (Int.natCast_nonneg _)]
 exact (Int.natCast_ediv _ _).symm
theorem xr_ (x:W):IntKind.u8.wrap (wI x)=((UInt8.ofNat x.toNat).toNat:Int):=by
 rw[wI,IntKind.wrap_u8,UInt8.toNat_ofNat'];omega
theorem hN_ (b:UInt8):IntKind.u32.wrap (b.toNat:Int)=wI (BitVec.ofNat 32 b.toNat):=l2_ _
def s1 (v:List W) (a b:Nat) (x:W):List W:=v.set a (gW v a+(gW v b+x))
def s2 (v:List W) (d a n:Nat):List W:=v.set d (rr n (gW v d^^^gW v a))
def s3 (v:List W) (c d:Nat):List W:=v.set c (gW v c+gW v d)
def vo_ (v:List W) (a b c d:Nat) (x y:W):List W :=
 s2 (s3 (s2 (s1 (s2 (s3 (s2 (s1 v a b x) d a 16) c d) b c 12) a b y) d a 8) c d) b c 7
theorem s4_ (v:List W) (a b:Nat) (x:W):(s1 v a b x).length=v.length:=by simp[s1]
theorem mi_ (v:List W) (d a n:Nat):(s2 v d a n).length=v.length:=by simp[s2]
theorem s3_ (v:List W) (c d:Nat):(s3 v c d).length=v.length:=by simp[s3]
theorem le_ (v:List W) (a b c d:Nat) (x y:W):(vo_ v a b c d x y).length=v.length:=by simp only[vo_,s4_,mi_,s3_]
def permT:List (List Nat):=[[0,1,2,3,4,5,6,7,8,9,10,11,12,13,14,15],[14,10,4,8,9,15,13,6,1,12,0,2,11,7,5,3],[11,8,12,0,5,2,15,13,10,14,3,6,7,1,9,4],[7,9,3,1,13,12,11,14,2,6,5,10,4,0,15,8],[9,0,5,7,2,4,10,15,14,1,11,12,6,8,3,13],[2,12,6,10,0,11,8,3,4,13,7,5,15,14,1,9],[12,5,1,15,14,13,4,10,0,7,6,3,9,2,8,11],[13,11,7,14,12,1,3,9,5,0,15,4,8,6,2,10],[6,15,14,9,11,3,0,8,12,2,13,7,1,4,10,5],[10,2,8,4,7,6,1,5,15,11,9,14,3,12,13,0]]
def ptA (r j:Nat):Nat:=((permT.getD r []).getD j 0)
theorem tC_:∀ r,r<10→∀ j,j<16→ptA r j<16:=by decide
def colV (m:List W) (r:Nat) (v:List W):Nat→List W
 | 0=>v
 | i+1=>vo_ (colV m r v i) i (4+i) (8+i) (12+i) (gW m (ptA r (2*i))) (gW m (ptA r (2*i+1)))
def diaV (m:List W) (r:Nat) (v:List W):Nat→List W
 | 0=>v
 | i+1=>vo_ (diaV m r v i) i (4+(i+1)%4) (8+(i+2)%4) (12+(i+3)%4) (gW m (ptA r (8+2*i))) (gW m (ptA r (9+2*i)))
def rndV (m v:List W):Nat→List W
 | 0=>v
 | r+1=>diaV m r (colV m r (rndV m v r) 4) 4
theorem h4_ (m:List W) (r:Nat) (v:List W):∀ i,(colV m r v i).length=v.length
 | 0=>rfl
 | i+1=>by rw[colV,le_,h4_ m r v i]
theorem ly_ (m:List W) (r:Nat) (v:List W):∀ i,(diaV m r v i).length=v.length
 | 0=>rfl
 | i+1=>by rw[diaV,le_,ly_ m r v i]
theorem kG_ (m v:List W):∀ r,(rndV m v r).length=v.length
 | 0=>rfl
 | r+1=>by rw[rndV,ly_,h4_,kG_ m v r]
def byA (b:List UInt8) (i:Nat):UInt8:=b.getD i 0
def bV_ (b:List UInt8):Nat→List W
 | 0=>List.replicate 16 0
 | i+1=>(bV_ b i).set (i/4) (gW (bV_ b i) (i/4)|||(BitVec.ofNat 32 (byA b i).toNat)<<<(8*(i%4)))
theorem dR_ (b:List UInt8):∀ i,(bV_ b i).length=16
 | 0=>rfl
 | i+1=>by rw[bV_,List.length_set,dR_ b i]
def iniV:List W:=[0x6a09e667,0xbb67ae85,0x3c6ef372,0xa54ff53a,0x510e527f,0x9b05688c,0x1f83d9ab,0x5be0cd19]
def Am_ (h:List W) (n:Nat) (last:Bool):List W :=
 let v:=h++iniV
 let v:=v.set 12 (gW v 12^^^BitVec.ofNat 32 n)
 let v:=v.set 13 (gW v 13^^^BitVec.ofNat 32 (n/4294967296))
 if last=true then v.set 14 (4294967295^^^gW v 14) else v
def endV (h v:List W):Nat→List W
 | 0=>h
 | i+1=>(endV h v i).set i (gW (endV h v i) i^^^(gW v i^^^gW v (8+i)))
theorem fV_ (h v:List W):∀ i,(endV h v i).length=h.length
 | 0=>rfl
 | i+1=>by rw[endV,List.length_set,fV_ h v i]
theorem w9_ (h:List W) (n:Nat) (last:Bool) (hh:h.length=8):(Am_ h n last).length=16:=by
 unfold Am_
 simp only
 split<;>simp[iniV,hh]
def wS_ (h:List W) (b:List UInt8) (n:Nat) (last:Bool):List W:=endV h (rndV (bV_ b b.length) (Am_ h n last) 10) 8
theorem q0_ (h:List W) (b:List UInt8) (n:Nat) (last:Bool):(wS_ h b n last).length=h.length:=fV_ _ _ _
def absV (b:List UInt8):Nat→List W
 | 0=>iniV.set 0 (gW iniV 0^^^0x01010020)
 | k+1=>wS_ (absV b k) ((b.drop (64*k)).take 64) (64*(k+1)) false
theorem cQ_ (b:List UInt8):∀ k,(absV b k).length=8
 | 0=>rfl
 | k+1=>by rw[absV,q0_,cQ_ b k]
def blkN (b:List UInt8):Nat:=(b.length-1)/64
def oq_ (b:List UInt8):List W:=wS_ (absV b (blkN b)) (b.drop (64*blkN b)) b.length true
theorem lr_ (b:List UInt8):(oq_ b).length=8:=by rw[oq_,q0_,cQ_]
def gb_ (b:List UInt8):List UInt8:=(List.range 32).map fun i=>UInt8.ofNat ((gW (oq_ b) (i/4)>>>(8*(i%4))).toNat)
theorem sumB_len (b:List UInt8):(gb_ b).length=32:=by simp[gb_]
def tagB (t b:List UInt8):List UInt8:=gb_ (gb_ t++b)
theorem aH_ (t b:List UInt8):(tagB t b).length=32:=sumB_len _
abbrev Dg:=List UInt8
def tB (s:String):List UInt8:=s.toUTF8.data.toList
def halfN (n:Nat):Nat:=2^Nat.log2 (n-1)
theorem ca_ (n:Nat) (h:2≤n):halfN n<n:=by
 have:=Nat.log2_self_le (n:=n-1) (by omega)
 unfold halfN
 omega
theorem bc_ (n:Nat):0<halfN n:=Nat.two_pow_pos _
def leafB (d : Dg) : Dg := tagB (tB "leaf") d
def nodeB (a b : Dg) : Dg := tagB (tB "node") (a ++ b)
def sb_:Nat→Nat→Nat→List Bool
 | 0,_,_=>[]
 | f+1,i,n=>if n≤1 then [] else if i<halfN n then true::sb_ f i (halfN n) else false::sb_ f (i-halfN n) (n-halfN n)
def upB:Dg→List Dg→List Bool→Dg
 | x,p::ps,b::bs=>upB (if b=true then nodeB x p else nodeB p x) ps bs
 | x,_,_=>x
theorem mO_ (d:Dg):(leafB d).length=32:=aH_ _ _
theorem iE_ (a b:Dg):(nodeB a b).length=32:=aH_ _ _
def twoB (n:Nat):List UInt8:=[UInt8.ofNat (n/256),UInt8.ofNat n]
def openB (d : Dg) : Dg := tagB (tB "open") d
def bitB (root:Dg) (index:Nat) (msg:List UInt8) (j:Nat):Bool :=
 ((byA (tagB (tB "message") (root ++ (twoB index ++ msg))) (j / 8)).toNat / 2 ^ (7 - j % 8)) % 2 == 1
def sv_ (hash:Nat→Bool→Dg):Nat→List UInt8
 | 0=>[]
 | j+1=>sv_ hash j++(hash j false++hash j true)
def pubB (hash : Nat → Bool → Dg) : Dg := tagB (tB "one") (sv_ hash 64)
def digA (l:List Dg) (i:Nat):Dg:=l.getD i (List.replicate 32 0)
def bitL (n:Nat):Nat:=if n=0 then 0 else Nat.log2 n+1
theorem cc_ (n:Nat) (h:2≤n):Nat.log2 n=Nat.log2 (n/2)+1:=by
 rw[Nat.log2_def n,if_pos h]
theorem Ci_ (n:Nat) (h:256≤n):bitL n=bitL (n/256)+8:=by
 unfold bitL
 rw[if_neg (by omega),if_neg (by omega)]
 rw[cc_ n (by omega),cc_ (n/2) (by omega),cc_ (n/2/2) (by omega),cc_ (n/2/2/2) (by omega),cc_ (n/2/2/2/2) (by omega),cc_ (n/2/2/2/2/2) (by omega),cc_ (n/2/2/2/2/2/2) (by omega),cc_ (n/2/2/2/2/2/2/2) (by omega)]
 simp only[Nat.div_div_eq_div_mul]
theorem uf_ (n:Nat) (h:2≤n):halfN n=2^(bitL (n-1)-1):=by
 unfold halfN bitL
 rw[if_neg (by omega)]
 simp
theorem wr_ (n j:Nat) (h1:2^j<n∨j=0) (h2:n≤2*2^j) (h0:1≤n):halfN n=2^j:=by
 unfold halfN
 by_cases h:n=1
 ·subst h
  rcases h1 with h1|rfl
  ·have:=Nat.two_pow_pos j;omega
  ·rfl
 ·have e:Nat.log2 (n-1)=j:=by
   rw[Nat.log2_eq_iff (by omega)]
   refine⟨?_,by rw[Nat.pow_succ];omega⟩
   rcases h1 with h1|rfl
   ·omega
   ·simp;omega
  rw[e]
theorem xN_ (v:List W) (i j:Nat) (x:W) (h:i<v.length):gW (v.set i x) j=if i=j then x else gW v j:=by
 unfold gW
 simp only[List.getD_eq_getElem?_getD,List.getElem?_set]
 by_cases e:i=j
 ·subst e;simp[h]
 ·simp[e]
theorem xO_ {v w:List W} (h:v.length=w.length) (hg:∀ j,gW v j=gW w j):v=w:=by
 refine List.ext_getElem h fun i h1 h2=>?_
 have:=hg i
 unfold gW at this
 simpa [List.getD_eq_getElem?_getD,h1,h2] using this
def ror (x:W) (n:Nat):W:=(x>>>n)|||(x<<<(32-n))
theorem xw_ (x:W) (n:Nat):ror x n=rr n x:=BitVec.or_comm _ _
def xJ_ (a b c d x y:W):W×W×W×W :=
 let a:=a+b+x
 let d:=ror (d^^^a) 16
 let c:=c+d
 let b:=ror (b^^^c) 12
 let a:=a+b+y
 let d:=ror (d^^^a) 8
 let c:=c+d
 let b:=ror (b^^^c) 7
 (a,b,c,d)
def v2_ (v:List W) (a b c d:Nat) (q:W×W×W×W):List W:=(((v.set a q.1).set b q.2.1).set c q.2.2.1).set d q.2.2.2
theorem Bz_ (v:List W) (a b c d:Nat) (x y:W) (hv:v.length=16) (ha:a<16) (hb:b<16) (hc:c<16) (hd:d<16) (hab:a≠b) (hac:a≠c) (had:a≠d) (hbc:b≠c) (hbd:b≠d) (hcd:c≠d) :
  vo_ v a b c d x y=v2_ v a b c d (xJ_ (gW v a) (gW v b) (gW v c) (gW v d) x y):=by
 refine xO_ (by rw[le_];simp[v2_]) fun j=>?_
 simp only[vo_,s1,s2,s3,v2_,xJ_,xw_]
 have hba:=hab.symm
 have hca:=hac.symm
 have hda:=had.symm
 have hcb:=hbc.symm
 have hdb:=hbd.symm
 have hdc:=hcd.symm
 simp only[xN_,List.length_set,hv,ha,hb,hc,hd,hab,hac,had,hbc,hbd,hcd,hba,hca,hda,hcb,hdb,hdc,if_true,if_false,BitVec.add_assoc]
 by_cases e1:d=j
 ·subst e1;simp[*]
 ·by_cases e2:c=j
  ·subst e2;simp[*]
  ·by_cases e3:b=j
   ·subst e3;simp[*]
   ·by_cases e4:a=j
    ·subst e4;simp[*]
    ·simp[*]
def filV (h:List W):Nat→List W
 | 0=>List.replicate 16 0
 | i+1=>((filV h i).set i (gW h i)).set (8+i) (gW iniV i)
theorem lv_ (h:List W):∀ i,(filV h i).length=16
 | 0=>rfl
 | i+1=>by rw[filV,List.length_set,List.length_set,lv_ h i]
theorem BU_ (h:List W) (hh:h.length=8):filV h 8=h++iniV:=by
 match h,hh with
 | [a,b,c,d,e,f,g,i],_=>rfl
def refRd (m:List W) (r:Nat) (v:List W):Nat→List W
 | 0=>v
 | i+1 =>
  let j:=i%4
  let w:=refRd m r v i
  let p:=if 4≤i then (j,4+(j+1)%4,8+(j+2)%4,12+(j+3)%4) else (j,4+j,8+j,12+j)
  v2_ w p.1 p.2.1 p.2.2.1 p.2.2.2 (xJ_ (gW w p.1) (gW w p.2.1) (gW w p.2.2.1) (gW w p.2.2.2) (gW m (ptA r (2*i))) (gW m (ptA r (2*i+1))))
theorem v1_ (v:List W) (a b c d:Nat) (q:W×W×W×W):(v2_ v a b c d q).length=v.length:=by simp[v2_]
theorem fD_ (m:List W) (r:Nat) (v:List W):∀ i,(refRd m r v i).length=v.length
 | 0=>rfl
 | i+1=>by rw[refRd];simp only[v1_,fD_ m r v i]
theorem yH_ (m:List W) (r:Nat) (v:List W) (hv:v.length=16):refRd m r v 8=diaV m r (colV m r v 4) 4:=by
 have key:∀ i,i<8→refRd m r v (i+1)=vo_ (refRd m r v i) (if 4≤i then i%4 else i) (if 4≤i then 4+(i%4+1)%4 else 4+i) (if 4≤i then 8+(i%4+2)%4 else 8+i) (if 4≤i then 12+(i%4+3)%4 else 12+i) (gW m (ptA r (2*i))) (gW m (ptA r (2*i+1))):=fun i hi=>by
  have hl:=fD_ m r v i
  rw[refRd]
  have e:i=0∨i=1∨i=2∨i=3∨i=4∨i=5∨i=6∨i=7:=by omega
  generalize refRd m r v i=w at *
  rcases e with rfl|rfl|rfl|rfl|rfl|rfl|rfl|rfl
  all_goals
   refine (Bz_ w _ _ _ _ _ _ (by omega) ?_ ?_ ?_ ?_ ?_ ?_ ?_ ?_ ?_ ?_).symm<;>decide
 rw[key 7 (by omega),key 6 (by omega),key 5 (by omega),key 4 (by omega),key 3 (by omega),key 2 (by omega),key 1 (by omega),key 0 (by omega)]
 rfl
def refRs (m v:List W):Nat→List W
 | 0=>v
 | r+1=>refRd m r (refRs m v r) 8
theorem fC_ (m v:List W):∀ r,(refRs m v r).length=v.length
 | 0=>rfl
 | r+1=>by rw[refRs,fD_,fC_ m v r]
theorem qg_ (m v:List W) (hv:v.length=16):∀ r,refRs m v r=rndV m v r
 | 0=>rfl
 | r+1=>by rw[refRs,yH_ m r _ (by rw[fC_,hv]),qg_ m v hv r,rndV]
theorem zQ_ (b:List UInt8) (k i:Nat):byA (b++List.replicate k 0) i=byA b i:=by
 unfold byA
 simp only[List.getD_eq_getElem?_getD,List.getElem?_append,List.getElem?_replicate]
 split
 ·rfl
 ·rename_i h
  rw[List.getElem?_eq_none (by omega)]
  split<;>rfl
theorem AJ_ (v:List W) (i:Nat):v.set i (gW v i)=v:=by
 refine xO_ (by simp) fun j=>?_
 by_cases h:i<v.length
 ·rw[xN_ v i j _ h]
  split
  ·rename_i e;rw[e]
  ·rfl
 ·rw[List.set_eq_of_length_le (by omega)]
theorem jR_ (b:List UInt8) (k:Nat):∀ i,bV_ (b++List.replicate k 0) i=bV_ b i
 | 0=>rfl
 | i+1=>by rw[bV_,bV_,jR_ b k i,zQ_]
theorem l1_ (b:List UInt8):∀ n,bV_ b (b.length+n)=bV_ b b.length
 | 0=>rfl
 | n+1=>by
  rw[← Nat.add_assoc,bV_]
  have e:byA b (b.length+n)=0:=by
   unfold byA
   rw[List.getD_eq_getElem?_getD,List.getElem?_eq_none (by omega)]
   rfl
  rw[e]
  have e2:(BitVec.ofNat 32 (0:UInt8).toNat<<<(8*((b.length+n)%4)))=(0:W):=by
   rw[show BitVec.ofNat 32 (0:UInt8).toNat=(0:W) from rfl];simp
  rw[e2,show ∀ x:W,x|||(0:W)=x from fun x=>by simp,AJ_,l1_ b n]
theorem sA_ (b:List UInt8) (k n:Nat) (h:b.length≤n):bV_ (b++List.replicate k 0) n=bV_ b b.length:=by
 rw[jR_]
 have:=l1_ b (n-b.length)
 rwa[show b.length+(n-b.length)=n by omega] at this
def oZ_ (h:List W) (b:List UInt8) (n:Nat) (last:Bool):List W :=
 let v:=filV h 8
 let v:=v.set 12 (gW v 12^^^BitVec.ofNat 32 n)
 let v:=v.set 13 (gW v 13^^^BitVec.ofNat 32 (n/4294967296))
 let v:=if last=true then v.set 14 (gW v 14^^^4294967295) else v
 endV h (refRs (bV_ b 64) v 10) 8
theorem qj_ (h:List W) (b:List UInt8) (n k:Nat) (last:Bool) (hh:h.length=8) (hb:b.length≤64):oZ_ h (b++List.replicate k 0) n last=wS_ h b n last:=by
 unfold oZ_ wS_
 simp only
 rw[BU_ h hh,sA_ b k 64 hb]
 have e:(if last=true then (((h++iniV).set 12 (gW (h++iniV) 12^^^BitVec.ofNat 32 n)).set 13 (gW ((h++iniV).set 12 (gW (h++iniV) 12^^^BitVec.ofNat 32 n)) 13^^^BitVec.ofNat 32 (n/4294967296))).set 14 (gW (((h++iniV).set 12 (gW (h++iniV) 12^^^BitVec.ofNat 32 n)).set 13 (gW ((h++iniV).set 12 (gW (h++iniV) 12^^^BitVec.ofNat 32 n)) 13^^^BitVec.ofNat 32 (n/4294967296))) 14^^^4294967295) else (((h++iniV).set 12 (gW (h++iniV) 12^^^BitVec.ofNat 32 n)).set 13 (gW ((h++iniV).set 12 (gW (h++iniV) 12^^^BitVec.ofNat 32 n)) 13^^^BitVec.ofNat 32 (n/4294967296))))=Am_ h n last:=by
  unfold Am_
  simp only[BitVec.xor_comm _ (4294967295:W)]
 rw[e,qg_ _ _ (w9_ h n last hh)]
def padN (b:List UInt8):Nat:=64*(blkN b+1)-b.length
theorem tF_ (b:List UInt8):b.length≤64*(blkN b+1):=by unfold blkN;omega
theorem v4_ (b:List UInt8) (j:Nat) (h:j≤padN b):(b.length+j=0∨(b.length+j)%64≠0)↔j<padN b:=by
 unfold padN blkN at *
 omega
def jF_ (b:List UInt8):List UInt8:=b++List.replicate (padN b) 0
theorem v5_ (b:List UInt8):(jF_ b).length=64*(blkN b+1):=by
 have:=tF_ b
 simp only[jF_,List.length_append,List.length_replicate,padN]
 omega
theorem yE_ (b:List UInt8) (k:Nat) (h:k<blkN b):oZ_ (absV b k) (((jF_ b).drop (64*k)).take 64) (64*(k+1)) false=absV b (k+1):=by
 have hl:64*(k+1)≤b.length:=by unfold blkN at h;omega
 have e:((jF_ b).drop (64*k)).take 64=(b.drop (64*k)).take 64:=by
  rw[jF_,List.drop_append,List.take_append,List.length_drop,show 64-(b.length-64*k)=0 by omega]
  simp
 rw[e,absV]
 have:=qj_ (absV b k) ((b.drop (64*k)).take 64) (64*(k+1)) 0 false (cQ_ b k) (by rw[List.length_take];omega)
 simpa using this
theorem vV_ (b:List UInt8):oZ_ (absV b (blkN b)) (((jF_ b).drop (64*blkN b)).take 64) b.length true=oq_ b:=by
 have hp:=tF_ b
 have hl:64*blkN b≤b.length:=by unfold blkN;omega
 have e:((jF_ b).drop (64*blkN b)).take 64=b.drop (64*blkN b)++List.replicate (padN b) 0:=by
  rw[jF_,List.drop_append,show 64*blkN b-b.length=0 by omega,List.drop_zero]
  refine List.take_of_length_le ?_
  simp only[List.length_append,List.length_drop,List.length_replicate,padN]
  omega
 rw[e,qj_ _ _ _ _ _ (cQ_ _ _) (by rw[List.length_drop];omega),oq_]
theorem d5_ {n:Nat} (h:¬ n≤1):halfN n<n:=ca_ n (by omega)
def kw_:Nat→List Dg→Dg
 | 0,_=>[]
 | f + 1, l => if l.length = 0 then tagB (tB "empty") [] else if l.length = 1 then leafB (digA l 0) else nodeB (kw_ f (l.take (halfN l.length))) (kw_ f (l.drop (halfN l.length)))
theorem et_:∀ (f g:Nat) (l:List Dg),l.length<f→l.length<g→kw_ f l=kw_ g l
 | 0,_,_,h,_=>by omega
 | _,0,_,_,h=>by omega
 | f+1,g+1,l,hf,hg=>by
  rw[kw_,kw_]
  by_cases h0:l.length=0
  ·rw[if_pos h0,if_pos h0]
  ·by_cases h1:l.length=1
   ·rw[if_neg h0,if_neg h0,if_pos h1,if_pos h1]
   ·rw[if_neg h0,if_neg h0,if_neg h1,if_neg h1]
    have hk:=ca_ l.length (by omega)
    have hp:=bc_ l.length
    rw[et_ f g _ (by rw[List.length_take];omega) (by rw[List.length_take];omega),et_ f g _ (by rw[List.length_drop];omega) (by rw[List.length_drop];omega)]
def treeB (l:List Dg):Dg:=kw_ (l.length+1) l
theorem yl_ : treeB [] = tagB (tB "empty") [] := rfl
theorem yk_ (d:Dg):treeB [d]=leafB d:=rfl
theorem oF_ (l:List Dg) (h:2≤l.length):treeB l=nodeB (treeB (l.take (halfN l.length))) (treeB (l.drop (halfN l.length))):=by
 have hk:=ca_ l.length h
 have hp:=bc_ l.length
 rw[treeB,kw_,if_neg (by omega),if_neg (by omega),treeB,treeB,et_ l.length _ (l.take _) (by rw[List.length_take];omega) (Nat.lt_succ_self _),et_ l.length _ (l.drop _) (by rw[List.length_drop];omega) (Nat.lt_succ_self _)]
theorem aO_ (l:List Dg):(treeB l).length=32:=by
 rw[treeB,kw_]
 split
 ·exact aH_ _ _
 ·split
  ·exact mO_ _
  ·exact iE_ _ _
theorem fW_:∀ (f g i n:Nat),n≤f→n≤g→sb_ f i n=sb_ g i n
 | 0,0,_,_,_,_=>rfl
 | 0,g+1,i,n,h,_=>by rw[sb_,sb_,if_pos (by omega)]
 | f+1,0,i,n,_,h=>by rw[sb_,sb_,if_pos (by omega)]
 | f+1,g+1,i,n,hf,hg=>by
  rw[sb_,sb_]
  by_cases h:n≤1
  ·rw[if_pos h,if_pos h]
  ·have hk:=d5_ h
   have hp:=bc_ n
   rw[if_neg h,if_neg h,fW_ f g _ _ (by omega) (by omega),fW_ f g _ _ (by omega) (by omega)]
def uF_ (i n:Nat):List Bool:=sb_ n i n
theorem uE_ (i n:Nat) (h:n≤1):uF_ i n=[]:=by
 rw[uF_]
 cases n with
 | zero=>rfl
 | succ n=>rw[sb_,if_pos h]
theorem x4_ (i n:Nat) (h:2≤n):uF_ i n=if i<halfN n then true::uF_ i (halfN n) else false::uF_ (i-halfN n) (n-halfN n):=by
 have hk:=ca_ n h
 have hp:=bc_ n
 rw[uF_]
 obtain⟨m,rfl⟩:∃ m,n=m+1:=⟨n-1,by omega⟩
 rw[sb_,if_neg (by omega),uF_,uF_,fW_ m (halfN (m+1)) _ _ (by omega) (Nat.le_refl _),fW_ m (m+1-halfN (m+1)) _ _ (by omega) (Nat.le_refl _)]
theorem fX_:∀ (N i n:Nat),n≤N→(uF_ i n).length≤N
 | 0,i,n,h=>by rw[uE_ i n (by omega)];exact Nat.zero_le _
 | N+1,i,n,h=>by
  by_cases h1:n≤1
  ·rw[uE_ i n h1];exact Nat.zero_le _
  ·have hk:=d5_ h1
   have hp:=bc_ n
   rw[x4_ i n (by omega)]
   split
   ·have:=fX_ N i (halfN n) (by omega);rw[List.length_cons];omega
   ·have:=fX_ N (i-halfN n) (n-halfN n) (by omega);rw[List.length_cons];omega
theorem ku_:∀ (ps:List Dg) (bs:List Bool) (x q:Dg) (b:Bool),ps.length=bs.length→upB x (ps++[q]) (bs++[b])=if b=true then nodeB (upB x ps bs) q else nodeB q (upB x ps bs)
 | [],[],x,q,b,_=>by simp[upB]
 | [],_::_,_,_,_,h=>by simp at h
 | _::_,[],_,_,_,h=>by simp at h
 | p::ps,c::bs,x,q,b,h=>by
  rw[List.cons_append,List.cons_append,upB,upB,ku_ ps bs _ q b (by simpa using h)]
def go_:Nat→List Dg→Nat→List Dg
 | 0,_,_=>[]
 | f+1,l,i=>if l.length≤1 then [] else if i<halfN l.length then go_ f (l.take (halfN l.length)) i++[treeB (l.drop (halfN l.length))] else go_ f (l.drop (halfN l.length)) (i-halfN l.length)++[treeB (l.take (halfN l.length))]
theorem c9_:∀ (f g:Nat) (l:List Dg) (i:Nat),l.length≤f→l.length≤g→go_ f l i=go_ g l i
 | 0,0,_,_,_,_=>rfl
 | 0,g+1,l,i,h,_=>by rw[go_,go_,if_pos (by omega)]
 | f+1,0,l,i,_,h=>by rw[go_,go_,if_pos (by omega)]
 | f+1,g+1,l,i,hf,hg=>by
  rw[go_,go_]
  by_cases h:l.length≤1
  ·rw[if_pos h,if_pos h]
  ·have hk:=d5_ h
   have hp:=bc_ l.length
   rw[if_neg h,if_neg h,c9_ f g (l.take _) _ (by rw[List.length_take];omega) (by rw[List.length_take];omega),c9_ f g (l.drop _) _ (by rw[List.length_drop];omega) (by rw[List.length_drop];omega)]
def pathB (l:List Dg) (i:Nat):List Dg:=go_ l.length l i
theorem ix_ (l:List Dg) (i:Nat) (h:l.length≤1):pathB l i=[]:=by
 rw[pathB]
 cases e:l.length with
 | zero=>rfl
 | succ n=>rw[go_,if_pos h]
theorem k0_ (l:List Dg) (i:Nat) (h:2≤l.length):pathB l i=if i<halfN l.length then pathB (l.take (halfN l.length)) i++[treeB (l.drop (halfN l.length))] else pathB (l.drop (halfN l.length)) (i-halfN l.length)++[treeB (l.take (halfN l.length))]:=by
 have hk:=ca_ l.length h
 have hp:=bc_ l.length
 rw[pathB,c9_ _ (l.length+1) l i (Nat.le_refl _) (Nat.le_succ _),go_,if_neg (by omega),pathB,pathB,c9_ l.length (l.take (halfN l.length)).length (l.take _) _ (by rw[List.length_take];omega) (Nat.le_refl _),c9_ l.length (l.drop (halfN l.length)).length (l.drop _) _ (by rw[List.length_drop];omega) (Nat.le_refl _)]
theorem iw_:∀ (N:Nat) (l:List Dg) (i:Nat),l.length≤N→i<l.length→(pathB l i).length=(uF_ i l.length).length∧upB (leafB (digA l i)) (pathB l i) (uF_ i l.length).reverse=treeB l
 | 0,l,i,h,hi=>by omega
 | N+1,l,i,h,hi=>by
  by_cases h1:l.length≤1
  ·have e:l.length=1:=by omega
   rw[ix_ l i h1,uE_ i _ h1]
   refine⟨rfl,?_⟩
   obtain⟨d,rfl⟩:∃ d,l=[d]:=List.length_eq_one_iff.1 e
   have:i=0:=by simp at hi;exact hi
   subst this
   rfl
  ·have hk:=d5_ h1
   have hp:=bc_ l.length
   rw[k0_ l i (by omega),x4_ i _ (by omega),oF_ l (by omega)]
   by_cases hik:i<halfN l.length
   ·have lt:(l.take (halfN l.length)).length=halfN l.length:=by rw[List.length_take];omega
    obtain⟨k1,k2⟩:=iw_ N (l.take (halfN l.length)) i (by omega) (by omega)
    rw[lt] at k1 k2
    rw[if_pos hik,if_pos hik]
    refine⟨by simp[k1],?_⟩
    rw[List.reverse_cons,ku_ _ _ _ _ _ (by simp[k1]),if_pos rfl,← k2]
    congr 3
    simp[digA,List.getD_eq_getElem?_getD,List.getElem?_take,hik]
   ·have lt:(l.drop (halfN l.length)).length=l.length-halfN l.length:=by rw[List.length_drop]
    obtain⟨k1,k2⟩:=iw_ N (l.drop (halfN l.length)) (i-halfN l.length) (by omega) (by omega)
    rw[lt] at k1 k2
    rw[if_neg hik,if_neg hik]
    refine⟨by simp[k1],?_⟩
    rw[List.reverse_cons,ku_ _ _ _ _ _ (by simp[k1]),if_neg (by decide),← k2]
    congr 3
    simp[digA,List.getD_eq_getElem?_getD,List.getElem?_drop]
    rw[show halfN l.length+(i-halfN l.length)=i by omega]
def secretB (seed : List UInt8) (i j : Nat) (b : Bool) : Dg := tagB (tB "secret") (seed ++ (twoB i ++ [UInt8.ofNat j, if b = true then 1 else 0]))
def keyH (seed:List UInt8) (i j:Nat) (b:Bool):Dg:=openB (secretB seed i j b)
def pubsB (seed:List UInt8) (n:Nat):List Dg:=(List.range n).map fun i=>pubB (keyH seed i)
theorem bw_ (seed:List UInt8) (n:Nat):(pubsB seed n).length=n:=by simp[pubsB]
theorem hT_ (g:Nat→Bool→Dg):(pubB g).length=32:=aH_ _ _
def openedB (seed:List UInt8) (i:Nat) (x:Nat→Bool):Nat→List Dg
 | 0=>[]
 | j+1=>openedB seed i x j++[secretB seed i j (x j)]
def closedB (seed:List UInt8) (i:Nat) (x:Nat→Bool):Nat→List Dg
 | 0=>[]
 | j+1=>closedB seed i x j++[keyH seed i j (!x j)]
theorem bx_ (seed:List UInt8) (i:Nat) (x:Nat→Bool):∀ n,(openedB seed i x n).length=n
 | 0=>rfl
 | n+1=>by rw[openedB,List.length_append,bx_ seed i x n];rfl
theorem bA_ (seed:List UInt8) (i:Nat) (x:Nat→Bool):∀ n,(closedB seed i x n).length=n
 | 0=>rfl
 | n+1=>by rw[closedB,List.length_append,bA_ seed i x n];rfl
end Go.Proofs.YtfgcgagcpnbgmaaGreatDoor
