/-
  Joined texts.
-/
import Derived.Test.YtfgcgagcpnbgmaaGreatDoorWNU
set_option linter.unusedVariables false
set_option linter.unusedSimpArgs false
set_option linter.unusedSectionVars false
namespace Go.Proofs.YtfgcgagcpnbgmaaGreatDoor
open Go.Xe Go.RowKit
abbrev W:=BitVec 32
def wI (x:W):Int:=x.toNat
def u32D (x:W):D:=.v (.int .u32 (wI x))
def u32L (l:List W):List D:=l.map u32D
def gW (v:List W) (i:Nat):W:=v.getD i 0
def rr (n:Nat) (x:W):W:=(x<<<(32-n))|||(x>>>n)
theorem aA_ (v:List W):(u32L v).length=v.length:=by simp[u32L]
theorem t6_ (v:List W) (i:Nat) (x:W):(u32L v).set i (u32D x)=u32L (v.set i x):=by simp[u32L,List.map_set]
theorem wB_ (v:List W) (i:Nat) (h:i<v.length):(u32L v)[i]? = some (u32D (gW v i)):=by
 simp[u32L,gW,h]
theorem aH_ (v:List W) (i:Nat) (h:i<v.length):atL ((u32L v).map .d) i=.d (.v (.int .u32 (wI (gW v i)))):=by
 rw[← cM_,List.getElem?_map,wB_ v i h];rfl
theorem bj_ (v:List W) (i:Nat) (x:W):((u32L v).map AV.d).set i (.d (.v (.int .u32 (wI x))))=(u32L (v.set i x)).map AV.d:=by
 rw[← t6_,List.map_set];rfl
theorem rk_ (n:Nat):IntKind.u32.wrap (n:Int)=wI (BitVec.ofNat 32 n):=by
 rw[wI,IntKind.wrap_u32,BitVec.toNat_ofNat];omega
theorem jD_ (a b:W):IntKind.u32.wrap (wI a+wI b)=wI (a+b):=by
 rw[wI,wI,wI,IntKind.wrap_u32,BitVec.toNat_add];omega
theorem yo_ (a:W):BitVec.ofInt 32 (wI a)=a:=by
 apply BitVec.eq_of_toNat_eq
 rw[wI,BitVec.toNat_ofInt]
 have:=a.isLt
 omega
theorem rl_ (a:W):IntKind.u32.wrap (wI a)=wI a:=by
 have:=a.isLt
 rw[wI,IntKind.wrap_u32];omega
theorem dZ_ (a b:W):bits .xor .u32 (wI a) (wI b)=wI (a^^^b):=by
 have h:bits .xor .u32 (wI a) (wI b)=IntKind.u32.wrap (wI (BitVec.ofInt 32 (wI a)^^^BitVec.ofInt 32 (wI b))):=rfl
 rw[h,yo_,yo_,rl_]
theorem DU_ (a b:W):bits .or .u32 (wI a) (wI b)=wI (a|||b):=by
 have h:bits .or .u32 (wI a) (wI b)=IntKind.u32.wrap (wI (BitVec.ofInt 32 (wI a)|||BitVec.ofInt 32 (wI b))):=rfl
 rw[h,yo_,yo_,rl_]
theorem yN_ (a:W) (n:Nat):IntKind.u32.wrap (wI a*2^n)=wI (a<<<n):=by
 have h:(wI a*2^n)=((a.toNat*2^n:Nat):Int):=by simp[wI]
 rw[h,wI,IntKind.wrap_u32,BitVec.toNat_shiftLeft,Nat.shiftLeft_eq]
 omega
theorem ww_ (a:W) (n:Nat):(wI a).fdiv (2^n)=wI (a>>>n):=by
 have h:((2:Int)^n)=((2^n:Nat):Int):=by simp
 rw[h,wI,wI,BitVec.toNat_ushiftRight,Nat.shiftRight_eq_div_pow,Int.fdiv_eq_ediv_of_nonneg _ (Int.natCast_nonneg _)]
 exact (Int.natCast_ediv _ _).symm
theorem yO_ (x:W):IntKind.u8.wrap (wI x)=((UInt8.ofNat x.toNat).toNat:Int):=by
 rw[wI,IntKind.wrap_u8,UInt8.toNat_ofNat'];omega
theorem oz_ (b:UInt8):IntKind.u32.wrap (b.toNat:Int)=wI (BitVec.ofNat 32 b.toNat):=rk_ _
/-! ### the state of a block -/
def s1 (v:List W) (a b:Nat) (x:W):List W:=v.set a (gW v a+(gW v b+x))
def s2 (v:List W) (d a n:Nat):List W:=v.set d (rr n (gW v d^^^gW v a))
def s3 (v:List W) (c d:Nat):List W:=v.set c (gW v c+gW v d)
def xm_ (v:List W) (a b c d:Nat) (x y:W):List W :=
 s2 (s3 (s2 (s1 (s2 (s3 (s2 (s1 v a b x) d a 16) c d) b c 12) a b y) d a 8) c d) b c 7
theorem rU_ (v:List W) (a b:Nat) (x:W):(s1 v a b x).length=v.length:=by simp[s1]
theorem ll_ (v:List W) (d a n:Nat):(s2 v d a n).length=v.length:=by simp[s2]
theorem rT_ (v:List W) (c d:Nat):(s3 v c d).length=v.length:=by simp[s3]
theorem pc_ (v:List W) (a b c d:Nat) (x y:W):(xm_ v a b c d x y).length=v.length:=by simp only[xm_,rU_,ll_,rT_]
def permT:List (List Nat):=[[0,1,2,3,4,5,6,7,8,9,10,11,12,13,14,15],[14,10,4,8,9,15,13,6,1,12,0,2,11,7,5,3],[11,8,12,0,5,2,15,13,10,14,3,6,7,1,9,4],[7,9,3,1,13,12,11,14,2,6,5,10,4,0,15,8],[9,0,5,7,2,4,10,15,14,1,11,12,6,8,3,13],[2,12,6,10,0,11,8,3,4,13,7,5,15,14,1,9],[12,5,1,15,14,13,4,10,0,7,6,3,9,2,8,11],[13,11,7,14,12,1,3,9,5,0,15,4,8,6,2,10],[6,15,14,9,11,3,0,8,12,2,13,7,1,4,10,5],[10,2,8,4,7,6,1,5,15,11,9,14,3,12,13,0]]
def ptA (r j:Nat):Nat:=((permT.getD r []).getD j 0)
theorem zf_:∀ r,r<10→∀ j,j<16→ptA r j<16:=by decide
def colV (m:List W) (r:Nat) (v:List W):Nat→List W
 | 0=>v
 | i+1=>xm_ (colV m r v i) i (4+i) (8+i) (12+i) (gW m (ptA r (2*i))) (gW m (ptA r (2*i+1)))
def diaV (m:List W) (r:Nat) (v:List W):Nat→List W
 | 0=>v
 | i+1=>xm_ (diaV m r v i) i (4+(i+1)%4) (8+(i+2)%4) (12+(i+3)%4) (gW m (ptA r (8+2*i))) (gW m (ptA r (9+2*i)))
def rndV (m v:List W):Nat→List W
 | 0=>v
 | r+1=>diaV m r (colV m r (rndV m v r) 4) 4
theorem hd_ (m:List W) (r:Nat) (v:List W):∀ i,(colV m r v i).length=v.length
 | 0=>rfl
 | i+1=>by rw[colV,pc_,hd_ m r v i]
theorem kB_ (m:List W) (r:Nat) (v:List W):∀ i,(diaV m r v i).length=v.length
 | 0=>rfl
 | i+1=>by rw[diaV,pc_,kB_ m r v i]
theorem jU_ (m v:List W):∀ r,(rndV m v r).length=v.length
 | 0=>rfl
 | r+1=>by rw[rndV,kB_,hd_,jU_ m v r]
def byA (b:List UInt8) (i:Nat):UInt8:=b.getD i 0
def gy_ (b:List UInt8):Nat→List W
 | 0=>List.replicate 16 0
 | i+1=>(gy_ b i).set (i/4) (gW (gy_ b i) (i/4)|||(BitVec.ofNat 32 (byA b i).toNat)<<<(8*(i%4)))
theorem hl_ (b:List UInt8):∀ i,(gy_ b i).length=16
 | 0=>rfl
 | i+1=>by rw[gy_,List.length_set,hl_ b i]
def iniV:List W:=[0x6a09e667,0xbb67ae85,0x3c6ef372,0xa54ff53a,0x510e527f,0x9b05688c,0x1f83d9ab,0x5be0cd19]
def D6_ (h:List W) (n:Nat) (last:Bool):List W :=
 let v:=h++iniV
 let v:=v.set 12 (gW v 12^^^BitVec.ofNat 32 n)
 let v:=v.set 13 (gW v 13^^^BitVec.ofNat 32 (n/4294967296))
 if last=true then v.set 14 (4294967295^^^gW v 14) else v
def endV (h v:List W):Nat→List W
 | 0=>h
 | i+1=>(endV h v i).set i (gW (endV h v i) i^^^(gW v i^^^gW v (8+i)))
theorem kA_ (h v:List W):∀ i,(endV h v i).length=h.length
 | 0=>rfl
 | i+1=>by rw[endV,List.length_set,kA_ h v i]
def x0_ (h:List W) (b:List UInt8) (n:Nat) (last:Bool):List W:=endV h (rndV (gy_ b b.length) (D6_ h n last) 10) 8
theorem pG_ (h:List W) (b:List UInt8) (n:Nat) (last:Bool):(x0_ h b n last).length=h.length:=kA_ _ _ _
def tF_ (b:List UInt8):Nat→List W
 | 0=>iniV.set 0 (gW iniV 0^^^0x01010020)
 | k+1=>x0_ (tF_ b k) ((b.drop (64*k)).take 64) (64*(k+1)) false
theorem hh_ (b:List UInt8):∀ k,(tF_ b k).length=8
 | 0=>rfl
 | k+1=>by rw[tF_,pG_,hh_ b k]
def blkN (b:List UInt8):Nat:=(b.length-1)/64
def va_ (b:List UInt8):List W:=x0_ (tF_ b (blkN b)) (b.drop (64*blkN b)) b.length true
theorem u9_ (b:List UInt8):(va_ b).length=8:=by rw[va_,pG_,hh_]
def ud_ (b:List UInt8):List UInt8:=(List.range 32).map fun i=>UInt8.ofNat ((gW (va_ b) (i/4)>>>(8*(i%4))).toNat)
theorem sumB_len (b:List UInt8):(ud_ b).length=32:=by simp[ud_]
def tagB (t b:List UInt8):List UInt8:=ud_ (ud_ t++b)
theorem aT_ (t b:List UInt8):(tagB t b).length=32:=sumB_len _
abbrev Dg:=List UInt8
def tB (s:String):List UInt8:=s.toUTF8.data.toList
def halfN (n:Nat):Nat:=2^Nat.log2 (n-1)
theorem b5_ (n:Nat) (h:2≤n):halfN n<n:=by
 have:=Nat.log2_self_le (n:=n-1) (by omega)
 unfold halfN
 omega
theorem a5_ (n:Nat):0<halfN n:=Nat.two_pow_pos _
def leafB (d : Dg) : Dg := tagB (tB "leaf") d
def nodeB (a b : Dg) : Dg := tagB (tB "node") (a ++ b)
def nN_:Nat→Nat→Nat→List Bool
 | 0,_,_=>[]
 | f+1,i,n=>if n≤1 then [] else if i<halfN n then true::nN_ f i (halfN n) else false::nN_ f (i-halfN n) (n-halfN n)
def upB:Dg→List Dg→List Bool→Dg
 | x,p::ps,b::bs=>upB (if b=true then nodeB x p else nodeB p x) ps bs
 | x,_,_=>x
theorem e1_ (d:Dg):(leafB d).length=32:=aT_ _ _
theorem cJ_ (a b:Dg):(nodeB a b).length=32:=aT_ _ _
theorem m5_:∀ (p:List Dg) (b:List Bool) (x:Dg),x.length=32→(upB x p b).length=32
 | [],_,x,h=>by simpa [upB] using h
 | p::ps,[],x,h=>by simpa [upB] using h
 | p::ps,b::bs,x,h=>by
  rw[upB]
  refine m5_ ps bs _ ?_
  split
  ·exact cJ_ _ _
  ·exact cJ_ _ _
def lS_ (d:Dg) (i n:Nat) (p:List Dg):Option Dg :=
 if i<n∧n≤1099511627776∧p.length=(nN_ n i n).length then some (upB (leafB d) p (nN_ n i n).reverse) else none
def tT_ (n:Nat):List UInt8:=[UInt8.ofNat (n/256),UInt8.ofNat n]
def openB (d : Dg) : Dg := tagB (tB "open") d
def bitB (root:Dg) (index:Nat) (msg:List UInt8) (j:Nat):Bool :=
 ((byA (tagB (tB "message") (root ++ (tT_ index ++ msg))) (j / 8)).toNat / 2 ^ (7 - j % 8)) % 2 == 1
def oU_ (hash:Nat→Bool→Dg):Nat→List UInt8
 | 0=>[]
 | j+1=>oU_ hash j++(hash j false++hash j true)
def pubB (hash : Nat → Bool → Dg) : Dg := tagB (tB "one") (oU_ hash 64)
def digA (l:List Dg) (i:Nat):Dg:=l.getD i (List.replicate 32 0)
def sN_ (root:Dg) (index:Nat) (msg:List UInt8) (op cl:List Dg) (j:Nat) (b:Bool):Dg :=
 if bitB root index msg j=b then openB (digA op j) else digA cl j
def sealB (root:Dg) (n:Int) (msg:List UInt8) (index:Int) (op cl path:List Dg):Bool :=
 if n<1∨4096<n∨index<0∨n≤index∨op.length≠64∨cl.length≠64∨65536<msg.length then false
 else decide (lS_ (pubB (sN_ root index.toNat msg op cl)) index.toNat n.toNat path=some root)
def bitL (n:Nat):Nat:=if n=0 then 0 else Nat.log2 n+1
theorem bU_ (n:Nat) (h:2≤n):Nat.log2 n=Nat.log2 (n/2)+1:=by
 rw[Nat.log2_def n,if_pos h]
theorem Af_ (n:Nat) (h:256≤n):bitL n=bitL (n/256)+8:=by
 unfold bitL
 rw[if_neg (by omega),if_neg (by omega)]
 rw[bU_ n (by omega),bU_ (n/2) (by omega),bU_ (n/2/2) (by omega),bU_ (n/2/2/2) (by omega),bU_ (n/2/2/2/2) (by omega),bU_ (n/2/2/2/2/2) (by omega),bU_ (n/2/2/2/2/2/2) (by omega),bU_ (n/2/2/2/2/2/2/2) (by omega)]
 simp only[Nat.div_div_eq_div_mul]
theorem sO_ (n:Nat) (h:2≤n):halfN n=2^(bitL (n-1)-1):=by
 unfold halfN bitL
 rw[if_neg (by omega)]
 simp
/-! ### what the reference does with a block -/
/-! ### the reference's hash -/
/-! ### trees -/
theorem dp_ {n:Nat} (h:¬ n≤1):halfN n<n:=b5_ n (by omega)
def jJ_:Nat→List Dg→Dg
 | 0,_=>[]
 | f + 1, l => if l.length = 0 then tagB (tB "empty") [] else if l.length = 1 then leafB (digA l 0) else nodeB (jJ_ f (l.take (halfN l.length))) (jJ_ f (l.drop (halfN l.length)))
theorem dH_:∀ (f g:Nat) (l:List Dg),l.length<f→l.length<g→jJ_ f l=jJ_ g l
 | 0,_,_,h,_=>by omega
 | _,0,_,_,h=>by omega
 | f+1,g+1,l,hf,hg=>by
  rw[jJ_,jJ_]
  by_cases h0:l.length=0
  ·rw[if_pos h0,if_pos h0]
  ·by_cases h1:l.length=1
   ·rw[if_neg h0,if_neg h0,if_pos h1,if_pos h1]
   ·rw[if_neg h0,if_neg h0,if_neg h1,if_neg h1]
    have hk:=b5_ l.length (by omega)
    have hp:=a5_ l.length
    rw[dH_ f g _ (by rw[List.length_take];omega) (by rw[List.length_take];omega),dH_ f g _ (by rw[List.length_drop];omega) (by rw[List.length_drop];omega)]
def treeB (l:List Dg):Dg:=jJ_ (l.length+1) l
theorem wC_ : treeB [] = tagB (tB "empty") [] := rfl
theorem rt_ (l:List Dg) (h:2≤l.length):treeB l=nodeB (treeB (l.take (halfN l.length))) (treeB (l.drop (halfN l.length))):=by
 have hk:=b5_ l.length h
 have hp:=a5_ l.length
 rw[treeB,jJ_,if_neg (by omega),if_neg (by omega),treeB,treeB,dH_ l.length _ (l.take _) (by rw[List.length_take];omega) (Nat.lt_succ_self _),dH_ l.length _ (l.drop _) (by rw[List.length_drop];omega) (Nat.lt_succ_self _)]
theorem aX_ (l:List Dg):(treeB l).length=32:=by
 rw[treeB,jJ_]
 split
 ·exact aT_ _ _
 ·split
  ·exact e1_ _
  ·exact cJ_ _ _
theorem e5_:∀ (f g i n:Nat),n≤f→n≤g→nN_ f i n=nN_ g i n
 | 0,0,_,_,_,_=>rfl
 | 0,g+1,i,n,h,_=>by rw[nN_,nN_,if_pos (by omega)]
 | f+1,0,i,n,_,h=>by rw[nN_,nN_,if_pos (by omega)]
 | f+1,g+1,i,n,hf,hg=>by
  rw[nN_,nN_]
  by_cases h:n≤1
  ·rw[if_pos h,if_pos h]
  ·have hk:=dp_ h
   have hp:=a5_ n
   rw[if_neg h,if_neg h,e5_ f g _ _ (by omega) (by omega),e5_ f g _ _ (by omega) (by omega)]
def lM_ (i n:Nat):List Bool:=nN_ n i n
theorem pz_ (i n:Nat) (h:n≤1):lM_ i n=[]:=by
 rw[lM_]
 cases n with
 | zero=>rfl
 | succ n=>rw[nN_,if_pos h]
theorem tb_ (i n:Nat) (h:2≤n):lM_ i n=if i<halfN n then true::lM_ i (halfN n) else false::lM_ (i-halfN n) (n-halfN n):=by
 have hk:=b5_ n h
 have hp:=a5_ n
 rw[lM_]
 obtain⟨m,rfl⟩:∃ m,n=m+1:=⟨n-1,by omega⟩
 rw[nN_,if_neg (by omega),lM_,lM_,e5_ m (halfN (m+1)) _ _ (by omega) (Nat.le_refl _),e5_ m (m+1-halfN (m+1)) _ _ (by omega) (Nat.le_refl _)]
theorem g8_:∀ (N i n:Nat),n≤N→(lM_ i n).length≤N
 | 0,i,n,h=>by rw[pz_ i n (by omega)];exact Nat.zero_le _
 | N+1,i,n,h=>by
  by_cases h1:n≤1
  ·rw[pz_ i n h1];exact Nat.zero_le _
  ·have hk:=dp_ h1
   have hp:=a5_ n
   rw[tb_ i n (by omega)]
   split
   ·have:=g8_ N i (halfN n) (by omega);rw[List.length_cons];omega
   ·have:=g8_ N (i-halfN n) (n-halfN n) (by omega);rw[List.length_cons];omega
theorem gR_:∀ (ps:List Dg) (bs:List Bool) (x q:Dg) (b:Bool),ps.length=bs.length→upB x (ps++[q]) (bs++[b])=if b=true then nodeB (upB x ps bs) q else nodeB q (upB x ps bs)
 | [],[],x,q,b,_=>by simp[upB]
 | [],_::_,_,_,_,h=>by simp at h
 | _::_,[],_,_,_,h=>by simp at h
 | p::ps,c::bs,x,q,b,h=>by
  rw[List.cons_append,List.cons_append,upB,upB,gR_ ps bs _ q b (by simpa using h)]
theorem t5_ (x:Dg) (p:List Dg) (bs:List Bool) (h:p.length=bs.length) (i:Nat) (hi:i<p.length) :
  upB x (p.take (i+1)) (bs.take (i+1))=if bs.getD i false=true then nodeB (upB x (p.take i) (bs.take i)) (digA p i) else nodeB (digA p i) (upB x (p.take i) (bs.take i)):=by
 have e1:p.take (i+1)=p.take i++[digA p i]:=by
  rw[List.take_add_one,digA,List.getD_eq_getElem?_getD,List.getElem?_eq_getElem hi];rfl
 have e2:bs.take (i+1)=bs.take i++[bs.getD i false]:=by
  rw[List.take_add_one,List.getD_eq_getElem?_getD,List.getElem?_eq_getElem (by omega)];rfl
 rw[e1,e2,gR_ _ _ _ _ _ (by rw[List.length_take,List.length_take,h])]
def fu_:Nat→List Dg→Nat→List Dg
 | 0,_,_=>[]
 | f+1,l,i=>if l.length≤1 then [] else if i<halfN l.length then fu_ f (l.take (halfN l.length)) i++[treeB (l.drop (halfN l.length))] else fu_ f (l.drop (halfN l.length)) (i-halfN l.length)++[treeB (l.take (halfN l.length))]
theorem cG_:∀ (f g:Nat) (l:List Dg) (i:Nat),l.length≤f→l.length≤g→fu_ f l i=fu_ g l i
 | 0,0,_,_,_,_=>rfl
 | 0,g+1,l,i,h,_=>by rw[fu_,fu_,if_pos (by omega)]
 | f+1,0,l,i,_,h=>by rw[fu_,fu_,if_pos (by omega)]
 | f+1,g+1,l,i,hf,hg=>by
  rw[fu_,fu_]
  by_cases h:l.length≤1
  ·rw[if_pos h,if_pos h]
  ·have hk:=dp_ h
   have hp:=a5_ l.length
   rw[if_neg h,if_neg h,cG_ f g (l.take _) _ (by rw[List.length_take];omega) (by rw[List.length_take];omega),cG_ f g (l.drop _) _ (by rw[List.length_drop];omega) (by rw[List.length_drop];omega)]
def pathB (l:List Dg) (i:Nat):List Dg:=fu_ l.length l i
theorem j6_ (l:List Dg) (i:Nat) (h:l.length≤1):pathB l i=[]:=by
 rw[pathB]
 cases e:l.length with
 | zero=>rfl
 | succ n=>rw[fu_,if_pos h]
theorem nx_ (l:List Dg) (i:Nat) (h:2≤l.length):pathB l i=if i<halfN l.length then pathB (l.take (halfN l.length)) i++[treeB (l.drop (halfN l.length))] else pathB (l.drop (halfN l.length)) (i-halfN l.length)++[treeB (l.take (halfN l.length))]:=by
 have hk:=b5_ l.length h
 have hp:=a5_ l.length
 rw[pathB,cG_ _ (l.length+1) l i (Nat.le_refl _) (Nat.le_succ _),fu_,if_neg (by omega),pathB,pathB,cG_ l.length (l.take (halfN l.length)).length (l.take _) _ (by rw[List.length_take];omega) (Nat.le_refl _),cG_ l.length (l.drop (halfN l.length)).length (l.drop _) _ (by rw[List.length_drop];omega) (Nat.le_refl _)]
theorem j5_:∀ (N:Nat) (l:List Dg) (i:Nat),l.length≤N→i<l.length→(pathB l i).length=(lM_ i l.length).length∧upB (leafB (digA l i)) (pathB l i) (lM_ i l.length).reverse=treeB l
 | 0,l,i,h,hi=>by omega
 | N+1,l,i,h,hi=>by
  by_cases h1:l.length≤1
  ·have e:l.length=1:=by omega
   rw[j6_ l i h1,pz_ i _ h1]
   refine⟨rfl,?_⟩
   obtain⟨d,rfl⟩:∃ d,l=[d]:=List.length_eq_one_iff.1 e
   have:i=0:=by simp at hi;exact hi
   subst this
   rfl
  ·have hk:=dp_ h1
   have hp:=a5_ l.length
   rw[nx_ l i (by omega),tb_ i _ (by omega),rt_ l (by omega)]
   by_cases hik:i<halfN l.length
   ·have lt:(l.take (halfN l.length)).length=halfN l.length:=by rw[List.length_take];omega
    obtain⟨k1,k2⟩:=j5_ N (l.take (halfN l.length)) i (by omega) (by omega)
    rw[lt] at k1 k2
    rw[if_pos hik,if_pos hik]
    refine⟨by simp[k1],?_⟩
    rw[List.reverse_cons,gR_ _ _ _ _ _ (by simp[k1]),if_pos rfl,← k2]
    congr 3
    simp[digA,List.getD_eq_getElem?_getD,List.getElem?_take,hik]
   ·have lt:(l.drop (halfN l.length)).length=l.length-halfN l.length:=by rw[List.length_drop]
    obtain⟨k1,k2⟩:=j5_ N (l.drop (halfN l.length)) (i-halfN l.length) (by omega) (by omega)
    rw[lt] at k1 k2
    rw[if_neg hik,if_neg hik]
    refine⟨by simp[k1],?_⟩
    rw[List.reverse_cons,gR_ _ _ _ _ _ (by simp[k1]),if_neg (by decide),← k2]
    congr 3
    simp[digA,List.getD_eq_getElem?_getD,List.getElem?_drop]
    rw[show halfN l.length+(i-halfN l.length)=i by omega]
theorem qY_ (l:List Dg) (i:Nat) (hi:i<l.length) (hn:l.length≤1099511627776):lS_ (digA l i) i l.length (pathB l i)=some (treeB l):=by
 obtain⟨h1,h2⟩:=j5_ l.length l i (Nat.le_refl _) hi
 rw[lS_,if_pos ⟨hi,hn,h1⟩]
 exact congrArg some h2
/-! ### one-time signatures -/
def secretB (seed : List UInt8) (i j : Nat) (b : Bool) : Dg := tagB (tB "secret") (seed ++ (tT_ i ++ [UInt8.ofNat j, if b = true then 1 else 0]))
def keyH (seed:List UInt8) (i j:Nat) (b:Bool):Dg:=openB (secretB seed i j b)
def pubsB (seed:List UInt8) (n:Nat):List Dg:=(List.range n).map fun i=>pubB (keyH seed i)
theorem bs_ (seed:List UInt8) (n:Nat):(pubsB seed n).length=n:=by simp[pubsB]
theorem uB_ (seed:List UInt8) (n i:Nat) (h:i<n):digA (pubsB seed n) i=pubB (keyH seed i):=by
 simp[digA,pubsB,List.getD_eq_getElem?_getD,List.getElem?_map,List.getElem?_range h]
theorem i8_ {g h:Nat→Bool→Dg}:∀ n,(∀ j,j<n→∀ b,g j b=h j b)→oU_ g n=oU_ h n
 | 0,_=>rfl
 | n+1,e=>by rw[oU_,oU_,i8_ n fun j hj b=>e j (by omega) b,e n (by omega),e n (by omega)]
theorem i9_ {g h:Nat→Bool→Dg} (e:∀ j,j<64→∀ b,g j b=h j b):pubB g=pubB h:=by rw[pubB,pubB,i8_ 64 e]
theorem gY_ (g:Nat→Bool→Dg):(pubB g).length=32:=aT_ _ _
def openedB (seed:List UInt8) (i:Nat) (x:Nat→Bool):Nat→List Dg
 | 0=>[]
 | j+1=>openedB seed i x j++[secretB seed i j (x j)]
def closedB (seed:List UInt8) (i:Nat) (x:Nat→Bool):Nat→List Dg
 | 0=>[]
 | j+1=>closedB seed i x j++[keyH seed i j (!x j)]
theorem bx_ (seed:List UInt8) (i:Nat) (x:Nat→Bool):∀ n,(openedB seed i x n).length=n
 | 0=>rfl
 | n+1=>by rw[openedB,List.length_append,bx_ seed i x n];rfl
theorem by_ (seed:List UInt8) (i:Nat) (x:Nat→Bool):∀ n,(closedB seed i x n).length=n
 | 0=>rfl
 | n+1=>by rw[closedB,List.length_append,by_ seed i x n];rfl
theorem lO_ (l:List Dg) (d:Dg) (j:Nat):digA (l++[d]) j=if j=l.length then d else digA l j:=by
 unfold digA
 simp only[List.getD_eq_getElem?_getD,List.getElem?_append]
 by_cases h:j<l.length
 ·rw[if_pos h,if_neg (by omega)]
 ·rw[if_neg h]
  by_cases e:j=l.length
  ·subst e;simp
  ·rw[if_neg e,List.getElem?_eq_none (by simp;omega),List.getElem?_eq_none (by omega)]
theorem jc_ (seed:List UInt8) (i:Nat) (x:Nat→Bool):∀ n j,j<n→digA (openedB seed i x n) j=secretB seed i j (x j)
 | 0,_,h=>by omega
 | n+1,j,h=>by
  rw[openedB,lO_,bx_]
  split
  ·rename_i e;rw[e]
  ·exact jc_ seed i x n j (by omega)
theorem jy_ (seed:List UInt8) (i:Nat) (x:Nat→Bool):∀ n j,j<n→digA (closedB seed i x n) j=keyH seed i j (!x j)
 | 0,_,h=>by omega
 | n+1,j,h=>by
  rw[closedB,lO_,by_]
  split
  ·rename_i e;rw[e]
  ·exact jy_ seed i x n j (by omega)
theorem rN_ (seed:List UInt8) (n i:Nat) (msg:List UInt8) (hi:i<n) (hn:n≤4096) (hm:msg.length≤65536) :
  sealB (treeB (pubsB seed n)) n msg i (openedB seed i (bitB (treeB (pubsB seed n)) i msg) 64) (closedB seed i (bitB (treeB (pubsB seed n)) i msg) 64) (pathB (pubsB seed n) i)=true:=by
 have hc:=qY_ (pubsB seed n) i (by rw[bs_];exact hi) (by rw[bs_];omega)
 rw[bs_,uB_ seed n i hi] at hc
 generalize treeB (pubsB seed n)=root at *
 have h1:=bx_ seed i (bitB root i msg) 64
 have h2:=by_ seed i (bitB root i msg) 64
 have e:pubB (sN_ root i msg (openedB seed i (bitB root i msg) 64) (closedB seed i (bitB root i msg) 64))=pubB (keyH seed i):=i9_ fun j hj b=>by
  rw[sN_,jc_ _ _ _ _ _ hj,jy_ _ _ _ _ _ hj]
  cases bitB root i msg j<;>cases b<;>rfl
 generalize openedB seed i (bitB root i msg) 64=op at *
 generalize closedB seed i (bitB root i msg) 64=cl at *
 unfold sealB
 rw[if_neg (by omega),Int.toNat_natCast,Int.toNat_natCast,e,hc]
 simp
end Go.Proofs.YtfgcgagcpnbgmaaGreatDoor
