/-
  Joined texts.
-/
import Derived.Test.YtfgcgagcpnbgmaaGreatDoorWNe
import Derived.Test.YtfgcgagcpnbgmaaGreatDoorWEngCr
import Derived.Test.YtfgcgagcpnbgmaaGreatDoorW8
set_option maxRecDepth 10000
set_option linter.unusedVariables false
set_option linter.unusedSimpArgs false
set_option linter.unusedSectionVars false
namespace Go.Proofs.YtfgcgagcpnbgmaaGreatDoor
open Go.Xe Go.RowKit
theorem CU_ (a b:W):bits .and .u32 (wI a) (wI b)=wI (a&&&b):=by
 have h:bits .and .u32 (wI a) (wI b)=IntKind.u32.wrap (wI (BitVec.ofInt 32 (wI a)&&&BitVec.ofInt 32 (wI b))):=rfl
 rw[h,yo_,yo_,rl_]
theorem CT_ (a b:W):IntKind.u32.wrap (wI a*wI b)=wI (a*b):=by
 have h:wI a*wI b=((a.toNat*b.toNat:Nat):Int):=by simp[wI]
 rw[h,wI,IntKind.wrap_u32,BitVec.toNat_mul];omega
theorem xV_ (x:W):bits .and .u32 (wI x) 1=wI (x&&&1#32):=CU_ x 1#32
theorem xU_ (x:W):IntKind.u32.wrap (3988292384*wI x)=wI (0xEDB88320#32*x):=CT_ 0xEDB88320#32 x
theorem xT_ (x:W):(wI x).fdiv (2^shN .u32 1)=wI (x>>>1):=ww_ x 1
theorem tl_ (x:W):bits .xor .u32 4294967295 (wI x)=wI (4294967295#32^^^x):=dZ_ 4294967295#32 x
theorem crcK_succ (n:W) (k:Nat):xX_ n (k+1)=crcT (xX_ n k):=rfl
theorem tm_ (n:W) (a:By) (c:UInt8):vy_ n (a++[c])=xX_ (vy_ n a^^^BitVec.ofNat 32 c.toNat) 8:=by rw[vx_];rfl
theorem pe_ {b:By} {i:Nat} (h:i<b.length):(bys b)[i]? = some (.v (.int .u8 (b[i].toNat:Int))):=by
 simp[bys,h,aN_]
theorem aD_ {b:By} {i:Nat} (h:i<(bys b).length):(bys b)[i]=.v (.int .u8 ((b[i]'(by rwa[bys_len] at h)).toNat:Int)):=by simp[bys,aN_]
theorem rq_:(if IntKind.u32.signed=true then (-1:Int) else IntKind.u32.max)=4294967295:=by decide
theorem hw_ (b:By) {i:Nat} (h:i<b.length):b.take (i+1)=b.take i++[b[i]]:=by rw[List.take_add_one,List.getElem?_eq_getElem h];rfl
theorem vL_ (b:By) (c:UInt8):beN (b++[c])=beN b*256+c.toNat:=by rw[beN,List.foldl_append];rfl
theorem u0_ (n c:Nat) (hn:n<72057594037927936) (hc:c<256):bits .or .u64 (IntKind.u64.wrap ((n:Int)*2^shN .u64 8)) (IntKind.u64.wrap (c:Int))=((n*256+c:Nat):Int):=by
 have e1:IntKind.u64.wrap ((n:Int)*2^shN .u64 8)=((n*256:Nat):Int):=by
  rw[show shN .u64 8=8 from rfl,IntKind.wrap_u64];omega
 have e2:IntKind.u64.wrap (c:Int)=(c:Int):=by rw[IntKind.wrap_u64];omega
 have h:=Nat.shiftLeft_add_eq_or_of_lt (i:=8) (b:=c) (by omega) n
 rw[Nat.shiftLeft_eq] at h
 rw[e1,e2,bits_or_u64_nat _ _ (by omega) (by omega),← h]
abbrev gtS (b:By) (i:Nat):St:=mkS 18 [(2,.d (.v (.int .u64 (beN (b.take i))))),(5,.d (slB b)),(6,.d (.v (.int .i64 b.length))),(7,.d (.v (.int .i64 i)))] []
set_option maxHeartbeats 1000000 in
theorem h3_ (b:By) (hb:b.length≤4):Fn0 Tryz.prog 100 [slB b] (.v (.int .u64 (beN b))):=by
 refine ad_ (pn:=ap_) aa_ Tryz.func100 rfl fun β0=>?_
 simp only[Tryz.f100]
 repeat(first|apply wG|(apply wR;simp -dsimp[slB])|refine aI ?_)
 refine ai_ (fun q S=>∃ i:Nat,q=b.length-i∧i≤b.length∧S=gtS b i) b.length (S0:=gtS b 0) (ae_ [] (by simp[slB];exact .refl _) (by simp)) ⟨0,rfl,by omega,rfl⟩ ?_
 rintro _ _ ⟨i,rfl,hi,rfl⟩
 simp -dsimp[slB]
 repeat(first|apply wG|(apply wR;simp -dsimp)|refine aI ?_)
 by_cases hin:i<b.length
 ·have hat:=pe_ hin
  have hsn:=vL_ (b.take i) b[i]
  rw[← hw_ b hin] at hsn
  have e1:IntKind.i64.wrap ((i:Int)+1)=((i+1:Nat):Int):=by rw[IntWalk.i64_in _ (by omega)];omega
  have hlt:=pN_ (b.take i)
  have hl3:(b.take i).length≤3:=by rw[List.length_take];omega
  have hp:256^(b.take i).length≤256^3:=Nat.pow_le_pow_right (by decide) hl3
  have es:=u0_ (beN (b.take i)) b[i].toNat (by omega) b[i].toNat_lt
  have lb:=bys_len b
  generalize beN (b.take i)=x at *
  refine cT (by simp;omega) ?_
  refine WP.skip ?_
  simp -dsimp
  repeat(first|apply wG|(apply wR;simp -dsimp[aD_,lb,hin,es])|refine aI ?_)
  refine loopW.next (gtS b (i+1)) (ae_ [] (by simp[slB,e1,hsn]) (by simp)) (b.length-(i+1)) (by omega) ⟨i+1,rfl,by omega,rfl⟩
 ·obtain rfl:i=b.length:=by omega
  refine cF (by simp) ?_
  refine WP.exit ?_
  simp -dsimp
  repeat(first|apply wG|(apply wR;simp -dsimp)|refine aI ?_)
  refine WP.ret (ac_ ?_)
  simp -dsimp[List.take_length]
/-! ### put: the last bytes of a number, from the back -/
def jputS (s:By) (off m n i:Nat):By:=s.take (off+m-i)++(beB n i++s.drop (off+m))
theorem sD_ (s:By) (off m n i:Nat) (h:off+m≤s.length) (hi:i≤m):(jputS s off m n i).length=s.length:=by
 simp only[jputS,List.length_append,List.length_take,List.length_drop,b3_];omega
theorem qD_ (s:By) (off m n i:Nat) (h:off+m≤s.length) (hi:i<m):(jputS s off m n i).set (off+(m-1-i)) (UInt8.ofNat (n/256^i))=jputS s off m n (i+1):=by
 have l1:(s.take (off+m-(i+1))).length=off+(m-1-i):=by rw[List.length_take];omega
 have h1:s.take (off+m-i)=s.take (off+m-(i+1))++[s[off+m-(i+1)]'(by omega)]:=by
  rw[show off+m-i=(off+m-(i+1))+1 by omega,hw_ s (by omega)]
 rw[jputS,jputS,h1,List.append_assoc,List.set_append_right _ _ (by omega),l1,Nat.sub_self]
 rfl
theorem sE_ (s:By) (off m n:Nat):jputS s off m n m=s.take off++(beB n m++s.drop (off+m)):=by rw[jputS,Nat.add_sub_cancel]
theorem uA_ (n i:Nat) (hn:n<18446744073709551616) (hi:i<4):IntKind.u8.wrap ((n:Int).fdiv (2^shN .u64 (8*(i:Int))))=((UInt8.ofNat (n/256^i)).toNat:Int):=by
 have key:∀ k:Nat,IntKind.u8.wrap ((n:Int).fdiv (2^k))=((UInt8.ofNat (n/2^k)).toNat:Int):=fun k=>by
  have h:((2:Int)^k)=((2^k:Nat):Int):=by simp
  rw[IntKind.wrap_u8,UInt8.toNat_ofNat',h,Int.fdiv_eq_ediv_of_nonneg _ (Int.natCast_nonneg _),← Int.natCast_ediv];omega
 rcases (by omega:i=0∨i=1∨i=2∨i=3) with rfl|rfl|rfl|rfl
 ·exact key 0
 ·exact key 8
 ·exact key 16
 ·exact key 24
theorem bysA_set (s:By) (i:Nat) (c:UInt8):((bys s).map AV.d).set i (.d (.v (.int .u8 (c.toNat:Int))))=(bys (s.set i c)).map .d:=by
 rw[bys,bys,List.map_set,List.map_set];rfl
abbrev ptS (s:By) (off m c n i:Nat):St:=mkS 23 [(0,.psl 1000 off m c),(1,.d (.v (.int .u64 n))),(6,.d (.v (.int .i64 m))),(7,.d (.v (.int .i64 i)))] [(1000,.cells 247 ((bys (jputS s off m n i)).map .d))]
set_option maxHeartbeats 1000000 in
theorem km_ (s:By) (off m c n:Nat) (h:off+m≤s.length) (hm:m≤4) (hmc:m≤c) (hn:n<18446744073709551616):Fun Tryz.prog 169 [.psl 1000 off m c,.d (.v (.int .u64 n))] [(1000,.cells 247 ((bys s).map .d))] (.d .any) [(1000,.cells 247 ((bys (s.take off++(beB n m++s.drop (off+m)))).map .d))] fun _=>False:=by
 refine ad_ (pn:=ap_) aa_ Tryz.func169 rfl fun β0=>?_
 simp only[Tryz.f169]
 repeat(first|apply wG|(apply wR;simp -dsimp)|refine aI ?_)
 refine ai_ (fun q S=>∃ i:Nat,q=m-i∧i≤m∧S=ptS s off m c n i) m (S0:=ptS s off m c n 0) (ae_ [] (by simp) (by simp[jputS,beB])) ⟨0,rfl,by omega,rfl⟩ ?_
 rintro _ _ ⟨i,rfl,hi,rfl⟩
 simp -dsimp
 repeat(first|apply wG|(apply wR;simp -dsimp)|refine aI ?_)
 by_cases hin:i<m
 ·have e1:IntKind.i64.wrap ((i:Int)+1)=((i+1:Nat):Int):=by rw[IntWalk.i64_in _ (by omega)];omega
  have e2:IntKind.i64.wrap (IntKind.i64.wrap ((m:Int)-1)-i)=((m-1-i:Nat):Int):=by rw[IntWalk.i64_in ((m:Int)-1) (by omega),IntWalk.i64_in _ (by omega)];omega
  have eb:=uA_ n i hn (by omega)
  have e3:IntKind.i64.wrap (8*(i:Int))=8*(i:Int):=IntWalk.i64_in _ (by omega)
  have lp:=sD_ s off m n i h (by omega)
  have ls:=bys_len (jputS s off m n i)
  have st:=qD_ s off m n i h hin
  obtain⟨ch,hch⟩:∃ ch,UInt8.ofNat (n/256^i)=ch:=⟨_,rfl⟩
  rw[hch] at eb st
  refine cT (by simp;omega) ?_
  refine WP.skip ?_
  simp -dsimp
  repeat(first|apply wG|(apply wR;simp -dsimp[e2,e3,eb,lp,ls,bysA_set,st])|refine aI ?_)
  refine loopW.next (ptS s off m c n (i+1)) (ae_ [] (by simp[e1]) (by simp[bysA_set,st])) (m-(i+1)) (by omega) ⟨i+1,rfl,by omega,rfl⟩
 ·obtain rfl:i=m:=by omega
  have hall:=sE_ s off i n
  refine cF (by simp) ?_
  refine WP.exit ?_
  simp -dsimp
  repeat(first|apply wG|(apply wR;simp -dsimp)|refine aI ?_)
  refine be_ ?_
  simp -dsimp[hall]
end Go.Proofs.YtfgcgagcpnbgmaaGreatDoor
set_option maxRecDepth 10000
set_option linter.unusedVariables false
set_option linter.unusedSimpArgs false
set_option linter.unusedSectionVars false
namespace Go.Proofs.YtfgcgagcpnbgmaaGreatDoor
open Go.Xe Go.RowKit
theorem DH_ (n:Nat) (hn:n<4294967296):bits .and .u64 (n:Int) 4294967295=(n:Int):=by
 have h:=bits_and_u64_nat n 4294967295 (by omega) (by decide)
 rw[show ((4294967295:Nat):Int)=4294967295 from rfl] at h
 rw[h,show (4294967295:Nat)=2^32-1 from rfl,Nat.and_two_pow_sub_one_eq_mod,Nat.mod_eq_of_lt (by omega)]
theorem CX_ (n:Nat) (hn:n<4294967296):(n:Int).fdiv (2^shN .u64 32)=0:=by
 rw[show shN .u64 32=32 from rfl,Int.fdiv_eq_ediv_of_nonneg _ (by decide)];omega
theorem w64 (n:Nat) (hn:n<4294967296):IntKind.u64.wrap (n:Int)=n:=by rw[IntKind.wrap_u64];omega
theorem uM_ (n:Nat) (hn:n<4294967296):Fn0 Tryz.prog 199 [.v (.int .u64 1),.v (.int .u64 n)] (.tup [.v (.int .u64 0),.v (.int .u64 n)]):=by
 have a1:bits .and .u64 1 4294967295=1:=by decide
 have a2:(1:Int).fdiv (2^shN .u64 32)=0:=by decide
 have a0:(0:Int).fdiv (2^shN .u64 32)=0:=by decide
 have a00:bits .and .u64 0 4294967295=0:=by decide
 have a3:=DH_ n hn
 have a4:=CX_ n hn
 have a5:=w64 n hn
 have a6:IntKind.u64.wrap 0=0:=by decide
 refine ad_ (pn:=ap_) aa_ Tryz.func199 rfl fun β0=>?_
 simp only[Tryz.f199]
 repeat(first|apply wG|(apply wR;simp -dsimp[a0,a00,a1,a2,a3,a4,a5,a6])|refine aI ?_)
 refine WP.ret (ac_ ?_)
 simp -dsimp[a0,a00,a1,a2,a3,a4,a5,a6]
theorem zB_ (n:Nat) (hn:n<4294967296):Fn0 Tryz.prog 140 [.v (.int .u64 1),.v (.int .u64 n)] (.tup [.v (.int .u64 0),.v (.int .u64 n)]):=by
 refine ad_ (pn:=ap_) aa_ Tryz.func140 rfl fun β0=>?_
 simp only[Tryz.f140]
 repeat(first|apply wG|(apply wR;simp -dsimp)|refine aI ?_)
 refine cF (by simp) ?_
 refine WP.skip ?_
 simp -dsimp
 repeat(first|apply wG|(apply wR;simp -dsimp)|refine aI ?_)
 refine ab_ mg_ (uM_ n hn) rfl rfl (by simp) ?_
 simp -dsimp
 repeat(first|apply wG|(apply wR;simp -dsimp)|refine aI ?_)
 refine WP.ret (ac_ ?_)
 simp -dsimp
theorem xo_ (n:Nat) (z:By):lsB (List.replicate n z)=List.replicate n (slB z):=by simp[lsB]
abbrev rpS (z:By) (n:Nat) (g c j:Nat) (xs:List D):St :=
 mkS 48 [(7,.d (.v (.slice (some ⟨g,0,none⟩) n c))),(8,.d (.v (.int .i64 j)))] [(30,Ex 22 1 g n c xs)]
abbrev nlB:D:=.v (.slice none 0 0)
theorem to_ (n:Nat):bf_ (List.replicate n [Value.slice none 0 0]).flatten=(List.replicate n nlB).map .d:=by
 rw[List.flatten_replicate_singleton];simp[bf_]
def rpD (z:By) (n j:Nat):List D:=List.replicate j (slB z)++List.replicate (n-j) nlB
theorem wU_ (z:By) (n j:Nat) (hj:j≤n):(rpD z n j).take j++((rpD z n j).take (min j (n-j))++(rpD z n j).drop (j+min j (n-j)))=rpD z n (j+min j (n-j)):=by
 have h1:(rpD z n j).take j=List.replicate j (slB z):=by rw[rpD,List.take_left' (by simp)]
 have h2:(rpD z n j).take (min j (n-j))=List.replicate (min j (n-j)) (slB z):=by
  rw[rpD,List.take_append_of_le_length (by simp;omega),List.take_replicate];congr 1;omega
 have h3:(rpD z n j).drop (j+min j (n-j))=List.replicate (n-(j+min j (n-j))) nlB:=by
  rw[rpD,List.drop_append,List.length_replicate,List.drop_of_length_le (by simp),List.nil_append,List.drop_replicate];congr 1;omega
 rw[h1,h2,h3,← List.append_assoc,List.replicate_append_replicate,rpD]
set_option maxHeartbeats 1000000 in
theorem rY_ (z:By) (n:Nat) (h1:1≤n) (hn:n≤4096):Fun Tryz.prog 81 [.d (.sl 1 [slB z] 1 false),.d (.v (.int .i64 n))] [] (.row 0) [(0,.row 22 1 n ((lsB (List.replicate n z)).map .d))] fun _=>False:=by
 have e1:IntKind.u64.wrap (n:Int)=n:=w64 n (by omega)
 have e2:IntKind.i64.wrap (n:Int)=n:=IntWalk.i64_in _ (by omega)
 have e3:IntKind.u64.wrap 1=1:=by decide
 refine ad_ (pn:=ap_) aa_ Tryz.func81 rfl fun β0=>?_
 simp only[Tryz.f81]
 repeat(first|apply wG|(apply wR;simp -dsimp)|refine aI ?_)
 refine cF (by simp) ?_
 refine WP.skip ?_
 simp -dsimp
 repeat(first|apply wG|(apply wR;simp -dsimp[e1,e3])|refine aI ?_)
 refine ab_ mu_ (zB_ n (by omega)) rfl rfl (by simp[e1,e3]) ?_
 simp -dsimp
 repeat(first|apply wG|(apply wR;simp -dsimp[e1,e2])|refine aI ?_)
 refine cF (by simp;omega) ?_
 refine WP.skip ?_
 simp -dsimp
 repeat(first|apply wG|(apply wR;simp -dsimp[e2])|refine aI ?_)
 refine df_ aa_ 30 rfl rfl rfl (c:=n) rfl rfl (by simp;omega) (by simp[maxLen];omega) (by simp) (to_ n) ?_
 simp -dsimp
 repeat(first|apply wG|(apply wR;simp -dsimp)|refine aI ?_)
 refine d5_ aa_ rfl rfl rfl rfl rfl (by omega) (CpSrc.data rfl (by decide)) 1 (Nat.min_eq_left h1) (by simp) (cs':=(rpD z n 1).map .d) (by obtain⟨q,rfl⟩:∃ q,n=q+1:=⟨n-1,by omega⟩;simp[rpD,List.replicate_succ]) ?_
 simp -dsimp
 repeat(first|apply wG|(apply wR;simp -dsimp)|refine aI ?_)
 refine pT_ (pW_ (k:=30) (T:=22) (sz:=1) (n:=n) (xs:=rpD z n 1) (by simp) (by omega)) ?_
 rintro⟨⟨g,c⟩,hnc,hcm⟩
 have hnc:n≤c:=hnc
 simp -dsimp[exA]
 refine ai_ (fun q S=>∃ j:Nat,q=n-j∧1≤j∧j≤n∧S=rpS z n g c j (rpD z n j)) (n-1) (S0:=rpS z n g c 1 (rpD z n 1)) (ae_ [] (by simp) (by simp)) ⟨1,rfl,by omega,h1,rfl⟩ ?_
 rintro _ _ ⟨j,rfl,hj1,hjn,rfl⟩
 simp -dsimp
 repeat(first|apply wG|(apply wR;simp -dsimp)|refine aI ?_)
 by_cases hj:j<n
 ·have e4:IntKind.i64.wrap ((j:Int)+(min j (n-j):Nat))=((j+min j (n-j):Nat):Int):=by rw[IntWalk.i64_in _ (by omega)];omega
  have hl:(rpD z n j).length=n:=by simp[rpD];omega
  have hst:=wU_ z n j (by omega)
  refine cT (by simp;omega) ?_
  refine WP.skip ?_
  simp -dsimp
  repeat(first|apply wG|(apply wR;simp -dsimp)|refine aI ?_)
  refine ay_ aa_ rfl rfl rfl (l:=j) (h:=n) rfl rfl rfl (by omega) hnc (by omega) ?_
  simp -dsimp
  refine ay_ aa_ rfl rfl rfl (l:=0) (h:=j) rfl rfl rfl (by omega) (by omega) (by omega) ?_
  simp -dsimp
  refine bi_ aa_ rfl rfl rfl (k:=30) rfl rfl (kZ_ (k:=30) rfl rfl) (min j (n-j)) rfl (by simp[hl];omega) (by simp[hl];omega) (by simp;omega) ?_
  simp -dsimp
  repeat refine aI ?_
  refine loopW.next (rpS z n g c (j+min j (n-j)) (rpD z n (j+min j (n-j)))) (ae_ [] (by simp[e4]) (by simp[hst])) (n-(j+min j (n-j))) (by omega) ⟨_,rfl,by omega,by omega,rfl⟩
 ·obtain rfl:j=n:=by omega
  refine cF (by simp) ?_
  refine WP.exit ?_
  simp -dsimp
  repeat(first|apply wG|(apply wR;simp -dsimp)|refine aI ?_)
  refine WP.ret (ak_ (S':=mkS 48 [(4,.row 0)] [(0,.row 22 1 j ((rpD z j j).map .d))]) ((kP_ 4 30 0 j rfl hnc (by simp[rpD]) rfl (by simp[Ex])).trans (ae_ [] (by simp) (by simp))) ?_)
  simp -dsimp[rpD,xo_]
theorem pE_ (n:Nat):bf_ (List.replicate n [Value.int IntKind.u8 0]).flatten=(bys (List.replicate n 0)).map .d:=by
 rw[List.flatten_replicate_singleton];simp[bf_,bys,aN_]
theorem yS_ {xs:List AV} {ds:List D} {e:AV} {x:D} (h:LeqL xs (ds.map .d)) (he:Leq e (.d x)):Leq (.tup [.agg xs,e]) (.d (.tup [.agg ds,x])) :=
 (Leq.tup (l:=[.agg xs,e]) (l':=[.d (.agg ds),.d x]) ⟨(Leq.agg h).trans (am_ _),he,trivial⟩).trans (hj_ [.agg ds,x])
theorem qm_ (z:By) (n:Nat) (h1:1≤n) (hn:n≤4096):Fun Tryz.prog 81 [.row 1000,.d (.v (.int .i64 n))] [(1000,.row 22 1 1 [.d (slB z)])] (.row 0) [(0,.row 22 1 n ((lsB (List.replicate n z)).map .d))] fun _=>False :=
 b1_ 1000 (T:=22) (cs:=[slB z]) (args':=[.row 1000,.d (.v (.int .i64 n))]) (bi':=[(1000,.row 22 1 1 ([slB z].map .d))]) (rY_ z n h1 hn) rfl rfl trivial
theorem vq_ (n:Nat) (h1:1≤n) (hn:n≤4096):Fn0 Tryz.prog 39 [.v (.int .i64 n)] (.tup [dkD ⟨List.replicate n (List.replicate 128 0),[],-1,false⟩,.v (.int .i64 0)]):=by
 refine ad_ (pn:=ap_) aa_ Tryz.func39 rfl fun β0=>?_
 simp only[Tryz.f39]
 repeat(first|apply wG|(apply wR;simp -dsimp)|refine aI ?_)
 refine cF (by simp;omega) ?_
 refine WP.skip ?_
 simp -dsimp
 repeat(first|apply wG|(apply wR;simp -dsimp)|refine aI ?_)
 refine df_ aa_ 12 rfl rfl rfl (c:=128) rfl rfl (by decide) (by decide) rfl (pE_ 128) ?_
 simp -dsimp
 refine an_ (Wk.freeze (k:=12) (T:=5) (sz:=1) (n:=128) (ds:=bys (List.replicate 128 0)) rfl) ?_
 simp -dsimp
 repeat(first|apply wG|(apply wR;simp -dsimp)|refine aI ?_)
 refine vcStop.call n4_ (qm_ (List.replicate 128 0) n h1 hn) (rl [(1000,14),(0,600)]) rfl rfl (by simp[slB,BoxLeq]) (af_ (by simp[slB,BoxLeq]) rfl (by first|rfl|(simp[slB,BoxLeq];done)) (by simp[slB,BoxLeq]) (by simp[slB,BoxLeq])) (fun _ h=>h.elim) (fun ⟨_,h⟩=>h.elim) (fun ⟨_,h⟩=>h.elim) (by simp[slB,BoxLeq]) ?_
 simp -dsimp
 repeat(first|apply wG|(apply wR;simp -dsimp)|refine aI ?_)
 refine WP.ret (ak_ (Wk.freeze (k:=600) (T:=22) (sz:=1) (n:=n) (ds:=lsB (List.replicate n (List.replicate 128 0))) rfl) ?_)
 simp -dsimp[dkD,dkC,wrD,wrC]
theorem vr_ (n:Int) (h:¬ (1≤n∧n≤4096)):Fn0 Tryz.prog 39 [.v (.int .i64 n)] (.tup [dkD ⟨[],[],0,false⟩,.v (.int .i64 1)]):=by
 refine ad_ (pn:=ap_) aa_ Tryz.func39 rfl fun β0=>?_
 simp only[Tryz.f39]
 repeat(first|apply wG|(apply wR;simp -dsimp)|refine aI ?_)
 refine cT (by simp;omega) ?_
 repeat(first|apply wG|(apply wR;simp -dsimp)|refine aI ?_)
 refine WP.ret (ac_ ?_)
 simp -dsimp[dkD,dkC,wrD,wrC]
 exact yS_ ⟨Leq.nil 1,Leq.nil 2,.refl _,.refl _,trivial⟩ (.refl _)
end Go.Proofs.YtfgcgagcpnbgmaaGreatDoor
