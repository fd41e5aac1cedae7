/-
  Joined texts.
-/
import Derived.Test.YtfgcgagcpnbgmaaGreatDoorGNe
import Derived.Test.YtfgcgagcpnbgmaaGreatDoorGEngCr
import Derived.Test.YtfgcgagcpnbgmaaGreatDoorG8
import Derived.Test.YtfgcgagcpnbgmaaGreatDoorGTo
set_option linter.all false
set_option maxRecDepth 10000
namespace Go.Proofs.YtfgcgagcpnbgmaaGreatDoor
open Go.Xe Go.RowKit
theorem Fr_ (n:Nat) (hn:n<4294967296):bits .and .u64 (n:Int) 4294967295=(n:Int):=by
 have h:=bits_and_u64_nat n 4294967295 (by omega) (by decide)
 rw[show ((4294967295:Nat):Int)=4294967295 from rfl] at h
 rw[h,show (4294967295:Nat)=2^32-1 from rfl,Nat.and_two_pow_sub_one_eq_mod,Nat.mod_eq_of_lt (by omega)]
theorem Ev_ (n:Nat) (hn:n<4294967296):(n:Int).fdiv (2^shN .u64 32)=0:=by
 rw[show shN .u64 32=32 from rfl,Int.fdiv_eq_ediv_of_nonneg _ (by decide)];omega
theorem w64 (n:Nat) (hn:n<4294967296):IntKind.u64.wrap (n:Int)=n:=by rw[IntKind.wrap_u64];omega
theorem wh_ (n:Nat) (hn:n<4294967296):Fn0 Tryz.prog 199 [.v (.int .u64 1),.v (.int .u64 n)] (.tup [.v (.int .u64 0),.v (.int .u64 n)]):=by
 have a1:bits .and .u64 1 4294967295=1:=by decide
 have a2:(1:Int).fdiv (2^shN .u64 32)=0:=by decide
 have a0:(0:Int).fdiv (2^shN .u64 32)=0:=by decide
 have a00:bits .and .u64 0 4294967295=0:=by decide
 have a3:=Fr_ n hn
 have a4:=Ev_ n hn
 have a5:=w64 n hn
 have a6:IntKind.u64.wrap 0=0:=by decide
 refine ad_ (pn:=an_) ac_ Tryz.func199 rfl fun β0=>?_
 simp only[Tryz.f199]
 repeat(first|apply wG|(apply wR;simp -dsimp[a0,a00,a1,a2,a3,a4,a5,a6])|refine aI ?_)
 refine WP.ret (ab_ ?_)
 simp -dsimp[a0,a00,a1,a2,a3,a4,a5,a6]
theorem By_ (n:Nat) (hn:n<4294967296):Fn0 Tryz.prog 140 [.v (.int .u64 1),.v (.int .u64 n)] (.tup [.v (.int .u64 0),.v (.int .u64 n)]):=by
 refine ad_ (pn:=an_) ac_ Tryz.func140 rfl fun β0=>?_
 simp only[Tryz.f140]
 refine sG ?_
 refine cF (by simp) ?_
 refine WP.skip ?_
 simp -dsimp
 refine sG ?_
 refine aa_ nG_ (wh_ n hn) rfl rfl (by simp) ?_
 simp -dsimp
 refine sG ?_
 refine WP.ret (ab_ ?_)
 simp -dsimp
theorem zf_ (n:Nat) (z:By):lsB (List.replicate n z)=List.replicate n (slB z):=by simp[lsB]
abbrev rpS (z:By) (n:Nat) (g c j:Nat) (xs:List D):St :=
 mkS 48 [(7,.d (.v (.slice (some ⟨g,0,none⟩) n c))),(8,.d (.v (.int .i64 j)))] [(30,Ex 22 1 g n c xs)]
abbrev nlB:D:=.v (.slice none 0 0)
theorem uU_ (n:Nat):bz_ (List.replicate n [Value.slice none 0 0]).flatten=(List.replicate n nlB).map .d:=by
 rw[List.flatten_replicate_singleton];simp[bz_]
def rpD (z:By) (n j:Nat):List D:=List.replicate j (slB z)++List.replicate (n-j) nlB
theorem yB_ (z:By) (n j:Nat) (hj:j≤n):(rpD z n j).take j++((rpD z n j).take (min j (n-j))++(rpD z n j).drop (j+min j (n-j)))=rpD z n (j+min j (n-j)):=by
 have h1:(rpD z n j).take j=List.replicate j (slB z):=by rw[rpD,List.take_left' (by simp)]
 have h2:(rpD z n j).take (min j (n-j))=List.replicate (min j (n-j)) (slB z):=by
  rw[rpD,List.take_append_of_le_length (by simp;omega),List.take_replicate];congr 1;omega
 have h3:(rpD z n j).drop (j+min j (n-j))=List.replicate (n-(j+min j (n-j))) nlB:=by
  rw[rpD,List.drop_append,List.length_replicate,List.drop_of_length_le (by simp),List.nil_append,List.drop_replicate];congr 1;omega
 rw[h1,h2,h3,← List.append_assoc,List.replicate_append_replicate,rpD]
set_option maxHeartbeats 1000000 in
theorem tf_ (z:By) (n:Nat) (h1:1≤n) (hn:n≤4096):Fun Tryz.prog 81 [.d (.sl 1 [slB z] 1 false),.d (.v (.int .i64 n))] [] (.row 0) [(0,.row 22 1 n ((lsB (List.replicate n z)).map .d))] fun _=>False:=by
 have e1:IntKind.u64.wrap (n:Int)=n:=w64 n (by omega)
 have e2:IntKind.i64.wrap (n:Int)=n:=IntWalk.i64_in _ (by omega)
 have e3:IntKind.u64.wrap 1=1:=by decide
 refine ad_ (pn:=an_) ac_ Tryz.func81 rfl fun β0=>?_
 simp only[Tryz.f81]
 refine sG ?_
 refine cF (by simp) ?_
 refine WP.skip ?_
 simp -dsimp
 repeat(first|apply wG|(apply wR;simp -dsimp[e1,e3])|refine aI ?_)
 refine aa_ n1_ (By_ n (by omega)) rfl rfl (by simp[e1,e3]) ?_
 simp -dsimp
 repeat(first|apply wG|(apply wR;simp -dsimp[e1,e2])|refine aI ?_)
 refine cF (by simp;omega) ?_
 refine WP.skip ?_
 simp -dsimp
 repeat(first|apply wG|(apply wR;simp -dsimp[e2])|refine aI ?_)
 refine cK_ ac_ 30 rfl rfl rfl (c:=n) rfl rfl (by simp;omega) (by simp[maxLen];omega) (by simp) (uU_ n) ?_
 simp -dsimp
 refine sG ?_
 refine eL_ ac_ rfl rfl rfl rfl rfl (by omega) (CpSrc.data rfl (by decide)) 1 (Nat.min_eq_left h1) (by simp) (cs':=(rpD z n 1).map .d) (by obtain⟨q,rfl⟩:∃ q,n=q+1:=⟨n-1,by omega⟩;simp[rpD,List.replicate_succ]) ?_
 simp -dsimp
 refine sG ?_
 refine x8_ (ya_ (k:=30) (T:=22) (sz:=1) (n:=n) (xs:=rpD z n 1) (by simp) (by omega)) ?_
 rintro⟨⟨g,c⟩,hnc,hcm⟩
 have hnc:n≤c:=hnc
 simp -dsimp[exA]
 refine ai_ (fun q S=>∃ j:Nat,q=n-j∧1≤j∧j≤n∧S=rpS z n g c j (rpD z n j)) (n-1) (S0:=rpS z n g c 1 (rpD z n 1)) (af_ [] (by simp) (by simp)) ⟨1,rfl,by omega,h1,rfl⟩ ?_
 rintro _ _ ⟨j,rfl,hj1,hjn,rfl⟩
 simp -dsimp
 refine sG ?_
 by_cases hj:j<n
 ·have e4:IntKind.i64.wrap ((j:Int)+(min j (n-j):Nat))=((j+min j (n-j):Nat):Int):=by rw[IntWalk.i64_in _ (by omega)];omega
  have hl:(rpD z n j).length=n:=by simp[rpD];omega
  have hst:=yB_ z n j (by omega)
  refine cT (by simp;omega) ?_
  refine WP.skip ?_
  simp -dsimp
  refine sG ?_
  refine c0_ ac_ rfl rfl rfl (l:=j) (h:=n) rfl rfl rfl (by omega) hnc (by omega) ?_
  simp -dsimp
  refine c0_ ac_ rfl rfl rfl (l:=0) (h:=j) rfl rfl rfl (by omega) (by omega) (by omega) ?_
  simp -dsimp
  refine fp_ ac_ rfl rfl rfl (k:=30) rfl rfl (xq_ (k:=30) rfl rfl) (min j (n-j)) rfl (by simp[hl];omega) (by simp[hl];omega) (by simp;omega) ?_
  simp -dsimp
  repeat refine aI ?_
  refine loopW.next (rpS z n g c (j+min j (n-j)) (rpD z n (j+min j (n-j)))) (af_ [] (by simp[e4]) (by simp[hst])) (n-(j+min j (n-j))) (by omega) ⟨_,rfl,by omega,by omega,rfl⟩
 ·obtain rfl:j=n:=by omega
  refine cF (by simp) ?_
  refine WP.exit ?_
  simp -dsimp
  refine sG ?_
  refine WP.ret (aj_ (S':=mkS 48 [(4,.row 0)] [(0,.row 22 1 j ((rpD z j j).map .d))]) ((va_ 4 30 0 j rfl hnc (by simp[rpD]) rfl (by simp[Ex])).trans (af_ [] (by simp) (by simp))) ?_)
  simp -dsimp[rpD,zf_]
theorem lB_ (n:Nat):bz_ (List.replicate n [Value.int IntKind.u8 0]).flatten=(bys (List.replicate n 0)).map .d:=by
 rw[List.flatten_replicate_singleton];simp[bz_,bys,a8_]
theorem xs_ {xs:List AV} {ds:List D} {e:AV} {x:D} (h:LeqL xs (ds.map .d)) (he:Leq e (.d x)):Leq (.tup [.agg xs,e]) (.d (.tup [.agg ds,x])) :=
 (Leq.tup (l:=[.agg xs,e]) (l':=[.d (.agg ds),.d x]) ⟨(Leq.agg h).trans (al_ _),he,trivial⟩).trans (f2_ [.agg ds,x])
theorem rE_ (z:By) (n:Nat) (h1:1≤n) (hn:n≤4096):Fun Tryz.prog 81 [.row 1000,.d (.v (.int .i64 n))] [(1000,.row 22 1 1 [.d (slB z)])] (.row 0) [(0,.row 22 1 n ((lsB (List.replicate n z)).map .d))] fun _=>False :=
 bo_ 1000 (T:=22) (cs:=[slB z]) (args':=[.row 1000,.d (.v (.int .i64 n))]) (bi':=[(1000,.row 22 1 1 ([slB z].map .d))]) (tf_ z n h1 hn) rfl rfl trivial
theorem wM_ (n:Nat) (h1:1≤n) (hn:n≤4096):Fn0 Tryz.prog 39 [.v (.int .i64 n)] (.tup [dkD ⟨List.replicate n (List.replicate 128 0),[],-1,false⟩,.v (.int .i64 0)]):=by
 refine ad_ (pn:=an_) ac_ Tryz.func39 rfl fun β0=>?_
 simp only[Tryz.f39]
 refine sG ?_
 refine cF (by simp;omega) ?_
 refine WP.skip ?_
 simp -dsimp
 refine sG ?_
 refine cK_ ac_ 12 rfl rfl rfl (c:=128) rfl rfl (by decide) (by decide) rfl (lB_ 128) ?_
 simp -dsimp
 refine ar_ (Wk.freeze (k:=12) (T:=5) (sz:=1) (n:=128) (ds:=bys (List.replicate 128 0)) rfl) ?_
 simp -dsimp
 refine sG ?_
 refine vcStop.call pC_ (rE_ (List.replicate 128 0) n h1 hn) (rl [(1000,14),(0,600)]) rfl rfl (by simp[slB,BoxLeq]) (ag_ (by simp[slB,BoxLeq]) rfl (by first|rfl|(simp[slB,BoxLeq];done)) (by simp[slB,BoxLeq]) (by simp[slB,BoxLeq])) (fun _ h=>h.elim) (fun ⟨_,h⟩=>h.elim) (fun ⟨_,h⟩=>h.elim) (by simp[slB,BoxLeq]) ?_
 simp -dsimp
 refine sG ?_
 refine WP.ret (aj_ (Wk.freeze (k:=600) (T:=22) (sz:=1) (n:=n) (ds:=lsB (List.replicate n (List.replicate 128 0))) rfl) ?_)
 simp -dsimp[dkD,dkC,wrD,wrC]
theorem wN_ (n:Int) (h:¬ (1≤n∧n≤4096)):Fn0 Tryz.prog 39 [.v (.int .i64 n)] (.tup [dkD ⟨[],[],0,false⟩,.v (.int .i64 1)]):=by
 refine ad_ (pn:=an_) ac_ Tryz.func39 rfl fun β0=>?_
 simp only[Tryz.f39]
 refine sG ?_
 refine cT (by simp;omega) ?_
 refine sG ?_
 refine WP.ret (ab_ ?_)
 simp -dsimp[dkD,dkC,wrD,wrC]
 exact xs_ ⟨Leq.nil 1,Leq.nil 2,.refl _,.refl _,trivial⟩ (.refl _)
end Go.Proofs.YtfgcgagcpnbgmaaGreatDoor
set_option maxRecDepth 10000
namespace Go.Proofs.YtfgcgagcpnbgmaaGreatDoor
open Go.Xe Go.RowKit
theorem Es_ (a b:W):bits .and .u32 (wI a) (wI b)=wI (a&&&b):=by
 have h:bits .and .u32 (wI a) (wI b)=IntKind.u32.wrap (wI (BitVec.ofInt 32 (wI a)&&&BitVec.ofInt 32 (wI b))):=rfl
 rw[h,Ag_,Ag_,sC_]
theorem Er_ (a b:W):IntKind.u32.wrap (wI a*wI b)=wI (a*b):=by
 have h:wI a*wI b=((a.toNat*b.toNat:Nat):Int):=by simp[wI]
 rw[h,wI,IntKind.wrap_u32,BitVec.toNat_mul];omega
theorem zK_ (x:W):bits .and .u32 (wI x) 1=wI (x&&&1#32):=Es_ x 1#32
theorem zJ_ (x:W):IntKind.u32.wrap (3988292384*wI x)=wI (0xEDB88320#32*x):=Er_ 0xEDB88320#32 x
theorem pi_ (x:W):(wI x).fdiv (2^shN .u32 1)=wI (x>>>1):=sB_ x 1
theorem uK_ (x:W):bits .xor .u32 4294967295 (wI x)=wI (4294967295#32^^^x):=b0_ 4294967295#32 x
theorem crcK_succ (n:W) (k:Nat):sx_ n (k+1)=crcT (sx_ n k):=rfl
theorem m9_ (n:W) (a:By) (c:UInt8):sy_ n (a++[c])=sx_ (sy_ n a^^^BitVec.ofNat 32 c.toNat) 8:=by rw[wR_];rfl
theorem qD_ {b:By} {i:Nat} (h:i<b.length):(bys b)[i]? = some (.v (.int .u8 (b[i].toNat:Int))):=by
 simp[bys,h,a8_]
theorem av_ {b:By} {i:Nat} (h:i<(bys b).length):(bys b)[i]=.v (.int .u8 ((b[i]'(by rwa[ah_] at h)).toNat:Int)):=by simp[bys,a8_]
theorem sF_:(if IntKind.u32.signed=true then (-1:Int) else IntKind.u32.max)=4294967295:=by decide
theorem dT_ (b:By) {i:Nat} (h:i<b.length):b.take (i+1)=b.take i++[b[i]]:=by rw[List.take_add_one,List.getElem?_eq_getElem h];rfl
theorem q4_ (b:By) (c:UInt8):beN (b++[c])=beN b*256+c.toNat:=by rw[beN,List.foldl_append];rfl
theorem wu_ (n c:Nat) (hn:n<72057594037927936) (hc:c<256):bits .or .u64 (IntKind.u64.wrap ((n:Int)*2^shN .u64 8)) (IntKind.u64.wrap (c:Int))=((n*256+c:Nat):Int):=by
 have e1:IntKind.u64.wrap ((n:Int)*2^shN .u64 8)=((n*256:Nat):Int):=by
  rw[show shN .u64 8=8 from rfl,IntKind.wrap_u64];omega
 have e2:IntKind.u64.wrap (c:Int)=(c:Int):=by rw[IntKind.wrap_u64];omega
 have h:=Nat.shiftLeft_add_eq_or_of_lt (i:=8) (b:=c) (by omega) n
 rw[Nat.shiftLeft_eq] at h
 rw[e1,e2,bits_or_u64_nat _ _ (by omega) (by omega),← h]
abbrev gtS (b:By) (i:Nat):St:=mkS 18 [(2,.d (.v (.int .u64 (beN (b.take i))))),(5,.d (slB b)),(6,.d (.v (.int .i64 b.length))),(7,.d (.v (.int .i64 i)))] []
set_option maxHeartbeats 1000000 in
theorem iP_ (b:By) (hb:b.length≤4):Fn0 Tryz.prog 100 [slB b] (.v (.int .u64 (beN b))):=by
 refine ad_ (pn:=an_) ac_ Tryz.func100 rfl fun β0=>?_
 simp only[Tryz.f100]
 repeat(first|apply wG|(apply wR;simp -dsimp[slB])|refine aI ?_)
 refine ai_ (fun q S=>∃ i:Nat,q=b.length-i∧i≤b.length∧S=gtS b i) b.length (S0:=gtS b 0) (af_ [] (by simp[slB];exact .refl _) (by simp)) ⟨0,rfl,by omega,rfl⟩ ?_
 rintro _ _ ⟨i,rfl,hi,rfl⟩
 simp -dsimp[slB]
 refine sG ?_
 by_cases hin:i<b.length
 ·have hat:=qD_ hin
  have hsn:=q4_ (b.take i) b[i]
  rw[← dT_ b hin] at hsn
  have e1:IntKind.i64.wrap ((i:Int)+1)=((i+1:Nat):Int):=by rw[IntWalk.i64_in _ (by omega)];omega
  have hlt:=i3_ (b.take i)
  have hl3:(b.take i).length≤3:=by rw[List.length_take];omega
  have hp:256^(b.take i).length≤256^3:=Nat.pow_le_pow_right (by decide) hl3
  have es:=wu_ (beN (b.take i)) b[i].toNat (by omega) b[i].toNat_lt
  have lb:=ah_ b
  generalize beN (b.take i)=x at *
  refine cT (by simp;omega) ?_
  refine WP.skip ?_
  simp -dsimp
  repeat(first|apply wG|(apply wR;simp -dsimp[av_,lb,hin,es])|refine aI ?_)
  refine loopW.next (gtS b (i+1)) (af_ [] (by simp[slB,e1,hsn]) (by simp)) (b.length-(i+1)) (by omega) ⟨i+1,rfl,by omega,rfl⟩
 ·obtain rfl:i=b.length:=by omega
  refine cF (by simp) ?_
  refine WP.exit ?_
  simp -dsimp
  refine sG ?_
  refine WP.ret (ab_ ?_)
  simp -dsimp[List.take_length]
def jputS (s:By) (off m n i:Nat):By:=s.take (off+m-i)++(beB n i++s.drop (off+m))
theorem t7_ (s:By) (off m n i:Nat) (h:off+m≤s.length) (hi:i≤m):(jputS s off m n i).length=s.length:=by
 simp only[jputS,List.length_append,List.length_take,List.length_drop,bB_];omega
theorem rY_ (s:By) (off m n i:Nat) (h:off+m≤s.length) (hi:i<m):(jputS s off m n i).set (off+(m-1-i)) (UInt8.ofNat (n/256^i))=jputS s off m n (i+1):=by
 have l1:(s.take (off+m-(i+1))).length=off+(m-1-i):=by rw[List.length_take];omega
 have h1:s.take (off+m-i)=s.take (off+m-(i+1))++[s[off+m-(i+1)]'(by omega)]:=by
  rw[show off+m-i=(off+m-(i+1))+1 by omega,dT_ s (by omega)]
 rw[jputS,jputS,h1,List.append_assoc,List.set_append_right _ _ (by omega),l1,Nat.sub_self]
 rfl
theorem t8_ (s:By) (off m n:Nat):jputS s off m n m=s.take off++(beB n m++s.drop (off+m)):=by rw[jputS,Nat.add_sub_cancel]
theorem v0_ (n i:Nat) (hn:n<18446744073709551616) (hi:i<4):IntKind.u8.wrap ((n:Int).fdiv (2^shN .u64 (8*(i:Int))))=((UInt8.ofNat (n/256^i)).toNat:Int):=by
 have key:∀ k:Nat,IntKind.u8.wrap ((n:Int).fdiv (2^k))=((UInt8.ofNat (n/2^k)).toNat:Int):=fun k=>by
  have h:((2:Int)^k)=((2^k:Nat):Int):=by simp
  rw[IntKind.wrap_u8,UInt8.toNat_ofNat',h,Int.fdiv_eq_ediv_of_nonneg _ (Int.natCast_nonneg _),← Int.natCast_ediv];omega
 rcases (by omega:i=0∨i=1∨i=2∨i=3) with rfl|rfl|rfl|rfl
 ·exact key 0
 ·exact key 8
 ·exact key 16
 ·exact key 24
theorem bysA_set (s:By) (i:Nat) (c:UInt8):((bys s).map AV.d).set i (.d (.v (.int .u8 (c.toNat:Int))))=(bys (s.set i c)).map .d:=by
 rw[bys,bys,List.map_set,List.map_set];rfl
abbrev ptS (s:By) (off m c n i:Nat):St:=mkS 23 [(0,.psl 1000 off m c),(1,.d (.v (.int .u64 n))),(6,.d (.v (.int .i64 m))),(7,.d (.v (.int .i64 i)))] [(1000,.cells 247 ((bys (jputS s off m n i)).map .d))]
set_option maxHeartbeats 1000000 in
theorem lj_ (s:By) (off m c n:Nat) (h:off+m≤s.length) (hm:m≤4) (hmc:m≤c) (hn:n<18446744073709551616):Fun Tryz.prog 169 [.psl 1000 off m c,.d (.v (.int .u64 n))] [(1000,.cells 247 ((bys s).map .d))] (.d .any) [(1000,.cells 247 ((bys (s.take off++(beB n m++s.drop (off+m)))).map .d))] fun _=>False:=by
 refine ad_ (pn:=an_) ac_ Tryz.func169 rfl fun β0=>?_
 simp only[Tryz.f169]
 refine sG ?_
 refine ai_ (fun q S=>∃ i:Nat,q=m-i∧i≤m∧S=ptS s off m c n i) m (S0:=ptS s off m c n 0) (af_ [] (by simp) (by simp[jputS,beB])) ⟨0,rfl,by omega,rfl⟩ ?_
 rintro _ _ ⟨i,rfl,hi,rfl⟩
 simp -dsimp
 refine sG ?_
 by_cases hin:i<m
 ·have e1:IntKind.i64.wrap ((i:Int)+1)=((i+1:Nat):Int):=by rw[IntWalk.i64_in _ (by omega)];omega
  have e2:IntKind.i64.wrap (IntKind.i64.wrap ((m:Int)-1)-i)=((m-1-i:Nat):Int):=by rw[IntWalk.i64_in ((m:Int)-1) (by omega),IntWalk.i64_in _ (by omega)];omega
  have eb:=v0_ n i hn (by omega)
  have e3:IntKind.i64.wrap (8*(i:Int))=8*(i:Int):=IntWalk.i64_in _ (by omega)
  have lp:=t7_ s off m n i h (by omega)
  have ls:=ah_ (jputS s off m n i)
  have st:=rY_ s off m n i h hin
  obtain⟨ch,hch⟩:∃ ch,UInt8.ofNat (n/256^i)=ch:=⟨_,rfl⟩
  rw[hch] at eb st
  refine cT (by simp;omega) ?_
  refine WP.skip ?_
  simp -dsimp
  repeat(first|apply wG|(apply wR;simp -dsimp[e2,e3,eb,lp,ls,bysA_set,st])|refine aI ?_)
  refine loopW.next (ptS s off m c n (i+1)) (af_ [] (by simp[e1]) (by simp[bysA_set,st])) (m-(i+1)) (by omega) ⟨i+1,rfl,by omega,rfl⟩
 ·obtain rfl:i=m:=by omega
  have hall:=t8_ s off i n
  refine cF (by simp) ?_
  refine WP.exit ?_
  simp -dsimp
  refine sG ?_
  refine cO_ ?_
  simp -dsimp[hall]
end Go.Proofs.YtfgcgagcpnbgmaaGreatDoor
set_option maxRecDepth 10000
namespace Go.Proofs.YtfgcgagcpnbgmaaGreatDoor
open Go.Xe Go.RowKit
theorem vU_ (n c:Nat) (hn:n<72057594037927936) (hc:c<256):IntKind.u64.wrap (IntKind.u64.wrap (256*(n:Int))+IntKind.u64.wrap (c:Int))=((n*256+c:Nat):Int):=by
 rw[IntKind.wrap_u64,IntKind.wrap_u64,IntKind.wrap_u64];omega
abbrev rnS (b:By) (i:Nat):St:=mkS 20 [(0,.d (slB b)),(3,.d (.v (.int .u64 (beN (b.take i))))),(4,.d (.v (.int .i64 i)))] []
set_option maxHeartbeats 1000000 in
theorem cz_ (b:By) (hb:b.length≤4):Fn0 Tryz.prog 155 [slB b] (.v (.int .u64 (beN b))):=by
 refine ad_ (pn:=an_) ac_ Tryz.func155 rfl fun β0=>?_
 simp only[Tryz.f155]
 repeat(first|apply wG|(apply wR;simp -dsimp[slB])|refine aI ?_)
 refine ai_ (fun q S=>∃ i:Nat,q=b.length-i∧i≤b.length∧S=rnS b i) b.length (S0:=rnS b 0) (af_ [] (by simp[slB];exact .refl _) (by simp)) ⟨0,rfl,by omega,rfl⟩ ?_
 rintro _ _ ⟨i,rfl,hi,rfl⟩
 simp -dsimp[slB]
 refine sG ?_
 by_cases hin:i<b.length
 ·have hsn:=q4_ (b.take i) b[i]
  rw[← dT_ b hin] at hsn
  have e1:IntKind.i64.wrap ((i:Int)+1)=((i+1:Nat):Int):=by rw[IntWalk.i64_in _ (by omega)];omega
  have hlt:=i3_ (b.take i)
  have hl3:(b.take i).length≤3:=by rw[List.length_take];omega
  have hp:256^(b.take i).length≤256^3:=Nat.pow_le_pow_right (by decide) hl3
  have es:=vU_ (beN (b.take i)) b[i].toNat (by omega) b[i].toNat_lt
  have lb:=ah_ b
  generalize beN (b.take i)=x at *
  refine cT (by simp;omega) ?_
  refine WP.skip ?_
  simp -dsimp
  repeat(first|apply wG|(apply wR;simp -dsimp[av_,lb,hin,es])|refine aI ?_)
  refine loopW.next (rnS b (i+1)) (af_ [] (by simp[slB,e1,hsn]) (by simp)) (b.length-(i+1)) (by omega) ⟨i+1,rfl,by omega,rfl⟩
 ·obtain rfl:i=b.length:=by omega
  refine cF (by simp) ?_
  refine WP.exit ?_
  simp -dsimp
  refine sG ?_
  refine WP.ret (ab_ ?_)
  simp -dsimp[List.take_length]
theorem yF_ (x:W):(wI x).tmod 2=((x.toNat%2:Nat):Int):=by
 rw[wI,Int.tmod_eq_emod_of_nonneg (by omega)];omega
theorem yJ_ (x:W):bits .xor .u32 (wI x) 3988292384=wI (x^^^3988292384#32):=b0_ x 3988292384#32
theorem tu_ (x:W):bits .xor .u32 (wI x) 4294967295=wI (4294967295#32^^^x):=by rw[BitVec.xor_comm];exact b0_ x 4294967295#32
abbrev rcO (b:By) (i:Nat):St:=mkS 33 [(0,.d (slB b)),(3,.d (.v (.int .u32 (wI (sy_ 4294967295#32 (b.take i)))))),(4,.d (.v (.int .i64 i)))] []
abbrev rcI (b:By) (i:Nat) (x:W) (j:Nat):St:=mkS 33 [(0,.d (slB b)),(3,.d (.v (.int .u32 (wI (sx_ x j))))),(4,.d (.v (.int .i64 i))),(5,.d (.v (.int .i64 j)))] []
set_option maxHeartbeats 1000000 in
theorem tn_ (b:By) (hb:b.length≤1000000):Fn0 Tryz.prog 183 [slB b] (.v (.int .u32 (wI (crcB b)))):=by
 refine ad_ (pn:=an_) ac_ Tryz.func183 rfl fun β0=>?_
 simp only[Tryz.f183]
 repeat(first|apply wG|(apply wR;simp -dsimp[slB])|refine aI ?_)
 refine ai_ (fun q S=>∃ i:Nat,q=b.length-i∧i≤b.length∧S=rcO b i) b.length (S0:=rcO b 0) (af_ [] (by simp[slB,sy_];exact .refl _) (by simp)) ⟨0,rfl,by omega,rfl⟩ ?_
 rintro _ _ ⟨i,rfl,hi,rfl⟩
 simp -dsimp[slB]
 refine sG ?_
 by_cases hin:i<b.length
 ·have hsn:=m9_ 4294967295#32 (b.take i) b[i]
  rw[← dT_ b hin] at hsn
  have e1:IntKind.i64.wrap ((i:Int)+1)=((i+1:Nat):Int):=by rw[IntWalk.i64_in _ (by omega)];omega
  have ec:=hN_ b[i]
  have lb:=ah_ b
  generalize hx:sy_ 4294967295#32 (b.take i)=x at *
  refine cT (by simp;omega) ?_
  refine WP.skip ?_
  simp -dsimp
  repeat(first|apply wG|(apply wR;simp -dsimp[av_,lb,hin,ec,b0_])|refine aI ?_)
  refine ai_ (fun q S=>∃ j:Nat,q=8-j∧j≤8∧S=rcI b i (x^^^BitVec.ofNat 32 b[i].toNat) j) 8 (S0:=rcI b i (x^^^BitVec.ofNat 32 b[i].toNat) 0) (af_ [] (by simp[slB,sx_]) (by simp)) ⟨0,rfl,by omega,rfl⟩ ?_
  rintro _ _ ⟨j,rfl,hj,rfl⟩
  simp -dsimp[slB]
  refine sG ?_
  by_cases hj8:j<8
  ·have e2:IntKind.i64.wrap ((j:Int)+1)=((j+1:Nat):Int):=by rw[IntWalk.i64_in _ (by omega)];omega
   have hk:=yG_ (sx_ (x^^^BitVec.ofNat 32 b[i].toNat) j)
   rw[← crcK_succ,EB_] at hk
   have ht:=yF_ (sx_ (x^^^BitVec.ofNat 32 b[i].toNat) j)
   refine cT (by simp;omega) ?_
   refine WP.skip ?_
   simp -dsimp
   repeat(first|apply wG|(apply wR;simp -dsimp[ht])|refine aI ?_)
   by_cases h1:(sx_ (x^^^BitVec.ofNat 32 b[i].toNat) j).toNat%2=1
   ·rw[if_pos h1] at hk
    refine cT (by simp;omega) ?_
    repeat(first|apply wG|(apply wR;simp -dsimp[pi_,yJ_,hk])|refine aI ?_)
    refine loopW.next (rcI b i (x^^^BitVec.ofNat 32 b[i].toNat) (j+1)) (af_ [] (by simp[slB,e2,hk]) (by simp)) (8-(j+1)) (by omega) ⟨j+1,rfl,by omega,rfl⟩
   ·rw[if_neg h1] at hk
    refine cF (by simp;omega) ?_
    repeat(first|apply wG|(apply wR;simp -dsimp[pi_,hk])|refine aI ?_)
    refine loopW.next (rcI b i (x^^^BitVec.ofNat 32 b[i].toNat) (j+1)) (af_ [] (by simp[slB,e2,hk]) (by simp)) (8-(j+1)) (by omega) ⟨j+1,rfl,by omega,rfl⟩
  ·obtain rfl:j=8:=by omega
   refine cF (by simp) ?_
   refine WP.exit ?_
   simp -dsimp
   refine sG ?_
   refine loopW.next (rcO b (i+1)) (af_ [] (by simp[slB,e1,hsn]) (by simp)) (b.length-(i+1)) (by omega) ⟨i+1,rfl,by omega,rfl⟩
 ·obtain rfl:i=b.length:=by omega
  refine cF (by simp) ?_
  refine WP.exit ?_
  simp -dsimp
  repeat(first|apply wG|(apply wR;simp -dsimp[tu_,List.take_length])|refine aI ?_)
  refine WP.ret (ab_ ?_)
  simp -dsimp[tu_,crcB,List.take_length]
end Go.Proofs.YtfgcgagcpnbgmaaGreatDoor
