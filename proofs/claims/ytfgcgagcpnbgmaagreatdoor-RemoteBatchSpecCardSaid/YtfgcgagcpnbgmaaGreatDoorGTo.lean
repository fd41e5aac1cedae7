/-
  Joined texts.
-/
import Derived.Test.YtfgcgagcpnbgmaaGreatDoorGNb
import Derived.Test.YtfgcgagcpnbgmaaGreatDoorGTd
import Derived.Test.YtfgcgagcpnbgmaaGreatDoorGA
import Derived.Test.YtfgcgagcpnbgmaaGreatDoorGEngCr
set_option linter.all false
namespace Go.Proofs.YtfgcgagcpnbgmaaGreatDoor
open Go.Xe Go.RowKit
theorem AD_ (x w:Nat):UInt8.ofNat (x+256*w)=UInt8.ofNat x:=by
 apply UInt8.toNat_inj.1
 rw[UInt8.toNat_ofNat',UInt8.toNat_ofNat']
 omega
theorem u6_ (a n:Nat):∀ {k j:Nat},k≤j→beB (a*256^j+n) k=beB n k
 | 0,_,_=>rfl
 | k+1,j,h=>by
  obtain⟨d,rfl⟩:∃ d,j=k+1+d:=⟨j-(k+1),by omega⟩
  have e:a*256^(k+1+d)+n=n+256^k*(256*(a*256^d)):=by
   rw[Nat.pow_add,Nat.pow_succ]
   simp[Nat.mul_left_comm,Nat.mul_comm,Nat.mul_assoc,Nat.add_comm]
  have hd:(n+256^k*(256*(a*256^d)))/256^k=n/256^k+256*(a*256^d):=Nat.add_mul_div_left _ _ (Nat.pow_pos (by decide))
  rw[beB,u6_ a n (by omega),beB,e,hd,AD_]
theorem i4_:∀ b:By,beB (beN b) b.length=b
 | []=>rfl
 | c::b=>by
  have h:=i3_ b
  have hd:(c.toNat*256^b.length+beN b)/256^b.length=c.toNat:=by
   rw[Nat.mul_comm,Nat.mul_add_div (Nat.pow_pos (by decide)),Nat.div_eq_of_lt h,Nat.add_zero]
  rw[List.length_cons,beB,lK_,u6_ _ _ (Nat.le_refl _),i4_ b,hd,UInt8.ofNat_toNat]
def gdR (s:By) (num:Nat):Prop :=
 genS s≠0∧genS s=tailS s∧beN ((s.drop 4).take 4)=(crcB ((s.drop 8).take 116)).toNat∧beN ((s.drop 8).take 2)=num∧knd s≤3∧pcL s≤112∧(knd s<2→pcL s=112)∧(knd s%2=0→pcL s≠0) ∧
  (s.drop (12+pcL s)).take (112-pcL s)=List.replicate (112-pcL s) 0
section
variable {g num kind:Nat} {b:By} (hb:b.length≤112)
include hb
omit hb in
theorem yw_:((secE g num kind b).drop 4).take 4=beB (crcB (bodS num kind b)).toNat 4:=by
 rw[secE,List.drop_left' (bB_ _ _),List.take_left' (bB_ _ _)]
omit hb in
theorem xv_:(secE g num kind b).drop 8=bodS num kind b++beB g 4:=by
 have h:secE g num kind b=(beB g 4++beB (crcB (bodS num kind b)).toNat 4)++(bodS num kind b++beB g 4):=by simp[secE]
 rw[h,List.drop_left' (by simp[bB_])]
theorem yx_:((secE g num kind b).drop 8).take 116=bodS num kind b:=by
 rw[xv_,List.take_left' (lI_ hb)]
omit hb in
theorem yv_:((secE g num kind b).drop 8).take 2=beB num 2:=by
 rw[xv_,bodS,List.append_assoc,List.take_left' (bB_ _ _)]
omit hb in
theorem vQ_:((secE g num kind b).drop (12+b.length)).take (112-b.length)=List.replicate (112-b.length) 0:=by
 have h:secE g num kind b=(beB g 4++beB (crcB (bodS num kind b)).toNat 4++beB num 2++[UInt8.ofNat kind,UInt8.ofNat b.length]++b)++(List.replicate (112-b.length) 0++beB g 4):=by
  simp[secE,bodS]
 rw[h,List.drop_left' (by simp[bB_];omega),List.take_left' (by simp)]
end
theorem ne_ {s:By} {i:Nat} (h:i<s.length):s.drop i=byA s i::s.drop (i+1):=by
 rw[List.drop_eq_getElem_cons h]
 congr 1
 simp[byA,List.getD_eq_getElem?_getD,List.getElem?_eq_getElem h]
theorem jU_ (s:By) (n m:Nat):s.take (n+m)=s.take n++(s.drop n).take m:=by rw[List.take_add]
theorem zp_ {s:By} {num:Nat} (hs:s.length=128) (hn:num<65536):gdR s num↔gdB s num=true:=by
 simp only[gdB,begS,or_,Bool.and_eq_true,Bool.or_eq_true,decide_eq_true_eq]
 have hk4:(s.take 4).length=4:=by rw[List.length_take];omega
 have hk128:(s.drop 124).length=4:=by rw[List.length_drop];omega
 constructor
 ·rintro⟨h1,h2,h3,h4,h5,h6,h7,h8,h9⟩
  have hp:(pcS s).length=pcL s:=by rw[pcS,List.length_take,List.length_drop];omega
  refine⟨h6,h5,by omega,by omega,by omega,?_⟩
  have e4:beB (genS s) 4=s.take 4:=by
   have:=i4_ (s.take 4)
   rw[hk4] at this;exact this
  have e124:beB (genS s) 4=s.drop 124:=by
   have:=i4_ (s.drop 124)
   rw[hk128] at this
   rw[h2];exact this
  have e8:beB num 2=(s.drop 8).take 2:=by
   have h:=i4_ ((s.drop 8).take 2)
   rw[show ((s.drop 8).take 2).length=2 by rw[List.length_take,List.length_drop];omega,h4] at h
   exact h
  have hkn:UInt8.ofNat (knd s)=byA s 10:=by rw[knd,UInt8.ofNat_toNat]
  have hpl:UInt8.ofNat (pcL s)=byA s 11:=by rw[pcL,UInt8.ofNat_toNat]
  have eb:bodS num (knd s) (pcS s)=(s.drop 8).take 116:=by
   have t1:(s.drop 8).take 116=(s.drop 8).take 2++(s.drop 10).take 114:=by
    have:=jU_ (s.drop 8) 2 114
    rw[List.drop_drop] at this;exact this
   have t2:(s.drop 10).take 114=byA s 10::byA s 11::(s.drop 12).take 112:=by
    rw[ne_ (show 10<s.length by omega),ne_ (show 11<s.length by omega)];rfl
   have t3:(s.drop 12).take 112=(s.drop 12).take (pcL s)++(s.drop (12+pcL s)).take (112-pcL s):=by
    have:=jU_ (s.drop 12) (pcL s) (112-pcL s)
    rw[List.drop_drop,show pcL s+(112-pcL s)=112 by omega] at this;exact this
   rw[bodS,hp,hkn,hpl,e8,t1,t2,t3,h9];rfl
  have ec:beB (crcB (bodS num (knd s) (pcS s))).toNat 4=(s.drop 4).take 4:=by
   have h:=i4_ ((s.drop 4).take 4)
   rw[show ((s.drop 4).take 4).length=4 by rw[List.length_take,List.length_drop];omega,h3] at h
   rw[eb];exact h
  rw[secE,ec,eb,e4]
  have t1:s.drop 4=(s.drop 4).take 4++s.drop 8:=by
   have:=List.take_append_drop 4 (s.drop 4)
   rw[List.drop_drop] at this;exact this.symm
  have t2:s.drop 8=(s.drop 8).take 116++s.drop 124:=by
   have:=List.take_append_drop 116 (s.drop 8)
   rw[List.drop_drop] at this;exact this.symm
  have e0:s.take 4=s.drop 124:=e4.symm.trans e124
  calc s=s.take 4++s.drop 4:=(List.take_append_drop 4 s).symm
   _=s.take 4++((s.drop 4).take 4++((s.drop 8).take 116++s.drop 124)):=by rw[← t2,← t1]
   _=s.take 4++((s.drop 4).take 4++((s.drop 8).take 116++s.take 4)):=by rw[e0]
 ·rintro⟨h1,h2,h3,h4,h5,h6⟩
  have hg:=gu_ s
  have hp:(pcS s).length≤112:=by rw[pcS,List.length_take];omega
  have hpl:(pcS s).length=pcL s:=by rw[pcS,List.length_take,List.length_drop];omega
  have e3:=yw_ (g:=genS s) (num:=num) (kind:=knd s) (b:=pcS s)
  have e4:=yv_ (g:=genS s) (num:=num) (kind:=knd s) (b:=pcS s)
  have e5:=yx_ (g:=genS s) (num:=num) (kind:=knd s) hp
  have e6:=vQ_ (g:=genS s) (num:=num) (kind:=knd s) (b:=pcS s)
  have e7:=qa_ (g:=genS s) (num:=num) (kind:=knd s) hg hp
  rw[← h6] at e3 e4 e5 e6 e7
  rw[hpl] at e6
  refine⟨by omega,e7.symm,?_,?_,h2,h1,by omega,by omega,e6⟩
  ·rw[e3,Fn_ (by have:=(crcB (bodS num (knd s) (pcS s))).isLt;omega),e5]
  ·rw[e4,pp_];omega
theorem pn_ {s:By} {i:Nat} (h:i<s.length):byA s i=s[i]:=by
 simp[byA,List.getD_eq_getElem?_getD,List.getElem?_eq_getElem h]
theorem vp_ {s:By} {o n:Nat} (h:o+n≤s.length):(s.drop o).take n=List.replicate n 0↔∀ x,o≤x→x<o+n→byA s x=0:=by
 rw[List.eq_replicate_iff]
 constructor
 ·rintro⟨_,h2⟩ x h3 h4
  refine h2 _ (List.mem_iff_getElem.2 ⟨x-o,by rw[List.length_take,List.length_drop];omega,?_⟩)
  rw[List.getElem_take,List.getElem_drop,pn_ (by omega)]
  congr 1;omega
 ·intro h2
  refine⟨by rw[List.length_take,List.length_drop];omega,fun b hb=>?_⟩
  obtain⟨i,hi,rfl⟩:=List.mem_iff_getElem.1 hb
  rw[List.length_take,List.length_drop] at hi
  have h3:=h2 (o+i) (by omega) (by omega)
  rw[pn_ (by omega)] at h3
  rw[List.getElem_take,List.getElem_drop,h3]
def EB_ (n:W):W:=if n.toNat%2=1 then n>>>1^^^3988292384#32 else n>>>1
theorem yG_ (n:W):EB_ n=crcT n:=by
 have h:n&&&1#32=BitVec.ofNat 32 (n.toNat%2):=by
  apply BitVec.eq_of_toNat_eq
  rw[BitVec.toNat_and,BitVec.toNat_ofNat]
  rw[show 1%2^32=2^1-1 from rfl,Nat.and_two_pow_sub_one_eq_mod,BitVec.toNat_ofNat]
  omega
 rw[EB_,crcT,h]
 rcases Nat.mod_two_eq_zero_or_one n.toNat with h0|h0
 ·rw[h0,if_neg (by decide)];simp
 ·rw[h0,if_pos rfl];rfl
end Go.Proofs.YtfgcgagcpnbgmaaGreatDoor
namespace Go.Proofs.YtfgcgagcpnbgmaaGreatDoor
open Go.Xe Go.RowKit
set_option maxRecDepth 10000 in
theorem cy_ (hsum:∀ b:List UInt8,b.length≤100000→Fn0 Tryz.prog 202 [slB b] (dD (gb_ b))) (s:ByteArray) (hs:s.size≤1000) (b:List UInt8) (hb:b.length≤90000):Fn0 Tryz.prog 148 [.v (.string s),slB b] (dD (tagB s.data.toList b)):=by
 have hsl:s.size=s.data.toList.length:=rfl
 obtain⟨t,ht⟩:∃ t,s.data.toList=t:=⟨_,rfl⟩
 rw[ht] at hsl
 obtain⟨T,hT⟩:∃ T,gb_ t=T:=⟨_,rfl⟩
 have lT:T.length=32:=by rw[← hT,sumB_len]
 have h1:=hsum t (by omega)
 have h2:=hsum (T++b) (by simp;omega)
 have h2r:Fun Tryz.prog 202 [.row 1000] [(1000,.row 5 1 (T++b).length ((bys (T++b)).map .d))] (.d (dD (gb_ (T++b)))) [] fun _=>False:=bo_ 1000 (T:=5) (cs:=bys (T++b)) (args':=[.row 1000]) (bi':=[(1000,.row 5 1 (T++b).length ((bys (T++b)).map .d))]) h2 rfl rfl trivial
 have eT:tagB t b=gb_ (T++b):=by rw[tagB,hT]
 have eb:bys (T++b)=bys T++bys b:=by rw[bys,bys,bys,List.map_append]
 rw[hT] at h1
 rw[ht,eT]
 refine ad_ (pn:=an_) ac_ Tryz.func148 rfl fun β0=>?_
 simp only[Tryz.f148]
 repeat(first|apply wG|(apply wR;simp -dsimp[ht])|refine aI ?_)
 refine aa_ hf_ h1 rfl rfl (by first|(simp[slB,hsl];done)|(simp[slB,bys,hsl];done)) ?_
 simp -dsimp[dD]
 refine And.intro ⟨lT,fun a h=>ap_ h⟩ ?_
 refine ar_ (aR_ (k:=5) (T:=87) (ds:=bys T) (by simp[setL_whole,lT,ah_])) ?_
 simp -dsimp[fS_,fzc,de_,op_]
 refine sG ?_
 refine aw_ ac_ rfl rfl rfl rfl (by simp[ah_,lT]) (by decide) rfl ?_
 simp -dsimp[bM_,lT,slB]
 repeat(first|apply wG|(apply wR;simp -dsimp[slB,ah_,lT])|refine aI ?_)
 refine vcStop.call hf_ (h2r) (rl [(1000,13)]) rfl rfl (by simp[eb,lT,BoxLeq]) (ag_ (by simp[eb,lT,BoxLeq]) rfl (by first|rfl|(simp[eb,lT,BoxLeq];done)) (by simp[eb,lT,BoxLeq]) (by simp[eb,lT,BoxLeq])) (fun _ h=>h.elim) (fun ⟨_,h⟩=>h.elim) (fun ⟨_,h⟩=>h.elim) (by simp[eb,lT,BoxLeq]) ?_
 simp -dsimp[dD]
 refine And.intro ⟨sumB_len _,fun a h=>ap_ h⟩ ?_
 repeat(first|apply wG|(apply wR;simp -dsimp[ah_,sumB_len])|refine aI ?_)
 refine WP.ret (ab_ ?_)
 simp -dsimp[setL_whole,ah_,sumB_len,aF_]
 exact al_ _
end Go.Proofs.YtfgcgagcpnbgmaaGreatDoor
set_option maxRecDepth 10000
namespace Go.Proofs.YtfgcgagcpnbgmaaGreatDoor
open Go.Xe Go.RowKit
def permI:List D:=permT.flatten.map fun (k:Nat)=>.v (.int .i64 (k:Int))
theorem it_:permI.length=160:=rfl
theorem tD_:∀ r,r<10→∀ j,j<16→permT.flatten[r*16+j]? = some (ptA r j):=by decide +kernel
theorem mz_ (r j:Nat) (hr:r<10) (hj:j<16):permI[r*16+j]? = some (.v (.int .i64 (ptA r j:Int))):=by
 rw[permI,List.getElem?_map,tD_ r hr j hj];rfl
theorem es_ {l:List W} {a:D} (h:a∈u32L l):oneD a=true:=by
 obtain⟨j,_,rfl⟩:=List.mem_map.1 h
 rfl
set_option maxHeartbeats 4000000 in
theorem rH_:Fn0 Tryz.prog 267 [] (.agg permI):=by
 refine ad_ (pn:=an_) ac_ Tryz.func267 rfl fun β0=>?_
 simp only[Tryz.f267]
 refine sG ?_
 refine WP.ret (ab_ ?_)
 simp -dsimp
 exact al_ permI
theorem FX_ (a b c d x y:W):m4 a b c d x y=xJ_ a b c d x y:=by
 simp only[m4,xJ_,xw_]
def plQ (i:Nat):Nat×Nat×Nat×Nat:=if 4≤i then (i%4,4+(i%4+1)%4,8+(i%4+2)%4,12+(i%4+3)%4) else (i%4,4+i%4,8+i%4,12+i%4)
theorem rG_ (m:List W) (r:Nat) (v:List W) (i a b c d:Nat) (h:plQ i=(a,b,c,d)) :
  refRd m r v (i+1)=v2_ (refRd m r v i) a b c d (xJ_ (gW (refRd m r v i) a) (gW (refRd m r v i) b) (gW (refRd m r v i) c) (gW (refRd m r v i) d) (gW m (ptA r (2*i))) (gW m (ptA r (2*i+1)))):=by
 rw[refRd]
 rw[show (if 4≤i then (i%4,4+(i%4+1)%4,8+(i%4+2)%4,12+(i%4+3)%4) else (i%4,4+i%4,8+i%4,12+i%4))=plQ i from rfl,h]
def z8:List W:=List.replicate 8 0
abbrev rb1 (h:List W) (b:List UInt8) (n:Nat) (last:Bool) (i:Nat):St :=
 mkS 182 [(1,.d (slB b)),(2,.d (.v (.int .u64 n))),(3,.d (.v (.bool last))),(4,.ptr 4 0),(8,.ptr 8 0),(9,.ptr 9 0),(10,.d (.v (.int .i64 i)))] [(4,.cells 307 ((u32L h).map .d)),(8,.cells 307 ((u32L z8).map .d)),(9,.cells 325 ((u32L (bV_ b i)).map .d))]
abbrev rb2 (h M:List W) (n:Nat) (last:Bool) (i:Nat):St :=
 mkS 182 [(2,.d (.v (.int .u64 n))),(3,.d (.v (.bool last))),(4,.ptr 4 0),(8,.ptr 8 0),(9,.ptr 9 0),(11,.ptr 11 0),(12,.ptr 12 0),(13,.d (.v (.int .i64 i)))] [(4,.cells 307 ((u32L h).map .d)),(8,.cells 307 ((u32L z8).map .d)),(9,.cells 325 ((u32L M).map .d)),(11,.cells 325 ((u32L (filV h i)).map .d)),(12,.cells 307 ((u32L iniV).map .d))]
abbrev rbx (h M V:List W):Bxs:=[(4,.cells 307 ((u32L h).map .d)),(8,.cells 307 ((u32L z8).map .d)),(9,.cells 325 ((u32L M).map .d)),(11,.cells 325 ((u32L V).map .d))]
abbrev rbh (h M V:List W):St:=mkS 182 [(4,.ptr 4 0),(8,.ptr 8 0),(9,.ptr 9 0),(11,.ptr 11 0)] (rbx h M V)
abbrev rb3 (h M H:List W) (r:Nat):St :=
 mkS 182 [(4,.ptr 4 0),(8,.ptr 8 0),(9,.ptr 9 0),(11,.ptr 11 0),(14,.ptr 14 0),(15,.d (.v (.int .i64 r)))] (rbx h M (refRs M H r)++[(14,.cells 337 (permI.map .d))])
abbrev rb4 (h M V:List W) (r i:Nat):St :=
 mkS 182 [(4,.ptr 4 0),(8,.ptr 8 0),(9,.ptr 9 0),(11,.ptr 11 0),(14,.ptr 14 0),(15,.d (.v (.int .i64 r))),(16,.d (.v (.int .i64 i)))] (rbx h M (refRd M r V i)++[(14,.cells 337 (permI.map .d))])
abbrev rb5 (h M V:List W) (r i a b c d:Nat):St :=
 mkS 182 [(4,.ptr 4 0),(8,.ptr 8 0),(9,.ptr 9 0),(11,.ptr 11 0),(14,.ptr 14 0),(15,.d (.v (.int .i64 r))),(16,.d (.v (.int .i64 i))),(18,.ptr 18 0)] (rbx h M V++[(14,.cells 337 (permI.map .d)),(18,.cells 339 [.d (.v (.int .i64 a)),.d (.v (.int .i64 b)),.d (.v (.int .i64 c)),.d (.v (.int .i64 d))])])
def Clx:Code→Code
 | .seq a _=>a
 | .loop c=>c
 | .block _ c=>c
 | .cond _ a _=>a
 | c=>c
def Crx:Code→Code
 | .seq _ b=>b
 | .cond _ _ b=>b
 | c=>c
noncomputable def bF0:Code:=Tryz.f253.body.getD .skip
noncomputable def bF1:Code:=Crx (Clx (Crx (Crx (Crx (Crx (Crx (Crx (Crx (Crx (Crx (Crx bF0)))))))))))
noncomputable def bF2:Code:=Crx (Clx (Clx (Crx (Clx (Clx bF1)))))
noncomputable def bF3:Code:=Clx (Clx (Crx (Clx (Clx bF2))))
noncomputable def FQ_:Code:=Crx (Crx (Crx bF3))
set_option maxHeartbeats 16000000 in
theorem F0_ (h M V:List W) (lV:V.length=16) (lM:M.length=16) (r i k1 a b c d:Nat) (hr:r<10) (hi:i<8) (hk:2*i=k1) (ha:a<16) (hb:b<16) (hc:c<16) (hd:d<16) {β0:Nat→Value} {Q:Exit→St→Prop}
  (hQ:∀ S',Wk S' (rb5 h M (v2_ V a b c d (xJ_ (gW V a) (gW V b) (gW V c) (gW V d) (gW M (ptA r k1)) (gW M (ptA r (k1+1))))) r i a b c d)→Q .normal S') :
  WP Tryz.prog ⟨[],β0,none,false⟩ an_ FQ_ Q (rb5 h M V r i a b c d):=by
 have f1:IntKind.i64.wrap (2*(i:Int))=(k1:Int):=by rw[IntWalk.i64_in _ (by omega)];omega
 have f2:IntKind.i64.wrap ((k1:Int)+1)=((k1+1:Nat):Int):=by rw[IntWalk.i64_in _ (by omega)];omega
 have g1:=mz_ r k1 hr (by omega)
 have g2:=mz_ r (k1+1) hr (by omega)
 have q1:=tC_ r hr k1 (by omega)
 have q2:=tC_ r hr (k1+1) (by omega)
 have hk16:k1<16:=by omega
 have hk17:k1+1<16:=by omega
 have hmx:=tm_ (gW V a) (gW V b) (gW V c) (gW V d) (gW M (ptA r k1)) (gW M (ptA r (k1+1)))
 rw[FX_] at hmx
 obtain⟨t1,ht1⟩:∃ t,ptA r k1=t:=⟨_,rfl⟩
 obtain⟨t2,ht2⟩:∃ t,ptA r (k1+1)=t:=⟨_,rfl⟩
 have ga1:atL (permI.map .d) (r*16+k1)=.d (.v (.int .i64 (t1:Int))):=by rw[← df_,List.getElem?_map,g1,ht1];rfl
 have ga2:atL (permI.map .d) (r*16+(k1+1))=.d (.v (.int .i64 (t2:Int))):=by rw[← df_,List.getElem?_map,g2,ht2];rfl
 rw[ht1] at g1 q1
 rw[ht2] at g2 q2
 rw[ht1,ht2] at hmx hQ
 obtain⟨⟨Q1,Q2,Q3,Q4⟩,hq⟩:∃ q,xJ_ (gW V a) (gW V b) (gW V c) (gW V d) (gW M t1) (gW M t2)=q:=⟨_,rfl⟩
 rw[hq] at hmx hQ
 rw[v2_] at hQ
 simp only[wD] at hmx hQ
 simp only[FQ_,bF3,bF2,bF1,bF0,Tryz.f253,Clx,Crx,Option.getD]
 simp -dsimp
 refine i5_ ac_ dg_ ?_
 simp (maxSteps:=3000000) -dsimp[u32L_len,aA_,lV,lM,ha,hb,hc,hd,hr,hk16,hk17,f1,f2,q1,q2,it_,ga1,ga2]
 refine And.intro (by omega) ?_
 refine And.intro (by omega) ?_
 refine And.intro (by omega) ?_
 refine And.intro (by omega) ?_
 refine And.intro (by omega) ?_
 refine And.intro (by omega) ?_
 refine And.intro (by omega) ?_
 refine And.intro (by omega) ?_
 refine And.intro (by omega) ?_
 refine And.intro (by omega) ?_
 refine And.intro (by omega) ?_
 refine And.intro (by omega) ?_
 refine And.intro (by omega) ?_
 refine And.intro (by omega) ?_
 refine And.intro (by omega) ?_
 refine And.intro (by omega) ?_
 refine And.intro (by omega) ?_
 refine And.intro (by omega) ?_
 refine aa_ nn_ hmx rfl rfl (by simp) ?_
 simp (maxSteps:=3000000) -dsimp[u32L_len,aA_,aV_,List.length_set,lV,lM,ha,hb,hc,hd]
 refine And.intro (by omega) ?_
 refine And.intro (by omega) ?_
 refine And.intro (by omega) ?_
 refine And.intro (by omega) ?_
 refine And.intro (by omega) ?_
 refine And.intro (by omega) ?_
 refine And.intro (by omega) ?_
 refine And.intro (by omega) ?_
 refine And.intro (by kernel_rfl) ?_
 exact hQ _ (af_ [] (by simp) (by simp))
end Go.Proofs.YtfgcgagcpnbgmaaGreatDoor
set_option maxRecDepth 10000
set_option maxHeartbeats 4000000
namespace Go.Proofs.YtfgcgagcpnbgmaaGreatDoor
open Go.Xe Go.RowKit
theorem kW_ {H:Nat→Bool→Dg} (hl:∀ j b,(H j b).length=32):∀ n,(sv_ H n).length=64*n
 | 0=>rfl
 | n+1=>by rw[sv_,List.length_append,List.length_append,kW_ hl n,hl,hl];omega
theorem ym_ (s:ByteArray) (hs:s.size≤1000) (b:List UInt8) (hb:b.length≤90000):Fun Tryz.prog 120 [.d (.v (.string s)),.row 1000] [(1000,.row 5 1 b.length ((bys b).map .d))] (.d (dD (tagB s.data.toList b))) [] fun _=>False :=
 bo_ 1000 (T:=5) (cs:=bys b) (args':=[.d (.v (.string s)),.row 1000]) (bi':=[(1000,.row 5 1 b.length ((bys b).map .d))]) (gQ_ s hs b hb) rfl rfl trivial
abbrev puS (g:Nat) (first caps:List D) (H:Nat→Bool→Dg) (j:Nat):St :=
 mkS 25 [(0,.fn (.func g) (first.map .d) (caps.map .d)),(2,.ptr 2 0),(3,.row 500),(8,.d (.v (.int .i64 j)))] [(2,.cells 87 ((bys z32).map .d)),(500,.row 5 1 (64*j) ((bys (sv_ H j)).map .d))]
theorem tA_ (g:Nat) (hb:Body Tryz.prog g) (first caps:List D) (H:Nat→Bool→Dg) (hH:∀ j,j<64→∀ b,Fn0 Tryz.prog g (first++([.v (.int .i64 j),.v (.bool b)]++caps)) (dD (H j b))) (hl:∀ j b,(H j b).length=32) :
  Fun Tryz.prog 124 [.fn (.func g) (first.map .d) (caps.map .d)] [] (.d (dD (pubB H))) [] fun _=>False:=by
 refine ad_ (pn:=an_) ac_ Tryz.func124 rfl fun β0=>?_
 simp only[Tryz.f124]
 refine sG ?_
 refine ia_ ac_ 7 rfl rfl rfl rfl rfl (by decide) (by decide) (by simp) ?_
 simp -dsimp
 refine sG ?_
 refine ai_ (fun q S=>∃ j:Nat,q=64-j∧j≤64∧S=puS g first caps H j) 64 (S0:=puS g first caps H 0) (Wk.go [] 7 500 (by decide) (by simp) (by simp) (by simp[z32,bys,a8_,sv_])) ⟨0,rfl,by omega,rfl⟩ ?_
 rintro _ _ ⟨j,rfl,hj,rfl⟩
 simp -dsimp
 refine sG ?_
 by_cases hj64:j<64
 ·refine cT (by simp;omega) ?_
  refine WP.skip ?_
  have e1:IntKind.i64.wrap ((j:Int)+1)=((j+1:Nat):Int):=by rw[IntWalk.i64_in _ (by omega)];omega
  have h0:=hH j hj64 false
  have h1:=hH j hj64 true
  have l0:=hl j false
  have l1:=hl j true
  have hpl:=kW_ hl j
  have hp1:sv_ H (j+1)=sv_ H j++(H j false++H j true):=rfl
  generalize H j false=x at *
  generalize H j true=y at *
  simp -dsimp
  refine sG ?_
  refine ao_ hb h0 rfl rfl (by simp) ?_
  simp -dsimp[dD]
  refine sG ?_
  refine ao_ hb h1 rfl rfl (by simp) ?_
  simp -dsimp[dD]
  refine And.intro ⟨l0,fun a h=>ap_ h⟩ ?_
  repeat refine aI ?_
  refine And.intro ⟨l1,fun a h=>ap_ h⟩ ?_
  repeat(first|apply wG|(apply wR;simp -dsimp[setL_whole,ah_,l0,l1,aF_])|refine aI ?_)
  refine loopW.next (puS g first caps H (j+1)) (Wk.go [5,6,19] 21 500 (by decide) (by simp) (by simp[e1]) (by simp[hp1,bys_append];omega)) (64-(j+1)) (by omega) ⟨j+1,rfl,by omega,rfl⟩
 ·refine cF (by simp;omega) ?_
  refine WP.exit ?_
  obtain rfl:j=64:=by omega
  have hpl:=kW_ hl 64
  have ht:=ym_ ⟨#[111,110,101]⟩ (by decide) (sv_ H 64) (by omega)
  have hr:(pubB H).length=32:=hT_ H
  rw [show (⟨#[111, 110, 101]⟩ : ByteArray).data.toList = tB "one" by decide +kernel, show tagB (tB "one") (sv_ H 64) = pubB H from rfl] at ht
  generalize pubB H=r at *
  simp -dsimp
  refine sG ?_
  refine vcStop.call bi_ (ht) (rl [(1000,500)]) rfl rfl (by simp[hpl,BoxLeq]) (ag_ (by simp[hpl,BoxLeq]) rfl (by first|rfl|(simp[hpl,BoxLeq];done)) (by simp[hpl,BoxLeq]) (by simp[hpl,BoxLeq])) (fun _ h=>h.elim) (fun ⟨_,h⟩=>h.elim) (fun ⟨_,h⟩=>h.elim) (by simp[hpl,BoxLeq]) ?_
  simp -dsimp[dD]
  refine And.intro ⟨hr,Nat.le_of_eq z32_len.symm,fun a h=>ap_ h⟩ ?_
  repeat(first|apply wG|(apply wR;simp -dsimp[ah_,hr])|refine aI ?_)
  refine WP.ret (ab_ ?_)
  simp -dsimp[setL_whole,ah_,z32_len,hr,aF_]
  exact al_ _
theorem sj_ (a b c:List UInt8) (hf:a.length+b.length+c.length≤100000):Fun Tryz.prog 188 [.row 1000] [(1000,.row 22 1 3 [.d (slB a),.d (slB b),.row 1001]),(1001,.row 5 1 c.length ((bys c).map .d))] (.d (slB (a++(b++c)))) [] fun _=>False:=by
 have h:=eG_ [a,b,c] (by simp) (by simp[catB];omega)
 have e:catB [a,b,c]=a++(b++c):=by simp[catB]
 rw[e] at h
 refine bo_ 1001 (T:=5) (cs:=bys c) (args':=[.row 1000]) (bi':=[(1000,.row 22 1 3 [.d (slB a),.d (slB b),.row 1001]),(1001,.row 5 1 c.length ((bys c).map .d))]) h rfl rfl ?_
 simp[lsB,slB]
def onD (seed:List UInt8) (i:Nat):D:=.agg [slB seed,.v (.int .i64 i)]
theorem mf_ (seed:List UInt8) (hs:seed.length≤1000) (i:Nat) (hi:i≤65535) (j:Nat) (hj:j<64) (b:Bool) :
  Fn0 Tryz.prog 160 [onD seed i,.v (.int .i64 j),.v (.bool b)] (dD (secretB seed i j b)):=by
 have h63:=sH_ i hi
 have l2:(twoB i).length=2:=rfl
 obtain⟨tw,htw⟩:∃ t,twoB i=t:=⟨_,rfl⟩
 rw[htw] at h63 l2
 obtain⟨x,hx⟩:∃ x:List UInt8,[UInt8.ofNat j,if b=true then 1 else 0]=x:=⟨_,rfl⟩
 have lx:x.length=2:=by rw[← hx];rfl
 have hbx:bys x=[.v (.int .u8 (j:Int)),.v (.int .u8 (if b=true then 1 else 0))]:=by
  rw[← hx]
  simp only[bys,List.map_cons,List.map_nil,a8_,UInt8.toNat_ofNat']
  congr 3
  ·congr 1
   omega
  ·cases b<;>rfl
 have h60:=sj_ seed tw x (by omega)
 rw[lx,hbx] at h60
 have ht:=gQ_ ⟨#[115,101,99,114,101,116]⟩ (by decide) (seed++(tw++x)) (by simp;omega)
 rw [show (⟨#[115, 101, 99, 114, 101, 116]⟩ : ByteArray).data.toList = tB "secret" by decide +kernel] at ht
 have hl : (tagB (tB "secret") (seed ++ (tw ++ x))).length = 32 := aH_ _ _
 rw [show secretB seed i j b = tagB (tB "secret") (seed ++ (tw ++ x)) by rw [secretB, htw, hx]]
 have e1:IntKind.u8.wrap (j:Int)=(j:Int):=by rw[IntKind.wrap_u8];omega
 generalize tagB (tB "secret") (seed ++ (tw ++ x)) = r at *
 refine ad_ (pn:=an_) ac_ Tryz.func160 rfl fun β0=>?_
 simp only[Tryz.f160]
 repeat(first|apply wG|(apply wR;simp -dsimp[onD,slB])|refine aI ?_)
 refine xd_ (mkS 21 [(1,.d (.v (.int .i64 j))),(3,.ptr 3 0),(6,.ptr 6 0),(7,.d (.v (.int .u8 (if b=true then 1 else 0))))] [(3,.cells 190 [.d (slB seed),.d (.v (.int .i64 i))]),(6,.cells 87 ((bys z32).map .d))]) ?_ ?_
 ·refine WP.cond (b:=b) (by simp) (fun hb=>?_) (fun hb=>?_)
  ·refine sG ?_
   exact aY_ (af_ [] (by simp[hb]) (by simp[slB,z32,bys,a8_]))
  ·refine WP.skip ?_
   exact aY_ (af_ [] (by simp[hb]) (by simp[slB,z32,bys,a8_]))
 simp -dsimp[slB]
 repeat(first|apply wG|(apply wR;simp -dsimp[slB])|refine aI ?_)
 refine aa_ hg_ h63 rfl rfl (by simp) ?_
 simp -dsimp[slB]
 repeat(first|apply wG|(apply wR;simp -dsimp[slB,e1])|refine aI ?_)
 refine vcStop.call cX_ (h60) (rl [(1000,18),(1001,17)]) rfl rfl (by simp[slB,e1,BoxLeq]) (ag_ (by simp[slB,e1,BoxLeq]) rfl (by first|rfl|(simp[slB,e1,BoxLeq];done)) (by simp[slB,e1,BoxLeq]) (by simp[slB,e1,BoxLeq])) (fun _ h=>h.elim) (fun ⟨_,h⟩=>h.elim) (fun ⟨_,h⟩=>h.elim) (by simp[slB,e1,BoxLeq]) ?_
 simp -dsimp[slB]
 refine sG ?_
 refine aa_ bi_ ht rfl rfl (by simp[slB]) ?_
 simp -dsimp[dD]
 refine And.intro ⟨hl,Nat.le_of_eq z32_len.symm,fun a h=>ap_ h⟩ ?_
 repeat(first|apply wG|(apply wR;simp -dsimp[ah_,hl])|refine aI ?_)
 refine WP.ret (ab_ ?_)
 simp -dsimp[setL_whole,ah_,z32_len,hl,aF_]
 exact al_ _
theorem uc_ (seed:List UInt8) (hs:seed.length≤1000) (i:Nat) (hi:i≤65535) (j:Nat) (hj:j<64) (b:Bool) :
  Fn0 Tryz.prog 125 [onD seed i,.v (.int .i64 j),.v (.bool b)] (dD (keyH seed i j b)):=by
 have h40:=mf_ seed hs i hi j hj b
 have lh:(secretB seed i j b).length=32:=aH_ _ _
 have h46:=yS_ (secretB seed i j b) lh
 have hl:(keyH seed i j b).length=32:=aH_ _ _
 rw[show openB (secretB seed i j b)=keyH seed i j b from rfl] at h46
 generalize keyH seed i j b=r at *
 generalize secretB seed i j b=d at *
 refine ad_ (pn:=an_) ac_ Tryz.func125 rfl fun β0=>?_
 simp only[Tryz.f125]
 repeat(first|apply wG|(apply wR;simp -dsimp[onD,slB])|refine aI ?_)
 refine aa_ hq_ h40 rfl rfl (by simp[onD,slB]) ?_
 simp -dsimp
 refine sG ?_
 refine aa_ n2_ h46 rfl rfl (by simp[dD]) ?_
 simp -dsimp[dD]
 refine And.intro ⟨hl,fun a h=>ap_ h⟩ ?_
 repeat(first|apply wG|(apply wR;simp -dsimp[ah_,hl])|refine aI ?_)
 refine WP.ret (ab_ ?_)
 simp -dsimp[setL_whole,ah_,hl,aF_]
 exact al_ _
theorem x7_ (f:List Bool) (i:Nat) (h:i<f.length):(boD f).drop i=.v (.bool (f.getD i false))::(boD f).drop (i+1):=by
 rw[List.drop_eq_getElem_cons (by rw[gI_];exact h)]
 congr 1
 simp[boD,List.getD_eq_getElem?_getD,h]
def f3_ (k:Int) (op cl pa:List Dg):List D:=[.v (.int .i64 k),slG op,slG cl,slG pa]
def LB:List TypeId:=[5]
theorem FH_:gOk ak_ LB=true:=by decide
theorem xH_:LB.all (fun t=>iF_ (ak_ t))=true:=by decide
theorem nm_:Tryz.prog.keyTypeAt 4 5=true:=by kernel_rfl
theorem Eh_:Tryz.prog.eqGuardType Tryz.prog.depth 87=false:=by kernel_rfl
def fL_ (d:Dg):List (List D):=d.map fun b=>[a8_ b]
theorem cs_ (d:Dg):(fL_ d).flatten=bys d:=by
 induction d with
 | nil=>rfl
 | cons b d ih=>rw[fL_,List.map_cons,List.flatten_cons,← fL_,ih];rfl
theorem hY_ (d:Dg):∀ c∈fL_ d,OkD ak_ 1 5 c:=fun c hc=>by
 obtain⟨b,_,rfl⟩:=List.mem_map.1 hc
 have:=b.toNat_lt
 simp only[OkD,vg_]
 exact⟨b.toNat,rfl,by simp[IntKind.min,IntKind.signed],by simp[IntKind.max,IntKind.signed,IntKind.bits];omega⟩
theorem qz_ (d:Dg):by_ (bys d)=d.map fun b=>Lit.int .u8 (b.toNat:Int):=by
 rw[by_,bys,List.flatMap_map]
 induction d with
 | nil=>rfl
 | cons b d ih=>rw[List.flatMap_cons,ih];rfl
theorem mM_ (a b:Dg):decide (a=b)=true↔by_ (fL_ a).flatten=by_ (fL_ b).flatten:=by
 rw[cs_,cs_,qz_,qz_,decide_eq_true_iff]
 refine⟨fun h=>by rw[h],fun h=>?_⟩
 have key:∀ a b:Dg,(a.map fun b=>Lit.int .u8 (b.toNat:Int))=(b.map fun b=>Lit.int .u8 (b.toNat:Int))→a=b:=by
  intro a
  induction a with
  | nil=>intro b h;cases b with
   | nil=>rfl
   | cons y b=>simp at h
  | cons x a ih=>intro b h;cases b with
   | nil=>simp at h
   | cons y b =>
    simp only[List.map_cons,List.cons.injEq,Lit.int.injEq,true_and] at h
    have hxy:x=y:=UInt8.toNat_inj.1 (by have:=h.1;omega)
    rw[ih b h.2,hxy]
 exact key a b h
theorem uG_:∀ {l:List Dg} (i:Nat) (y:Dg),a9_ l→y.length=32→i<l.length→(dgL l).take (i*32)++bys y++(dgL l).drop (i*32+32)=dgL (l.set i y)
 | [],i,y,_,_,h=>by simp at h
 | d::l,0,y,h,hy,_=>by
  rw[List.set_cons_zero,dgL,dgL,Nat.zero_mul,List.take_zero,List.nil_append,Nat.zero_add,List.drop_left' (by rw[ah_,h d (by simp)])]
 | d::l,i+1,y,h,hy,hi=>by
  have hd:=h d (by simp)
  rw[List.set_cons_succ,dgL,dgL,← uG_ i y (fun x hx=>h x (by simp[hx])) hy (by simpa using hi),List.take_append,List.drop_append,ah_,hd,List.take_of_length_le (by rw[ah_,hd];omega),List.drop_of_length_le (by rw[ah_,hd];omega),List.nil_append,show (i+1)*32-32=i*32 by omega,show (i+1)*32+32-32=i*32+32 by omega]
  simp
theorem kz_:∀ (xs cs:List AV) (off:Nat),off+xs.length≤cs.length→setL cs off xs=cs.take off++xs++cs.drop (off+xs.length)
 | [],cs,off,_=>by simp[setL]
 | x::xs,cs,off,h=>by
  simp only[List.length_cons] at h
  rw[setL,kz_ xs (cs.set off x) (off+1) (by simp;omega)]
  have ho:off<cs.length:=by omega
  rw[List.set_eq_take_append_cons_drop,if_pos ho]
  have hl:(cs.take off).length=off:=by simp;omega
  have e1:(cs.take off++x::cs.drop (off+1)).take (off+1)=cs.take off++[x]:=by
   rw[List.take_append,hl,List.take_of_length_le (by omega),show off+1-off=1 by omega];rfl
  have e2:(cs.take off++x::cs.drop (off+1)).drop (off+1+xs.length)=cs.drop (off+(xs.length+1)):=by
   rw[List.drop_append,hl,List.drop_of_length_le (by omega),List.nil_append,show off+1+xs.length-off=xs.length+1 by omega,List.drop_succ_cons,List.drop_drop]
   congr 1;omega
  rw[e1,e2]
  simp
theorem uH_ {l:List Dg} (i:Nat) (y:Dg) (h:a9_ l) (hy:y.length=32) (hi:i<l.length):setL ((dgL l).map .d) (i*32) ((bys y).map .d)=(dgL (l.set i y)).map .d:=by
 have hl:=aT_ h
 rw[kz_ _ _ _ (by rw[List.length_map,List.length_map,ah_,hl,hy];omega),← uG_ i y h hy hi,List.length_map,ah_,hy]
 simp
theorem uI_ {l:List Dg} (i:Nat) (h:a9_ l) (hi:i<l.length):List.take 32 (List.drop (i*32) ((dgL l).map AV.d))=(bys (digA l i)).map .d:=by
 rw[← gY_ h i hi,List.map_take,List.map_drop]
theorem nh_ {l:List Dg} (h:a9_ l) (i:Nat) (y:Dg) (hy:y.length=32):a9_ (l.set i y):=fun d hd=>by
 rcases List.mem_or_eq_of_mem_set hd with h1|rfl
 ·exact h d h1
 ·exact hy
theorem qY_ (l:List Dg) (i j:Nat) (y:Dg) (hi:i<l.length):digA (l.set i y) j=if i=j then y else digA l j:=by
 unfold digA
 simp only[List.getD_eq_getElem?_getD,List.getElem?_set]
 by_cases e:i=j
 ·subst e;simp[hi]
 ·simp[e]
theorem wQ_ (l:List Dg) (j:Nat) (h:j<l.length):digA l.reverse j=digA l (l.length-1-j):=by
 rw[digA,digA,List.getD_eq_getElem?_getD,List.getD_eq_getElem?_getD,List.getElem?_reverse h]
theorem h3_ {a b:List Dg} (h:a.length=b.length) (hg:∀ j,j<a.length→digA a j=digA b j):a=b:=by
 refine List.ext_getElem h fun i h1 h2=>?_
 have:=hg i h1
 unfold digA at this
 simpa [List.getD_eq_getElem?_getD,h1,h2] using this
abbrev rvS (m:List Dg) (i:Nat) (j:Int):St:=mkS 28 [(0,.row 1000),(2,.d (.v (.int .i64 i))),(3,.d (.v (.int .i64 j)))] [(1000,.row 87 32 m.length ((dgL m).map .d))]
theorem rD_ (l:List Dg) (h32:a9_ l) (hn:l.length≤65536):Fun Tryz.prog 206 [.row 1000] [(1000,.row 87 32 l.length ((dgL l).map .d))] (.d .any) [(1000,.row 87 32 l.length ((dgL l.reverse).map .d))] fun _=>False:=by
 have e0:IntKind.i64.wrap ((l.length:Int)-1)=(l.length:Int)-1:=IntWalk.i64_in _ (by omega)
 refine ad_ (pn:=an_) ac_ Tryz.func206 rfl fun β0=>?_
 simp only[Tryz.f206]
 repeat(first|apply wG|(apply wR;simp -dsimp[e0])|refine aI ?_)
 refine ai_ (fun q S=>∃ (i:Nat) (m:List Dg),q=l.length-i∧i≤l.length∧m.length=l.length∧a9_ m∧(∀ p,p<l.length→digA m p=if p<i∨l.length-i≤p then digA l (l.length-1-p) else digA l p)∧S=rvS m i ((l.length:Int)-1-i)) l.length (S0:=rvS l 0 ((l.length:Int)-1-(0:Nat))) (af_ [] (by simp) (by simp)) ⟨0,l,rfl,by omega,rfl,h32,fun p hp=>by rw[if_neg (by omega)],rfl⟩ ?_
 rintro _ _ ⟨i,m,rfl,hi,hml,hm32,hm,rfl⟩
 simp -dsimp
 refine sG ?_
 by_cases hij:(i:Int)<(l.length:Int)-1-i
 ·obtain⟨j,hj⟩:∃ j:Nat,(l.length:Int)-1-i=j:=⟨l.length-1-i,by omega⟩
  rw[hj] at hij
  have hi1:i<m.length:=by omega
  have hj1:j<m.length:=by omega
  have e1:IntKind.i64.wrap ((i:Int)+1)=((i+1:Nat):Int):=by rw[IntWalk.i64_in _ (by omega)];omega
  have e2:IntKind.i64.wrap ((j:Int)-1)=(l.length:Int)-1-((i+1:Nat):Int):=by rw[IntWalk.i64_in _ (by omega)];omega
  have gi:=uI_ i hm32 hi1
  have gj:=uI_ j hm32 hj1
  have hl:=aT_ hm32
  have yi:=ea_ hm32 i hi1
  have yj:=ea_ hm32 j hj1
  have p1:=uH_ i (digA m j) hm32 yj hi1
  have hm1:=nh_ hm32 i (digA m j) yj
  have lm1:(m.set i (digA m j)).length=m.length:=List.length_set
  have p2:=uH_ j (digA m i) hm1 yi (by omega)
  have hl1:=aT_ hm1
  have hnew:∀ p,p<l.length→digA ((m.set i (digA m j)).set j (digA m i)) p=if p<i+1∨l.length-(i+1)≤p then digA l (l.length-1-p) else digA l p:=fun p hp=>by
   rw[qY_ _ _ _ _ (by omega),qY_ _ _ _ _ hi1]
   have mi:=hm i (by omega)
   have mj:=hm j (by omega)
   have mp:=hm p hp
   rw[if_neg (by omega)] at mi mj
   by_cases c1:j=p
   ·subst c1
    rw[if_pos rfl,if_pos (by omega),mi]
    congr 1
    omega
   ·rw[if_neg c1]
    by_cases c2:i=p
    ·subst c2
     rw[if_pos rfl,if_pos (by omega),mj]
     congr 1
     omega
    ·rw[if_neg c2,mp]
     by_cases c3:p<i∨l.length-i≤p
     ·rw[if_pos c3,if_pos (by omega)]
     ·rw[if_neg c3,if_neg (by omega)]
  have hm2:=nh_ hm1 j (digA m i) yi
  have lm2:((m.set i (digA m j)).set j (digA m i)).length=l.length:=by rw[List.length_set,List.length_set,hml]
  generalize hM2:(m.set i (digA m j)).set j (digA m i)=m2 at *
  generalize m.set i (digA m j)=m1 at *
  generalize digA m i=x at *
  generalize digA m j=y at *
  refine cT (by simp[hj];omega) ?_
  refine WP.skip ?_
  simp -dsimp[hj]
  repeat(first|apply wG|(apply wR;simp -dsimp[gi,gj,hl,hl1,lm1,ah_,yi,yj,p1,p2,hi1,hj1])|refine aI ?_)
  refine And.intro ⟨by omega,fun a h=>ap_ h⟩ ?_
  repeat refine aI ?_
  refine And.intro ⟨by omega,fun a h=>ap_ h⟩ ?_
  refine sG ?_
  refine loopW.next (rvS m2 (i+1) ((l.length:Int)-1-((i+1:Nat):Int))) (af_ [] (by simp[e1,e2]) (by simp[lm2,hml])) (l.length-(i+1)) (by omega) ⟨i+1,m2,rfl,by omega,lm2,hm2,hnew,rfl⟩
 ·refine cF (by simp;omega) ?_
  refine WP.exit ?_
  have e:m=l.reverse:=h3_ (by simp[hml]) fun p hp=>by
   rw[wQ_ l p (by omega),hm p (by omega)]
   by_cases c:p<i∨l.length-i≤p
   ·rw[if_pos c]
   ·rw[if_neg c];congr 1;omega
  subst e
  simp -dsimp
  refine sG ?_
  refine cO_ ?_
  simp -dsimp
end Go.Proofs.YtfgcgagcpnbgmaaGreatDoor
namespace Go.Proofs.YtfgcgagcpnbgmaaGreatDoor
open Go.Xe Go.RowKit
abbrev rb6 (h R:List W) (i:Nat):St:=mkS 182 [(4,.ptr 4 0),(8,.ptr 8 0),(11,.ptr 11 0),(19,.d (.v (.int .i64 i)))] [(4,.cells 307 ((u32L (endV h R i)).map .d)),(8,.cells 307 ((u32L z8).map .d)),(11,.cells 325 ((u32L R).map .d))]
set_option maxRecDepth 10000 in
set_option maxHeartbeats 4000000 in
theorem oY_ (h:List W) (hh:h.length=8) (b:List UInt8) (hb:b.length=64) (n:Nat) (hn:n<18446744073709551616) (last:Bool) :
  Fn0 Tryz.prog 253 [.agg (u32L h),slB b,.v (.int .u64 n),.v (.bool last)] (.agg (u32L (oZ_ h b n last))):=by
 have l8:z8.length=8:=rfl
 have li:iniV.length=8:=rfl
 refine ad_ (pn:=an_) ac_ Tryz.func253 rfl fun β0=>?_
 simp only[Tryz.f253]
 refine WP.seq ?_
 refine WP.region ac_ ?_
 simp -dsimp[u32L_len,hh]
 refine And.intro (fun a h=>es_ h) ?_
 refine sG ?_
 refine ai_ (fun q S=>∃ i:Nat,q=64-i∧i≤64∧S=rb1 h b n last i) 64 (S0:=rb1 h b n last 0) (af_ [] (by simp) (by simp[u32L,wI,u32D,bV_,z8])) ⟨0,rfl,by omega,rfl⟩ ?_
 rintro _ _ ⟨i,rfl,hi,rfl⟩
 simp -dsimp
 refine sG ?_
 by_cases hib:i<64
 ·refine cT (by simp;omega) ?_
  refine WP.skip ?_
  obtain⟨q,hq⟩:∃ q,i/4=q:=⟨_,rfl⟩
  obtain⟨m,hm⟩:∃ m,i%4=m:=⟨_,rfl⟩
  have e0:(i:Int).tmod 4=(m:Int):=by rw[Int.tmod_eq_emod_of_nonneg (by omega)];omega
  have e1:IntKind.i64.wrap ((i:Int)/4)=(q:Int):=by rw[IntWalk.i64_in _ (by omega)];omega
  have e2:IntKind.i64.wrap (m:Int)=(m:Int):=by rw[IntWalk.i64_in _ (by omega)]
  have e3:IntKind.i64.wrap (8*(m:Int))=8*(m:Int):=by rw[IntWalk.i64_in _ (by omega)]
  have e4:shN .u32 (8*(m:Int))=8*m:=by simp[shN,IntKind.bits];omega
  have e5:IntKind.i64.wrap ((i:Int)+1)=((i+1:Nat):Int):=by rw[IntWalk.i64_in _ (by omega)];omega
  have h1:=nd_ b i (by omega)
  have hw:=dR_ b i
  have h2:q<16:=by omega
  obtain⟨x,hx⟩:∃ x,BitVec.ofNat 32 (byA b i).toNat=x:=⟨_,rfl⟩
  have e6:IntKind.u32.wrap ((byA b i).toNat:Int)=wI x:=by rw[hN_,hx]
  have e7:bV_ b (i+1)=(bV_ b i).set q (gW (bV_ b i) q|||x<<<(8*m)):=by rw[bV_,hq,hm,hx]
  have hat:=pm_ b i (by omega)
  generalize byA b i=c at *
  have e8:=vD_ x (8*m)
  generalize x<<<(8*m)=y at *
  simp -dsimp[slB]
  repeat(first|apply wG|(apply wR;simp -dsimp[h1,a8_,e0,e1,e2,e3,e4,e6,e8,hw,h2,hb,hat,hib,ah_,u32L_len,aA_,aV_,Dq_])|refine aI ?_)
  refine loopW.next (rb1 h b n last (i+1)) (af_ [] (by simp[e5,slB,hb]) (by simp[e7])) (64-(i+1)) (by omega) ⟨i+1,rfl,by omega,rfl⟩
 ·refine cF (by simp;omega) ?_
  refine WP.exit ?_
  obtain rfl:i=64:=by omega
  have hM:=dR_ b 64
  obtain⟨M,hMe⟩:∃ M,bV_ b 64=M:=⟨_,rfl⟩
  rw[oZ_]
  rw[hMe] at hM ⊢
  simp -dsimp[hMe]
  refine sG ?_
  refine aa_ g4_ fE_ rfl rfl (by simp) ?_
  simp -dsimp
  have lii:(u32L iniV).length=8:=rfl
  generalize hU:u32L iniV=U at *
  have hU1:∀ a∈U,oneD a=true:=fun a h=>by rw[← hU] at h;exact es_ h
  repeat(first|apply wG|(apply wR;simp -dsimp[lii])|refine aI ?_)
  subst hU
  refine ai_ (fun q S=>∃ i:Nat,q=8-i∧i≤8∧S=rb2 h M n last i) 8 (S0:=rb2 h M n last 0) (af_ [] (by simp) (by simp[u32L,wI,u32D,filV,setL_whole,iniV])) ⟨0,rfl,by omega,rfl⟩ ?_
  rintro _ _ ⟨i,rfl,hi,rfl⟩
  simp -dsimp
  refine sG ?_
  by_cases hi8:i<8
  ·refine cT (by simp;omega) ?_
   refine WP.skip ?_
   have lF:=lv_ h i
   have eF:filV h (i+1)=((filV h i).set i (gW h i)).set (8+i) (gW iniV i):=rfl
   have e1:IntKind.i64.wrap (8+(i:Int))=((8+i:Nat):Int):=by rw[IntWalk.i64_in _ (by omega)];omega
   have e2:IntKind.i64.wrap ((i:Int)+1)=((i+1:Nat):Int):=by rw[IntWalk.i64_in _ (by omega)];omega
   have h1:i<16:=by omega
   have h2:8+i<16:=by omega
   generalize filV h i=F at *
   obtain⟨k,hk⟩:∃ k,8+i=k:=⟨_,rfl⟩
   rw[hk] at e1 h2 eF
   have gh:=aA_ h i (by omega)
   have gi:=aA_ iniV i (by omega)
   simp -dsimp
   repeat(first|apply wG|(apply wR;simp -dsimp[u32L_len,gh,gi,aV_,lF,hh,li,hi8,h1,h2,e1,List.length_set])|refine aI ?_)
   refine loopW.next (rb2 h M n last (i+1)) (af_ [] (by simp[e2]) (by simp[eF])) (8-(i+1)) (by omega) ⟨i+1,rfl,by omega,rfl⟩
  ·refine cF (by simp;omega) ?_
   refine WP.exit ?_
   obtain rfl:i=8:=by omega
   obtain⟨V0,hV0⟩:∃ V,filV h 8=V:=⟨_,rfl⟩
   have l0:V0.length=16:=by rw[← hV0,lv_]
   obtain⟨x1,hx1⟩:∃ x,BitVec.ofNat 32 n=x:=⟨_,rfl⟩
   obtain⟨x2,hx2⟩:∃ x,BitVec.ofNat 32 (n/4294967296)=x:=⟨_,rfl⟩
   obtain⟨V1,k1⟩:∃ V,V0.set 12 (gW V0 12^^^x1)=V:=⟨_,rfl⟩
   have l1:V1.length=16:=by rw[← k1,List.length_set,l0]
   obtain⟨V2,k2⟩:∃ V,V1.set 13 (gW V1 13^^^x2)=V:=⟨_,rfl⟩
   have l2:V2.length=16:=by rw[← k2,List.length_set,l1]
   obtain⟨z,hz⟩:∃ z:W,(4294967295:W)=z:=⟨_,rfl⟩
   obtain⟨V3,k3⟩:∃ V,V2.set 14 (gW V2 14^^^z)=V:=⟨_,rfl⟩
   have l3:V3.length=16:=by rw[← k3,List.length_set,l2]
   rw[hV0,hx1,k1,hx2,k2,hz,k3]
   obtain⟨H,hH⟩:∃ H,(if last=true then V3 else V2)=H:=⟨_,rfl⟩
   rw[hH]
   have w1:IntKind.u32.wrap (n:Int)=wI x1:=by rw[l2_,hx1]
   have w2:IntKind.u32.wrap ((n:Int).fdiv (2^shN .u64 32))=wI x2:=by
    rw[show shN .u64 32=32 from rfl,Int.fdiv_eq_ediv_of_nonneg _ (by decide),show ((n:Int)/2^32)=((n/4294967296:Nat):Int) by omega,l2_,hx2]
   have w3:∀ a:W,bits .xor .u32 (wI a) 4294967295=wI (a^^^z):=fun a=>by
    rw[← b0_,← hz];rfl
   have lH:H.length=16:=by rw[← hH];split<;>assumption
   simp -dsimp[hV0]
   repeat(first|apply wG|(apply wR;simp -dsimp[l0,l1,l2,u32L_len,aA_,aV_,b0_,w1,w2,w3,k1,k2,k3,hV0])|refine aI ?_)
   refine xd_ (rbh h M H) ?_ ?_
   ·refine WP.cond (b:=last) (by simp) (fun hb=>?_) (fun hb=>?_)
    ·repeat(first|apply wG|(apply wR;simp -dsimp[l0,l1,l2,u32L_len,aA_,aV_,b0_,w1,w2,w3,k1,k2,k3,hV0])|refine aI ?_)
     refine aY_ (af_ [] ?_ ?_)
     ·simp
     ·simp[← hH,hb]
    ·refine WP.skip ?_
     exact aY_ (af_ [] (by simp) (by simp[← hH,hb]))
   clear hH k1 k2 k3 w1 w2 w3 hx1 hx2 l0 l1 l2 l3
   simp -dsimp
   refine sG ?_
   refine aa_ no_ rH_ rfl rfl (by simp) ?_
   simp -dsimp
   repeat(first|apply wG|(apply wR;simp -dsimp[it_,setL_whole])|refine aI ?_)
   refine ai_ (fun q S=>∃ r:Nat,q=10-r∧r≤10∧S=rb3 h M H r) 10 (S0:=rb3 h M H 0) (af_ [] (by simp) (by simp[refRs,it_,setL_whole])) ⟨0,rfl,by omega,rfl⟩ ?_
   rintro _ _ ⟨r,rfl,hr,rfl⟩
   simp -dsimp
   refine sG ?_
   by_cases hr10:r<10
   ·refine cT (by simp;omega) ?_
    refine WP.skip ?_
    have er:IntKind.i64.wrap ((r:Int)+1)=((r+1:Nat):Int):=by rw[IntWalk.i64_in _ (by omega)];omega
    have lR:(refRs M H r).length=16:=by rw[fC_,lH]
    have eR:refRs M H (r+1)=refRd M r (refRs M H r) 8:=rfl
    generalize refRs M H r=R at *
    simp -dsimp
    refine sG ?_
    refine ai_ (fun q S=>∃ i:Nat,q=8-i∧i≤8∧S=rb4 h M R r i) 8 (S0:=rb4 h M R r 0) (af_ [] (by simp) (by simp[refRd])) ⟨0,rfl,by omega,rfl⟩ ?_
    rintro _ _ ⟨i,rfl,hi,rfl⟩
    simp -dsimp
    refine sG ?_
    by_cases hi8:i<8
    ·refine cT (by simp;omega) ?_
     refine WP.skip ?_
     obtain⟨j,hj⟩:∃ j,i%4=j:=⟨_,rfl⟩
     have e0:(i:Int).tmod 4=(j:Int):=by rw[Int.tmod_eq_emod_of_nonneg (by omega)];omega
     have ej:IntKind.i64.wrap (j:Int)=(j:Int):=by rw[IntWalk.i64_in _ (by omega)]
     have e1:IntKind.i64.wrap (4+(j:Int))=((4+j:Nat):Int):=by rw[IntWalk.i64_in _ (by omega)];omega
     have e2:IntKind.i64.wrap (8+(j:Int))=((8+j:Nat):Int):=by rw[IntWalk.i64_in _ (by omega)];omega
     have e3:IntKind.i64.wrap (12+(j:Int))=((12+j:Nat):Int):=by rw[IntWalk.i64_in _ (by omega)];omega
     have e5:IntKind.i64.wrap ((i:Int)+1)=((i+1:Nat):Int):=by rw[IntWalk.i64_in _ (by omega)];omega
     have lV:(refRd M r R i).length=16:=by rw[fD_,lR]
     obtain⟨⟨a,b',c,d⟩,hp⟩:∃ p,plQ i=p:=⟨_,rfl⟩
     have hn:=rG_ M r R i a b' c d hp
     rw[plQ,hj] at hp
     have hlt:a<16∧b'<16∧c<16∧d<16:=by
      split at hp
      ·simp only[Prod.mk.injEq] at hp;omega
      ·simp only[Prod.mk.injEq] at hp;omega
     obtain⟨ha,hb',hc,hd⟩:=hlt
     generalize refRd M r R i=V at hn lV
     simp -dsimp
     repeat(first|apply wG|(apply wR;simp -dsimp[e0,ej,e1,e2,e3])|refine aI ?_)
     refine xd_ (rb5 h M V r i a b' c d) ?_ ?_
     ·refine WP.cond (b:=decide (4≤i)) (by simp;omega) (fun hb=>?_) (fun hb=>?_)
      ·rw[decide_eq_true_eq] at hb
       rw[if_pos hb] at hp
       simp only[Prod.mk.injEq] at hp
       obtain⟨p1,p2,p3,p4⟩:=hp
       have hj4:j=0∨j=1∨j=2∨j=3:=by omega
       rcases hj4 with rfl|rfl|rfl|rfl
       all_goals
        simp -dsimp
        repeat(first|apply wG|(apply wR;simp -dsimp[wrS])|refine aI ?_)
        refine aY_ (af_ [] (by simp) (by simp[← p1,← p2,← p3,← p4]))
      ·rw[decide_eq_false_iff_not] at hb
       rw[if_neg hb] at hp
       simp only[Prod.mk.injEq] at hp
       obtain⟨p1,p2,p3,p4⟩:=hp
       refine WP.skip ?_
       exact aY_ (af_ [] (by simp) (by simp[← p1,← p2,← p3,← p4]))
     clear hp e0 ej e1 e2 e3 hj
     refine F0_ h M V lV hM r i (2*i) a b' c d hr10 hi8 rfl ha hb' hc hd (Q:=_) ?_
     intro S' hS'
     rw[← hn] at hS'
     refine ar_ hS' ?_
     simp -dsimp
     refine sG ?_
     refine loopW.next (rb4 h M R r (i+1)) (af_ [] (by simp[e5]) (by simp)) (8-(i+1)) (by omega) ⟨i+1,rfl,by omega,rfl⟩
    ·refine cF (by simp;omega) ?_
     refine WP.exit ?_
     obtain rfl:i=8:=by omega
     simp -dsimp
     refine sG ?_
     refine loopW.next (rb3 h M H (r+1)) (af_ [] (by simp[er]) (by simp[eR])) (10-(r+1)) (by omega) ⟨r+1,rfl,by omega,rfl⟩
   ·refine cF (by simp;omega) ?_
    refine WP.exit ?_
    obtain rfl:r=10:=by omega
    have lR:(refRs M H 10).length=16:=by rw[fC_,lH]
    generalize refRs M H 10=R at *
    simp -dsimp
    refine sG ?_
    refine ai_ (fun q S=>∃ i:Nat,q=8-i∧i≤8∧S=rb6 h R i) 8 (S0:=rb6 h R 0) (af_ [] (by simp) (by simp[endV])) ⟨0,rfl,by omega,rfl⟩ ?_
    rintro _ _ ⟨i,rfl,hi,rfl⟩
    simp -dsimp
    refine sG ?_
    by_cases hi8:i<8
    ·refine cT (by simp;omega) ?_
     refine WP.skip ?_
     have lE:(endV h R i).length=8:=by rw[fV_,hh]
     have eE:endV h R (i+1)=(endV h R i).set i ((gW (endV h R i) i^^^gW R i)^^^gW R (8+i)):=by rw[endV,BitVec.xor_assoc]
     have e1:IntKind.i64.wrap (8+(i:Int))=((8+i:Nat):Int):=by rw[IntWalk.i64_in _ (by omega)];omega
     have e2:IntKind.i64.wrap ((i:Int)+1)=((i+1:Nat):Int):=by rw[IntWalk.i64_in _ (by omega)];omega
     have h1:i<16:=by omega
     have h2:8+i<16:=by omega
     generalize endV h R i=E at *
     obtain⟨k,hk⟩:∃ k,8+i=k:=⟨_,rfl⟩
     rw[hk] at e1 h2 eE
     simp -dsimp
     repeat(first|apply wG|(apply wR;simp -dsimp[u32L_len,aA_,aV_,lE,lR,hi8,h1,h2,e1,b0_])|refine aI ?_)
     refine loopW.next (rb6 h R (i+1)) (af_ [] (by simp[e2]) (by simp[eE])) (8-(i+1)) (by omega) ⟨i+1,rfl,by omega,rfl⟩
    ·refine cF (by simp;omega) ?_
     refine WP.exit ?_
     obtain rfl:i=8:=by omega
     have lE:(endV h R 8).length=8:=by rw[fV_,hh]
     generalize endV h R 8=E at *
     have tE:List.take 8 ((u32L E).map AV.d)=(u32L E).map .d:=List.take_of_length_le (by rw[List.length_map,u32L_len,lE];decide)
     simp -dsimp
     repeat(first|apply wG|(apply wR;simp -dsimp[u32L_len,lE,l8,tE])|refine aI ?_)
     refine And.intro (fun c h=>by first|exact es_ h|(obtain⟨d,hd,rfl⟩:=List.mem_map.1 h;exact es_ hd)) ?_
     refine WP.ret (ab_ ?_)
     simp -dsimp[setL_whole,u32L_len,lE,l8,tE]
     try exact al_ (u32L E)
end Go.Proofs.YtfgcgagcpnbgmaaGreatDoor
namespace Go.Proofs.YtfgcgagcpnbgmaaGreatDoor
open Go.Xe Go.RowKit
def n64 (k:Nat):Nat:=64*k
def zB (j:Nat):List UInt8:=List.replicate j 0
abbrev smP (b:List UInt8) (j:Nat):St:=mkS 74 [(0,.d (slB b)),(2,.ptr 2 0),(3,.ptr 3 0),(4,.row 500)] [(2,.cells 87 ((bys z32).map .d)),(3,.cells 307 ((u32L (absV b 0)).map .d)),(500,.row 5 1 (b.length+j) ((bys (b++zB j)).map .d))]
def stV (b:List UInt8) (k:Nat):List W:=if k≤blkN b then absV b k else oq_ b
abbrev smK (b:List UInt8) (k:Nat):St:=mkS 74 [(0,.d (slB b)),(2,.ptr 2 0),(3,.ptr 3 0),(4,.d (slB (jF_ b))),(5,.d (.v (.int .i64 (n64 k))))] [(2,.cells 87 ((bys z32).map .d)),(3,.cells 307 ((u32L (stV b k)).map .d))]
abbrev smT (b:List UInt8) (i:Nat):St:=mkS 74 [(2,.ptr 2 0),(3,.ptr 3 0),(8,.ptr 8 0),(9,.d (.v (.int .i64 i)))] [(2,.cells 87 ((bys z32).map .d)),(3,.cells 307 ((u32L (oq_ b)).map .d)),(8,.cells 87 ((bys (telB (sumF b) 32 i)).map .d))]
theorem rJ_ (b:List UInt8) (k:Nat) (hk:k≤blkN b):oZ_ (absV b k) (((jF_ b).drop (64*k)).take 64) (if k=blkN b then b.length else 64*(k+1)) (decide (k=blkN b))=stV b (k+1):=by
 rw[stV]
 by_cases h:k=blkN b
 ·subst h
  rw[if_pos rfl,decide_eq_true rfl,if_neg (by omega)]
  exact vV_ b
 ·rw[if_neg h,decide_eq_false h,if_pos (by omega)]
  exact yE_ b k (by omega)
set_option maxRecDepth 10000 in
set_option maxHeartbeats 4000000 in
theorem fB_ (b:List UInt8) (hb:b.length≤100000):Fn0 Tryz.prog 202 [slB b] (dD (gb_ b)):=by
 have lz:z32.length=32:=rfl
 refine ad_ (pn:=an_) ac_ Tryz.func202 rfl fun β0=>?_
 simp only[Tryz.f202]
 refine sG ?_
 refine aa_ g4_ fE_ rfl rfl (by simp) ?_
 simp -dsimp
 have lii:(u32L iniV).length=8:=rfl
 have l8:iniV.length=8:=rfl
 have w4:∀ a:W,bits .xor .u32 (wI a) 16842784=wI (a^^^0x01010020):=fun a=>by rw[← b0_];rfl
 have ea:absV b 0=iniV.set 0 (gW iniV 0^^^0x01010020):=rfl
 repeat(first|apply wG|(apply wR;simp -dsimp[lii,setL_whole,u32L_len,aA_,aV_,l8,w4,slB,ah_])|refine aI ?_)
 refine ai_ (fun q S=>∃ j:Nat,q=padN b-j∧j≤padN b∧S=smP b j) (padN b) (S0:=smP b 0) (Wk.go [] 17 500 (by decide) (by simp[slB]) (by simp[slB]) (by simp[slB,zB,ea,setL_whole];try rfl)) ⟨0,rfl,by omega,rfl⟩ ?_
 rintro _ _ ⟨j,rfl,hj,rfl⟩
 have hiff:=v4_ b j hj
 have e1:((b.length:Int)+(j:Int)).tmod 64=(((b.length+j)%64:Nat):Int):=by rw[Int.tmod_eq_emod_of_nonneg (by omega)];omega
 have hzl:(b++zB j).length=b.length+j:=by simp[zB]
 simp -dsimp
 repeat(first|apply wG|(apply wR;simp -dsimp[e1,ah_,hzl])|refine aI ?_)
 by_cases hjp:j<padN b
 ·refine cT (by simp;omega) ?_
  refine WP.skip ?_
  have hzs:zB (j+1)=zB j++[0]:=by rw[zB,List.replicate_succ'];rfl
  have hbz:bys (zB (j+1))=bys (zB j)++[.v (.int .u8 0)]:=by rw[hzs,bys,bys,List.map_append];rfl
  have hp64:padN b≤64:=by unfold padN blkN;omega
  simp -dsimp
  repeat(first|apply wG|(apply wR;simp -dsimp[ah_,hzl])|refine aI ?_)
  refine loopW.next (smP b (j+1)) (Wk.go [28] 29 500 (by decide) (by simp[slB]) (by simp[slB]) (by simp[hbz];try omega)) (padN b-(j+1)) (by omega) ⟨j+1,rfl,by omega,rfl⟩
 ·obtain rfl:j=padN b:=by omega
  refine cF (by simp;omega) ?_
  refine WP.exit ?_
  have hpe:b++zB (padN b)=jF_ b:=rfl
  have hpl:=v5_ b
  have hpn:b.length+padN b=(jF_ b).length:=by rw[← hzl,hpe]
  have hpb:(bys b).map AV.d++(bys (zB (padN b))).map AV.d=(bys (jF_ b)).map .d:=by rw[← hpe,bys,bys,bys,List.map_append,List.map_append]
  simp -dsimp[hpe,hpn]
  refine sG ?_
  refine ai_ (fun q S=>∃ k:Nat,q=blkN b+1-k∧k≤blkN b+1∧S=smK b k) (blkN b+1) (S0:=smK b 0) ((Wk.freeze (k:=500) (T:=5) (sz:=1) (n:=(jF_ b).length) (ds:=bys (jF_ b)) (by simp[hpb])).trans (af_ [] (by simp[slB,n64]) (by simp[stV]))) ⟨0,rfl,by omega,rfl⟩ ?_
  rintro _ _ ⟨k,rfl,hk,rfl⟩
  have hkk:blkN b=(b.length-1)/64:=rfl
  have hnk:n64 k=64*k:=rfl
  simp -dsimp
  repeat(first|apply wG|(apply wR;simp -dsimp[slB])|refine aI ?_)
  by_cases hkb:k≤blkN b
  ·refine cT (by simp;omega) ?_
   refine WP.skip ?_
   obtain⟨c,hc⟩:∃ c,((jF_ b).drop (64*k)).take 64=c:=⟨_,rfl⟩
   have lc:c.length=64:=by rw[← hc,List.length_take,List.length_drop];omega
   have hst:stV b k=absV b k:=by rw[stV,if_pos hkb]
   have hnx:=rJ_ b k hkb
   have ec:List.take 64 (List.drop (n64 k) (bys (jF_ b)))=bys c:=by rw[← hc,bysB_take,bys_dropE,n64]
   rw[hc] at hnx
   have la:=cQ_ b k
   have hbk:=oY_ (absV b k) la c lc (if k=blkN b then b.length else 64*(k+1)) (by split<;>omega) (decide (k=blkN b))
   have hS1:(stV b (k+1)).length=8:=by
    rw[stV]
    split
    ·exact cQ_ _ _
    ·exact lr_ _
   rw[hnx] at hbk
   generalize hSe:stV b (k+1)=S1 at *
   rw[hst]
   clear hnx hst
   generalize absV b k=S0 at *
   have hn1:n64 (k+1)=n64 k+64:=by unfold n64;omega
   have hnl:n64 (k+1)≤(jF_ b).length:=by unfold n64;omega
   have hne:64*(k+1)=n64 (k+1):=rfl
   rw[hne] at hbk
   have w1:IntKind.i64.wrap ((n64 k:Int)+64)=(n64 (k+1):Int):=by rw[IntWalk.i64_in _ (by omega)];omega
   have w2:IntKind.u64.wrap (n64 (k+1):Int)=(n64 (k+1):Int):=by rw[IntKind.wrap_u64];omega
   have y1:(n64 k:Int)≤(n64 (k+1):Int):=by omega
   have y2:(n64 (k+1):Int)≤((jF_ b).length:Int):=by omega
   have y3:((n64 (k+1):Int)-(n64 k:Int)).toNat=64:=by omega
   have y4:n64 k≤n64 (k+1):=by omega
   have w3:IntKind.u64.wrap (b.length:Int)=(b.length:Int):=by rw[IntKind.wrap_u64];omega
   have tS:List.take 8 (u32L S0)=u32L S0:=List.take_of_length_le (by rw[u32L_len,la];decide)
   have tSm:List.take 8 ((u32L S0).map AV.d)=(u32L S0).map .d:=List.take_of_length_le (by rw[List.length_map,u32L_len,la];decide)
   have t1:List.take 8 ((u32L S1).map AV.d)=(u32L S1).map .d:=List.take_of_length_le (by rw[List.length_map,u32L_len,hS1];decide)
   by_cases hlk:k=blkN b
   ·rw[if_pos hlk,decide_eq_true hlk] at hbk
    have hd:decide ((n64 (k+1):Int)=((jF_ b).length:Int))=true:=by rw[decide_eq_true_iff];unfold n64;omega
    simp -dsimp[slB]
    generalize hN:n64 (k+1)=N2 at *
    generalize n64 k=N1 at *
    repeat(first|apply wG|(apply wR;simp -dsimp[slB,w1,w2,hd])|refine aI ?_)
    refine cT (by simp[hd]) ?_
    repeat(first|apply wG|(apply wR;simp -dsimp[slB,w1,w2,w3,u32L_len,la,tSm,tS,y1,y2,y3,y4,hnl])|refine aI ?_)
    refine ao_ g3_ hbk rfl rfl (And.intro (by simp[tSm,tS];try exact al_ _) (And.intro (by simp[slB,ec,lc]) (And.intro (by simp) (And.intro (by simp) trivial)))) ?_
    simp -dsimp
    repeat(first|apply wG|(apply wR;simp -dsimp[u32L_len,hS1,la,setL_whole,t1])|refine aI ?_)
    refine And.intro ⟨by rw[u32L_len,hS1],by rw[u32L_len,la];exact Nat.le_refl _,fun a h=>es_ h⟩ ?_
    repeat(first|apply wG|(apply wR;simp -dsimp[u32L_len,hS1,la,setL_whole,t1,w1])|refine aI ?_)
    refine loopW.next (smK b (k+1)) (af_ [] (by simp[slB,w1,hN]) (by simp[hSe,setL_whole,u32L_len,hS1,la])) (blkN b+1-(k+1)) (by omega) ⟨k+1,rfl,by omega,rfl⟩
   ·rw[if_neg hlk,decide_eq_false hlk] at hbk
    have hd:decide ((n64 (k+1):Int)=((jF_ b).length:Int))=false:=by rw[decide_eq_false_iff_not];unfold n64;omega
    simp -dsimp[slB]
    generalize hN:n64 (k+1)=N2 at *
    generalize n64 k=N1 at *
    repeat(first|apply wG|(apply wR;simp -dsimp[slB,w1,w2,hd])|refine aI ?_)
    refine cF (by simp[hd]) ?_
    refine WP.skip ?_
    simp -dsimp
    repeat(first|apply wG|(apply wR;simp -dsimp[slB,w1,w2,w3,u32L_len,la,tSm,tS,y1,y2,y3,y4,hnl])|refine aI ?_)
    refine ao_ g3_ hbk rfl rfl (And.intro (by simp[tSm,tS];try exact al_ _) (And.intro (by simp[slB,ec,lc]) (And.intro (by simp) (And.intro (by simp) trivial)))) ?_
    simp -dsimp
    repeat(first|apply wG|(apply wR;simp -dsimp[u32L_len,hS1,la,setL_whole,t1])|refine aI ?_)
    refine And.intro ⟨by rw[u32L_len,hS1],by rw[u32L_len,la];exact Nat.le_refl _,fun a h=>es_ h⟩ ?_
    repeat(first|apply wG|(apply wR;simp -dsimp[u32L_len,hS1,la,setL_whole,t1,w1])|refine aI ?_)
    refine loopW.next (smK b (k+1)) (af_ [] (by simp[slB,w1,hN]) (by simp[hSe,setL_whole,u32L_len,hS1,la])) (blkN b+1-(k+1)) (by omega) ⟨k+1,rfl,by omega,rfl⟩
  ·refine cF (by simp;omega) ?_
   refine WP.exit ?_
   have hst:stV b k=oq_ b:=by rw[stV,if_neg hkb]
   have hf:=lr_ b
   simp -dsimp[hst]
   refine sG ?_
   refine ai_ (fun q S=>∃ i:Nat,q=32-i∧i≤32∧S=smT b i) 32 (S0:=smT b 0) (af_ [] (by simp) (by simp[hst,setL_whole];try rfl)) ⟨0,rfl,by omega,rfl⟩ ?_
   rintro _ _ ⟨i,rfl,hi,rfl⟩
   simp -dsimp
   refine sG ?_
   by_cases hi32:i<32
   ·refine cT (by simp;omega) ?_
    refine WP.skip ?_
    obtain⟨q,hq⟩:∃ q,i/4=q:=⟨_,rfl⟩
    obtain⟨m,hm⟩:∃ m,i%4=m:=⟨_,rfl⟩
    have k0:(i:Int).tmod 4=(m:Int):=by rw[Int.tmod_eq_emod_of_nonneg (by omega)];omega
    have k1:IntKind.i64.wrap ((i:Int)/4)=(q:Int):=by rw[IntWalk.i64_in _ (by omega)];omega
    have k2:IntKind.i64.wrap (m:Int)=(m:Int):=by rw[IntWalk.i64_in _ (by omega)]
    have k3:IntKind.i64.wrap (8*(m:Int))=8*(m:Int):=by rw[IntWalk.i64_in _ (by omega)]
    have k4:shN .u32 (8*(m:Int))=8*m:=by simp[shN,IntKind.bits];omega
    have k5:IntKind.i64.wrap ((i:Int)+1)=((i+1:Nat):Int):=by rw[IntWalk.i64_in _ (by omega)];omega
    have h2:q<8:=by omega
    have hn:=l5_ (sumF b) 32 i hi32
    have hsf:sumF b i=UInt8.ofNat ((gW (oq_ b) q>>>(8*m)).toNat):=by rw[sumF,hq,hm]
    have k6:=xr_ (gW (oq_ b) q>>>(8*m))
    rw[← hsf] at k6
    have hl:=p4_ (sumF b) 32 i hi
    generalize sumF b i=x at *
    generalize telB (sumF b) 32 i=l at *
    simp -dsimp
    repeat(first|apply wG|(apply wR;simp -dsimp[k0,k1,k2,k3,k4,hf,h2,hl,ah_,u32L_len,aA_,sB_,k6,u2_,hi32])|refine aI ?_)
    refine loopW.next (smT b (i+1)) (af_ [] (by simp[k5]) (by simp[← hn])) (32-(i+1)) (by omega) ⟨i+1,rfl,by omega,rfl⟩
   ·refine cF (by simp;omega) ?_
    refine WP.exit ?_
    obtain rfl:i=32:=by omega
    have hs:=sL_ b
    have hl:=sumB_len b
    simp -dsimp[hs]
    repeat(first|apply wG|(apply wR;simp -dsimp[ah_,hl,lz,aF_])|refine aI ?_)
    refine And.intro (fun c h=>ap_ h) ?_
    refine WP.ret (ab_ ?_)
    simp -dsimp[setL_whole,ah_,aF_,hl,lz]
    exact al_ (bys (gb_ b))
end Go.Proofs.YtfgcgagcpnbgmaaGreatDoor
