/-
  Joined texts.
-/
import Derived.Test.YtkcgffilldklcaaGreatDoorHNb
import Derived.Test.YtkcgffilldklcaaGreatDoorHTd
import Derived.Test.YtkcgffilldklcaaGreatDoorHA
import Derived.Test.YtkcgffilldklcaaGreatDoorHEngCr
set_option linter.all false
namespace Go.Proofs.YtkcgffilldklcaaGreatDoor
open Go.Xe Go.RowKit
theorem AJ_ (x w:Nat):UInt8.ofNat (x+256*w)=UInt8.ofNat x:=by
 apply UInt8.toNat_inj.1
 rw[UInt8.toNat_ofNat',UInt8.toNat_ofNat']
 omega
theorem u2_ (a n:Nat):∀ {k j:Nat},k≤j→beB (a*256^j+n) k=beB n k
 | 0,_,_=>rfl
 | k+1,j,h=>by
  obtain⟨d,rfl⟩:∃ d,j=k+1+d:=⟨j-(k+1),by omega⟩
  have e:a*256^(k+1+d)+n=n+256^k*(256*(a*256^d)):=by
   rw[Nat.pow_add,Nat.pow_succ]
   simp[Nat.mul_left_comm,Nat.mul_comm,Nat.mul_assoc,Nat.add_comm]
  have hd:(n+256^k*(256*(a*256^d)))/256^k=n/256^k+256*(a*256^d):=Nat.add_mul_div_left _ _ (Nat.pow_pos (by decide))
  rw[beB,u2_ a n (by omega),beB,e,hd,AJ_]
theorem i6_:∀ b:By,beB (beN b) b.length=b
 | []=>rfl
 | c::b=>by
  have h:=i5_ b
  have hd:(c.toNat*256^b.length+beN b)/256^b.length=c.toNat:=by
   rw[Nat.mul_comm,Nat.mul_add_div (Nat.pow_pos (by decide)),Nat.div_eq_of_lt h,Nat.add_zero]
  rw[List.length_cons,beB,lK_,u2_ _ _ (Nat.le_refl _),i6_ b,hd,UInt8.ofNat_toNat]
def gdR (s:By) (num:Nat):Prop :=
 genS s≠0∧genS s=tailS s∧beN ((s.drop 4).take 4)=(crcB ((s.drop 8).take 116)).toNat∧beN ((s.drop 8).take 2)=num∧knd s≤3∧pcL s≤112∧(knd s<2→pcL s=112)∧(knd s%2=0→pcL s≠0) ∧
  (s.drop (12+pcL s)).take (112-pcL s)=List.replicate (112-pcL s) 0
section
variable {g num kind:Nat} {b:By} (hb:b.length≤112)
include hb
omit hb in
theorem yx_:((secE g num kind b).drop 4).take 4=beB (crcB (bodS num kind b)).toNat 4:=by
 rw[secE,List.drop_left' (beB_len _ _),List.take_left' (beB_len _ _)]
omit hb in
theorem xw_:(secE g num kind b).drop 8=bodS num kind b++beB g 4:=by
 have h:secE g num kind b=(beB g 4++beB (crcB (bodS num kind b)).toNat 4)++(bodS num kind b++beB g 4):=by simp[secE]
 rw[h,List.drop_left' (by simp[beB_len])]
theorem yy_:((secE g num kind b).drop 8).take 116=bodS num kind b:=by
 rw[xw_,List.take_left' (bodS_len hb)]
omit hb in
theorem yw_:((secE g num kind b).drop 8).take 2=beB num 2:=by
 rw[xw_,bodS,List.append_assoc,List.take_left' (beB_len _ _)]
omit hb in
theorem vK_:((secE g num kind b).drop (12+b.length)).take (112-b.length)=List.replicate (112-b.length) 0:=by
 have h:secE g num kind b=(beB g 4++beB (crcB (bodS num kind b)).toNat 4++beB num 2++[UInt8.ofNat kind,UInt8.ofNat b.length]++b)++(List.replicate (112-b.length) 0++beB g 4):=by
  simp[secE,bodS]
 rw[h,List.drop_left' (by simp[beB_len];omega),List.take_left' (by simp)]
end
theorem ng_ {s:By} {i:Nat} (h:i<s.length):s.drop i=byA s i::s.drop (i+1):=by
 rw[List.drop_eq_getElem_cons h]
 congr 1
 simp[byA,List.getD_eq_getElem?_getD,List.getElem?_eq_getElem h]
theorem jY_ (s:By) (n m:Nat):s.take (n+m)=s.take n++(s.drop n).take m:=by rw[List.take_add]
theorem zs_ {s:By} {num:Nat} (hs:s.length=128) (hn:num<65536):gdR s num↔gdB s num=true:=by
 simp only[gdB,begS,om_,Bool.and_eq_true,Bool.or_eq_true,decide_eq_true_eq]
 have hk4:(s.take 4).length=4:=by rw[List.length_take];omega
 have hk128:(s.drop 124).length=4:=by rw[List.length_drop];omega
 constructor
 ·rintro⟨h1,h2,h3,h4,h5,h6,h7,h8,h9⟩
  have hp:(pcS s).length=pcL s:=by rw[pcS,List.length_take,List.length_drop];omega
  refine⟨h6,h5,by omega,by omega,by omega,?_⟩
  have e4:beB (genS s) 4=s.take 4:=by
   have:=i6_ (s.take 4)
   rw[hk4] at this;exact this
  have e124:beB (genS s) 4=s.drop 124:=by
   have:=i6_ (s.drop 124)
   rw[hk128] at this
   rw[h2];exact this
  have e8:beB num 2=(s.drop 8).take 2:=by
   have h:=i6_ ((s.drop 8).take 2)
   rw[show ((s.drop 8).take 2).length=2 by rw[List.length_take,List.length_drop];omega,h4] at h
   exact h
  have hkn:UInt8.ofNat (knd s)=byA s 10:=by rw[knd,UInt8.ofNat_toNat]
  have hpl:UInt8.ofNat (pcL s)=byA s 11:=by rw[pcL,UInt8.ofNat_toNat]
  have eb:bodS num (knd s) (pcS s)=(s.drop 8).take 116:=by
   have t1:(s.drop 8).take 116=(s.drop 8).take 2++(s.drop 10).take 114:=by
    have:=jY_ (s.drop 8) 2 114
    rw[List.drop_drop] at this;exact this
   have t2:(s.drop 10).take 114=byA s 10::byA s 11::(s.drop 12).take 112:=by
    rw[ng_ (show 10<s.length by omega),ng_ (show 11<s.length by omega)];rfl
   have t3:(s.drop 12).take 112=(s.drop 12).take (pcL s)++(s.drop (12+pcL s)).take (112-pcL s):=by
    have:=jY_ (s.drop 12) (pcL s) (112-pcL s)
    rw[List.drop_drop,show pcL s+(112-pcL s)=112 by omega] at this;exact this
   rw[bodS,hp,hkn,hpl,e8,t1,t2,t3,h9];rfl
  have ec:beB (crcB (bodS num (knd s) (pcS s))).toNat 4=(s.drop 4).take 4:=by
   have h:=i6_ ((s.drop 4).take 4)
   rw[show ((s.drop 4).take 4).length=4 by rw[List.length_take,List.length_drop];omega,h3] at h
   rw[eb];exact h
  rw[secE,ec,eb,e4]
  have t1:s.drop 4=(s.drop 4).take 4++s.drop 8:=by
   have:=List.take_append_drop 4 (s.drop 4)
   rw[List.drop_drop] at this;exact this.symm
  have t2:s.drop 8=(s.drop 8).take 116++s.drop 124:=by
   have:=List.take_append_drop 116 (s.drop 8)
   rw[List.drop_drop] at this;exact this.symm
  have e0:s.take 4=s.drop 124:=e4.symm.trans e124
  calc s=s.take 4++s.drop 4:=(List.take_append_drop 4 s).symm
   _=s.take 4++((s.drop 4).take 4++((s.drop 8).take 116++s.drop 124)):=by rw[← t2,← t1]
   _=s.take 4++((s.drop 4).take 4++((s.drop 8).take 116++s.take 4)):=by rw[e0]
 ·rintro⟨h1,h2,h3,h4,h5,h6⟩
  have hg:=fc_ s
  have hp:(pcS s).length≤112:=by rw[pcS,List.length_take];omega
  have hpl:(pcS s).length=pcL s:=by rw[pcS,List.length_take,List.length_drop];omega
  have e3:=yx_ (g:=genS s) (num:=num) (kind:=knd s) (b:=pcS s)
  have e4:=yw_ (g:=genS s) (num:=num) (kind:=knd s) (b:=pcS s)
  have e5:=yy_ (g:=genS s) (num:=num) (kind:=knd s) hp
  have e6:=vK_ (g:=genS s) (num:=num) (kind:=knd s) (b:=pcS s)
  have e7:=qb_ (g:=genS s) (num:=num) (kind:=knd s) hg hp
  rw[← h6] at e3 e4 e5 e6 e7
  rw[hpl] at e6
  refine⟨by omega,e7.symm,?_,?_,h2,h1,by omega,by omega,e6⟩
  ·rw[e3,Fs_ (by have:=(crcB (bodS num (knd s) (pcS s))).isLt;omega),e5]
  ·rw[e4,pg_];omega
theorem pe_ {s:By} {i:Nat} (h:i<s.length):byA s i=s[i]:=by
 simp[byA,List.getD_eq_getElem?_getD,List.getElem?_eq_getElem h]
theorem vl_ {s:By} {o n:Nat} (h:o+n≤s.length):(s.drop o).take n=List.replicate n 0↔∀ x,o≤x→x<o+n→byA s x=0:=by
 rw[List.eq_replicate_iff]
 constructor
 ·rintro⟨_,h2⟩ x h3 h4
  refine h2 _ (List.mem_iff_getElem.2 ⟨x-o,by rw[List.length_take,List.length_drop];omega,?_⟩)
  rw[List.getElem_take,List.getElem_drop,pe_ (by omega)]
  congr 1;omega
 ·intro h2
  refine⟨by rw[List.length_take,List.length_drop];omega,fun b hb=>?_⟩
  obtain⟨i,hi,rfl⟩:=List.mem_iff_getElem.1 hb
  rw[List.length_take,List.length_drop] at hi
  have h3:=h2 (o+i) (by omega) (by omega)
  rw[pe_ (by omega)] at h3
  rw[List.getElem_take,List.getElem_drop,h3]
def EH_ (n:W):W:=if n.toNat%2=1 then n>>>1^^^3988292384#32 else n>>>1
theorem yF_ (n:W):EH_ n=crcT n:=by
 have h:n&&&1#32=BitVec.ofNat 32 (n.toNat%2):=by
  apply BitVec.eq_of_toNat_eq
  rw[BitVec.toNat_and,BitVec.toNat_ofNat]
  rw[show 1%2^32=2^1-1 from rfl,Nat.and_two_pow_sub_one_eq_mod,BitVec.toNat_ofNat]
  omega
 rw[EH_,crcT,h]
 rcases Nat.mod_two_eq_zero_or_one n.toNat with h0|h0
 ·rw[h0,if_neg (by decide)];simp
 ·rw[h0,if_pos rfl];rfl
end Go.Proofs.YtkcgffilldklcaaGreatDoor
namespace Go.Proofs.YtkcgffilldklcaaGreatDoor
open Go.Xe Go.RowKit
set_option maxRecDepth 10000 in
theorem cy_ (hsum:∀ b:List UInt8,b.length≤100000→Fn0 Tryz.prog 187 [slB b] (dD (ge_ b))) (s:ByteArray) (hs:s.size≤1000) (b:List UInt8) (hb:b.length≤90000):Fn0 Tryz.prog 130 [.v (.string s),slB b] (dD (tagB s.data.toList b)):=by
 have hsl:s.size=s.data.toList.length:=rfl
 obtain⟨t,ht⟩:∃ t,s.data.toList=t:=⟨_,rfl⟩
 rw[ht] at hsl
 obtain⟨T,hT⟩:∃ T,ge_ t=T:=⟨_,rfl⟩
 have lT:T.length=32:=by rw[← hT,sumB_len]
 have h1:=hsum t (by omega)
 have h2:=hsum (T++b) (by simp;omega)
 have h2r:Fun Tryz.prog 187 [.row 1000] [(1000,.row 5 1 (T++b).length ((bys (T++b)).map .d))] (.d (dD (ge_ (T++b)))) [] fun _=>False:=bm_ 1000 (T:=5) (cs:=bys (T++b)) (args':=[.row 1000]) (bi':=[(1000,.row 5 1 (T++b).length ((bys (T++b)).map .d))]) h2 rfl rfl trivial
 have eT:tagB t b=ge_ (T++b):=by rw[tagB,hT]
 have eb:bys (T++b)=bys T++bys b:=by rw[bys,bys,bys,List.map_append]
 rw[hT] at h1
 rw[ht,eT]
 refine ad_ (pn:=an_) ac_ Tryz.func130 rfl fun β0=>?_
 simp only[Tryz.f130]
 repeat(first|apply wG|(apply wR;simp -dsimp[ht])|refine aI ?_)
 refine aa_ he_ h1 rfl rfl (by first|(simp[slB,hsl];done)|(simp[slB,bys,hsl];done)) ?_
 simp -dsimp[dD]
 refine And.intro ⟨lT,fun a h=>ap_ h⟩ ?_
 refine aq_ (aS_ (k:=5) (T:=97) (ds:=bys T) (by simp[setL_whole,lT,ah_])) ?_
 simp -dsimp[fU_,fzc,dh_,ok_]
 refine sG ?_
 refine aw_ ac_ rfl rfl rfl rfl (by simp[ah_,lT]) (by decide) rfl ?_
 simp -dsimp[bL_,lT,slB]
 repeat(first|apply wG|(apply wR;simp -dsimp[slB,ah_,lT])|refine aI ?_)
 refine vcStop.call he_ (h2r) (rl [(1000,13)]) rfl rfl (by simp[eb,lT,BoxLeq]) (ag_ (by simp[eb,lT,BoxLeq]) rfl (by first|rfl|(simp[eb,lT,BoxLeq];done)) (by simp[eb,lT,BoxLeq]) (by simp[eb,lT,BoxLeq])) (fun _ h=>h.elim) (fun ⟨_,h⟩=>h.elim) (fun ⟨_,h⟩=>h.elim) (by simp[eb,lT,BoxLeq]) ?_
 simp -dsimp[dD]
 refine And.intro ⟨sumB_len _,fun a h=>ap_ h⟩ ?_
 repeat(first|apply wG|(apply wR;simp -dsimp[ah_,sumB_len])|refine aI ?_)
 refine WP.ret (ab_ ?_)
 simp -dsimp[setL_whole,ah_,sumB_len,aG_]
 exact al_ _
end Go.Proofs.YtkcgffilldklcaaGreatDoor
set_option maxRecDepth 10000
namespace Go.Proofs.YtkcgffilldklcaaGreatDoor
open Go.Xe Go.RowKit
def permI:List D:=permT.flatten.map fun (k:Nat)=>.v (.int .i64 (k:Int))
theorem iu_:permI.length=160:=rfl
theorem tE_:∀ r,r<10→∀ j,j<16→permT.flatten[r*16+j]? = some (ptA r j):=by decide +kernel
theorem mz_ (r j:Nat) (hr:r<10) (hj:j<16):permI[r*16+j]? = some (.v (.int .i64 (ptA r j:Int))):=by
 rw[permI,List.getElem?_map,tE_ r hr j hj];rfl
theorem et_ {l:List W} {a:D} (h:a∈u32L l):oneD a=true:=by
 obtain⟨j,_,rfl⟩:=List.mem_map.1 h
 rfl
set_option maxHeartbeats 4000000 in
theorem rF_:Fn0 Tryz.prog 213 [] (.agg permI):=by
 refine ad_ (pn:=an_) ac_ Tryz.func213 rfl fun β0=>?_
 simp only[Tryz.f213]
 refine sG ?_
 refine WP.ret (ab_ ?_)
 simp -dsimp
 exact al_ permI
theorem F3_ (a b c d x y:W):m4 a b c d x y=xJ_ a b c d x y:=by
 simp only[m4,xJ_,xx_]
def plQ (i:Nat):Nat×Nat×Nat×Nat:=if 4≤i then (i%4,4+(i%4+1)%4,8+(i%4+2)%4,12+(i%4+3)%4) else (i%4,4+i%4,8+i%4,12+i%4)
theorem rE_ (m:List W) (r:Nat) (v:List W) (i a b c d:Nat) (h:plQ i=(a,b,c,d)) :
  refRd m r v (i+1)=v0_ (refRd m r v i) a b c d (xJ_ (gW (refRd m r v i) a) (gW (refRd m r v i) b) (gW (refRd m r v i) c) (gW (refRd m r v i) d) (gW m (ptA r (2*i))) (gW m (ptA r (2*i+1)))):=by
 rw[refRd]
 rw[show (if 4≤i then (i%4,4+(i%4+1)%4,8+(i%4+2)%4,12+(i%4+3)%4) else (i%4,4+i%4,8+i%4,12+i%4))=plQ i from rfl,h]
def z8:List W:=List.replicate 8 0
abbrev rb1 (h:List W) (b:List UInt8) (n:Nat) (last:Bool) (i:Nat):St :=
 mkS 182 [(1,.d (slB b)),(2,.d (.v (.int .u64 n))),(3,.d (.v (.bool last))),(4,.ptr 4 0),(8,.ptr 8 0),(9,.ptr 9 0),(10,.d (.v (.int .i64 i)))] [(4,.cells 258 ((u32L h).map .d)),(8,.cells 258 ((u32L z8).map .d)),(9,.cells 270 ((u32L (bW_ b i)).map .d))]
abbrev rb2 (h M:List W) (n:Nat) (last:Bool) (i:Nat):St :=
 mkS 182 [(2,.d (.v (.int .u64 n))),(3,.d (.v (.bool last))),(4,.ptr 4 0),(8,.ptr 8 0),(9,.ptr 9 0),(11,.ptr 11 0),(12,.ptr 12 0),(13,.d (.v (.int .i64 i)))] [(4,.cells 258 ((u32L h).map .d)),(8,.cells 258 ((u32L z8).map .d)),(9,.cells 270 ((u32L M).map .d)),(11,.cells 270 ((u32L (filV h i)).map .d)),(12,.cells 258 ((u32L iniV).map .d))]
abbrev rbx (h M V:List W):Bxs:=[(4,.cells 258 ((u32L h).map .d)),(8,.cells 258 ((u32L z8).map .d)),(9,.cells 270 ((u32L M).map .d)),(11,.cells 270 ((u32L V).map .d))]
abbrev rbh (h M V:List W):St:=mkS 182 [(4,.ptr 4 0),(8,.ptr 8 0),(9,.ptr 9 0),(11,.ptr 11 0)] (rbx h M V)
abbrev rb3 (h M H:List W) (r:Nat):St :=
 mkS 182 [(4,.ptr 4 0),(8,.ptr 8 0),(9,.ptr 9 0),(11,.ptr 11 0),(14,.ptr 14 0),(15,.d (.v (.int .i64 r)))] (rbx h M (refRs M H r)++[(14,.cells 278 (permI.map .d))])
abbrev rb4 (h M V:List W) (r i:Nat):St :=
 mkS 182 [(4,.ptr 4 0),(8,.ptr 8 0),(9,.ptr 9 0),(11,.ptr 11 0),(14,.ptr 14 0),(15,.d (.v (.int .i64 r))),(16,.d (.v (.int .i64 i)))] (rbx h M (refRd M r V i)++[(14,.cells 278 (permI.map .d))])
abbrev rb5 (h M V:List W) (r i a b c d:Nat):St :=
 mkS 182 [(4,.ptr 4 0),(8,.ptr 8 0),(9,.ptr 9 0),(11,.ptr 11 0),(14,.ptr 14 0),(15,.d (.v (.int .i64 r))),(16,.d (.v (.int .i64 i))),(18,.ptr 18 0)] (rbx h M V++[(14,.cells 278 (permI.map .d)),(18,.cells 280 [.d (.v (.int .i64 a)),.d (.v (.int .i64 b)),.d (.v (.int .i64 c)),.d (.v (.int .i64 d))])])
def Clx:Code→Code
 | .seq a _=>a
 | .loop c=>c
 | .block _ c=>c
 | .cond _ a _=>a
 | c=>c
def Crx:Code→Code
 | .seq _ b=>b
 | .cond _ _ b=>b
 | c=>c
noncomputable def bF0:Code:=Tryz.f203.body.getD .skip
noncomputable def bF1:Code:=Crx (Clx (Crx (Crx (Crx (Crx (Crx (Crx (Crx (Crx (Crx (Crx bF0)))))))))))
noncomputable def bF2:Code:=Crx (Clx (Clx (Crx (Clx (Clx bF1)))))
noncomputable def bF3:Code:=Clx (Clx (Crx (Clx (Clx bF2))))
noncomputable def FW_:Code:=Crx (Crx (Crx bF3))
set_option maxHeartbeats 16000000 in
theorem F5_ (h M V:List W) (lV:V.length=16) (lM:M.length=16) (r i k1 a b c d:Nat) (hr:r<10) (hi:i<8) (hk:2*i=k1) (ha:a<16) (hb:b<16) (hc:c<16) (hd:d<16) {β0:Nat→Value} {Q:Exit→St→Prop}
  (hQ:∀ S',Wk S' (rb5 h M (v0_ V a b c d (xJ_ (gW V a) (gW V b) (gW V c) (gW V d) (gW M (ptA r k1)) (gW M (ptA r (k1+1))))) r i a b c d)→Q .normal S') :
  WP Tryz.prog ⟨[],β0,none,false⟩ an_ FW_ Q (rb5 h M V r i a b c d):=by
 have f1:IntKind.i64.wrap (2*(i:Int))=(k1:Int):=by rw[IntWalk.i64_in _ (by omega)];omega
 have f2:IntKind.i64.wrap ((k1:Int)+1)=((k1+1:Nat):Int):=by rw[IntWalk.i64_in _ (by omega)];omega
 have g1:=mz_ r k1 hr (by omega)
 have g2:=mz_ r (k1+1) hr (by omega)
 have q1:=tD_ r hr k1 (by omega)
 have q2:=tD_ r hr (k1+1) (by omega)
 have hk16:k1<16:=by omega
 have hk17:k1+1<16:=by omega
 have hmx:=tp_ (gW V a) (gW V b) (gW V c) (gW V d) (gW M (ptA r k1)) (gW M (ptA r (k1+1)))
 rw[F3_] at hmx
 obtain⟨t1,ht1⟩:∃ t,ptA r k1=t:=⟨_,rfl⟩
 obtain⟨t2,ht2⟩:∃ t,ptA r (k1+1)=t:=⟨_,rfl⟩
 have ga1:atL (permI.map .d) (r*16+k1)=.d (.v (.int .i64 (t1:Int))):=by rw[← dj_,List.getElem?_map,g1,ht1];rfl
 have ga2:atL (permI.map .d) (r*16+(k1+1))=.d (.v (.int .i64 (t2:Int))):=by rw[← dj_,List.getElem?_map,g2,ht2];rfl
 rw[ht1] at g1 q1
 rw[ht2] at g2 q2
 rw[ht1,ht2] at hmx hQ
 obtain⟨⟨Q1,Q2,Q3,Q4⟩,hq⟩:∃ q,xJ_ (gW V a) (gW V b) (gW V c) (gW V d) (gW M t1) (gW M t2)=q:=⟨_,rfl⟩
 rw[hq] at hmx hQ
 rw[v0_] at hQ
 simp only[wD] at hmx hQ
 simp only[FW_,bF3,bF2,bF1,bF0,Tryz.f203,Clx,Crx,Option.getD]
 simp -dsimp
 refine i7_ ac_ dk_ ?_
 simp (maxSteps:=3000000) -dsimp[u32L_len,aC_,lV,lM,ha,hb,hc,hd,hr,hk16,hk17,f1,f2,q1,q2,iu_,ga1,ga2]
 refine And.intro (by omega) ?_
 refine And.intro (by omega) ?_
 refine And.intro (by omega) ?_
 refine And.intro (by omega) ?_
 refine And.intro (by omega) ?_
 refine And.intro (by omega) ?_
 refine And.intro (by omega) ?_
 refine And.intro (by omega) ?_
 refine And.intro (by omega) ?_
 refine And.intro (by omega) ?_
 refine And.intro (by omega) ?_
 refine And.intro (by omega) ?_
 refine And.intro (by omega) ?_
 refine And.intro (by omega) ?_
 refine And.intro (by omega) ?_
 refine And.intro (by omega) ?_
 refine And.intro (by omega) ?_
 refine And.intro (by omega) ?_
 refine aa_ nq_ hmx rfl rfl (by simp) ?_
 simp (maxSteps:=3000000) -dsimp[u32L_len,aC_,aY_,List.length_set,lV,lM,ha,hb,hc,hd]
 refine And.intro (by omega) ?_
 refine And.intro (by omega) ?_
 refine And.intro (by omega) ?_
 refine And.intro (by omega) ?_
 refine And.intro (by omega) ?_
 refine And.intro (by omega) ?_
 refine And.intro (by omega) ?_
 refine And.intro (by omega) ?_
 refine And.intro (by kernel_rfl) ?_
 exact hQ _ (ae_ [] (by simp) (by simp))
end Go.Proofs.YtkcgffilldklcaaGreatDoor
set_option maxRecDepth 10000
set_option maxHeartbeats 4000000
namespace Go.Proofs.YtkcgffilldklcaaGreatDoor
open Go.Xe Go.RowKit
theorem kZ_ {H:Nat→Bool→Dg} (hl:∀ j b,(H j b).length=32):∀ n,(sy_ H n).length=64*n
 | 0=>rfl
 | n+1=>by rw[sy_,List.length_append,List.length_append,kZ_ hl n,hl,hl];omega
theorem yn_ (s:ByteArray) (hs:s.size≤1000) (b:List UInt8) (hb:b.length≤90000):Fun Tryz.prog 98 [.d (.v (.string s)),.row 1000] [(1000,.row 5 1 b.length ((bys b).map .d))] (.d (dD (tagB s.data.toList b))) [] fun _=>False :=
 bm_ 1000 (T:=5) (cs:=bys b) (args':=[.d (.v (.string s)),.row 1000]) (bi':=[(1000,.row 5 1 b.length ((bys b).map .d))]) (gS_ s hs b hb) rfl rfl trivial
abbrev puS (g:Nat) (first caps:List D) (H:Nat→Bool→Dg) (j:Nat):St :=
 mkS 25 [(0,.fn (.func g) (first.map .d) (caps.map .d)),(2,.ptr 2 0),(3,.row 500),(8,.d (.v (.int .i64 j)))] [(2,.cells 97 ((bys z32).map .d)),(500,.row 5 1 (64*j) ((bys (sy_ H j)).map .d))]
theorem tB_ (g:Nat) (hb:Body Tryz.prog g) (first caps:List D) (H:Nat→Bool→Dg) (hH:∀ j,j<64→∀ b,Fn0 Tryz.prog g (first++([.v (.int .i64 j),.v (.bool b)]++caps)) (dD (H j b))) (hl:∀ j b,(H j b).length=32) :
  Fun Tryz.prog 141 [.fn (.func g) (first.map .d) (caps.map .d)] [] (.d (dD (pubB H))) [] fun _=>False:=by
 refine ad_ (pn:=an_) ac_ Tryz.func141 rfl fun β0=>?_
 simp only[Tryz.f141]
 refine sG ?_
 refine ia_ ac_ 7 rfl rfl rfl rfl rfl (by decide) (by decide) (by simp) ?_
 refine sH ?_
 refine ai_ (fun q S=>∃ j:Nat,q=64-j∧j≤64∧S=puS g first caps H j) 64 (S0:=puS g first caps H 0) (Wk.go [] 7 500 (by decide) (by simp) (by simp) (by simp[z32,bys,a6_,sy_])) ⟨0,rfl,by omega,rfl⟩ ?_
 rintro _ _ ⟨j,rfl,hj,rfl⟩
 refine sH ?_
 by_cases hj64:j<64
 ·refine cT (by simp;omega) ?_
  refine WP.skip ?_
  have e1:IntKind.i64.wrap ((j:Int)+1)=((j+1:Nat):Int):=by rw[IntWalk.i64_in _ (by omega)];omega
  have h0:=hH j hj64 false
  have h1:=hH j hj64 true
  have l0:=hl j false
  have l1:=hl j true
  have hpl:=kZ_ hl j
  have hp1:sy_ H (j+1)=sy_ H j++(H j false++H j true):=rfl
  generalize H j false=x at *
  generalize H j true=y at *
  refine sH ?_
  refine ao_ hb h0 rfl rfl (by simp) ?_
  simp -dsimp[dD]
  refine sG ?_
  refine ao_ hb h1 rfl rfl (by simp) ?_
  simp -dsimp[dD]
  refine And.intro ⟨l0,fun a h=>ap_ h⟩ ?_
  repeat refine aI ?_
  refine And.intro ⟨l1,fun a h=>ap_ h⟩ ?_
  repeat(first|apply wG|(apply wR;simp -dsimp[setL_whole,ah_,l0,l1,aG_])|refine aI ?_)
  refine loopW.next (puS g first caps H (j+1)) (Wk.go [5,6,19] 21 500 (by decide) (by simp) (by simp[e1]) (by simp[hp1,bys_append];omega)) (64-(j+1)) (by omega) ⟨j+1,rfl,by omega,rfl⟩
 ·refine cF (by simp;omega) ?_
  refine WP.exit ?_
  obtain rfl:j=64:=by omega
  have hpl:=kZ_ hl 64
  have ht:=yn_ ⟨#[111,110,101]⟩ (by decide) (sy_ H 64) (by omega)
  have hr:(pubB H).length=32:=hR_ H
  rw [show (⟨#[111, 110, 101]⟩ : ByteArray).data.toList = tB "one" by decide +kernel, show tagB (tB "one") (sy_ H 64) = pubB H from rfl] at ht
  generalize pubB H=r at *
  refine sH ?_
  refine vcStop.call bB_ (ht) (rl [(1000,500)]) rfl rfl (by simp[hpl,BoxLeq]) (ag_ (by simp[hpl,BoxLeq]) rfl (by first|rfl|(simp[hpl,BoxLeq];done)) (by simp[hpl,BoxLeq]) (by simp[hpl,BoxLeq])) (fun _ h=>h.elim) (fun ⟨_,h⟩=>h.elim) (fun ⟨_,h⟩=>h.elim) (by simp[hpl,BoxLeq]) ?_
  simp -dsimp[dD]
  refine And.intro ⟨hr,Nat.le_of_eq z32_len.symm,fun a h=>ap_ h⟩ ?_
  repeat(first|apply wG|(apply wR;simp -dsimp[ah_,hr])|refine aI ?_)
  refine WP.ret (ab_ ?_)
  simp -dsimp[setL_whole,ah_,z32_len,hr,aG_]
  exact al_ _
theorem si_ (a b c:List UInt8) (hf:a.length+b.length+c.length≤100000):Fun Tryz.prog 151 [.row 1000] [(1000,.row 22 1 3 [.d (slB a),.d (slB b),.row 1001]),(1001,.row 5 1 c.length ((bys c).map .d))] (.d (slB (a++(b++c)))) [] fun _=>False:=by
 have h:=eH_ [a,b,c] (by simp) (by simp[catB];omega)
 have e:catB [a,b,c]=a++(b++c):=by simp[catB]
 rw[e] at h
 refine bm_ 1001 (T:=5) (cs:=bys c) (args':=[.row 1000]) (bi':=[(1000,.row 22 1 3 [.d (slB a),.d (slB b),.row 1001]),(1001,.row 5 1 c.length ((bys c).map .d))]) h rfl rfl ?_
 simp[lsB,slB]
def onD (seed:List UInt8) (i:Nat):D:=.agg [slB seed,.v (.int .i64 i)]
theorem mf_ (seed:List UInt8) (hs:seed.length≤1000) (i:Nat) (hi:i≤65535) (j:Nat) (hj:j<64) (b:Bool) :
  Fn0 Tryz.prog 96 [onD seed i,.v (.int .i64 j),.v (.bool b)] (dD (secretB seed i j b)):=by
 have h63:=sK_ i hi
 have l2:(twoB i).length=2:=rfl
 obtain⟨tw,htw⟩:∃ t,twoB i=t:=⟨_,rfl⟩
 rw[htw] at h63 l2
 obtain⟨x,hx⟩:∃ x:List UInt8,[UInt8.ofNat j,if b=true then 1 else 0]=x:=⟨_,rfl⟩
 have lx:x.length=2:=by rw[← hx];rfl
 have hbx:bys x=[.v (.int .u8 (j:Int)),.v (.int .u8 (if b=true then 1 else 0))]:=by
  rw[← hx]
  simp only[bys,List.map_cons,List.map_nil,a6_,UInt8.toNat_ofNat']
  congr 3
  ·congr 1
   omega
  ·cases b<;>rfl
 have h60:=si_ seed tw x (by omega)
 rw[lx,hbx] at h60
 have ht:=gS_ ⟨#[115,101,99,114,101,116]⟩ (by decide) (seed++(tw++x)) (by simp;omega)
 rw [show (⟨#[115, 101, 99, 114, 101, 116]⟩ : ByteArray).data.toList = tB "secret" by decide +kernel] at ht
 have hl : (tagB (tB "secret") (seed ++ (tw ++ x))).length = 32 := aH_ _ _
 rw [show secretB seed i j b = tagB (tB "secret") (seed ++ (tw ++ x)) by rw [secretB, htw, hx]]
 have e1:IntKind.u8.wrap (j:Int)=(j:Int):=by rw[IntKind.wrap_u8];omega
 generalize tagB (tB "secret") (seed ++ (tw ++ x)) = r at *
 refine ad_ (pn:=an_) ac_ Tryz.func96 rfl fun β0=>?_
 simp only[Tryz.f96]
 repeat(first|apply wG|(apply wR;simp -dsimp[onD,slB])|refine aI ?_)
 refine pj_ (mkS 21 [(1,.d (.v (.int .i64 j))),(3,.ptr 3 0),(6,.ptr 6 0),(7,.d (.v (.int .u8 (if b=true then 1 else 0))))] [(3,.cells 158 [.d (slB seed),.d (.v (.int .i64 i))]),(6,.cells 97 ((bys z32).map .d))]) ?_ ?_
 ·refine WP.cond (b:=b) (by simp) (fun hb=>?_) (fun hb=>?_)
  ·refine sG ?_
   exact aL_ (ae_ [] (by simp[hb]) (by simp[slB,z32,bys,a6_]))
  ·refine WP.skip ?_
   exact aL_ (ae_ [] (by simp[hb]) (by simp[slB,z32,bys,a6_]))
 simp -dsimp[slB]
 repeat(first|apply wG|(apply wR;simp -dsimp[slB])|refine aI ?_)
 refine aa_ hn_ h63 rfl rfl (by simp) ?_
 simp -dsimp[slB]
 repeat(first|apply wG|(apply wR;simp -dsimp[slB,e1])|refine aI ?_)
 refine vcStop.call cW_ (h60) (rl [(1000,18),(1001,17)]) rfl rfl (by simp[slB,e1,BoxLeq]) (ag_ (by simp[slB,e1,BoxLeq]) rfl (by first|rfl|(simp[slB,e1,BoxLeq];done)) (by simp[slB,e1,BoxLeq]) (by simp[slB,e1,BoxLeq])) (fun _ h=>h.elim) (fun ⟨_,h⟩=>h.elim) (fun ⟨_,h⟩=>h.elim) (by simp[slB,e1,BoxLeq]) ?_
 simp -dsimp[slB]
 refine sG ?_
 refine aa_ bB_ ht rfl rfl (by simp[slB]) ?_
 simp -dsimp[dD]
 refine And.intro ⟨hl,Nat.le_of_eq z32_len.symm,fun a h=>ap_ h⟩ ?_
 repeat(first|apply wG|(apply wR;simp -dsimp[ah_,hl])|refine aI ?_)
 refine WP.ret (ab_ ?_)
 simp -dsimp[setL_whole,ah_,z32_len,hl,aG_]
 exact al_ _
theorem uc_ (seed:List UInt8) (hs:seed.length≤1000) (i:Nat) (hi:i≤65535) (j:Nat) (hj:j<64) (b:Bool) :
  Fn0 Tryz.prog 97 [onD seed i,.v (.int .i64 j),.v (.bool b)] (dD (keyH seed i j b)):=by
 have h40:=mf_ seed hs i hi j hj b
 have lh:(secretB seed i j b).length=32:=aH_ _ _
 have h46:=yS_ (secretB seed i j b) lh
 have hl:(keyH seed i j b).length=32:=aH_ _ _
 rw[show openB (secretB seed i j b)=keyH seed i j b from rfl] at h46
 generalize keyH seed i j b=r at *
 generalize secretB seed i j b=d at *
 refine ad_ (pn:=an_) ac_ Tryz.func97 rfl fun β0=>?_
 simp only[Tryz.f97]
 repeat(first|apply wG|(apply wR;simp -dsimp[onD,slB])|refine aI ?_)
 refine aa_ jc_ h40 rfl rfl (by simp[onD,slB]) ?_
 refine sH ?_
 refine aa_ nN_ h46 rfl rfl (by simp[dD]) ?_
 simp -dsimp[dD]
 refine And.intro ⟨hl,fun a h=>ap_ h⟩ ?_
 repeat(first|apply wG|(apply wR;simp -dsimp[ah_,hl])|refine aI ?_)
 refine WP.ret (ab_ ?_)
 simp -dsimp[setL_whole,ah_,hl,aG_]
 exact al_ _
theorem x8_ (f:List Bool) (i:Nat) (h:i<f.length):(boD f).drop i=.v (.bool (f.getD i false))::(boD f).drop (i+1):=by
 rw[List.drop_eq_getElem_cons (by rw[gJ_];exact h)]
 congr 1
 simp[boD,List.getD_eq_getElem?_getD,h]
def f5_ (k:Int) (op cl pa:List Dg):List D:=[.v (.int .i64 k),slG op,slG cl,slG pa]
def LB:List TypeId:=[5]
theorem FN_:gOk ak_ LB=true:=by decide
theorem xH_:LB.all (fun t=>iG_ (ak_ t))=true:=by decide
theorem np_:Tryz.prog.keyTypeAt 4 5=true:=by kernel_rfl
theorem Em_:Tryz.prog.eqGuardType Tryz.prog.depth 97=false:=by kernel_rfl
def fM_ (d:Dg):List (List D):=d.map fun b=>[a6_ b]
theorem cs_ (d:Dg):(fM_ d).flatten=bys d:=by
 induction d with
 | nil=>rfl
 | cons b d ih=>rw[fM_,List.map_cons,List.flatten_cons,← fM_,ih];rfl
theorem hW_ (d:Dg):∀ c∈fM_ d,OkD ak_ 1 5 c:=fun c hc=>by
 obtain⟨b,_,rfl⟩:=List.mem_map.1 hc
 have:=b.toNat_lt
 simp only[OkD,vc_]
 exact⟨b.toNat,rfl,by simp[IntKind.min,IntKind.signed],by simp[IntKind.max,IntKind.signed,IntKind.bits];omega⟩
theorem qz_ (d:Dg):bx_ (bys d)=d.map fun b=>Lit.int .u8 (b.toNat:Int):=by
 rw[bx_,bys,List.flatMap_map]
 induction d with
 | nil=>rfl
 | cons b d ih=>rw[List.flatMap_cons,ih];rfl
theorem mO_ (a b:Dg):decide (a=b)=true↔bx_ (fM_ a).flatten=bx_ (fM_ b).flatten:=by
 rw[cs_,cs_,qz_,qz_,decide_eq_true_iff]
 refine⟨fun h=>by rw[h],fun h=>?_⟩
 have key:∀ a b:Dg,(a.map fun b=>Lit.int .u8 (b.toNat:Int))=(b.map fun b=>Lit.int .u8 (b.toNat:Int))→a=b:=by
  intro a
  induction a with
  | nil=>intro b h;cases b with
   | nil=>rfl
   | cons y b=>simp at h
  | cons x a ih=>intro b h;cases b with
   | nil=>simp at h
   | cons y b =>
    simp only[List.map_cons,List.cons.injEq,Lit.int.injEq,true_and] at h
    have hxy:x=y:=UInt8.toNat_inj.1 (by have:=h.1;omega)
    rw[ih b h.2,hxy]
 exact key a b h
theorem uC_:∀ {l:List Dg} (i:Nat) (y:Dg),bb_ l→y.length=32→i<l.length→(dgL l).take (i*32)++bys y++(dgL l).drop (i*32+32)=dgL (l.set i y)
 | [],i,y,_,_,h=>by simp at h
 | d::l,0,y,h,hy,_=>by
  rw[List.set_cons_zero,dgL,dgL,Nat.zero_mul,List.take_zero,List.nil_append,Nat.zero_add,List.drop_left' (by rw[ah_,h d (by simp)])]
 | d::l,i+1,y,h,hy,hi=>by
  have hd:=h d (by simp)
  rw[List.set_cons_succ,dgL,dgL,← uC_ i y (fun x hx=>h x (by simp[hx])) hy (by simpa using hi),List.take_append,List.drop_append,ah_,hd,List.take_of_length_le (by rw[ah_,hd];omega),List.drop_of_length_le (by rw[ah_,hd];omega),List.nil_append,show (i+1)*32-32=i*32 by omega,show (i+1)*32+32-32=i*32+32 by omega]
  simp
theorem kF_:∀ (xs cs:List AV) (off:Nat),off+xs.length≤cs.length→setL cs off xs=cs.take off++xs++cs.drop (off+xs.length)
 | [],cs,off,_=>by simp[setL]
 | x::xs,cs,off,h=>by
  simp only[List.length_cons] at h
  rw[setL,kF_ xs (cs.set off x) (off+1) (by simp;omega)]
  have ho:off<cs.length:=by omega
  rw[List.set_eq_take_append_cons_drop,if_pos ho]
  have hl:(cs.take off).length=off:=by simp;omega
  have e1:(cs.take off++x::cs.drop (off+1)).take (off+1)=cs.take off++[x]:=by
   rw[List.take_append,hl,List.take_of_length_le (by omega),show off+1-off=1 by omega];rfl
  have e2:(cs.take off++x::cs.drop (off+1)).drop (off+1+xs.length)=cs.drop (off+(xs.length+1)):=by
   rw[List.drop_append,hl,List.drop_of_length_le (by omega),List.nil_append,show off+1+xs.length-off=xs.length+1 by omega,List.drop_succ_cons,List.drop_drop]
   congr 1;omega
  rw[e1,e2]
  simp
theorem uD_ {l:List Dg} (i:Nat) (y:Dg) (h:bb_ l) (hy:y.length=32) (hi:i<l.length):setL ((dgL l).map .d) (i*32) ((bys y).map .d)=(dgL (l.set i y)).map .d:=by
 have hl:=aV_ h
 rw[kF_ _ _ _ (by rw[List.length_map,List.length_map,ah_,hl,hy];omega),← uC_ i y h hy hi,List.length_map,ah_,hy]
 simp
theorem uE_ {l:List Dg} (i:Nat) (h:bb_ l) (hi:i<l.length):List.take 32 (List.drop (i*32) ((dgL l).map AV.d))=(bys (digA l i)).map .d:=by
 rw[← g4_ h i hi,List.map_take,List.map_drop]
theorem nj_ {l:List Dg} (h:bb_ l) (i:Nat) (y:Dg) (hy:y.length=32):bb_ (l.set i y):=fun d hd=>by
 rcases List.mem_or_eq_of_mem_set hd with h1|rfl
 ·exact h d h1
 ·exact hy
theorem qW_ (l:List Dg) (i j:Nat) (y:Dg) (hi:i<l.length):digA (l.set i y) j=if i=j then y else digA l j:=by
 unfold digA
 simp only[List.getD_eq_getElem?_getD,List.getElem?_set]
 by_cases e:i=j
 ·subst e;simp[hi]
 ·simp[e]
theorem wO_ (l:List Dg) (j:Nat) (h:j<l.length):digA l.reverse j=digA l (l.length-1-j):=by
 rw[digA,digA,List.getD_eq_getElem?_getD,List.getD_eq_getElem?_getD,List.getElem?_reverse h]
theorem h1_ {a b:List Dg} (h:a.length=b.length) (hg:∀ j,j<a.length→digA a j=digA b j):a=b:=by
 refine List.ext_getElem h fun i h1 h2=>?_
 have:=hg i h1
 unfold digA at this
 simpa [List.getD_eq_getElem?_getD,h1,h2] using this
abbrev rvS (m:List Dg) (i:Nat) (j:Int):St:=mkS 28 [(0,.row 1000),(2,.d (.v (.int .i64 i))),(3,.d (.v (.int .i64 j)))] [(1000,.row 97 32 m.length ((dgL m).map .d))]
theorem rA_ (l:List Dg) (h32:bb_ l) (hn:l.length≤65536):Fun Tryz.prog 150 [.row 1000] [(1000,.row 97 32 l.length ((dgL l).map .d))] (.d .any) [(1000,.row 97 32 l.length ((dgL l.reverse).map .d))] fun _=>False:=by
 have e0:IntKind.i64.wrap ((l.length:Int)-1)=(l.length:Int)-1:=IntWalk.i64_in _ (by omega)
 refine ad_ (pn:=an_) ac_ Tryz.func150 rfl fun β0=>?_
 simp only[Tryz.f150]
 repeat(first|apply wG|(apply wR;simp -dsimp[e0])|refine aI ?_)
 refine ai_ (fun q S=>∃ (i:Nat) (m:List Dg),q=l.length-i∧i≤l.length∧m.length=l.length∧bb_ m∧(∀ p,p<l.length→digA m p=if p<i∨l.length-i≤p then digA l (l.length-1-p) else digA l p)∧S=rvS m i ((l.length:Int)-1-i)) l.length (S0:=rvS l 0 ((l.length:Int)-1-(0:Nat))) (ae_ [] (by simp) (by simp)) ⟨0,l,rfl,by omega,rfl,h32,fun p hp=>by rw[if_neg (by omega)],rfl⟩ ?_
 rintro _ _ ⟨i,m,rfl,hi,hml,hm32,hm,rfl⟩
 refine sH ?_
 by_cases hij:(i:Int)<(l.length:Int)-1-i
 ·obtain⟨j,hj⟩:∃ j:Nat,(l.length:Int)-1-i=j:=⟨l.length-1-i,by omega⟩
  rw[hj] at hij
  have hi1:i<m.length:=by omega
  have hj1:j<m.length:=by omega
  have e1:IntKind.i64.wrap ((i:Int)+1)=((i+1:Nat):Int):=by rw[IntWalk.i64_in _ (by omega)];omega
  have e2:IntKind.i64.wrap ((j:Int)-1)=(l.length:Int)-1-((i+1:Nat):Int):=by rw[IntWalk.i64_in _ (by omega)];omega
  have gi:=uE_ i hm32 hi1
  have gj:=uE_ j hm32 hj1
  have hl:=aV_ hm32
  have yi:=ec_ hm32 i hi1
  have yj:=ec_ hm32 j hj1
  have p1:=uD_ i (digA m j) hm32 yj hi1
  have hm1:=nj_ hm32 i (digA m j) yj
  have lm1:(m.set i (digA m j)).length=m.length:=List.length_set
  have p2:=uD_ j (digA m i) hm1 yi (by omega)
  have hl1:=aV_ hm1
  have hnew:∀ p,p<l.length→digA ((m.set i (digA m j)).set j (digA m i)) p=if p<i+1∨l.length-(i+1)≤p then digA l (l.length-1-p) else digA l p:=fun p hp=>by
   rw[qW_ _ _ _ _ (by omega),qW_ _ _ _ _ hi1]
   have mi:=hm i (by omega)
   have mj:=hm j (by omega)
   have mp:=hm p hp
   rw[if_neg (by omega)] at mi mj
   by_cases c1:j=p
   ·subst c1
    rw[if_pos rfl,if_pos (by omega),mi]
    congr 1
    omega
   ·rw[if_neg c1]
    by_cases c2:i=p
    ·subst c2
     rw[if_pos rfl,if_pos (by omega),mj]
     congr 1
     omega
    ·rw[if_neg c2,mp]
     by_cases c3:p<i∨l.length-i≤p
     ·rw[if_pos c3,if_pos (by omega)]
     ·rw[if_neg c3,if_neg (by omega)]
  have hm2:=nj_ hm1 j (digA m i) yi
  have lm2:((m.set i (digA m j)).set j (digA m i)).length=l.length:=by rw[List.length_set,List.length_set,hml]
  generalize hM2:(m.set i (digA m j)).set j (digA m i)=m2 at *
  generalize m.set i (digA m j)=m1 at *
  generalize digA m i=x at *
  generalize digA m j=y at *
  refine cT (by simp[hj];omega) ?_
  refine WP.skip ?_
  simp -dsimp[hj]
  repeat(first|apply wG|(apply wR;simp -dsimp[gi,gj,hl,hl1,lm1,ah_,yi,yj,p1,p2,hi1,hj1])|refine aI ?_)
  refine And.intro ⟨by omega,fun a h=>ap_ h⟩ ?_
  repeat refine aI ?_
  refine And.intro ⟨by omega,fun a h=>ap_ h⟩ ?_
  refine sG ?_
  refine loopW.next (rvS m2 (i+1) ((l.length:Int)-1-((i+1:Nat):Int))) (ae_ [] (by simp[e1,e2]) (by simp[lm2,hml])) (l.length-(i+1)) (by omega) ⟨i+1,m2,rfl,by omega,lm2,hm2,hnew,rfl⟩
 ·refine cF (by simp;omega) ?_
  refine WP.exit ?_
  have e:m=l.reverse:=h1_ (by simp[hml]) fun p hp=>by
   rw[wO_ l p (by omega),hm p (by omega)]
   by_cases c:p<i∨l.length-i≤p
   ·rw[if_pos c]
   ·rw[if_neg c];congr 1;omega
  subst e
  refine sH ?_
  refine cO_ ?_
  simp -dsimp
end Go.Proofs.YtkcgffilldklcaaGreatDoor
