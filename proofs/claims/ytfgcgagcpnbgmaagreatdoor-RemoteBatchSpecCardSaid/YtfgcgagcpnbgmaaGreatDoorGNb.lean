/-
  Disks and logs, in plain lists: sectors, what is read of them, what is written; a sync that is whole adds its record, one that stops adds none.
-/
import Derived.Test.YtfgcgagcpnbgmaaGreatDoorGA
set_option linter.all false
namespace Go.Proofs.YtfgcgagcpnbgmaaGreatDoor
open Go.Xe Go.RowKit
abbrev By:=List UInt8
def beN (b:By):Nat:=b.foldl (fun n c=>n*256+c.toNat) 0
def beB (n:Nat):Nat→By
 | 0=>[]
 | k+1=>UInt8.ofNat (n/256^k)::beB n k
theorem bB_ (n:Nat):∀ k,(beB n k).length=k
 | 0=>rfl
 | k+1=>by rw[beB,List.length_cons,bB_ n k]
theorem xa_ (b:By) (a:Nat):b.foldl (fun n c=>n*256+c.toNat) a=a*256^b.length+beN b:=by
 induction b generalizing a with
 | nil=>simp[beN]
 | cons c b ih =>
  have h:beN (c::b)=c.toNat*256^b.length+beN b:=by rw[beN,List.foldl_cons,ih];simp
  rw[List.foldl_cons,ih,h,List.length_cons,Nat.pow_succ,Nat.add_mul,Nat.mul_assoc,Nat.mul_comm 256,Nat.add_assoc]
theorem lK_ (c:UInt8) (b:By):beN (c::b)=c.toNat*256^b.length+beN b:=by
 rw[beN,List.foldl_cons,xa_];simp
theorem i3_:∀ b:By,beN b<256^b.length
 | []=>by simp[beN]
 | c::b=>by
  have h1:=i3_ b
  have h2:=c.toNat_lt
  have h3:(c.toNat+1)*256^b.length≤256*256^b.length:=Nat.mul_le_mul_right _ (by omega)
  rw[Nat.add_mul,Nat.one_mul] at h3
  rw[lK_,List.length_cons,Nat.pow_succ,Nat.mul_comm (256^b.length)];omega
theorem pp_ (n:Nat):∀ k,beN (beB n k)=n%256^k
 | 0=>by rw[Nat.pow_zero,Nat.mod_one];rfl
 | k+1=>by
  have h:n/256^k%2^8=n/256^k%256:=rfl
  rw[beB,lK_,bB_,pp_ n k,UInt8.toNat_ofNat',h,Nat.pow_succ,Nat.mod_mul,Nat.mul_comm,Nat.add_comm]
theorem Fn_ {n:Nat} (h:n<4294967296):beN (beB n 4)=n:=by rw[pp_,Nat.mod_eq_of_lt (by omega)]
def crcT (n:W):W:=n>>>1^^^0xEDB88320#32*(n&&&1#32)
def sx_ (n:W):Nat→W
 | 0=>n
 | k+1=>crcT (sx_ n k)
def sy_ (n:W):By→W
 | []=>n
 | c::b=>sy_ (sx_ (n^^^BitVec.ofNat 32 c.toNat) 8) b
def crcB (b:By):W:=4294967295#32^^^sy_ 4294967295#32 b
theorem wR_ (n:W) (a b:By):sy_ n (a++b)=sy_ (sy_ n a) b:=by
 induction a generalizing n with
 | nil=>rfl
 | cons c a ih=>exact ih _
def bodS (num kind:Nat) (b:By):By:=beB num 2++(UInt8.ofNat kind::UInt8.ofNat b.length::(b++List.replicate (112-b.length) 0))
def secE (g num kind:Nat) (b:By):By:=beB g 4++(beB (crcB (bodS num kind b)).toNat 4++(bodS num kind b++beB g 4))
theorem lI_ {num kind:Nat} {b:By} (h:b.length≤112):(bodS num kind b).length=116:=by simp[bodS,bB_];omega
theorem hO_ {g num kind:Nat} {b:By} (h:b.length≤112):(secE g num kind b).length=128:=by simp[secE,bB_,lI_ h]
def genS (s:By):Nat:=beN (s.take 4)
def tailS (s:By):Nat:=beN (s.drop 124)
def knd (s:By):Nat:=(byA s 10).toNat
def pcL (s:By):Nat:=(byA s 11).toNat
def pcS (s:By):By:=(s.drop 12).take (pcL s)
def begS (s:By):Bool:=decide (knd s%2=1)
def or_ (s:By):Bool:=decide (knd s/2%2=1)
def gdB (s:By) (num:Nat):Bool :=
 decide (pcL s≤112)&&(decide (knd s≤3)&&((or_ s||decide (pcL s=112))&&((begS s||decide (pcL s≠0))&&(decide (0<genS s)&&decide (s=secE (genS s) num (knd s) (pcS s))))))
theorem gu_ (s:By):genS s<4294967296:=by
 have h:=i3_ (s.take 4)
 have h2:(s.take 4).length≤4:=by rw[List.length_take];omega
 have h3:256^(s.take 4).length≤256^4:=Nat.pow_le_pow_right (by decide) h2
 rw[genS];omega
theorem vI_ {s:By} (hs:s.length=128):tailS s<4294967296:=by
 have h:=i3_ (s.drop 124)
 rw[List.length_drop,hs] at h
 rw[tailS];omega
theorem kE_ {g num kind:Nat} {b:By} (hg:g<4294967296):genS (secE g num kind b)=g:=by
 rw[genS,secE,List.take_left' (bB_ _ _),Fn_ hg]
theorem kD_ {g num kind:Nat} {b:By} (hk:kind≤3):knd (secE g num kind b)=kind:=by
 have:byA (secE g num kind b) 10=UInt8.ofNat kind:=by
  simp[byA,secE,bodS,List.getD_eq_getElem?_getD,List.getElem?_append,bB_]
 rw[knd,this,UInt8.toNat_ofNat'];omega
theorem sX_ {g num kind:Nat} {b:By} (hb:b.length≤112):pcL (secE g num kind b)=b.length:=by
 have:byA (secE g num kind b) 11=UInt8.ofNat b.length:=by
  simp[byA,secE,bodS,List.getD_eq_getElem?_getD,List.getElem?_append,bB_]
 rw[pcL,this,UInt8.toNat_ofNat'];omega
theorem xu_ {g num kind:Nat} {b:By} (hb:b.length≤112):pcS (secE g num kind b)=b:=by
 have h:secE g num kind b=(beB g 4++beB (crcB (bodS num kind b)).toNat 4++beB num 2++[UInt8.ofNat kind,UInt8.ofNat b.length])++(b++(List.replicate (112-b.length) 0++beB g 4)):=by
  simp[secE,bodS]
 rw[pcS,sX_ hb,h,List.drop_left' (by simp[bB_]),List.take_left' rfl]
theorem qa_ {g num kind:Nat} {b:By} (hg:g<4294967296) (hb:b.length≤112):tailS (secE g num kind b)=g:=by
 have h:secE g num kind b=(beB g 4++beB (crcB (bodS num kind b)).toNat 4++bodS num kind b)++beB g 4:=by simp[secE]
 rw[tailS,h,List.drop_left' (by simp[bB_,lI_ hb]),Fn_ hg]
theorem vR_ {g num kind:Nat} {b:By} (hg:g<4294967296) (hg0:0<g) (hk:kind≤3) (hb:b.length≤112) (he:kind/2%2=1∨b.length=112) (h0:kind%2=1∨b.length≠0):gdB (secE g num kind b) num=true:=by
 simp only[gdB,begS,or_,kD_ hk,sX_ hb,kE_ hg,xu_ hb,Bool.and_eq_true,Bool.or_eq_true,decide_eq_true_eq]
 exact⟨hb,hk,he,h0,hg0,trivial⟩
theorem ug_ {s:By} {num:Nat} (h:gdB s num=true):tailS s=genS s:=by
 simp only[gdB,Bool.and_eq_true,decide_eq_true_eq] at h
 obtain⟨h1,_,_,_,h5,h6⟩:=h
 have hl:(pcS s).length≤112:=by rw[pcS,List.length_take];omega
 have:=qa_ (g:=genS s) (num:=num) (kind:=knd s) (b:=pcS s) (gu_ s) hl
 rw[← h6] at this
 exact this
def rd (l:List By) (at_:Nat):Nat→Nat→By→Option (Nat×By)
 | 0,_,_=>none
 | k+1,n,b =>
  if gdB (l.getD n []) n=true∧begS (l.getD n [])=decide (n=at_)∧genS (l.getD n [])=genS (l.getD at_ []) then
   if or_ (l.getD n [])=true then some (n+1,b++pcS (l.getD n [])) else rd l at_ k (n+1) (b++pcS (l.getD n []))
  else none
def rcs (l:List By):Nat→Nat→Nat→List (Nat×By)
 | 0,_,_=>[]
 | k+1,at_,last =>
  match rd l at_ (l.length-at_) at_ [] with
  | none=>[]
  | some (e,b)=>if genS (l.getD at_ [])<last then [] else (e,b)::rcs l k e (genS (l.getD at_ []))
def recs (l:List By):List By:=(rcs l l.length 0 0).map (·.2)
def secs (n:Nat):Nat:=max 1 ((n+111)/112)
def usd:List By→Nat
 | []=>0
 | b::l=>secs b.length+usd l
theorem oE_ (a b:List By):usd (a++b)=usd a+usd b:=by
 induction a with
 | nil=>simp[usd]
 | cons x a ih=>rw[List.cons_append,usd,usd,ih];omega
theorem eN_ {l:List By} {at_:Nat}:∀ {k n:Nat} {b:By} {e:Nat} {x:By},rd l at_ k n b=some (e,x)→n<e∧e≤n+k
 | 0,_,_,_,_,h=>by cases h
 | k+1,n,b,e,x,h=>by
  rw[rd] at h
  split at h
  ·split at h
   ·cases h;omega
   ·have:=eN_ h;omega
  ·cases h
theorem tt_ {l l':List By} {at_:Nat}:∀ {k n:Nat} {b:By} {e:Nat} {x:By},rd l at_ k n b=some (e,x)→at_<e→(∀ i,i<e→l'.getD i []=l.getD i [])→∀ k',e≤n+k'→rd l' at_ k' n b=some (e,x)
 | 0,_,_,_,_,h,_,_,_,_=>by cases h
 | k+1,n,b,e,x,h,ha,hl,0,hk=>by have:=eN_ h;omega
 | k+1,n,b,e,x,h,ha,hl,k'+1,hk=>by
  have he:=eN_ h
  rw[rd] at h ⊢
  rw[hl n (by omega),hl at_ ha]
  split at h
  ·rename_i h1
   rw[if_pos h1]
   split at h
   ·rename_i h2
    rw[if_pos h2];exact h
   ·rename_i h2
    rw[if_neg h2]
    exact tt_ h ha hl k' (by omega)
  ·cases h
theorem ts_ {l:List By} (hl:∀ s∈l,s.length=128) {at_:Nat}:∀ {k n:Nat} {b:By} {e:Nat} {x:By},rd l at_ k n b=some (e,x)→n+k≤l.length→at_≤n→b.length=112*(n-at_)→e-at_=secs x.length∧(∃ y,x=b++y∧y.length≤112*(e-n))
 | 0,_,_,_,_,h,_,_,_=>by cases h
 | k+1,n,b,e,x,h,hn,ha,hb=>by
  rw[rd] at h
  have hs:(l.getD n []).length=128:=by
   rw[List.getD_eq_getElem?_getD,List.getElem?_eq_getElem (by omega),Option.getD_some]
   exact hl _ (List.getElem_mem _)
  split at h
  ·rename_i h1
   obtain⟨h1,h2,_⟩:=h1
   simp only[gdB,Bool.and_eq_true,Bool.or_eq_true,decide_eq_true_eq] at h1
   obtain⟨g1,_,g3,g4,_⟩:=h1
   have hp:(pcS (l.getD n [])).length=pcL (l.getD n []):=by rw[pcS,List.length_take,List.length_drop,hs];omega
   split at h
   ·rename_i h3
    cases h
    refine⟨?_,_,rfl,by rw[hp];omega⟩
    rw[List.length_append,hp,hb,secs]
    rw[h2] at g4
    simp only[decide_eq_true_eq] at g4
    omega
   ·rename_i h3
    have g5:pcL (l.getD n [])=112:=by rcases g3 with g3|g3;exact absurd g3 h3;exact g3
    obtain⟨i1,y,i2,i3⟩:=ts_ hl h (by omega) (by omega) (by rw[List.length_append,hp,hb];omega)
    have he:=eN_ h
    exact⟨i1,pcS (l.getD n [])++y,by rw[i2,List.append_assoc],by rw[List.length_append,hp];omega⟩
  ·cases h
def h2_ (at_ last:Nat) (l:List By):List (Nat×By)→Nat×Nat
 | []=>(at_,last)
 | (e,_)::r=>h2_ e (genS (l.getD at_ [])) l r
theorem uy_ {l:List By}:∀ {k at_ last:Nat},at_≤(h2_ at_ last l (rcs l k at_ last)).1
 | 0,_,_=>by simp[rcs,h2_]
 | k+1,at_,last=>by
  rw[rcs]
  split
  ·simp[h2_]
  ·rename_i e b h
   split
   ·simp[h2_]
   ·rw[h2_]
    have h1:=eN_ h
    have h2:=uy_ (l:=l) (k:=k) (at_:=e) (last:=genS (l.getD at_ []))
    omega
theorem o4_ {l l':List By}:∀ {k at_ last:Nat},(∀ i,i<(h2_ at_ last l (rcs l k at_ last)).1→l'.getD i []=l.getD i [])→(h2_ at_ last l (rcs l k at_ last)).1≤l'.length→∀ k',
  rcs l' ((rcs l k at_ last).length+k') at_ last=rcs l k at_ last++rcs l' k' (h2_ at_ last l (rcs l k at_ last)).1 (h2_ at_ last l (rcs l k at_ last)).2
 | 0,at_,last,_,_,k'=>by simp[rcs,h2_]
 | k+1,at_,last,h1,h2,k'=>by
  rw[rcs] at h1 h2 ⊢
  cases hr:rd l at_ (l.length-at_) at_ [] with
  | none=>simp[h2_]
  | some p =>
   obtain⟨e,b⟩:=p
   rw[hr] at h1 h2
   simp only at h1 h2 ⊢
   by_cases hg:genS (l.getD at_ [])<last
   ·rw[if_pos hg];simp[h2_]
   ·rw[if_neg hg] at h1 h2 ⊢
    simp only[h2_] at h1 h2 ⊢
    have he:=eN_ hr
    have hE:=uy_ (l:=l) (k:=k) (at_:=e) (last:=genS (l.getD at_ []))
    have hr':=tt_ (l':=l') hr he.1 (fun i hi=>h1 i (by omega)) (l'.length-at_) (by omega)
    have hga:genS (l'.getD at_ [])=genS (l.getD at_ []):=by rw[h1 at_ (by omega)]
    rw[List.length_cons,Nat.add_right_comm,rcs,hr']
    simp only
    rw[hga,if_neg hg,o4_ (l:=l) h1 h2 k',List.cons_append]
theorem dZ_ {l:List By} (hl:∀ s∈l,s.length=128) (g:Nat) (hg:∀ s∈l,genS s<g):∀ {k at_ last:Nat},at_≤l.length→last<g →
  (h2_ at_ last l (rcs l k at_ last)).1=at_+usd ((rcs l k at_ last).map (·.2))∧(h2_ at_ last l (rcs l k at_ last)).1≤l.length∧(h2_ at_ last l (rcs l k at_ last)).2<g∧(rcs l k at_ last).length≤usd ((rcs l k at_ last).map (·.2))
 | 0,at_,last,h1,h2=>by simp[rcs,h2_,usd,h1,h2]
 | k+1,at_,last,h1,h2=>by
  rw[rcs]
  cases hr:rd l at_ (l.length-at_) at_ [] with
  | none=>simp[h2_,usd,h1,h2]
  | some p =>
   obtain⟨e,b⟩:=p
   simp only
   by_cases hgl:genS (l.getD at_ [])<last
   ·rw[if_pos hgl];simp[h2_,usd,h1,h2]
   ·rw[if_neg hgl]
    have he:=eN_ hr
    have hm:l.getD at_ []∈l:=by
     rw[List.getD_eq_getElem?_getD,List.getElem?_eq_getElem (by omega),Option.getD_some];exact List.getElem_mem _
    obtain⟨s1,_⟩:=ts_ hl hr (by omega) (Nat.le_refl _) (by simp)
    obtain⟨i1,i2,i3,i4⟩:=dZ_ hl g hg (k:=k) (at_:=e) (last:=genS (l.getD at_ [])) (by omega) (hg _ hm)
    simp only[h2_,List.map_cons,usd,List.length_cons]
    exact⟨by rw[i1];omega,i2,i3,by omega⟩
def wrt (g:Nat):Nat→Nat→Nat→By→List (Nat×By)
 | 0,_,_,_=>[]
 | N+1,at_,kind,b=>(at_,secE g at_ (if N=0 then kind+2 else kind) (b.take 112))::wrt g N (at_+1) 0 (b.drop 112)
theorem eT_ (g:Nat):∀ (N at_ kind:Nat) (b:By),(wrt g N at_ kind b).length=N
 | 0,_,_,_=>rfl
 | N+1,at_,kind,b=>by rw[wrt,List.length_cons,eT_ g N]
theorem f6_ (g:Nat):∀ (N at_ kind:Nat) (b:By),(wrt g N at_ kind b).map (·.1)=List.range' at_ N
 | 0,_,_,_=>rfl
 | N+1,at_,kind,b=>by rw[wrt,List.map_cons,f6_ g N,List.range'_succ]
theorem h7_ (g:Nat):∀ (N at_ kind:Nat) (b:By),∀ w∈wrt g N at_ kind b,w.2.length=128
 | 0,_,_,_,w,h=>by cases h
 | N+1,at_,kind,b,w,h=>by
  rw[wrt,List.mem_cons] at h
  rcases h with rfl|h
  ·exact hO_ (by rw[List.length_take];omega)
  ·exact h7_ g N _ _ _ w h
theorem xz_ {l:List By} {g at0:Nat} (hg:g<4294967296) (hg0:0<g) (h0:genS (l.getD at0 [])=g):∀ (N n kind:Nat) (b acc:By) (k:Nat),N≤k→0<N→b.length≤112*N→(N=1∨112*(N-1)<b.length) →
  at0≤n→kind=(if n=at0 then 1 else 0)→(kind=1∨b≠[])→(∀ i,i<N→l.getD (n+i) []=((wrt g N n kind b).map (·.2)).getD i [])→rd l at0 k n acc=some (n+N,acc++b)
 | 0,_,_,_,_,_,_,h,_,_,_,_,_,_=>absurd h (by omega)
 | N+1,n,kind,b,acc,0,hk,_,_,_,_,_,_,_=>by omega
 | N+1,n,kind,b,acc,k+1,hk,_,hb,hb1,hn,hkd,hne,hs=>by
  have hs0:=hs 0 (by omega)
  rw[Nat.add_zero,wrt,List.map_cons,List.getD_cons_zero] at hs0
  have hb112:(b.take 112).length≤112:=by rw[List.length_take];omega
  have hkk:kind=0∨kind=1:=by rw[hkd];split<;>simp
  have hk3:(if N=0 then kind+2 else kind)≤3:=by split<;>omega
  have hne':b≠[]→0<b.length:=fun h=>List.length_pos_iff.2 h
  have hgood:gdB (l.getD n []) n=true:=by
   rw[hs0]
   refine vR_ hg hg0 hk3 hb112 ?_ ?_
   ·by_cases hN:N=0
    ·left;rw[if_pos hN];omega
    ·right;rw[List.length_take];omega
   ·rcases hne with hne|hne
    ·left;split<;>omega
    ·right;have:=hne' hne;rw[List.length_take];omega
  have hbeg:begS (l.getD n [])=decide (n=at0):=by
   rw[hs0,begS,kD_ hk3]
   by_cases hN:N=0<;>by_cases hna:n=at0<;>simp only[hN,hna,if_true,if_false] at hkd ⊢<;>subst hkd<;>rfl
  have hgen:genS (l.getD n [])=genS (l.getD at0 []):=by rw[h0,hs0,kE_ hg]
  rw[rd,if_pos ⟨hgood,hbeg,hgen⟩]
  have hpc:pcS (l.getD n [])=b.take 112:=by rw[hs0,xu_ hb112]
  have hend:or_ (l.getD n [])=decide (N=0):=by
   rw[hs0,or_,kD_ hk3]
   by_cases hN:N=0<;>simp only[hN,if_true,if_false]<;>rcases hkk with rfl|rfl<;>rfl
  rw[hpc,hend]
  by_cases hN:N=0
  ·subst hN
   rw[if_pos (by rfl),List.take_of_length_le (by omega)]
  ·rw[if_neg (by simp[hN])]
   rw[xz_ hg hg0 h0 N (n+1) 0 (b.drop 112) (acc++b.take 112) k (by omega) (by omega) (by rw[List.length_drop];omega) (by rw[List.length_drop];omega) (by omega) (by rw[if_neg (by omega)]) (Or.inr (by intro h;have:=congrArg List.length h;rw[List.length_drop] at this;simp at this;omega)) ?_]
   ·rw[List.append_assoc,List.take_append_drop,Nat.add_assoc,Nat.add_comm 1 N]
   ·intro i hi
    have:=hs (i+1) (by omega)
    rw[wrt,List.map_cons,List.getD_cons_succ] at this
    rw[← this,Nat.add_assoc,Nat.add_comm 1 i]
theorem tr_ {l:List By} {g at0:Nat} (hg:g<4294967296) (hg0:0<g):∀ (m N n kind:Nat) (b acc:By) (k:Nat),m<N→b.length≤112*N→at0≤n→kind≤1 →
  (∀ i,i<m→l.getD (n+i) []=((wrt g N n kind b).map (·.2)).getD i [])→gdB (l.getD (n+m) []) (n+m)=false→rd l at0 k n acc=none
 | _,0,_,_,_,_,_,h,_,_,_,_,_=>by omega
 | m,N+1,n,kind,b,acc,0,_,_,_,_,_,_=>rfl
 | 0,N+1,n,kind,b,acc,k+1,_,_,_,_,_,h=>by
  rw[Nat.add_zero] at h
  rw[rd,if_neg (by rw[h];rintro⟨h,_⟩;cases h)]
 | m+1,N+1,n,kind,b,acc,k+1,hm,hb,hn,hkd,hs,h=>by
  have hs0:=hs 0 (by omega)
  rw[Nat.add_zero,wrt,List.map_cons,List.getD_cons_zero,if_neg (by omega)] at hs0
  have hend:or_ (l.getD n [])=false:=by
   rw[hs0,or_,kD_ (by omega),decide_eq_false_iff_not];omega
  rw[rd]
  split
  ·rw[if_neg (by rw[hend];simp)]
   refine tr_ hg hg0 m N (n+1) 0 (b.drop 112) _ k (by omega) (by rw[List.length_drop];omega) (by omega) (by omega) ?_ (by rw[Nat.add_assoc,Nat.add_comm 1 m];exact h)
   intro i hi
   have:=hs (i+1) (by omega)
   rw[wrt,List.map_cons,List.getD_cons_succ] at this
   rw[← this,Nat.add_assoc,Nat.add_comm 1 i]
  ·rfl
structure Dk where
 s:List By
 p:List (Int×By)
 left:Int
 st:Bool
def dkS (s:List By):Bool:=s.all fun b=>decide (b.length=128)
def dkP (n:Nat) (p:List (Int×By)):Bool:=p.all fun w=>decide (0≤w.1∧w.1<n∧w.2.length=128)
def dkB (d:Dk):Bool:=decide (1≤d.s.length∧d.s.length≤4096∧d.p.length≤4096 ∧ -1≤d.left∧d.left≤65536)&&(dkP d.s.length d.p&&dkS d.s)
theorem a1_ {d:Dk}:dkB d=true↔(1≤d.s.length∧d.s.length≤4096∧d.p.length≤4096 ∧ -1≤d.left∧d.left≤65536)∧(∀ w∈d.p,0≤w.1∧w.1<d.s.length∧w.2.length=128)∧∀ b∈d.s,b.length=128:=by
 simp only[dkB,dkP,dkS,Bool.and_eq_true,decide_eq_true_eq,List.all_eq_true]
def perf (s:List By) (l:List (Int×By)):List By:=l.foldl (fun s w=>s.set w.1.toNat w.2) s
theorem bK_ (s:List By) (l:List (Int×By)):(perf s l).length=s.length:=by
 induction l generalizing s with
 | nil=>rfl
 | cons w l ih=>rw[perf,List.foldl_cons];exact (ih _).trans (List.length_set ..)
theorem tE_ (s:List By) (l:List (Int×By)) (w:Int×By):perf s (l++[w])=(perf s l).set w.1.toNat w.2:=by rw[perf,List.foldl_append];rfl
theorem kY_ {s:List By} (hs:∀ b∈s,b.length=128):∀ {l:List (Int×By)},(∀ w∈l,w.2.length=128)→∀ b∈perf s l,b.length=128:=by
 intro l
 induction l generalizing s with
 | nil=>intro _;exact hs
 | cons w l ih =>
  intro h
  rw[perf,List.foldl_cons]
  refine ih (fun b hb=>?_) fun x hx=>h x (by simp[hx])
  rcases List.mem_or_eq_of_mem_set hb with hb|rfl
  ·exact hs b hb
  ·exact h w (by simp)
def wrI (l:List (Nat×By)):List (Int×By):=l.map fun w=>((w.1:Int),w.2)
theorem oy_ (l:List (Nat×By)):(wrI l).length=l.length:=by simp[wrI]
theorem kX_:∀ (l:List (Nat×By)) (s:List By) (at_:Nat),l.map (·.1)=List.range' at_ l.length→at_+l.length≤s.length→∀ i,
  (perf s (wrI l)).getD i []=if at_≤i∧i<at_+l.length then (l.map (·.2)).getD (i-at_) [] else s.getD i []
 | [],s,at_,_,_,i=>by rw[if_neg (by simp)];rfl
 | w::l,s,at_,h,hl,i=>by
  rw[List.map_cons,List.length_cons,List.range'_succ,List.cons.injEq] at h
  obtain⟨h1,h2⟩:=h
  rw[List.length_cons] at hl ⊢
  have e:perf s (wrI (w::l))=perf (s.set at_ w.2) (wrI l):=by
   rw[perf,wrI,List.map_cons,List.foldl_cons];simp[h1,perf,wrI]
  rw[e,kX_ l (s.set at_ w.2) (at_+1) h2 (by rw[List.length_set];omega) i]
  by_cases hi:i=at_
  ·subst hi
   rw[if_neg (by omega),if_pos (by omega),Nat.sub_self,List.map_cons,List.getD_cons_zero,List.getD_eq_getElem?_getD,List.getElem?_set_self (by omega)];rfl
  ·by_cases h3:at_+1≤i∧i<at_+1+l.length
   ·rw[if_pos h3,if_pos (by omega),List.map_cons,show i-at_=(i-(at_+1))+1 by omega,List.getD_cons_succ]
   ·rw[if_neg h3,if_neg (by omega),List.getD_eq_getElem?_getD,List.getD_eq_getElem?_getD,List.getElem?_set_ne (by omega)]
def tornB (w old:By):By:=w.take 64++old.drop 64
def gnr (l:List By):Nat:=l.foldl (fun g s=>max g (max (genS s+1) (tailS s+1))) 1
theorem qK_ (l:List By) (a:Nat):a≤l.foldl (fun g s=>max g (max (genS s+1) (tailS s+1))) a∧∀ s∈l,genS s<l.foldl (fun g s=>max g (max (genS s+1) (tailS s+1))) a∧tailS s<l.foldl (fun g s=>max g (max (genS s+1) (tailS s+1))) a:=by
 induction l generalizing a with
 | nil=>exact⟨Nat.le_refl _,fun _ h=>by cases h⟩
 | cons x l ih =>
  rw[List.foldl_cons]
  obtain⟨h1,h2⟩:=ih (max a (max (genS x+1) (tailS x+1)))
  refine⟨by omega,fun s hs=>?_⟩
  rcases List.mem_cons.1 hs with rfl|hs
  ·omega
  ·exact h2 s hs
theorem kc_ {l:List By} {s:By} (h:s∈l):genS s<gnr l∧tailS s<gnr l:=(qK_ l 1).2 s h
theorem gt_ (l:List By):0<gnr l:=(qK_ l 1).1
def wrR (s:List By) (b:By):List (Nat×By):=wrt (gnr s) (secs b.length) (usd (recs s)) 1 b
def stopS (s:List By) (w:List (Nat×By)) (m:Nat):List By :=
 (perf s (wrI (w.take m))).set (w.getD m (0,[])).1 (tornB (w.getD m (0,[])).2 ((perf s (wrI (w.take m))).getD (w.getD m (0,[])).1 []))
section
variable {s:List By} (hs:∀ b∈s,b.length=128) (hg:gnr s<4294967296) {b:By} (hu:usd (recs s)+secs b.length≤s.length)
include hs hg hu
omit hs hg hu in
theorem vP_ (n:Nat):0<secs n:=by rw[secs];omega
omit hs hg hu in
theorem sW_ (n:Nat):n≤112*secs n∧(secs n=1∨112*(secs n-1)<n):=by rw[secs];omega
omit hg hu in
theorem c8_:(h2_ 0 0 s (rcs s s.length 0 0)).1=usd (recs s)∧(h2_ 0 0 s (rcs s s.length 0 0)).2<gnr s∧(rcs s s.length 0 0).length≤usd (recs s):=by
 obtain⟨h1,h2,h3,h4⟩:=dZ_ hs (gnr s) (fun x hx=>(kc_ hx).1) (k:=s.length) (at_:=0) (last:=0) (Nat.zero_le _) (gt_ s)
 exact⟨by rw[h1,recs];omega,h3,h4⟩
theorem rk_:recs (perf s (wrI (wrR s b)))=recs s++[b]:=by
 obtain⟨f1,f2,f3⟩:=c8_ hs
 have hN:=vP_ b.length
 obtain⟨hN1,hN2⟩:=sW_ b.length
 have hwl:(wrR s b).length=secs b.length:=eT_ _ _ _ _ _
 have hget:=kX_ (wrR s b) s (usd (recs s)) (by rw[hwl];exact f6_ _ _ _ _ _) (by rw[hwl];exact hu)
 rw[hwl] at hget
 have hlen:(perf s (wrI (wrR s b))).length=s.length:=bK_ _ _
 have hpre:=o4_ (l:=s) (l':=perf s (wrI (wrR s b))) (k:=s.length) (at_:=0) (last:=0) (fun i hi=>by rw[hget i,if_neg (by omega)]) (by omega) (s.length-(rcs s s.length 0 0).length)
 rw[f1,show (rcs s s.length 0 0).length+(s.length-(rcs s s.length 0 0).length)=s.length by omega] at hpre
 obtain⟨k,hk⟩:∃ k,s.length-(rcs s s.length 0 0).length=k+1:=⟨s.length-(rcs s s.length 0 0).length-1,by omega⟩
 have hin:∀ i,i<secs b.length→(perf s (wrI (wrR s b))).getD (usd (recs s)+i) []=((wrt (gnr s) (secs b.length) (usd (recs s)) 1 b).map (·.2)).getD i []:=fun i hi=>by
  rw[hget,if_pos (by omega),show usd (recs s)+i-usd (recs s)=i by omega];rfl
 have hgen:genS ((perf s (wrI (wrR s b))).getD (usd (recs s)) [])=gnr s:=by
  have h:=hin 0 hN
  rw[Nat.add_zero] at h
  rw[h]
  obtain⟨n,hn⟩:∃ n,secs b.length=n+1:=⟨secs b.length-1,by omega⟩
  rw[hn,wrt,List.map_cons,List.getD_cons_zero,kE_ hg]
 have hrd:=xz_ hg (gt_ s) hgen (secs b.length) (usd (recs s)) 1 b [] ((perf s (wrI (wrR s b))).length-usd (recs s)) (by omega) hN hN1 hN2 (Nat.le_refl _) (by rw[if_pos rfl]) (Or.inl rfl) hin
 have hlast:∀ k',rcs (perf s (wrI (wrR s b))) k' (usd (recs s)+secs b.length) (gnr s)=[]:=by
  intro k'
  cases k' with
  | zero=>rfl
  | succ k' =>
   rw[rcs]
   cases hr:rd (perf s (wrI (wrR s b))) (usd (recs s)+secs b.length) ((perf s (wrI (wrR s b))).length-(usd (recs s)+secs b.length)) (usd (recs s)+secs b.length) [] with
   | none=>rfl
   | some p =>
    obtain⟨e,x⟩:=p
    have he:=eN_ hr
    simp only
    rw[if_pos]
    rw[hget,if_neg (by omega)]
    refine (kc_ ?_).1
    rw[List.getD_eq_getElem?_getD,List.getElem?_eq_getElem (by omega),Option.getD_some];exact List.getElem_mem _
 rw[recs,hlen,hpre,List.map_append,hk,rcs,hrd]
 simp only[List.nil_append]
 rw[hgen,if_neg (by omega),hlast]
 rfl
theorem sK_ {m:Nat} (hm:m<secs b.length):recs (stopS s (wrR s b) m)=recs s:=by
 obtain⟨f1,f2,f3⟩:=c8_ hs
 obtain⟨hN1,hN2⟩:=sW_ b.length
 have hwl:(wrR s b).length=secs b.length:=eT_ _ _ _ _ _
 have htl:((wrR s b).take m).length=m:=by rw[List.length_take,hwl];omega
 have hfst:((wrR s b).take m).map (·.1)=List.range' (usd (recs s)) m:=by
  rw[List.map_take,wrR,f6_,show secs b.length=m+(secs b.length-m) by omega,← List.range'_append_1,List.take_left' (by simp)]
 have hget:=kX_ ((wrR s b).take m) s (usd (recs s)) (by rw[htl];exact hfst) (by omega)
 rw[htl] at hget
 have hat:((wrR s b).getD m (0,[])).1=usd (recs s)+m:=by
  have h:=congrArg (fun l=>l.getD m 0) (f6_ (gnr s) (secs b.length) (usd (recs s)) 1 b)
  simp only[List.getD_eq_getElem?_getD,List.getElem?_map] at h
  rw[List.getD_eq_getElem?_getD,wrR]
  rw[List.getElem?_eq_getElem (by rw[eT_];exact hm)] at h ⊢
  simpa [List.getElem?_range',hm] using h
 have hlen:(stopS s (wrR s b) m).length=s.length:=by rw[stopS,List.length_set,bK_]
 have hgt:∀ i,(stopS s (wrR s b) m).getD i []=if i=usd (recs s)+m then tornB ((wrR s b).getD m (0,[])).2 (s.getD (usd (recs s)+m) []) else if usd (recs s)≤i∧i<usd (recs s)+m then (((wrR s b).take m).map (·.2)).getD (i-usd (recs s)) [] else s.getD i []:=by
  intro i
  rw[stopS,hat,hget (usd (recs s)+m),if_neg (by omega)]
  by_cases hi:i=usd (recs s)+m
  ·subst hi
   rw[if_pos rfl,List.getD_eq_getElem?_getD,List.getElem?_set_self (by rw[bK_];omega)];rfl
  ·rw[if_neg hi,List.getD_eq_getElem?_getD,List.getElem?_set_ne (fun h=>hi h.symm),← List.getD_eq_getElem?_getD,hget]
 have hpre:=o4_ (l:=s) (l':=stopS s (wrR s b) m) (k:=s.length) (at_:=0) (last:=0) (fun i hi=>by rw[hgt i,if_neg (by omega),if_neg (by omega)]) (by omega) (s.length-(rcs s s.length 0 0).length)
 rw[f1,show (rcs s s.length 0 0).length+(s.length-(rcs s s.length 0 0).length)=s.length by omega] at hpre
 have hbad:gdB ((stopS s (wrR s b) m).getD (usd (recs s)+m) []) (usd (recs s)+m)=false:=by
  rw[hgt,if_pos rfl,Bool.eq_false_iff]
  intro h
  have h:=ug_ h
  have hold:(s.getD (usd (recs s)+m) [])∈s:=by
   rw[List.getD_eq_getElem?_getD,List.getElem?_eq_getElem (by omega),Option.getD_some];exact List.getElem_mem _
  have h128:((wrR s b).getD m (0,[])).2.length=128:=by
   rw[List.getD_eq_getElem?_getD,List.getElem?_eq_getElem (by omega),Option.getD_some]
   exact h7_ _ _ _ _ _ _ (List.getElem_mem _)
  have h1:tailS (tornB ((wrR s b).getD m (0,[])).2 (s.getD (usd (recs s)+m) []))=tailS (s.getD (usd (recs s)+m) []):=by
   rw[tailS,tornB,tailS,List.drop_append,List.length_take,h128,List.drop_of_length_le (by rw[List.length_take,h128];omega),List.nil_append,List.drop_drop]
   rfl
  have h2:genS (tornB ((wrR s b).getD m (0,[])).2 (s.getD (usd (recs s)+m) []))=genS ((wrR s b).getD m (0,[])).2:=by
   rw[genS,tornB,genS,List.take_append_of_le_length (by rw[List.length_take,h128];omega),List.take_take];rfl
  have h3:genS ((wrR s b).getD m (0,[])).2=gnr s:=by
   have key:∀ (N at_ kind:Nat) (b:By),∀ w∈wrt (gnr s) N at_ kind b,genS w.2=gnr s:=by
    intro N
    induction N with
    | zero=>intro _ _ _ w h;cases h
    | succ N ih =>
     intro at_ kind b w h
     rw[wrt,List.mem_cons] at h
     rcases h with rfl|h
     ·exact kE_ hg
     ·exact ih _ _ _ w h
   rw[List.getD_eq_getElem?_getD,List.getElem?_eq_getElem (by omega),Option.getD_some]
   exact key _ _ _ _ _ (List.getElem_mem _)
  have:=(kc_ hold).2
  omega
 have hrd:∀ k,rd (stopS s (wrR s b) m) (usd (recs s)) k (usd (recs s)) []=none:=fun k=>by
  refine tr_ hg (gt_ s) m (secs b.length) (usd (recs s)) 1 b [] k hm hN1 (Nat.le_refl _) (Nat.le_refl _) (fun i hi=>?_) hbad
  rw[hgt,if_neg (by omega),if_pos (by omega),show usd (recs s)+i-usd (recs s)=i by omega,List.map_take,List.getD_eq_getElem?_getD,List.getElem?_take_of_lt hi,← List.getD_eq_getElem?_getD]
  rfl
 have hnil:∀ k',rcs (stopS s (wrR s b) m) k' (usd (recs s)) (h2_ 0 0 s (rcs s s.length 0 0)).2=[]:=by
  intro k'
  cases k' with
  | zero=>rfl
  | succ k'=>rw[rcs,hrd]
 rw[recs,hlen,hpre,hnil,List.append_nil]
 rfl
end
end Go.Proofs.YtfgcgagcpnbgmaaGreatDoor
