/-
  Joined texts.
-/
import Derived.Test.YtdjkbdhdejlakaaGreatDoorV9
import Derived.Test.YtdjkbdhdejlakaaGreatDoorVG
import Derived.Test.YtdjkbdhdejlakaaGreatDoorVJ
set_option maxRecDepth 10000
set_option linter.unusedVariables false
set_option linter.unusedSimpArgs false
set_option linter.unusedSectionVars false
namespace Go.Proofs.YtdjkbdhdejlakaaGreatDoor
open Go.Xe Go.RowKit
theorem Leq.fn {f:Fn} {a a' b b':List AV} (ha:LeqL a a') (hb:LeqL b b'):Leq (.fn f a b) (.fn f a' b'):=fun w I β v hv=>by
 obtain⟨v1,v2,e,h1,h2⟩:=hv
 exact⟨v1,v2,e,ha.ok h1,hb.ok h2⟩
theorem v6_ (l:List Dg) (d:Dg):dgL (l++[d])=dgL l++bys d:=by rw[en_,dgL,dgL,List.append_nil]
end Go.Proofs.YtdjkbdhdejlakaaGreatDoor
namespace Go.Proofs.YtdjkbdhdejlakaaGreatDoor
open Go.Xe Go.RowKit
theorem qu_ {f:Nat→Int} (hf:fOk f):(encR f).1.length≤1000:=by
 obtain⟨hin,hlen⟩:=kK_ hf
 unfold encR
 split
 ·obtain⟨_,_,h3,_⟩:=eP_ hin
  have h10:=a8_ (u:=(numF f).1.length) (by unfold isU;omega)
  show (V.enc (bJ_ _)).length≤1000
  rw[bJ_,V.enc]
  simp
  omega
 ·simp
def msgB (f : Nat → Int) : List UInt8 := tagB (tB "fact") (encR f).1
theorem fC_ (f:Nat→Int):(msgB f).length=32:=bh_ _ _
theorem rk_ (f:Nat→Int) (hf:fOk f):Fn0 Tryz.prog 86 [fD f] (slB (msgB f)):=by
 have h41:=iq_ f hf
 have hle:=qu_ hf
 have hm:=fC_ f
 have ht:=jx_ ⟨#[102,97,99,116]⟩ (by decide) (encR f).1 (by omega)
 rw [show (⟨#[102, 97, 99, 116]⟩ : ByteArray).data.toList = tB "fact" by decide +kernel, show tagB (tB "fact") (encR f).1 = msgB f from rfl] at ht
 rw[CA_] at h41
 generalize msgB f=r at *
 generalize encR f=R at *
 obtain⟨l,e⟩:=R
 refine ac_ (pn:=ao_) aa_ Tryz.func86 rfl fun β0=>?_
 simp only[Tryz.f86]
 rw[fD]
 repeat(first|apply wG|(apply wR;simp -dsimp)|refine aI ?_)
 refine ad_ eZ_ h41 rfl rfl (by simp[fD]) ?_
 simp -dsimp
 repeat(first|apply wG|(apply wR;simp -dsimp)|refine aI ?_)
 refine ad_ bx_ ht rfl rfl (by simp[slB]) ?_
 simp -dsimp[dD]
 refine And.intro ⟨hm,fun a h=>an_ h⟩ ?_
 refine aw_ (aF_ (k:=5) (T:=74) (ds:=bys r) (by simp[setL_whole,bys_len,hm])) ?_
 simp -dsimp[ff_,fzc,cw_,kY_]
 repeat(first|apply wG|(apply wR;simp -dsimp)|refine aI ?_)
 refine as_ aa_ rfl rfl rfl rfl (by simp[bys_len,hm]) (by decide) rfl ?_
 simp -dsimp[bys_t32,hm]
 repeat(first|apply wG|(apply wR;simp -dsimp)|refine aI ?_)
 refine WP.ret (ab_ ?_)
 simp -dsimp[slB,hm]
theorem wR_ {f:Nat→Int} (h:(numF f).2=true):(0≤f 0∧f 0≤31)∧(1≤f 1∧f 1≤1048576):=by
 have h1:headE.all (inE f (susp f))=true:=by
  unfold numF at h
  split at h
  ·cases h
  ·split at h
   ·rename_i hc
    rw[Bool.and_eq_true,List.all_append,Bool.and_eq_true] at hc
    exact hc.2.1
   ·cases h
 simp[headE,inE,valE] at h1
 obtain⟨_,⟨h1,h2⟩,⟨h3,h4⟩,_⟩:=h1
 exact⟨⟨of_decide_eq_true h1,of_decide_eq_true h2⟩,of_decide_eq_true h3,of_decide_eq_true h4⟩
def yZ_ (l:List Crw) (f:Nat→Int) (k:Int) (op cl pa:List Dg):Int :=
 if crB l=true then
  if (numF f).2=true then
   if (l.length:Int)≤f 0 then 130
   else if k=f 1-1∧sealB (l.getD (f 0).toNat (z32,0)).1 (l.getD (f 0).toNat (z32,0)).2 (msgB f) k op cl pa=true then 0 else 131
  else 120
 else 130
theorem tU_ {l:List Crw} (h:∀ x∈l,gC_ x) (i:Nat) (hi:i<l.length):List.take 33 ((crC l).drop (i*33))=crX (l.getD i (z32,0))∧gC_ (l.getD i (z32,0)):=by
 have e:l.getD i (z32,0)=l[i]:=by simp[List.getD_eq_getElem?_getD,hi]
 have h1:l.take i++l[i]::l.drop (i+1)=l:=by rw[← List.drop_eq_getElem_cons hi,List.take_append_drop]
 have h2:=qy_ (l1:=l.take i) (c:=l[i]) (l2:=l.drop (i+1)) (by rw[h1];exact h)
 rw[h1,List.length_take,Nat.min_eq_left (by omega)] at h2
 rw[e]
 exact⟨h2,h _ (List.getElem_mem hi)⟩
structure sigG (k:Int) (op cl pa:List Dg):Prop where
 isk:isI k
 ho:bf_ op
 hc:bf_ cl
 hp:bf_ pa
 no:op.length≤10000000000000
 nc:cl.length≤10000000000000
 np:pa.length≤10000000000000
theorem fk_ {k:Int} {op cl pa:List Dg} {d:D} (h:d∈sigC k op cl pa):oneD d=true:=by
 simp only[sigC,slG,List.mem_cons,List.not_mem_nil,or_false] at h
 rcases h with rfl|rfl|rfl|rfl<;>rfl
set_option maxHeartbeats 4000000 in
theorem mB_ (l:List Crw) (hl:∀ c∈l,gC_ c) (hn:l.length≤1000000000000) (f:Nat→Int) (hf:fOk f) (k:Int) (op cl pa:List Dg) (hs:sigG k op cl pa) :
  Fn0 Tryz.prog 60 [crwD l,.agg (fcs f 0 57++sigC k op cl pa)] (.v (.int .i64 (yZ_ l f k op cl pa))):=by
 have h16:=dv_ l hl hn
 have h10:=hx_ f hf
 refine ac_ (pn:=ao_) aa_ Tryz.func60 rfl fun β0=>?_
 simp only[Tryz.f60]
 have h57:List.take 57 (List.map AV.d (fcs f 0 57)++List.map AV.d (sigC k op cl pa))=(fcs f 0 57).map .d:=by
  rw[List.take_append,List.length_map,ax_,List.take_of_length_le (by rw[List.length_map,ax_];omega)]
  simp
 have hone:∀ c∈fcs f 0 57++sigC k op cl pa,oneD c=true:=fun c h=>by
  rcases List.mem_append.1 h with hd|hd
  ·exact fcs_side hd
  ·exact fk_ hd
 have hsl:(sigC k op cl pa).length=4:=rfl
 repeat(first|apply wG|(apply wR;simp -dsimp[hsl,crwD])|refine aI ?_)
 refine And.intro (fun c h=>?_) ?_
 ·rcases h with⟨a,ha,rfl⟩|⟨a,ha,rfl⟩
  ·exact fcs_side ha
  ·exact fk_ ha
 repeat(first|apply wG|(apply wR;simp -dsimp[crwD])|refine aI ?_)
 refine ad_ bg_ h16 rfl rfl (by simp[crwD]) ?_
 simp -dsimp
 repeat(first|apply wG|(apply wR;simp -dsimp)|refine aI ?_)
 unfold yZ_
 by_cases hcr:crB l=true
 ·rw[if_pos hcr]
  refine cF (by simp[hcr]) ?_
  refine WP.skip ?_
  simp -dsimp
  repeat(first|apply wG|(apply wR;simp -dsimp[h57,hsl])|refine aI ?_)
  refine af_ dB_ h10 rfl rfl (And.intro (by simp;try exact ag_ _) trivial) ?_
  simp -dsimp
  repeat(first|apply wG|(apply wR;simp -dsimp)|refine aI ?_)
  by_cases hv:(numF f).2=true
  ·rw[if_pos hv]
   obtain⟨⟨hf0,_⟩,hf1,hf1'⟩:=wR_ hv
   refine cF (by simp[hv]) ?_
   refine WP.skip ?_
   simp -dsimp
   repeat(first|apply wG|(apply wR;simp -dsimp)|refine aI ?_)
   by_cases h0:(l.length:Int)≤f 0
   ·rw[if_pos h0]
    refine cT (by simp;omega) ?_
    repeat(first|apply wG|(apply wR;simp -dsimp)|refine aI ?_)
    refine WP.ret (ab_ ?_)
    simp -dsimp
   ·rw[if_neg h0]
    refine cF (by simp;omega) ?_
    refine WP.skip ?_
    obtain⟨i,hi⟩:∃ i:Nat,f 0=i:=⟨(f 0).toNat,by omega⟩
    rw[hi,Int.toNat_natCast]
    have hil:i<l.length:=by omega
    obtain⟨hcat,hco⟩:=tU_ hl i hil
    have hcl:=d3_ hco
    have hcc:=eU_ hl
    have hcm:=is_ hco
    have hc32:List.take 32 ((crX (l.getD i (z32,0))).map AV.d)=(bys (l.getD i (z32,0)).1).map .d:=by
     rw[crX,List.map_append,List.take_left' (by rw[List.length_map,bys_len,hco.1])]
    have ht33:List.take 33 (crX (l.getD i (z32,0)))=crX (l.getD i (z32,0)):=List.take_of_length_le (by omega)
    have hk57:atL (List.map AV.d (fcs f 0 57)++List.map AV.d (sigC k op cl pa)) 57=.d (.v (.int .i64 k)):=by
     rw[← b6_,List.getElem?_append_right (by rw[List.length_map,ax_];exact Nat.le_refl _),List.length_map,ax_];rfl
    have hs4:List.take 4 (List.drop 57 (List.map AV.d (fcs f 0 57)++List.map AV.d (sigC k op cl pa)))=(sigC k op cl pa).map .d:=by
     rw[List.drop_left' (by rw[List.length_map,ax_])];rfl
    have h4:List.take 4 ((sigC k op cl pa).map AV.d)=(sigC k op cl pa).map .d:=rfl
    have e1:IntKind.i64.wrap (f 1-1)=f 1-1:=IntWalk.i64_in _ (by omega)
    have hmsg:=rk_ f hf
    have hml:=fC_ f
    have hver:=sa_ (l.getD i (z32,0)).1 hco.1 (l.getD i (z32,0)).2 (msgB f) (by omega) k op cl pa hs.ho hs.hc hs.hp hs.no hs.nc hs.np
    generalize l.getD i (z32,0)=c at *
    generalize msgB f=m at *
    generalize sealB c.1 c.2 m k op cl pa=r at *
    simp -dsimp
    repeat(first|apply wG|(apply wR;simp -dsimp[hi,hcat,hcl,hil,hcc,ht33])|refine aI ?_)
    refine And.intro (fun a h=>k7_ h) ?_
    by_cases hk:k=f 1-1
    ·have hkd:decide (k=f 1-1)=true:=decide_eq_true hk
     repeat(first|apply wG|(apply wR;simp -dsimp[hk57,hs4,h57,hcm,hc32,e1,hkd,hcl,hsl])|refine aI ?_)
     refine av_ oG_ (fun _=>hmsg) rfl (fun _=>rfl) (fun _=>And.intro (by simp;try exact ag_ _) trivial) ?_
     simp -dsimp
     repeat(first|apply wG|(apply wR;simp -dsimp[hs4,hsl])|refine aI ?_)
     refine av_ oH_ (fun _=>hver) rfl (fun _=>rfl) (fun _=>And.intro (by simp;try exact ag_ _) (And.intro (by simp) (And.intro (by simp) (And.intro (by simp[h4];try exact ag_ _) trivial)))) ?_
     simp -dsimp
     repeat(first|apply wG|(apply wR;simp -dsimp)|refine aI ?_)
     cases r with
     | true =>
      rw[if_pos ⟨hk,rfl⟩]
      refine cF (by simp) ?_
      refine WP.skip ?_
      simp -dsimp
      repeat(first|apply wG|(apply wR;simp -dsimp)|refine aI ?_)
      refine WP.ret (ab_ ?_)
      simp -dsimp
     | false =>
      rw[if_neg fun h=>by cases h.2]
      refine cT (by simp) ?_
      repeat(first|apply wG|(apply wR;simp -dsimp)|refine aI ?_)
      refine WP.ret (ab_ ?_)
      simp -dsimp
    ·have hkd:decide (k=f 1-1)=false:=decide_eq_false hk
     repeat(first|apply wG|(apply wR;simp -dsimp[hk57,hs4,h57,hcm,hc32,e1,hkd,hcl,hsl])|refine aI ?_)
     refine vcStopG.skip (.d (.v (.bool false))) ?_
     simp -dsimp
     repeat(first|apply wG|(apply wR;simp -dsimp[hs4,hsl])|refine aI ?_)
     refine vcStopG.skip (.d (.v (.bool false))) ?_
     simp -dsimp
     repeat(first|apply wG|(apply wR;simp -dsimp)|refine aI ?_)
     rw[if_neg fun h=>hk h.1]
     refine cT (by simp) ?_
     repeat(first|apply wG|(apply wR;simp -dsimp)|refine aI ?_)
     refine WP.ret (ab_ ?_)
     simp -dsimp
  ·rw[if_neg hv]
   refine cT (by simp[hv]) ?_
   repeat(first|apply wG|(apply wR;simp -dsimp)|refine aI ?_)
   refine WP.ret (ab_ ?_)
   simp -dsimp[hv]
 ·rw[if_neg hcr]
  refine cT (by simp[hcr]) ?_
  repeat(first|apply wG|(apply wR;simp -dsimp)|refine aI ?_)
  refine WP.ret (ab_ ?_)
  simp -dsimp[hcr]
end Go.Proofs.YtdjkbdhdejlakaaGreatDoor
