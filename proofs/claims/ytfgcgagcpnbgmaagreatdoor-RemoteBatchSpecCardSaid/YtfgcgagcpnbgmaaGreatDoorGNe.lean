/-
  Disks: Check, walked.
-/
import Derived.Test.YtfgcgagcpnbgmaaGreatDoorGNb
set_option linter.all false
set_option maxRecDepth 10000
namespace Go.Proofs.YtfgcgagcpnbgmaaGreatDoor
open Go.Xe Go.RowKit
theorem rW_ {a b:Bool} (h:a=b):Leq (.d (.v (.bool a))) (.d (.v (.bool b))):=by subst h;exact .refl _
theorem EY_ {a b:Int} (h:a=b):Leq (.d (.v (.int .i64 a))) (.d (.v (.int .i64 b))):=by subst h;exact .refl _
def wrC (l:List (Int×By)):List D:=l.flatMap fun w=>[.v (.int .i64 w.1),slB w.2]
@[simp] def wrD (l:List (Int×By)):D:=.sl 2 (wrC l) l.length false
theorem oz_ (a b:List (Int×By)):wrC (a++b)=wrC a++wrC b:=by simp[wrC]
theorem wrC_len:∀ l:List (Int×By),(wrC l).length=l.length*2
 | []=>rfl
 | w::l=>by rw[show wrC (w::l)=[.v (.int .i64 w.1),slB w.2]++wrC l from rfl,List.length_append,wrC_len l,List.length_cons];simp;omega
theorem lZ_ (a:List (Int×By)) (w:Int×By) (b:List (Int×By)):List.take 2 ((wrC (a++w::b)).drop (a.length*2))=[.v (.int .i64 w.1),slB w.2]:=by
 rw[oz_,List.drop_left' (wrC_len a)];rfl
def dkC (d:Dk):List D:=[slLB d.s,wrD d.p,.v (.int .i64 d.left),.v (.bool d.st)]
def dkD (d:Dk):D:=.agg (dkC d)
theorem qE_ (b:By):Fn0 Tryz.prog 142 [slB b] (.v (.bool (decide (b.length=128)))):=by
 refine ad_ (pn:=an_) ac_ Tryz.func142 rfl fun β0=>?_
 simp only[Tryz.f142]
 repeat(first|apply wG|(apply wR;simp -dsimp[slB])|refine aI ?_)
 refine WP.ret (ab_ ?_)
 simp -dsimp
 exact rW_ (by rw[Bool.eq_iff_iff,decide_eq_true_eq,decide_eq_true_eq];omega)
theorem s0_ (b:By):Fn0 Tryz.prog 145 [slB b] (.v (.bool (!decide (b.length=128)))):=by
 refine ad_ (pn:=an_) ac_ Tryz.func145 rfl fun β0=>?_
 simp only[Tryz.f145]
 repeat(first|apply wG|(apply wR;simp -dsimp[slB])|refine aI ?_)
 refine aa_ hs_ (qE_ b) rfl rfl (by simp[slB]) ?_
 simp -dsimp
 refine sG ?_
 refine WP.ret (ab_ ?_)
 simp -dsimp
def wrBad (n:Int) (w:Int×By):Bool:=decide (w.1<0)||(decide (n≤w.1) || !decide (w.2.length=128))
theorem vB_ (n:Int) (w:Int×By):Fun Tryz.prog 141 [.d (.agg [.v (.int .i64 w.1),slB w.2]),.ptr 1000 0] [(1000,.cells 3 [.d (.v (.int .i64 n))])] (.d (.v (.bool (wrBad n w)))) [(1000,.cells 3 [.d (.v (.int .i64 n))])] fun _=>False:=by
 have h:=qE_ w.2
 refine ad_ (pn:=an_) ac_ Tryz.func141 rfl fun β0=>?_
 simp only[Tryz.f141]
 unfold wrBad
 by_cases h0:w.1<0
 ·have e0:decide (w.1<0)=true:=decide_eq_true h0
  repeat(first|apply wG|(apply wR;simp -dsimp[slB,e0])|refine aI ?_)
  refine vcStopG.skip (.d (.v (.bool false))) ?_
  simp -dsimp
  refine sG ?_
  refine WP.ret (ab_ ?_)
  simp -dsimp
  exact rW_ (by rw[e0];rfl)
 ·have e0:decide (w.1<0)=false:=decide_eq_false h0
  by_cases h1:n≤w.1
  ·have e1:decide (n≤w.1)=true:=decide_eq_true h1
   repeat(first|apply wG|(apply wR;simp -dsimp[slB,e0,e1])|refine aI ?_)
   refine vcStopG.skip (.d (.v (.bool false))) ?_
   simp -dsimp
   refine sG ?_
   refine WP.ret (ab_ ?_)
   simp -dsimp
   exact rW_ (by rw[e0,e1];rfl)
  ·have e1:decide (n≤w.1)=false:=decide_eq_false h1
   repeat(first|apply wG|(apply wR;simp -dsimp[slB,e0,e1])|refine aI ?_)
   refine ae_ hs_ (fun _=>h) rfl (fun _=>rfl) (fun _=>by simp[slB]) ?_
   simp -dsimp
   refine sG ?_
   refine WP.ret (ab_ ?_)
   simp -dsimp
   exact rW_ (by rw[e0,e1];simp)
def idxA {α:Type} (p:α→Bool):List α→Int→Int
 | [],_=>-1
 | c::l,i=>if p c=true then i else idxA p l (i+1)
theorem ll_ {α:Type} (p:α→Bool):∀ (l:List α) (i:Int),0≤i→(0≤idxA p l i↔l.any p=true)
 | [],i,h=>by simp[idxA]
 | c::l,i,h=>by
  rw[idxA,List.any_cons]
  by_cases hb:p c=true
  ·simp[hb,h]
  ·rw[if_neg hb,ll_ p l (i+1) (by omega)]
   simp[hb]
abbrev Fp_:D:=.v (.func (.func 145) #[] #[])
abbrev ixB (l:List By) (i:Nat):St:=mkS 19 [(0,.d (slLB l)),(1,.d Fp_),(7,.d (.v (.int .i64 l.length))),(8,.d (.v (.int .i64 i)))] []
set_option maxHeartbeats 1000000 in
theorem sY_ (l:List By) (hn:l.length≤1000000000000):Fn0 Tryz.prog 201 [slLB l,Fp_] (.v (.int .i64 (idxA (fun b => !decide (b.length=128)) l 0))):=by
 refine ad_ (pn:=an_) ac_ Tryz.func201 rfl fun β0=>?_
 simp only[Tryz.f201]
 refine sG ?_
 refine ai_ (fun q S=>∃ l1 l2,l=l1++l2∧q=l2.length∧idxA (fun b => !decide (b.length=128)) l 0=idxA (fun b => !decide (b.length=128)) l2 l1.length∧S=ixB l l1.length) l.length (S0:=ixB l 0) (af_ [] (by simp) (by simp)) ⟨[],l,rfl,rfl,rfl,rfl⟩ ?_
 rintro _ _ ⟨l1,l2,hl12,rfl,hix,rfl⟩
 rw[hix]
 simp -dsimp
 refine sG ?_
 cases l2 with
 | nil =>
  simp only[List.append_nil] at hl12
  subst hl12
  refine cF (by simp) ?_
  refine WP.exit ?_
  simp -dsimp
  refine sG ?_
  refine WP.ret (ab_ ?_)
  simp -dsimp[idxA]
 | cons c l2 =>
  have hll:l.length=l1.length+(l2.length+1):=by rw[hl12];simp
  have hat:=kb_ l1 c l2
  rw[← hl12] at hat
  have e1:IntKind.i64.wrap ((l1.length:Int)+1)=(l1.length:Int)+1:=IntWalk.i64_in _ (by omega)
  refine cT (by simp;omega) ?_
  refine WP.skip ?_
  simp -dsimp
  repeat(first|apply wG|(apply wR;simp -dsimp[hat])|refine aI ?_)
  refine aa_ nX_ (s0_ c) rfl rfl (by simp[slB]) ?_
  simp -dsimp
  refine sG ?_
  rw[idxA]
  by_cases hb:c.length=128
  ·rw[if_neg (by simp[hb])]
   refine cF (by simp[hb]) ?_
   refine WP.skip ?_
   simp -dsimp
   refine sG ?_
   refine loopW.next (ixB l (l1++[c]).length) (af_ [] (by simp[e1]) (by simp)) l2.length (by simp) ⟨l1++[c],l2,by simp[hl12],rfl,by simp,rfl⟩
  ·rw[if_pos (by simp[hb])]
   refine cT (by simp[hb]) ?_
   refine sG ?_
   refine WP.ret (ab_ ?_)
   simp -dsimp
theorem sZ_ (l:List By) (hn:l.length≤1000000000000):Fn0 Tryz.prog 144 [slLB l,Fp_] (.v (.bool (l.any fun b => !decide (b.length=128)))):=by
 have h1:=sY_ l hn
 have hi:=ll_ (fun b:By => !decide (b.length=128)) l 0 (Int.le_refl _)
 have e:decide (0≤idxA (fun b:By => !decide (b.length=128)) l 0)=l.any fun b => !decide (b.length=128):=by rw[Bool.eq_iff_iff,decide_eq_true_iff];exact hi
 refine ad_ (pn:=an_) ac_ Tryz.func144 rfl fun β0=>?_
 simp only[Tryz.f144]
 refine sG ?_
 refine aa_ nE_ h1 rfl rfl (by simp) ?_
 simp -dsimp
 refine sG ?_
 refine WP.ret (ab_ ?_)
 simp -dsimp
 exact rW_ e
abbrev Fo_:AV:=.fn (.func 141) [] [.ptr 1000 0]
abbrev bxN (n:Int):Bxs:=[(1000,.cells 3 [.d (.v (.int .i64 n))])]
abbrev ixW (l:List (Int×By)) (n:Int) (i:Nat):St:=mkS 19 [(0,.d (wrD l)),(1,Fo_),(7,.d (.v (.int .i64 l.length))),(8,.d (.v (.int .i64 i)))] (bxN n)
set_option maxHeartbeats 1000000 in
theorem vu_ (l:List (Int×By)) (n:Int) (hn:l.length≤1000000000000):Fun Tryz.prog 200 [.d (wrD l),Fo_] (bxN n) (.d (.v (.int .i64 (idxA (wrBad n) l 0)))) (bxN n) fun _=>False:=by
 have lc:=wrC_len l
 refine ad_ (pn:=an_) ac_ Tryz.func200 rfl fun β0=>?_
 simp only[Tryz.f200]
 repeat(first|apply wG|(apply wR;simp -dsimp[wrD])|refine aI ?_)
 refine ai_ (fun q S=>∃ l1 l2,l=l1++l2∧q=l2.length∧idxA (wrBad n) l 0=idxA (wrBad n) l2 l1.length∧S=ixW l n l1.length) l.length (S0:=ixW l n 0) (af_ [] (by simp[wrD]) (by simp)) ⟨[],l,rfl,rfl,rfl,rfl⟩ ?_
 rintro _ _ ⟨l1,l2,hl12,rfl,hix,rfl⟩
 rw[hix]
 simp -dsimp[wrD]
 refine sG ?_
 cases l2 with
 | nil =>
  simp only[List.append_nil] at hl12
  subst hl12
  refine cF (by simp) ?_
  refine WP.exit ?_
  simp -dsimp
  refine sG ?_
  refine WP.ret (ab_ ?_)
  simp -dsimp[idxA]
 | cons c l2 =>
  have hll:l.length=l1.length+(l2.length+1):=by rw[hl12];simp
  have hat:=lZ_ l1 c l2
  rw[← hl12] at hat
  have e1:IntKind.i64.wrap ((l1.length:Int)+1)=(l1.length:Int)+1:=IntWalk.i64_in _ (by omega)
  have hlt:l1.length<l.length:=by omega
  refine cT (by simp;omega) ?_
  refine WP.skip ?_
  simp -dsimp
  repeat(first|apply wG|(apply wR;simp -dsimp[hat,lc,hlt])|refine aI ?_)
  refine vcStop.call n0_ (vB_ n c) (rl [(1000,1000)]) rfl rfl (by simp[BoxLeq]) aGq (fun _ h=>h.elim) (fun ⟨_,h⟩=>h.elim) (fun ⟨_,h⟩=>h.elim) (by simp[BoxLeq]) ?_
  simp -dsimp
  refine sG ?_
  rw[idxA]
  by_cases hb:wrBad n c=true
  ·rw[if_pos hb]
   refine cT (by simp[hb]) ?_
   refine sG ?_
   refine WP.ret (ab_ ?_)
   simp -dsimp
  ·rw[if_neg hb]
   refine cF (by simp[hb]) ?_
   refine WP.skip ?_
   simp -dsimp
   refine sG ?_
   refine loopW.next (ixW l n (l1++[c]).length) (af_ [] (by simp[wrD,e1]) (by simp)) l2.length (by simp) ⟨l1++[c],l2,by simp[hl12],rfl,by simp,rfl⟩
theorem vx_ (l:List (Int×By)) (n:Int) (hn:l.length≤1000000000000):Fun Tryz.prog 143 [.d (wrD l),Fo_] (bxN n) (.d (.v (.bool (l.any (wrBad n))))) (bxN n) fun _=>False:=by
 have hi:=ll_ (wrBad n) l 0 (Int.le_refl _)
 have e:decide (0≤idxA (wrBad n) l 0)=l.any (wrBad n):=by rw[Bool.eq_iff_iff,decide_eq_true_iff];exact hi
 refine ad_ (pn:=an_) ac_ Tryz.func143 rfl fun β0=>?_
 simp only[Tryz.f143]
 repeat(first|apply wG|(apply wR;simp -dsimp[wrD])|refine aI ?_)
 refine vcStop.call nF_ (vu_ l n hn) (rl [(1000,1000)]) rfl rfl (by simp[wrD,BoxLeq]) (ag_ (by simp[wrD,BoxLeq]) rfl (by first|rfl|(simp[wrD,BoxLeq];done)) (by simp[wrD,BoxLeq]) (by simp[wrD,BoxLeq])) (fun _ h=>h.elim) (fun ⟨_,h⟩=>h.elim) (fun ⟨_,h⟩=>h.elim) (by simp[wrD,BoxLeq]) ?_
 simp -dsimp
 refine sG ?_
 refine WP.ret (ab_ ?_)
 simp -dsimp
 exact rW_ e
def dkE (d:Dk):Int:=if dkB d=true then 0 else 380
theorem Cf_ (d:Dk):dkB d=(decide (1≤d.s.length∧d.s.length≤4096∧d.p.length≤4096 ∧ -1≤d.left∧d.left≤65536)&&(!(d.p.any (wrBad d.s.length)) && !(d.s.any fun b => !decide (b.length=128)))):=by
 have e1:dkP d.s.length d.p = !(d.p.any (wrBad d.s.length)):=by
  rw[dkP,Bool.eq_iff_iff,List.all_eq_true,Bool.not_eq_true',List.any_eq_false]
  constructor
  ·intro h w hw
   have:=h w hw
   simp only[decide_eq_true_eq] at this
   simp[wrBad];omega
  ·intro h w hw
   have:=h w hw
   simp only[wrBad,Bool.or_eq_true,decide_eq_true_eq,Bool.not_eq_true',decide_eq_false_iff_not,not_or] at this
   simp only[decide_eq_true_eq];omega
 have e2:dkS d.s = !(d.s.any fun b => !decide (b.length=128)):=by
  rw[dkS,Bool.eq_iff_iff,List.all_eq_true,Bool.not_eq_true',List.any_eq_false]
  constructor
  ·intro h w hw;simp[of_decide_eq_true (h w hw)]
  ·intro h w hw;have:=h w hw;simpa using this
 rw[dkB,e1,e2]
structure dkOk (d:Dk):Prop where
 ns:d.s.length≤1000000000000
 np:d.p.length≤1000000000000
 il:isI d.left
set_option maxHeartbeats 1000000 in
theorem eC_ (d:Dk) (hd:dkOk d):Fn0 Tryz.prog 82 [dkD d] (.v (.int .i64 (dkE d))):=by
 have hs:=sZ_ d.s hd.ns
 have hw:=vx_ d.p d.s.length hd.np
 have hany:=Cf_ d
 refine ad_ (pn:=an_) ac_ Tryz.func82 rfl fun β0=>?_
 simp only[Tryz.f82]
 unfold dkE
 rw[hany]
 by_cases h1:1≤d.s.length∧d.s.length≤4096∧d.p.length≤4096 ∧ -1≤d.left∧d.left≤65536
 ·have a1:decide ((d.s.length:Int)<1)=false:=decide_eq_false (by omega)
  have a2:decide (4096<(d.s.length:Int))=false:=decide_eq_false (by omega)
  have a3:decide (4096<(d.p.length:Int))=false:=decide_eq_false (by omega)
  have a4:decide (d.left < -1)=false:=decide_eq_false (by omega)
  have a5:decide (65536<d.left)=false:=decide_eq_false (by omega)
  rw[decide_eq_true h1,Bool.true_and]
  generalize d.p.any (wrBad d.s.length)=x at *
  generalize (d.s.any fun b => !decide (b.length=128))=y at *
  repeat(first|apply wG|(apply wR;simp -dsimp[dkD,dkC,wrD,a1,a2,a3,a4,a5])|refine aI ?_)
  refine dJ_ nZ_ (fun _=>hw) (rl [(1000,3)]) rfl (fun _=>rfl) (fun _=>by simp[wrD]) (fun _=>ag_ (by simp[BoxLeq]) rfl (by first|rfl|(simp;done)) (by simp) (by simp)) (fun _=>by simp) ?_
  simp -dsimp
  refine sG ?_
  cases x with
  | true =>
   refine cT (by simp) ?_
   refine sG ?_
   refine WP.ret (ab_ ?_)
   simp -dsimp
  | false =>
   refine cF (by simp) ?_
   refine WP.skip ?_
   simp -dsimp
   refine sG ?_
   refine aa_ nY_ hs rfl rfl (by simp) ?_
   simp -dsimp
   refine sG ?_
   cases y with
   | true =>
    refine cT (by simp) ?_
    refine sG ?_
    refine WP.ret (ab_ ?_)
    simp -dsimp
   | false =>
    refine cF (by simp) ?_
    refine WP.skip ?_
    simp -dsimp
    refine sG ?_
    refine WP.ret (ab_ ?_)
    simp -dsimp
 ·rw[decide_eq_false h1,Bool.false_and,if_neg (by decide)]
  have hc:(d.s.length:Int)<1∨4096<(d.s.length:Int)∨4096<(d.p.length:Int)∨d.left < -1∨65536<d.left:=by omega
  cases a1:decide ((d.s.length:Int)<1) with
  | true =>
   repeat(first|apply wG|(apply wR;simp -dsimp[dkD,dkC,wrD,a1])|refine aI ?_)
   refine vcStopG.skip (.d (.v (.bool false))) ?_
   simp -dsimp
   refine sG ?_
   refine cT (by simp) ?_
   refine sG ?_
   refine WP.ret (ab_ ?_)
   simp -dsimp
  | false =>
   cases a2:decide (4096<(d.s.length:Int)) with
   | true =>
    repeat(first|apply wG|(apply wR;simp -dsimp[dkD,dkC,wrD,a1,a2])|refine aI ?_)
    refine vcStopG.skip (.d (.v (.bool false))) ?_
    simp -dsimp
    refine sG ?_
    refine cT (by simp) ?_
    refine sG ?_
    refine WP.ret (ab_ ?_)
    simp -dsimp
   | false =>
    cases a3:decide (4096<(d.p.length:Int)) with
    | true =>
     repeat(first|apply wG|(apply wR;simp -dsimp[dkD,dkC,wrD,a1,a2,a3])|refine aI ?_)
     refine vcStopG.skip (.d (.v (.bool false))) ?_
     simp -dsimp
     refine sG ?_
     refine cT (by simp) ?_
     refine sG ?_
     refine WP.ret (ab_ ?_)
     simp -dsimp
    | false =>
     cases a4:decide (d.left < -1) with
     | true =>
      repeat(first|apply wG|(apply wR;simp -dsimp[dkD,dkC,wrD,a1,a2,a3,a4])|refine aI ?_)
      refine vcStopG.skip (.d (.v (.bool false))) ?_
      simp -dsimp
      refine sG ?_
      refine cT (by simp) ?_
      refine sG ?_
      refine WP.ret (ab_ ?_)
      simp -dsimp
     | false =>
      have a5:decide (65536<d.left)=true:=by
       simp only[decide_eq_false_iff_not] at a1 a2 a3 a4
       simp only[decide_eq_true_eq];omega
      repeat(first|apply wG|(apply wR;simp -dsimp[dkD,dkC,wrD,a1,a2,a3,a4,a5])|refine aI ?_)
      refine vcStopG.skip (.d (.v (.bool false))) ?_
      simp -dsimp
      refine sG ?_
      refine cT (by simp) ?_
      refine sG ?_
      refine WP.ret (ab_ ?_)
      simp -dsimp
end Go.Proofs.YtfgcgagcpnbgmaaGreatDoor
