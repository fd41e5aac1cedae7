/-
  Joined texts.
-/
import Derived.Test.YtfgcgagcpnbgmaaGreatDoorGNl
import Derived.Test.YtfgcgagcpnbgmaaGreatDoorGTr
import Derived.Test.YtfgcgagcpnbgmaaGreatDoorGLb
import Derived.Test.YtfgcgagcpnbgmaaGreatDoorGNg
import Derived.Test.YtfgcgagcpnbgmaaGreatDoorGNc
import Derived.Test.YtfgcgagcpnbgmaaGreatDoorGMa
set_option linter.all false
set_option maxRecDepth 10000
namespace Go.Proofs.YtfgcgagcpnbgmaaGreatDoor
open Go.Xe Go.RowKit
theorem iQ_ (c:Int):Fn0 Tryz.prog 38 [.v (.int .i64 c)] (.v (.bool (decide (0≤c)&&decide (c<32)))):=by
 refine ad_ (pn:=an_) ac_ Tryz.func38 rfl fun β0=>?_
 simp only[Tryz.f38]
 refine sG ?_
 refine WP.ret (ab_ ?_)
 simp -dsimp
abbrev nbX (M:Int) (R:List By) (Y:Int):Box:=.cells 30 ((lgC M R Y).map .d)
abbrev nbS (lp:Nat) (M:Int) (R:List By) (Y:Int) (i:Nat) (B:Value→World→(Nat→Prop)→Prop):St:=mkS 20 [(0,.d (.v (.func (.yield lp) #[] #[]))),(1,.ptr 1000 0),(6,.d (slLB R)),(7,.d (.v (.int .i64 R.length))),(8,.d (.v (.int .i64 i)))] [(1000,nbX M R Y),(500,.opq B)]
set_option maxHeartbeats 1000000 in
theorem iD_ (M:Int) (R:List By) (Y:Int) (hR:R.length≤1000000) (goes:Nat→Bool) (m:Nat) (hm:m≤R.length) (hg:∀ i,i+1<m→goes i=true) (he:m=R.length∨0<m∧goes (m-1)=false) :
  re_ Tryz.prog 184 [.ptr 1000 0] [(1000,nbX M R Y)] (fun i=>[.v (.int .i64 ((i+1:Nat):Int)),slB (R.getD i [])]) goes m:=by
 intro lp B hB
 simp only[List.cons_append,List.nil_append]
 have lR:=aZ_ R
 refine ad_ (pn:=an_) ac_ Tryz.func184 rfl fun β0=>?_
 simp only[Tryz.f184]
 repeat(first|apply wG|(apply wR;simp -dsimp[lgC])|refine aI ?_)
 refine ai_ (fun q S=>∃ i:Nat,q=R.length-i∧i≤m∧(i=m→m=R.length)∧S=nbS lp M R Y i (B i)) R.length (S0:=nbS lp M R Y 0 (B 0)) (Wk.go [] 1999 500 (by decide) (by simp) (by simp) (by simp[lgC])) ⟨0,by omega,by omega,fun h=>by rcases he with he|he<;>omega,rfl⟩ ?_
 rintro _ _ ⟨i,rfl,hi,hi2,rfl⟩
 simp -dsimp
 refine sG ?_
 by_cases hx:i=R.length
 ·subst hx
  have hmm:m=R.length:=by omega
  subst hmm
  refine cF (by simp) ?_
  refine WP.exit ?_
  simp -dsimp
  refine ls_ (S':=mkS 20 [] [(1000,nbX M R Y),(0,.opq (B R.length))]) (Wk.go [] 500 0 (by decide) (by simp) (by simp) (by simp)) ?_
  simp -dsimp
 ·have hlt:i<m:=by
   rcases Nat.lt_or_ge i m with h|h
   ·exact h
   ·have:=hi2 (by omega);omega
  have hlR:i<R.length:=by omega
  have e1:IntKind.i64.wrap ((i:Int)+1)=(i:Int)+1:=IntWalk.i64_in _ (by omega)
  have hat:=kb_ (R.take i) R[i] (R.drop (i+1))
  rw[← List.drop_eq_getElem_cons hlR,List.take_append_drop,List.length_take,Nat.min_eq_left (by omega)] at hat
  have hyy:=hB i hlt
  have hgd:R.getD i []=R[i]:=by rw[List.getD_eq_getElem?_getD,List.getElem?_eq_getElem hlR];rfl
  simp only[hgd] at hyy
  generalize R[i]=x at *
  refine cT (by simp;omega) ?_
  refine WP.skip ?_
  simp -dsimp
  repeat(first|apply wG|(apply wR;simp -dsimp[hat,lR,hlR,e1])|refine aI ?_)
  refine vcStop.yield hyy 500 501 rfl rfl (by simp[e1]) rfl (by decide) (by simp) ?_
  simp -dsimp
  refine sG ?_
  refine WP.cond (b := !goes i) (by simp) (fun hgo=>?_) (fun hgo=>?_)
  ·have hgo:goes i=false:=by simpa using hgo
   have hme:i+1=m:=by
    rcases Nat.lt_or_ge (i+1) m with h|h
    ·rw[hg _ h] at hgo;cases hgo
    ·omega
   refine WP.ret (aj_ (S':=mkS 20 [] [(1000,nbX M R Y),(0,.opq (B m))]) (Wk.go [] 501 0 (by decide) (by simp) (by simp) (by simp[hme])) ?_)
   simp -dsimp
  ·have hgo:goes i=true:=by simpa using hgo
   refine WP.skip ?_
   simp -dsimp
   refine sG ?_
   refine loopW.next (nbS lp M R Y (i+1) (B (i+1))) (Wk.go [] 501 500 (by decide) (by simp) (by simp[e1]) (by simp)) (R.length-(i+1)) (by omega) ⟨i+1,rfl,by omega,fun h=>?_,rfl⟩
   rcases he with he|⟨_,he⟩
   ·exact he
   ·rw[← h,Nat.add_sub_cancel,hgo] at he;cases he
theorem pb_ (M:Int) (R:List By) (Y:Int):Fun Tryz.prog 117 [.d (logD M R Y)] [] (.fn (.func 184) [] [.ptr 0 0]) [(0,nbX M R Y)] fun _=>False:=by
 refine ad_ (pn:=an_) ac_ Tryz.func117 rfl fun β0=>?_
 simp only[Tryz.f117]
 repeat(first|apply wG|(apply wR;simp -dsimp[logD,lgC])|refine aI ?_)
 refine WP.ret (aj_ (S':=mkS 4 [(2,.fn (.func 184) [] [.ptr 0 0])] [(0,nbX M R Y)]) (Wk.go [] 1 0 (by decide) (by simp) (by simp) (by simp[lgC])) ?_)
 simp -dsimp
end Go.Proofs.YtfgcgagcpnbgmaaGreatDoor
set_option maxRecDepth 10000
namespace Go.Proofs.YtfgcgagcpnbgmaaGreatDoor
open Go.Xe Go.RowKit
theorem vz_ {l:List (Int×By)} {i:Nat} (h:i<l.length):List.take 2 ((wrC l).drop (i*2))=[.v (.int .i64 l[i].1),slB l[i].2]:=by
 have e:=lZ_ (l.take i) l[i] (l.drop (i+1))
 rw[← List.drop_eq_getElem_cons h,List.take_append_drop] at e
 rwa[show (l.take i).length=i by rw[List.length_take];omega] at e
abbrev rkdA (d:Dk) (i:Nat):St:=mkS 71 [(1,.ptr 1 0),(3,.d (.v (.int .i64 d.s.length))),(4,.d (.v (.int .i64 i)))] [(1,.cells 28 ((dkC d).map .d))]
abbrev rkdB (d:Dk) (j:Nat):St:=mkS 71 [(1,.ptr 1 0),(3,.d (.v (.int .i64 d.s.length))),(5,.d (.v (.int .i64 j)))] [(1,.cells 28 ((dkC d).map .d))]
set_option maxHeartbeats 2000000 in
theorem qi_ (d:Dk) (hd:dkOk d):Fn0 Tryz.prog 52 [dkD d] (.v (.int .i64 (dkE d))):=by
 have la:=aZ_ d.s
 have lw:=wrC_len d.p
 have ns:=hd.ns
 have np:=hd.np
 have hbad:dkB d=false→dkE d=380:=fun h=>by rw[dkE,h];rfl
 refine ad_ (pn:=an_) ac_ Tryz.func52 rfl fun β0=>?_
 simp only[Tryz.f52]
 repeat(first|apply wG|(apply wR;simp -dsimp[dkD,dkC])|refine aI ?_)
 by_cases h1:1≤d.s.length∧d.s.length≤4096∧d.p.length≤4096 ∧ -1≤d.left∧d.left≤65536
 ·refine cF (by simp;omega) ?_
  refine WP.skip ?_
  simp -dsimp
  refine sG ?_
  refine ai_ (fun q S=>∃ i:Nat,q=d.s.length-i∧i≤d.s.length∧(∀ b∈d.s.take i,b.length=128)∧S=rkdA d i) d.s.length (S0:=rkdA d 0) (af_ [] (by simp) (by simp[dkC])) ⟨0,rfl,by omega,fun _ h=>by simp at h,rfl⟩ ?_
  rintro _ _ ⟨i,rfl,hi,hall,rfl⟩
  simp -dsimp[dkC]
  repeat(first|apply wG|(apply wR;simp -dsimp[dkC])|refine aI ?_)
  by_cases hin:i<d.s.length
  ·have e1:IntKind.i64.wrap ((i:Int)+1)=((i+1:Nat):Int):=by rw[IntWalk.i64_in _ (by omega)];omega
   refine cT (by simp;omega) ?_
   refine WP.skip ?_
   simp -dsimp
   repeat(first|apply wG|(apply wR;simp -dsimp[au_,la,hin,dkC,slB])|refine aI ?_)
   by_cases hl:d.s[i].length=128
   ·refine cF (by simp;omega) ?_
    refine WP.skip ?_
    simp -dsimp
    refine sG ?_
    refine loopW.next (rkdA d (i+1)) (af_ [] (by simp[e1]) (by simp[dkC])) (d.s.length-(i+1)) (by omega) ⟨i+1,rfl,by omega,fun b hb=>?_,rfl⟩
    rw[List.take_add_one,List.getElem?_eq_getElem hin] at hb
    rcases List.mem_append.1 hb with hb|hb
    ·exact hall b hb
    ·simp at hb;rw[hb];exact hl
   ·have hB:dkB d=false:=by
     rw[Bool.eq_false_iff]
     intro h
     exact hl ((a1_.1 h).2.2 _ (List.getElem_mem hin))
    refine cT (by simp;omega) ?_
    refine sG ?_
    refine WP.ret (ab_ ?_)
    simp -dsimp[hbad hB]
  ·obtain rfl:i=d.s.length:=by omega
   rw[List.take_length] at hall
   refine cF (by simp) ?_
   refine WP.exit ?_
   simp -dsimp
   refine sG ?_
   refine ai_ (fun q S=>∃ j:Nat,q=d.p.length-j∧j≤d.p.length∧(∀ w∈d.p.take j,0≤w.1∧w.1<d.s.length∧w.2.length=128)∧S=rkdB d j) d.p.length (S0:=rkdB d 0) (af_ [] (by simp) (by simp[dkC])) ⟨0,rfl,by omega,fun _ h=>by simp at h,rfl⟩ ?_
   rintro _ _ ⟨j,rfl,hj,hall2,rfl⟩
   simp -dsimp[dkC]
   repeat(first|apply wG|(apply wR;simp -dsimp[dkC])|refine aI ?_)
   by_cases hjn:j<d.p.length
   ·have e1:IntKind.i64.wrap ((j:Int)+1)=((j+1:Nat):Int):=by rw[IntWalk.i64_in _ (by omega)];omega
    have hat:=vz_ hjn
    refine cT (by simp;omega) ?_
    refine WP.skip ?_
    simp -dsimp
    repeat(first|apply wG|(apply wR;simp -dsimp[hat,lw,hjn,dkC,slB])|refine aI ?_)
    by_cases hl:0≤d.p[j].1∧d.p[j].1<d.s.length∧d.p[j].2.length=128
    ·refine cF (by simp;omega) ?_
     refine WP.skip ?_
     simp -dsimp
     refine sG ?_
     refine loopW.next (rkdB d (j+1)) (af_ [6] (by simp[e1]) (by simp[dkC])) (d.p.length-(j+1)) (by omega) ⟨j+1,rfl,by omega,fun b hb=>?_,rfl⟩
     rw[List.take_add_one,List.getElem?_eq_getElem hjn] at hb
     rcases List.mem_append.1 hb with hb|hb
     ·exact hall2 b hb
     ·simp at hb;rw[hb];exact hl
    ·have hB:dkB d=false:=by
      rw[Bool.eq_false_iff]
      intro h
      exact hl ((a1_.1 h).2.1 _ (List.getElem_mem hjn))
     refine cT (by simp;omega) ?_
     refine sG ?_
     refine WP.ret (ab_ ?_)
     simp -dsimp[hbad hB]
   ·obtain rfl:j=d.p.length:=by omega
    rw[List.take_length] at hall2
    have hB:dkE d=0:=by rw[dkE,a1_.2 ⟨h1,hall2,hall⟩];rfl
    refine cF (by simp) ?_
    refine WP.exit ?_
    simp -dsimp
    refine sG ?_
    refine WP.ret (ab_ ?_)
    simp -dsimp[hB]
 ·have hB:dkB d=false:=by
   rw[Bool.eq_false_iff]
   intro h
   exact h1 (a1_.1 h).1
  refine cT (by simp;omega) ?_
  refine sG ?_
  refine WP.ret (ab_ ?_)
  simp -dsimp[hbad hB]
theorem lp_ (k sz n:Nat) (ds:List D):∀ a b:List AV,gx_ k sz n ds (a++b)=gx_ k sz n ds a++gx_ k sz n ds b
 | [],_=>rfl
 | x::a,b=>by rw[List.cons_append,gx_,gx_,lp_ k sz n ds a b,List.cons_append]
theorem wq_ (k:Nat) (a b:List AV):am_ k (a++b)=(am_ k a||am_ k b):=hasL_append
theorem qf_ (f:Nat→Nat):∀ a b:List AV,renL f (a++b)=renL f a++renL f b
 | [],_=>rfl
 | x::a,b=>by rw[List.cons_append,renL,renL,qf_ f a b,List.cons_append]
theorem vq_ (n:Nat):zeS (n+1)=zeS n++[List.replicate 128 0]:=by rw[zeS,zeS,List.replicate_succ']
abbrev dnS (n i:Nat):St:=mkS 26 [(0,.d (.v (.int .i64 n))),(2,.ptr 2 0),(4,.ptr 4 0),(5,.d (.v (.int .i64 i)))]
 [(2,.cells 28 [.d (.v (.slice none 0 0)),.d (.v (.slice none 0 0)),.d (.v (.int .i64 0)),.d (.v (.bool false))]),(4,.cells 28 [.row 500,.d (.v (.slice none 0 0)),.d (.v (.int .i64 (-1))),.d (.v (.bool false))]),(500,.row 22 1 i ((lsB (zeS i)).map .d))]
set_option maxHeartbeats 2000000 in
theorem oW_ (n:Nat) (h1:1≤n) (hn:n≤4096):Fn0 Tryz.prog 42 [.v (.int .i64 n)] (.tup [dkD ⟨zeS n,[],-1,false⟩,.v (.int .i64 0)]):=by
 have hzl:(zeS n).length=n:=by simp[zeS]
 refine ad_ (pn:=an_) ac_ Tryz.func42 rfl fun β0=>?_
 simp only[Tryz.f42]
 refine sG ?_
 refine cF (by simp;omega) ?_
 refine WP.skip ?_
 simp -dsimp
 refine sG ?_
 refine ai_ (fun q S=>∃ i:Nat,q=n-i∧i≤n∧S=dnS n i) n (S0:=dnS n 0) ((bf_ 4 0 500 22 1 (by simp;exact⟨rfl,rfl⟩) rfl (by simp)).trans (af_ [] (by simp) (by simp[zeS,lsB]))) ⟨0,rfl,by omega,rfl⟩ ?_
 rintro _ _ ⟨i,rfl,hi,rfl⟩
 simp -dsimp
 refine sG ?_
 by_cases hin:i<n
 ·have e1:IntKind.i64.wrap ((i:Int)+1)=((i+1:Nat):Int):=by rw[IntWalk.i64_in _ (by omega)];omega
  have hz:lsB (zeS (i+1))=lsB (zeS i)++[slB (List.replicate 128 0)]:=by rw[vq_,lsB,List.map_append];rfl
  refine cT (by simp;omega) ?_
  refine WP.skip ?_
  simp -dsimp
  refine sG ?_
  refine cK_ ac_ 21 rfl rfl rfl (c:=128) rfl rfl (by decide) (by decide) (by simp) (lB_ 128) ?_
  simp -dsimp
  refine sG ?_
  refine loopW.next (dnS n (i+1)) ((Wk.freeze (k:=21) (T:=5) (sz:=1) (n:=128) (ds:=bys (List.replicate 128 0)) (by first|rfl|simp)).trans (Wk.go [] 23 500 (by decide) (by simp[lp_,wq_,gx_,hasL_d]) (by simp[e1]) (by simp[hz,slB,lp_,qf_,gx_]))) (n-(i+1)) (by omega) ⟨i+1,rfl,by omega,rfl⟩
 ·obtain rfl:i=n:=by omega
  refine cF (by simp) ?_
  refine WP.exit ?_
  simp -dsimp
  refine sG ?_
  refine WP.ret (aj_ (Wk.freeze (k:=500) (T:=22) (sz:=1) (n:=i) (ds:=lsB (zeS i)) rfl) ?_)
  simp -dsimp[dkD,dkC,wrD,wrC,hzl]
theorem oX_ (n:Int) (h:¬ (1≤n∧n≤4096)):Fn0 Tryz.prog 42 [.v (.int .i64 n)] (.tup [dkD ⟨[],[],0,false⟩,.v (.int .i64 1)]):=by
 refine ad_ (pn:=an_) ac_ Tryz.func42 rfl fun β0=>?_
 simp only[Tryz.f42]
 refine sG ?_
 refine cT (by simp;omega) ?_
 refine sG ?_
 refine WP.ret (ab_ ?_)
 simp -dsimp[dkD,dkC,wrD,wrC]
 exact xs_ ⟨Leq.nil 1,Leq.nil 2,.refl _,.refl _,trivial⟩ (.refl _)
theorem oV_ (d:Dk):Fn0 Tryz.prog 66 [dkD d] (dkD ⟨d.s,[],-1,false⟩):=by
 refine ad_ (pn:=an_) ac_ Tryz.func66 rfl fun β0=>?_
 simp only[Tryz.f66]
 repeat(first|apply wG|(apply wR;simp -dsimp[dkD,dkC])|refine aI ?_)
 refine WP.ret (ab_ ?_)
 simp -dsimp[dkD,dkC,wrD,wrC]
def Du_ (crew:Int) (seed:By) (m:Int) (R:List By):D:=if onB crew m 0 R=true then .tup [sgD (onL seed m R) false,.v (.bool true)] else .tup [.v (.slice none 0 0),.v (.bool false)]
def dcB (crew:Int) (i:Nat) (b:By):Bool:=decide ((decF b).2=0∧(decF b).1 0=crew∧(decF b).1 1=(i:Int)+1)
theorem Bp_ (crew m:Int) (i:Nat) (b:By):onK crew m i b=(dcB crew i b&&decide ((i:Int)<m)):=by
 rw[Bool.eq_iff_iff,Bool.and_eq_true,onK,dcB,decide_eq_true_eq,decide_eq_true_eq,decide_eq_true_eq];simp only[and_assoc]
abbrev sdB (crew:Int) (seed:By) (m u:Int) (R:List By) (i:Nat):Bxs :=
 [(1103,.cells 3 [.d (.v (.int .i64 crew))]),(1104,.cells 24 [.d (slB seed),.d (.v (.int .i64 m)),.d (.v (.int .i64 u))]),(1106,.cells 31 [.row 505]),(1107,.cells 4 [.d (.v (.bool false))]),(505,.row 82 61 i ((sgC (onL seed m (R.take i))).map .d))]
abbrev sdF (crew:Int) (seed:By) (m u:Int):Bxs :=
 [(1103,.cells 3 [.d (.v (.int .i64 crew))]),(1104,.cells 24 [.d (slB seed),.d (.v (.int .i64 m)),.d (.v (.int .i64 u))]),(1106,.cells 31 [.d (.v (.slice none 0 0))]),(1107,.cells 4 [.d (.v (.bool false))])]
def sdX (crew:Int) (seed:By) (m u:Int) (R:List By):Nat→Bxs
 | 0=>sdF crew seed m u
 | i+1=>sdB crew seed m u R (i+1)
theorem oO_ (crew:Int) (seed:By) (m u:Int) (R:List By) (i:Nat):bW_ (sdB crew seed m u R i):=by
 intro k b h
 simp only[sdB,getB] at h
 (repeat' split at h)<;>cases h<;>rfl
theorem in_ (crew:Int) (seed:By) (m u:Int):bW_ (sdF crew seed m u):=by
 intro k b h
 simp only[sdF,getB] at h
 (repeat' split at h)<;>cases h<;>rfl
theorem im_ (crew:Int) (seed:By) (m u:Int) (R:List By) (i:Nat):bW_ (sdX crew seed m u R i):=by
 cases i with
 | zero=>exact in_ _ _ _ _
 | succ i=>exact oO_ _ _ _ _ _ _
theorem s1_ (crew:Int) (seed:By) (m u:Int) (R:List By) (i:Nat) (x y:D) :
  Wk ⟨setP (mkS 49 [(3,.ptr 1103 0),(4,.ptr 1104 0),(6,.ptr 1106 0),(7,.ptr 1107 0)] []).sl #[15,16].toList [.d x,.d y],sdX crew seed m u R i,[]⟩
   ⟨setP (mkS 49 [(3,.ptr 1103 0),(4,.ptr 1104 0),(6,.ptr 1106 0),(7,.ptr 1107 0)] []).sl #[15,16].toList [.d x,.d y],sdB crew seed m u R i,[]⟩:=by
 cases i with
 | zero=>exact (bf_ 1106 0 505 82 61 (by simp[sdX];exact⟨rfl,rfl⟩) rfl (by simp[sdX])).trans (af_ [] (by simp) (by simp[sdX];rfl))
 | succ i=>exact af_ [] (by simp) (by simp[sdX])
theorem la_ (seed:By) (m:Int) (R:List By) {i:Nat} (h:i<R.length):sgC (onL seed m (R.take (i+1)))=sgC (onL seed m (R.take i))++sgc (sgQ seed m (decF (R.getD i [])).1):=by
 have e:R.take (i+1)=R.take i++[R.getD i []]:=by
  rw[List.take_add_one,List.getElem?_eq_getElem h,List.getD_eq_getElem?_getD,List.getElem?_eq_getElem h];rfl
 rw[e,onL,List.map_append,eu_]
 simp[onL,sgC,sgc]
theorem ij_ (seed:By) (m:Int) (f:Nat→Int):(sgc (sgQ seed m f)).length=61:=by rw[sgc,sgQ,List.length_append,a4_];rfl
theorem d2_ (seed:By) (m:Int):∀ l:List By,(sgC (onL seed m l)).length=l.length*61
 | []=>rfl
 | b::l=>by
  have h:=d2_ seed m l
  have h2:=ij_ seed m (decF b).1
  rw[sgC,onL] at h
  rw[sgC,onL,List.map_cons,List.flatMap_cons,List.length_append,h,List.length_cons]
  rw[sgc] at h2
  omega
theorem tO_:∀ {crew m:Int} {i:Nat} {l:List By},onB crew m i l=false→∃ p b q,l=p++b::q∧onB crew m i p=true∧onK crew m (i+p.length) b=false
 | _,_,_,[],h=>by simp[onB] at h
 | crew,m,i,b::l,h=>by
  rw[onB] at h
  cases hb:onK crew m i b with
  | false=>exact⟨[],b,l,rfl,rfl,hb⟩
  | true =>
   rw[hb,Bool.true_and] at h
   obtain⟨p,c,q,rfl,hp,hc⟩:=tO_ h
   exact⟨b::p,c,q,rfl,by rw[onB,hb,hp];rfl,by rw[List.length_cons,← Nat.add_assoc,Nat.add_right_comm];exact hc⟩
set_option maxRecDepth 10000 in
set_option maxHeartbeats 4000000 in
theorem ig_ (crew:Int) (seed:By) (m u:Int) (M:Int) (R:List By) (Y:Int) (hk:keyV seed m u=true) (hR:R.length≤1000000) (hb:∀ b∈R,b.length≤1000000) :
  Fn0 Tryz.prog 65 [.v (.int .i64 crew),keyD seed m u,logD M R Y] (Du_ crew seed m R):=by
 obtain⟨k1,k2,k3,k4,k5,k6⟩:=a0_.1 hk
 refine kr_ ac_ Tryz.func65 rfl fun β0=>?_
 simp only[Tryz.f65]
 repeat(first|apply wG|(apply wR;simp -dsimp[logD,lgC,keyD])|refine aI ?_)
 refine vcStop.call n7_ (pb_ M R Y) (rl [(0,600)]) rfl rfl (by simp[logD,lgC,BoxLeq]) (ag_ (by simp[logD,lgC,BoxLeq]) rfl (by first|rfl|(simp[logD,lgC,BoxLeq];done)) (by simp[logD,lgC,BoxLeq]) (by simp[logD,lgC,BoxLeq])) (fun _ h=>h.elim) (fun ⟨_,h⟩=>h.elim) (fun ⟨_,h⟩=>h.elim) (by simp[logD,lgC,BoxLeq]) ?_
 simp -dsimp
 refine sG ?_
 unfold Du_
 cases hon:onB crew m 0 R with
 | true =>
  rw[if_pos rfl]
  refine dA_ hj_ (m:=R.length) (jump:=fun _=>none) (iD_ M R Y hR (fun _=>true) R.length (Nat.le_refl _) (fun _ _=>rfl) (.inl rfl)) (sdX crew seed m u R) (mkS 49 [(3,.ptr 1103 0),(4,.ptr 1104 0),(6,.ptr 1106 0),(7,.ptr 1107 0)] []).sl 990 (rl [(1000,600),(1103,3),(1104,4),(1106,6),(1107,7),(505,510),(990,602)]) rfl rfl rfl (by simp) (by simp) (by simp) (fun i _=>im_ _ _ _ _ _ i)
   (by cases R.length<;>simp[sdX]) (by simp) (by cases R.length<;>simp[sdX]) (by simp) (by decide) (by cases R.length<;>simp[sdX]) (fun _ _=>rfl) (fun _ _=>rfl) ?_ (fun G=>ag_ (by simp[slB,lgC,sdX]) (by cases R.length<;>simp[sdX]) (by cases R.length<;>simp[sdX]) (by cases R.length<;>simp[sdX]) (by cases R.length<;>simp[sdX])) (fun G=>by cases R.length<;>simp[sdX]) ?_
  ·intro i hi lp β1
   have hsn:=la_ seed m R hi
   have hgd:R.getD i []=R[i]:=by rw[List.getD_eq_getElem?_getD,List.getElem?_eq_getElem hi];rfl
   have hbi:(R.getD i []).length≤1000000:=by rw[hgd];exact hb _ (List.getElem_mem hi)
   have hok:=iB_ hon hi
   rw[Nat.zero_add,← hgd] at hok
   obtain⟨f1,f2,f3,f4,f5⟩:=mF_ hok (by omega)
   rw[onK,decide_eq_true_eq] at hok
   have hdec:=c4_ (R.getD i []) (by omega)
   rw[m7_,fD,hok.1] at hdec
   generalize R.getD i []=b at *
   generalize (decF b).1=f at *
   have hsg:=eF_ seed (by omega) m u f f1
   have hsr:sgnR seed m u f=(sgc (sgQ seed m f),0):=by
    rw[sgnR,if_pos f2,if_pos ⟨hk,by omega⟩];rfl
   rw[hsr] at hsg
   simp only at hsg
   have lW:=d2_ seed m (R.take i)
   rw[List.length_take,Nat.min_eq_left (by omega)] at lW
   have hl57:=a4_ f
   have hl61:=ij_ seed m f
   have hso:dN_ (sgQ seed m f):=⟨f1,rfl,fun d hd=>dm_ hd⟩
   refine ar_ (s1_ crew seed m u R i _ _) ?_
   simp -dsimp
   refine sG ?_
   refine aa_ ep_ hdec rfl rfl (by simp) ?_
   simp -dsimp
   repeat(first|apply wG|(apply wR;simp -dsimp[setL_whole,hl57])|refine aI ?_)
   refine cF (by simp[f3,f4]) ?_
   refine WP.skip ?_
   simp -dsimp
   repeat(first|apply wG|(apply wR;simp -dsimp[hl57,slB])|refine aI ?_)
   refine aa_ cG_ hsg rfl rfl (by simp[keyD,fD,slB]) ?_
   simp -dsimp
   repeat(first|apply wG|(apply wR;simp -dsimp[setL_whole,hl61])|refine aI ?_)
   refine And.intro ⟨hl61,fun d hd=>sgc_oneD hso d hd⟩ ?_
   simp -dsimp[setL_whole,hl61]
   refine sG ?_
   refine cF (by simp) ?_
   refine WP.skip ?_
   simp -dsimp
   have h61:=ii_ hso
   have h1o:=eU_ hso
   repeat(first|apply wG|(apply wR;simp -dsimp[hl61,lW,h61])|refine aI ?_)
   exact⟨mkS 49 [] (sdB crew seed m u R (i+1)),Wk.go [10,12,46] 47 505 (by decide) (by simp) (by simp) (by simp[hsn]),subB_ok (by simp[sdX])⟩
  ·intro G
   rw[iv_,m5_]
   cases hw:R.length with
   | zero =>
    have hw0:R=[]:=List.eq_nil_of_length_eq_zero hw
    subst hw0
    simp -dsimp[sdX]
    refine sG ?_
    refine WP.ret (gA_ ?_ G 602 rfl rfl rfl)
    simp -dsimp[onL,sgC]
   | succ q =>
    simp -dsimp[sdX]
    rw[← hw,List.take_length]
    refine sG ?_
    refine WP.ret (gz_ (Wk.freeze (k:=510) (T:=82) (sz:=61) (n:=R.length) (ds:=sgC (onL seed m R)) (by simp)) ?_ G 602 rfl rfl rfl)
    simp -dsimp[cm_]
 | false =>
  rw[if_neg (by decide)]
  obtain⟨p,bb,q,hpq,hp,hbad⟩:=tO_ hon
  rw[Nat.zero_add] at hbad
  have hpl:p.length<R.length:=by rw[hpq];simp
  have hgb:R.getD p.length []=bb:=by rw[hpq];simp
  have hgood:∀ i,i<p.length→onK crew m i (R.getD i [])=true:=fun i hi=>by
   have:=iB_ hp hi
   rw[Nat.zero_add] at this
   rw[hpq,List.getD_eq_getElem?_getD,List.getElem?_append_left hi,List.getElem?_eq_getElem hi]
   exact this
  refine dA_ hj_ (m:=p.length+1) (jump:=fun i=>if i=p.length then some .ret else none) (iD_ M R Y hR _ (p.length+1) (by omega) (fun i hi=>by simp;omega) (.inr ⟨by omega,by simp⟩)) (fun i=>if i=p.length+1 then sdF crew seed m u else sdX crew seed m u R i) (mkS 49 [(3,.ptr 1103 0),(4,.ptr 1104 0),(6,.ptr 1106 0),(7,.ptr 1107 0)] []).sl 990 (rl [(1000,600),(1103,3),(1104,4),(1106,6),(1107,7),(505,510),(990,602)]) rfl rfl rfl (by simp) (by simp) (by simp)
   (fun i _=>by split;exact in_ _ _ _ _;exact im_ _ _ _ _ _ i) (by simp[sdX]) (by simp) (by simp[sdX]) (by simp) (by decide) (by simp[sdX]) (fun i hi=>if_neg (by omega)) (fun _ _=>rfl) ?_ (fun G=>ag_ (by simp[slB,lgC,sdX]) (by simp[sdX]) (by simp[sdX]) (by simp[sdX]) (by simp[sdX])) (fun G=>by simp[sdX]) ?_
  ·intro i hi0 lp β1
   have hi:i<R.length:=by omega
   rcases Nat.lt_or_eq_of_le (show i≤p.length by omega) with hlt|heq
   ·have c1:¬ i=p.length+1:=by omega
    have c2:¬ i=p.length:=by omega
    have c3:¬ i+1=p.length+1:=by omega
    rw[if_neg c1,if_neg c2,if_neg c3]
    have hsn:=la_ seed m R hi
    have hgd:R.getD i []=R[i]:=by rw[List.getD_eq_getElem?_getD,List.getElem?_eq_getElem hi];rfl
    have hbi:(R.getD i []).length≤1000000:=by rw[hgd];exact hb _ (List.getElem_mem hi)
    have hok:=hgood i hlt
    obtain⟨f1,f2,f3,f4,f5⟩:=mF_ hok (by omega)
    rw[onK,decide_eq_true_eq] at hok
    have hdec:=c4_ (R.getD i []) (by omega)
    rw[m7_,fD,hok.1] at hdec
    generalize R.getD i []=b at *
    generalize (decF b).1=f at *
    have hsg:=eF_ seed (by omega) m u f f1
    have hsr:sgnR seed m u f=(sgc (sgQ seed m f),0):=by
     rw[sgnR,if_pos f2,if_pos ⟨hk,by omega⟩];rfl
    rw[hsr] at hsg
    simp only at hsg
    have lW:=d2_ seed m (R.take i)
    rw[List.length_take,Nat.min_eq_left (by omega)] at lW
    have hl57:=a4_ f
    have hl61:=ij_ seed m f
    have hso:dN_ (sgQ seed m f):=⟨f1,rfl,fun d hd=>dm_ hd⟩
    refine ar_ (s1_ crew seed m u R i _ _) ?_
    simp -dsimp
    refine sG ?_
    refine aa_ ep_ hdec rfl rfl (by simp) ?_
    simp -dsimp
    repeat(first|apply wG|(apply wR;simp -dsimp[setL_whole,hl57])|refine aI ?_)
    refine cF (by simp[f3,f4]) ?_
    refine WP.skip ?_
    simp -dsimp
    repeat(first|apply wG|(apply wR;simp -dsimp[hl57,slB])|refine aI ?_)
    refine aa_ cG_ hsg rfl rfl (by simp[keyD,fD,slB]) ?_
    simp -dsimp
    repeat(first|apply wG|(apply wR;simp -dsimp[setL_whole,hl61])|refine aI ?_)
    refine And.intro ⟨hl61,fun d hd=>sgc_oneD hso d hd⟩ ?_
    simp -dsimp[setL_whole,hl61]
    refine sG ?_
    refine cF (by simp) ?_
    refine WP.skip ?_
    simp -dsimp
    have h61:=ii_ hso
    have h1o:=eU_ hso
    repeat(first|apply wG|(apply wR;simp -dsimp[hl61,lW,h61])|refine aI ?_)
    exact⟨mkS 49 [] (sdB crew seed m u R (i+1)),Wk.go [10,12,46] 47 505 (by decide) (by simp) (by simp) (by simp[hsn]),subB_ok (by simp[sdX])⟩
   ·have c1:¬ i=p.length+1:=by omega
    rw[if_neg c1,if_pos heq,if_pos (show i+1=p.length+1 by omega)]
    have hgd:R.getD i []=R[i]:=by rw[List.getD_eq_getElem?_getD,List.getElem?_eq_getElem hi];rfl
    have hbi:(R.getD i []).length≤1000000:=by rw[hgd];exact hb _ (List.getElem_mem hi)
    have hno:onK crew m i (R.getD i [])=false:=by rw[heq,hgb];exact hbad
    have hdec:=c4_ (R.getD i []) (by omega)
    have f1:=lA_ (bs:=R.getD i []) (by omega)
    rw[Bp_] at hno
    rw[m7_,fD] at hdec
    unfold dcB at hno
    generalize R.getD i []=b at *
    generalize (decF b).1=f at *
    generalize (decF b).2=e at *
    have hsg:=eF_ seed (by omega) m u f f1
    have hl57:=a4_ f
    refine ar_ (s1_ crew seed m u R i _ _) ?_
    simp -dsimp
    refine sG ?_
    refine aa_ ep_ hdec rfl rfl (by simp) ?_
    simp -dsimp
    repeat(first|apply wG|(apply wR;simp -dsimp[setL_whole,hl57])|refine aI ?_)
    by_cases hdc:e=0∧f 0=crew∧f 1=(i:Int)+1
    ·rw[decide_eq_true hdc,Bool.true_and,decide_eq_false_iff_not] at hno
     obtain⟨rfl,f3,f4⟩:=hdc
     have hsr:(sgnR seed m u f).1=fcs f0 0 57++zsC∧(sgnR seed m u f).2≠0:=by
      unfold sgnR
      split
      ·rw[if_neg (by rintro⟨_,h⟩;omega)];exact⟨rfl,by decide⟩
      ·exact⟨rfl,by decide⟩
     obtain⟨hs1,hs2⟩:=hsr
     rw[hs1] at hsg
     have hzo:dN_ (f0,zsC):=⟨uw_,rfl,by decide⟩
     have hz1:=sgc_oneD hzo
     have hz61:=bu_ hzo
     simp only[sgc] at hz1 hz61
     generalize fcs f0 0 57++zsC=Z at *
     generalize (sgnR seed m u f).2=z at *
     refine cF (by simp[f3,f4]) ?_
     refine WP.skip ?_
     simp -dsimp
     repeat(first|apply wG|(apply wR;simp -dsimp[hl57,slB])|refine aI ?_)
     refine aa_ cG_ hsg rfl rfl (by simp[keyD,fD,slB]) ?_
     simp -dsimp
     repeat(first|apply wG|(apply wR;simp -dsimp[setL_whole])|refine aI ?_)
     refine cT (by simp[hs2]) ?_
     refine sG ?_
     refine WP.ret ?_
     simp -dsimp
     exact⟨rfl,mkS 49 [] (sdF crew seed m u),af_ [10,12,505] (by simp) (by simp),subB_ok (by simp)⟩
    ·refine cT (by simp;omega) ?_
     refine sG ?_
     refine WP.ret ?_
     simp -dsimp
     exact⟨rfl,mkS 49 [] (sdF crew seed m u),af_ [10,505] (by simp) (by simp),subB_ok (by simp)⟩
  ·intro G
   rw[show pendOf (fun i=>if i=p.length then some Code.ret else none) (p.length+1)=some Code.ret from if_pos rfl,uz_,if_pos rfl]
   simp -dsimp[sdX]
   refine WP.ret (gA_ ?_ G 602 rfl rfl rfl)
   simp -dsimp
abbrev edS (a b:List Dg) (i:Nat):St:=mkS 26 [(0,.d (slG a)),(1,.d (slG b)),(12,.d (.v (.int .i64 a.length))),(13,.d (.v (.int .i64 i)))] []
set_option maxRecDepth 10000 in
set_option maxHeartbeats 4000000 in
theorem ph_ (a b:List Dg) (ha:a9_ a) (hb:a9_ b) (hna:a.length≤10000000000000) (hnb:b.length≤10000000000000):Fn0 Tryz.prog 156 [slG a,slG b] (.v (.bool (decide (a=b)))):=by
 refine ad_ (pn:=an_) ac_ Tryz.func156 rfl fun β0=>?_
 simp only[Tryz.f156]
 repeat(first|apply wG|(apply wR;simp -dsimp[slG])|refine aI ?_)
 by_cases hl:a.length=b.length
 ·refine cF (by simp[hl]) ?_
  refine WP.skip ?_
  simp -dsimp
  refine sG ?_
  refine ai_ (fun q S=>∃ i:Nat,q=a.length-i∧i≤a.length∧(∀ j,j<i→digA a j=digA b j)∧S=edS a b i) a.length (S0:=edS a b 0) (af_ [] (by simp[slG]) (by simp)) ⟨0,rfl,by omega,fun j h=>by omega,rfl⟩ ?_
  rintro _ _ ⟨i,rfl,hi,hj,rfl⟩
  simp -dsimp[slG]
  refine sG ?_
  by_cases hil:i<a.length
  ·have hib:i<b.length:=by omega
   have aa:=gY_ ha i hil
   have ab:=gY_ hb i hib
   have la:=ea_ ha i hil
   have lb:=ea_ hb i hib
   have ca:=aT_ ha
   have cb:=aT_ hb
   have ta:=h6_ la
   have tb:=h6_ lb
   have e1:IntKind.i64.wrap ((i:Int)+1)=((i+1:Nat):Int):=by rw[IntWalk.i64_in _ (by omega)];omega
   have hstep:digA a i=digA b i→∀ j,j<i+1→digA a j=digA b j:=fun h j hj1=>by
    rcases Nat.lt_or_ge j i with h1|h1
    ·exact hj j h1
    ·rw[show j=i by omega];exact h
   have hbad:digA a i≠digA b i→a≠b:=fun h e=>h (by rw[e])
   generalize digA a i=x at *
   generalize digA b i=y at *
   refine cT (by simp;omega) ?_
   refine WP.skip ?_
   simp -dsimp
   repeat(first|apply wG|(apply wR;simp -dsimp[aa,ab,ta,tb])|refine aI ?_)
   refine jT_ ac_ FH_ xH_ rfl (.inr rfl) (q:=4) (by omega) (T:=87) lM_ nm_ (by decide) rd_ (cs:=fL_ x) (es:=fL_ y) (by simp[cs_]) (by simp[cs_]) (by simp[fL_,la]) (by simp[fL_,lb]) (hY_ x) (hY_ y) (mM_ x y) ?_
   simp -dsimp[eqRes]
   refine sG ?_
   by_cases hxy:x=y
   ·refine cF (by simp[eqRes,hxy]) ?_
    refine WP.skip ?_
    simp -dsimp
    refine sG ?_
    refine loopW.next (edS a b (i+1)) (af_ [] (by simp[e1,slG]) (by simp)) (a.length-(i+1)) (by omega) ⟨i+1,rfl,by omega,hstep hxy,rfl⟩
   ·refine cT (by simp[eqRes,hxy]) ?_
    have hr:decide (a=b)=false:=decide_eq_false (hbad hxy)
    refine sG ?_
    refine WP.ret (ab_ ?_)
    simp -dsimp[hr]
  ·refine cF (by simp;omega) ?_
   refine WP.exit ?_
   have hr:decide (a=b)=true:=decide_eq_true (h3_ hl fun j h=>hj j (by omega))
   simp -dsimp
   refine sG ?_
   refine WP.ret (ab_ ?_)
   simp -dsimp[hr]
 ·refine cT (by simp;omega) ?_
  have hr:decide (a=b)=false:=decide_eq_false fun h=>hl (by rw[h])
  refine sG ?_
  refine WP.ret (ab_ ?_)
  simp -dsimp[hr]
set_option maxRecDepth 10000 in
set_option maxHeartbeats 4000000 in
theorem yu_ (p q:Sg) (hp:dN_ p) (hq:dN_ q) (up:sgT p) (uq:sgT q):Fn0 Tryz.prog 90 [sgV p,sgV q] (.v (.bool (sT_ p q))):=by
 have k1:=yy_ p.1 q.1 hp.1 hq.1
 have l1:=bu_ hp
 have l2:=bu_ hq
 have h57:=jY_ p
 have g57:=jY_ q
 have h4:List.take 4 (List.drop 57 ((sgc p).map AV.d))=p.2.map .d:=by rw[← List.map_drop,← List.map_take,do_ hp]
 have g4:List.take 4 (List.drop 57 ((sgc q).map AV.d))=q.2.map .d:=by rw[← List.map_drop,← List.map_take,do_ hq]
 obtain⟨k,o,c,a,e,h⟩:=up
 obtain⟨k',o',c',a',e',h'⟩:=uq
 have k2:=ph_ o o' h.ho h'.ho h.no h'.no
 have k3:=ph_ c c' h.hc h'.hc h.nc h'.nc
 have k4:=ph_ a a' h.hp h'.hp h.np h'.np
 have hr:sT_ p q=(eqF p.1 q.1&&(decide (k=k')&&(decide (o=o')&&(decide (c=c')&&decide (a=a'))))):=by
  rw[sT_,e,e',(bJ_ h).1,(bJ_ h).2.1,(bJ_ h).2.2,(bJ_ h').1,(bJ_ h').2.1,(bJ_ h').2.2];rfl
 rw[hr]
 rw[e] at h4
 rw[e'] at g4
 clear hr h h' e e'
 generalize eqF p.1 q.1=b1 at *
 generalize decide (o=o')=b2 at *
 generalize decide (c=c')=b3 at *
 generalize decide (a=a')=b4 at *
 simp only[sgV]
 refine ad_ (pn:=an_) ac_ Tryz.func90 rfl fun β0=>?_
 simp only[Tryz.f90]
 refine sG ?_
 refine And.intro (sgc_oneD hp) ?_
 refine sG ?_
 refine And.intro (sgc_oneD hq) ?_
 repeat(first|apply wG|(apply wR;simp -dsimp[h57,h4,g57,g4,f3_,slG])|refine aI ?_)
 refine ao_ pV_ k1 rfl rfl (And.intro (by simp[fD]) (And.intro (by simp[fD]) trivial)) ?_
 cases b1 with
 | false =>
  simp -dsimp
  refine sG ?_
  refine vcStopG.skip (.d (.v (.bool false))) ?_
  simp -dsimp
  refine sG ?_
  refine vcStopG.skip (.d (.v (.bool false))) ?_
  simp -dsimp
  refine sG ?_
  refine vcStopG.skip (.d (.v (.bool false))) ?_
  simp -dsimp
  refine sG ?_
  refine WP.ret (ab_ ?_)
  simp -dsimp
 | true =>
  simp -dsimp
  refine sG ?_
  refine ae_ el_ (fun _=>k2) rfl (fun _=>rfl) (fun _=>by simp[slG]) ?_
  simp -dsimp
  refine sG ?_
  refine ae_ el_ (fun _=>k3) rfl (fun _=>rfl) (fun _=>by simp[slG]) ?_
  simp -dsimp
  refine sG ?_
  refine ae_ el_ (fun _=>k4) rfl (fun _=>rfl) (fun _=>by simp[slG]) ?_
  simp -dsimp
  refine sG ?_
  refine WP.ret (ab_ ?_)
  simp -dsimp[Bool.and_assoc]
theorem p7_:∀ {a b:List Sg},ih_ a b=true→a.length=b.length
 | [],[],_=>rfl
 | [],_::_,h=>by simp[ih_] at h
 | _::_,[],h=>by simp[ih_] at h
 | p::a,q::b,h=>by
  rw[ih_,Bool.and_eq_true] at h
  rw[List.length_cons,List.length_cons,p7_ h.2]
theorem ys_ {a b:List Sg} {i:Nat} (ha:i<a.length) (hb:i<b.length):ih_ (a.drop i) (b.drop i)=(sT_ a[i] b[i]&&ih_ (a.drop (i+1)) (b.drop (i+1))):=by
 rw[List.drop_eq_getElem_cons ha,List.drop_eq_getElem_cons hb,ih_]
abbrev FJ_:D:=.v (.func (.func 90) #[] #[])
abbrev esS (a b:List Sg) (i:Nat):St:=mkS 32 [(0,.d (sgD a false)),(1,.d (sgD b false)),(2,.d FJ_),(15,.d (sgD a false)),(16,.d (.v (.int .i64 a.length))),(17,.d (.v (.int .i64 i)))] []
set_option maxRecDepth 10000 in
set_option maxHeartbeats 2000000 in
theorem wD_ (a b:List Sg) (ha:a.length≤1000000000000) (hb:b.length≤1000000000000) (oa:∀ p∈a,dN_ p∧sgT p) (ob:∀ p∈b,dN_ p∧sgT p):Fn0 Tryz.prog 89 [sgD a false,sgD b false,FJ_] (.v (.bool (ih_ a b))):=by
 have la:=sgC_len (l:=a) fun p h=>(oa p h).1
 have lb:=sgC_len (l:=b) fun p h=>(ob p h).1
 refine ad_ (pn:=an_) ac_ Tryz.func89 rfl fun β0=>?_
 simp only[Tryz.f89]
 refine sG ?_
 by_cases hl:a.length=b.length
 ·refine cF (by simp[hl]) ?_
  refine WP.skip ?_
  simp -dsimp
  refine sG ?_
  refine ai_ (fun q S=>∃ i:Nat,q=a.length-i∧i≤a.length∧ih_ a b=ih_ (a.drop i) (b.drop i)∧S=esS a b i) a.length (S0:=esS a b 0) (af_ [] (by simp) (by simp)) ⟨0,rfl,by omega,rfl,rfl⟩ ?_
  rintro _ _ ⟨i,rfl,hi,ht,rfl⟩
  simp -dsimp
  refine sG ?_
  by_cases hin:i<a.length
  ·have hib:i<b.length:=by omega
   have e1:IntKind.i64.wrap ((i:Int)+1)=((i+1:Nat):Int):=by rw[IntWalk.i64_in _ (by omega)];omega
   obtain⟨o1,t1⟩:=oa _ (List.getElem_mem hin)
   obtain⟨o2,t2⟩:=ob _ (List.getElem_mem hib)
   have heq:=yu_ a[i] b[i] o1 o2 t1 t2
   have aa:=jX_ hin fun p h=>(oa p h).1
   have ab:=jX_ hib fun p h=>(ob p h).1
   have hs:=ys_ hin hib
   rw[hs] at ht
   generalize a[i]=x at *
   generalize b[i]=y at *
   have lx:=bu_ o1
   have ly:=bu_ o2
   have tx:=ii_ o1
   have ty:=ii_ o2
   have ox:=eU_ o1
   have oy:=eU_ o2
   refine cT (by simp;omega) ?_
   refine WP.skip ?_
   simp -dsimp
   repeat(first|apply wG|(apply wR;simp -dsimp[aa,ab,la,lb,hin,hib,setL_whole,lx,ly,tx,ty])|refine aI ?_)
   refine ao_ py_ heq rfl rfl (And.intro (by simp[sgV]) (And.intro (by simp[sgV]) trivial)) ?_
   simp -dsimp
   refine sG ?_
   refine WP.cond (b := !sT_ x y) (by simp) (fun hc=>?_) (fun hc=>?_)
   ·have hc:sT_ x y=false:=by simpa using hc
    rw[hc,Bool.false_and] at ht
    refine sG ?_
    refine WP.ret (ab_ ?_)
    simp -dsimp[ht]
   ·have hc:sT_ x y=true:=by simpa using hc
    rw[hc,Bool.true_and] at ht
    refine WP.skip ?_
    simp -dsimp
    refine sG ?_
    refine loopW.next (esS a b (i+1)) (af_ [8,9] (by simp[e1]) (by simp)) (a.length-(i+1)) (by omega) ⟨i+1,rfl,by omega,ht,rfl⟩
  ·obtain rfl:i=a.length:=by omega
   have hab:ih_ a b=true:=by rw[ht,List.drop_length,hl,List.drop_length];rfl
   refine cF (by simp) ?_
   refine WP.exit ?_
   simp -dsimp
   refine sG ?_
   refine WP.ret (ab_ ?_)
   simp -dsimp[hab]
 ·have hne:ih_ a b=false:=by
   cases h:ih_ a b with
   | false=>rfl
   | true=>exact absurd (p7_ h) hl
  refine cT (by simp;omega) ?_
  refine sG ?_
  refine WP.ret (ab_ ?_)
  simp -dsimp[hne]
end Go.Proofs.YtfgcgagcpnbgmaaGreatDoor
set_option maxRecDepth 10000
namespace Go.Proofs.YtfgcgagcpnbgmaaGreatDoor
open Go.Xe Go.RowKit
set_option maxHeartbeats 2000000 in
theorem gi_ (d:Dk) (hd:dkOk d):Fn0 Tryz.prog 43 [dkD d] (.tup [logD (k2_ d).1.1 (k2_ d).1.2.1 (k2_ d).1.2.2,.v (.int .i64 (k2_ d).2)]):=by
 have h1:=qi_ d hd
 refine ad_ (pn:=an_) ac_ Tryz.func43 rfl fun β0=>?_
 simp only[Tryz.f43]
 unfold k2_
 unfold dkE at h1
 repeat(first|apply wG|(apply wR;simp -dsimp[dkD,dkC])|refine aI ?_)
 refine aa_ jp_ h1 rfl rfl (by simp[dkD,dkC]) ?_
 simp -dsimp
 refine sG ?_
 cases hB:dkB d with
 | false =>
  rw[if_neg (by decide)]
  refine cT (by simp[hB]) ?_
  repeat(first|apply wG|(apply wR;simp -dsimp[hB])|refine aI ?_)
  refine WP.ret (ab_ ?_)
  simp -dsimp[logD,lgC,lsB]
 | true =>
  rw[if_pos rfl]
  refine cF (by simp[hB]) ?_
  refine WP.skip ?_
  simp -dsimp
  refine sG ?_
  obtain⟨⟨d1,d2,d3,d4,d5⟩,_,d6⟩:=a1_.1 hB
  cases hst:d.st with
  | true =>
   rw[if_pos rfl]
   refine cT (by simp[hst]) ?_
   refine sG ?_
   refine WP.ret (ab_ ?_)
   simp -dsimp[logD,lgC,lsB]
  | false =>
   rw[if_neg (by decide)]
   refine cF (by simp[hst]) ?_
   refine WP.skip ?_
   simp -dsimp
   refine sG ?_
   have h86:=rF_ d.s d6 d2
   by_cases hp:0<d.p.length
   ·rw[if_pos hp]
    refine cT (congrArg (fun x=>AV.d (D.v (Value.bool x))) (decide_eq_true (by omega))) ?_
    refine sG ?_
    refine WP.ret (ab_ ?_)
    simp -dsimp[logD,lgC,lsB]
   ·rw[if_neg hp]
    refine cF (congrArg (fun x=>AV.d (D.v (Value.bool x))) (decide_eq_false (by omega))) ?_
    refine WP.skip ?_
    simp -dsimp
    refine sG ?_
    refine aa_ pA_ h86 rfl rfl (by simp) ?_
    simp -dsimp
    refine sG ?_
    refine WP.ret (ab_ ?_)
    simp -dsimp[logD,lgC]
abbrev srX (a b:List By) (i:Nat):St:=mkS 28 [(0,.d (slLB a)),(1,.d (slLB b)),(5,.d (.v (.int .i64 i)))] []
set_option maxHeartbeats 1000000 in
theorem mh_ (a b:List By) (ha:a.length≤1000000000000) (hb:b.length≤1000000000000):Fn0 Tryz.prog 67 [slLB a,slLB b] (.v (.bool (decide (a=b)))):=by
 have la:=aZ_ a
 have lb:=aZ_ b
 refine ad_ (pn:=an_) ac_ Tryz.func67 rfl fun β0=>?_
 simp only[Tryz.f67]
 refine sG ?_
 by_cases hl:a.length=b.length
 ·refine cF (by simp;omega) ?_
  refine WP.skip ?_
  simp -dsimp
  refine sG ?_
  refine ai_ (fun q S=>∃ i:Nat,q=a.length-i∧i≤a.length∧(∀ j (h:j<a.length),j<i→a[j]=b[j]'(by omega))∧S=srX a b i) a.length (S0:=srX a b 0) (af_ [] (by simp) (by simp)) ⟨0,rfl,by omega,fun j _ h=>by omega,rfl⟩ ?_
  rintro _ _ ⟨i,rfl,hi,hall,rfl⟩
  simp -dsimp
  refine sG ?_
  by_cases hin:i<a.length
  ·have hib:i<b.length:=by omega
   have e1:IntKind.i64.wrap ((i:Int)+1)=((i+1:Nat):Int):=by rw[IntWalk.i64_in _ (by omega)];omega
   refine cT (by simp;omega) ?_
   refine WP.skip ?_
   simp -dsimp
   repeat(first|apply wG|(apply wR;simp -dsimp[au_,la,lb,hin,hib])|refine aI ?_)
   by_cases hx:a[i]=b[i]
   ·refine cF (by simp[hx]) ?_
    refine WP.skip ?_
    simp -dsimp
    refine sG ?_
    refine loopW.next (srX a b (i+1)) (af_ [] (by simp[e1]) (by simp)) (a.length-(i+1)) (by omega) ⟨i+1,rfl,by omega,fun j h1 h2=>?_,rfl⟩
    rcases Nat.lt_or_eq_of_le (show j≤i by omega) with h|h
    ·exact hall j h1 h
    ·subst h;exact hx
   ·have hR:decide (a=b)=false:=decide_eq_false fun h=>hx (by subst h;rfl)
    rw[hR]
    refine cT (by simp[hx]) ?_
    refine sG ?_
    refine WP.ret (ab_ ?_)
    simp -dsimp
  ·obtain rfl:i=a.length:=by omega
   have hR:decide (a=b)=true:=decide_eq_true (List.ext_getElem hl fun j h1 h2=>hall j h1 h1)
   rw[hR]
   refine cF (by simp) ?_
   refine WP.exit ?_
   simp -dsimp
   refine sG ?_
   refine WP.ret (ab_ ?_)
   simp -dsimp
 ·have hR:decide (a=b)=false:=decide_eq_false fun h=>hl (by rw[h])
  rw[hR]
  refine cT (by simp;omega) ?_
  refine sG ?_
  refine WP.ret (ab_ ?_)
  simp -dsimp
theorem oQ_ (M:Int) (l:List By) (Y:Int) (M':Int) (l':List By) (Y':Int) (hl:l.length≤1000000000000) (hl':l'.length≤1000000000000):Fn0 Tryz.prog 26 [logD M l Y,logD M' l' Y'] (.v (.bool (decide (M=M')&&(decide (Y=Y')&&decide (l=l'))))):=by
 have h67:=mh_ l l' hl hl'
 generalize decide (l=l')=x at *
 refine ad_ (pn:=an_) ac_ Tryz.func26 rfl fun β0=>?_
 simp only[Tryz.f26]
 repeat(first|apply wG|(apply wR;simp -dsimp[logD,lgC])|refine aI ?_)
 refine ae_ jj_ (fun _=>h67) rfl (fun _=>rfl) (fun _=>by simp) ?_
 simp -dsimp
 refine sG ?_
 refine WP.ret (ab_ ?_)
 simp -dsimp[Bool.and_assoc]
end Go.Proofs.YtfgcgagcpnbgmaaGreatDoor
set_option maxRecDepth 10000
namespace Go.Proofs.YtfgcgagcpnbgmaaGreatDoor
open Go.Xe Go.RowKit
def rmC (r:Rm):List D:=.v (.int .i64 r.crew)::slB r.seed :: .v (.int .i64 r.many) :: .v (.int .i64 r.used)::slLB r.dk.s::wrD r.dk.p :: .v (.int .i64 r.dk.left) :: .v (.bool r.dk.st) :: .v (.int .i64 r.lm)::slLB r.lr :: .v (.int .i64 r.ls)::sgD r.fs false :: .v (.int .i64 r.sent)::[]
def rmD (r:Rm):D:=.agg (rmC r)
structure rmOk (r:Rm):Prop where
 c:isI r.crew
 m:isI r.many
 u:isI r.used
 dk:dkOk r.dk
 sd:r.seed.length≤1000
 lr:r.lr.length≤1000000000000
 fl:r.fs.length≤1000000000000
 fo:∀ p∈r.fs,dN_ p∧sgT p
theorem mI_ (r:Rm):Fn0 Tryz.prog 46 [rmD r] (.v (.bool (decide (0≤r.crew∧r.crew<32∧r.used=r.fs.length∧0≤r.sent∧r.sent≤r.fs.length)))):=by
 have h38:=iQ_ r.crew
 refine ad_ (pn:=an_) ac_ Tryz.func46 rfl fun β0=>?_
 simp only[Tryz.f46]
 repeat(first|apply wG|(apply wR;simp -dsimp[rmD,rmC])|refine aI ?_)
 refine aa_ fd_ h38 rfl rfl (by simp) ?_
 simp -dsimp
 refine sG ?_
 refine WP.ret (ab_ ?_)
 simp -dsimp[Bool.and_assoc]
theorem yP_ (seed:By) (m u:Int):(o6_ seed m u).1.length=32:=by
 unfold o6_
 split
 ·exact aO_ _
 ·rfl
theorem rn_ (r:Rm) (hs:r.seed.length≤1000):Fn0 Tryz.prog 47 [rmD r] (.v (.bool (keyV r.seed r.many r.used))):=by
 have h29:=gl_ r.seed hs r.many r.used
 obtain⟨d,e,hde,h32⟩:∃ (d:Dg) (e:Int),o6_ r.seed r.many r.used=(d,e)∧d.length=32:=⟨_,_,rfl,yP_ _ _ _⟩
 have hke:decide (e=0)=keyV r.seed r.many r.used:=by
  have h2:(o6_ r.seed r.many r.used).2=e:=by rw[hde]
  rw[← h2,o6_]
  cases keyV r.seed r.many r.used<;>rfl
 rw[hde,dD] at h29
 have ld:=ah_ d
 have h1:∀ c∈bys d,oneD c=true:=fun c hc=>by
  obtain⟨x,_,rfl⟩:=List.mem_map.1 hc
  rfl
 refine ad_ (pn:=an_) ac_ Tryz.func47 rfl fun β0=>?_
 simp only[Tryz.f47]
 repeat(first|apply wG|(apply wR;simp -dsimp[rmD,rmC])|refine aI ?_)
 refine aa_ cI_ h29 rfl rfl (by simp[keyD,slB]) ?_
 simp -dsimp
 repeat(first|apply wG|(apply wR;simp -dsimp[ld,h32,setL_whole])|refine aI ?_)
 refine WP.ret (ab_ ?_)
 simp -dsimp[hke]
theorem s5_ (r:Rm) (hd:dkOk r.dk):Fn0 Tryz.prog 48 [rmD r] (.v (.bool (dkB r.dk&&(!r.dk.st&&decide (r.dk.p.length=0))))):=by
 have h82:=eC_ r.dk hd
 refine ad_ (pn:=an_) ac_ Tryz.func48 rfl fun β0=>?_
 simp only[Tryz.f48]
 repeat(first|apply wG|(apply wR;simp -dsimp[rmD,rmC])|refine aI ?_)
 refine aa_ dC_ h82 rfl rfl (by simp[dkD,dkC]) ?_
 simp -dsimp
 refine sG ?_
 refine WP.ret (ab_ ?_)
 simp -dsimp[qV_,Bool.and_assoc]
theorem pd_ (r:Rm) (h:rmOk r) (hb:dkB r.dk=true) (hst:r.dk.st=false) (hp:r.dk.p.length=0):Fn0 Tryz.prog 49 [rmD r] (.v (.bool (decide ((r.dk.s.length:Int)=r.lm∧((recs r.dk.s).length:Int)=r.ls∧recs r.dk.s=r.lr)))):=by
 have h40:=hV_ r.dk h.dk
 rw[k2_,if_pos hb,if_neg (by rw[hst];decide),if_neg (by omega),logD,lgC] at h40
 have h87:=m3_ (recs r.dk.s) r.lr (by have:=c7_ (a1_.1 hb).2.2;have:=(a1_.1 hb).1.2.1;omega) h.lr
 refine ad_ (pn:=an_) ac_ Tryz.func49 rfl fun β0=>?_
 simp only[Tryz.f49]
 repeat(first|apply wG|(apply wR;simp -dsimp[rmD,rmC])|refine aI ?_)
 refine aa_ cH_ h40 rfl rfl (by simp[dkD,dkC]) ?_
 simp -dsimp
 refine sG ?_
 refine ae_ jd_ (fun _=>h87) rfl (fun _=>rfl) (fun _=>by simp) ?_
 simp -dsimp
 refine sG ?_
 refine WP.ret (ab_ ?_)
 simp -dsimp[Bool.decide_and,Bool.and_assoc]
theorem qx_ {crew m:Int} {seed:By} {i:Nat} {l:List By} (h:onB crew m i l=true) (hm:m≤4096) (hl:∀ b∈l,b.length≤1000000000000):∀ p∈onL seed m l,dN_ p∧sgT p:=by
 intro p hp
 obtain⟨h1,h2⟩:=wd_ h hm hl p hp
 refine⟨⟨h1,?_,?_⟩,h2⟩
 ·obtain⟨b,_,rfl⟩:=List.mem_map.1 hp
  rfl
 ·obtain⟨b,_,rfl⟩:=List.mem_map.1 hp
  exact fun d hd=>dm_ hd
theorem lw_ (r:Rm) (h:rmOk r) (hk:keyV r.seed r.many r.used=true) (hR:r.lr.length≤1000000) (hb:∀ b∈r.lr,b.length≤1000000):Fn0 Tryz.prog 50 [rmD r] (.v (.bool (onB r.crew r.many 0 r.lr&&ih_ (onL r.seed r.many r.lr) r.fs))):=by
 have h65:=ig_ r.crew r.seed r.many r.used r.lm r.lr r.ls hk hR hb
 refine ad_ (pn:=an_) ac_ Tryz.func50 rfl fun β0=>?_
 simp only[Tryz.f50]
 repeat(first|apply wG|(apply wR;simp -dsimp[rmD,rmC])|refine aI ?_)
 refine aa_ jk_ h65 rfl rfl (by simp[keyD,slB,logD,lgC]) ?_
 unfold Du_
 cases hon:onB r.crew r.many 0 r.lr with
 | true =>
  rw[if_pos rfl,Bool.true_and]
  have hm:=(a0_.1 hk).2.2.2.1
  have heq:=wD_ (onL r.seed r.many r.lr) r.fs (by rw[cm_];omega) h.fl (fun p hp=>qx_ hon hm (fun b hh=>by have:=hb b hh;omega) p hp) h.fo
  simp -dsimp
  refine sG ?_
  refine ae_ pz_ (fun _=>heq) rfl (fun _=>rfl) (fun _=>by simp) ?_
  simp -dsimp
  refine sG ?_
  refine WP.ret (ab_ ?_)
  simp -dsimp
 | false =>
  rw[if_neg (by decide),Bool.false_and]
  simp -dsimp
  refine sG ?_
  refine vcStopG.skip (.d (.v (.bool false))) ?_
  simp -dsimp
  refine sG ?_
  refine WP.ret (ab_ ?_)
  simp -dsimp
def c5 (r:Rm):Nat→Bool
 | 0=>decide (0≤r.crew∧r.crew<32∧r.used=r.fs.length∧0≤r.sent∧r.sent≤r.fs.length)
 | 1=>keyV r.seed r.many r.used
 | 2=>dkB r.dk&&(!r.dk.st&&decide (r.dk.p.length=0))
 | 3=>decide ((r.dk.s.length:Int)=r.lm∧((recs r.dk.s).length:Int)=r.ls∧recs r.dk.s=r.lr)
 | _=>onB r.crew r.many 0 r.lr&&ih_ (onL r.seed r.many r.lr) r.fs
theorem km_ (r:Rm):rmB r=(c5 r 0&&(c5 r 1&&(c5 r 2&&(c5 r 3&&c5 r 4)))):=rfl
abbrev rA (r:Rm):AV:=.agg ((rmC r).map .d)
abbrev ckS (r:Rm) (i:Nat):St:=mkS 26 [(2,.d (.v (.int .i64 0))),(18,.agg [.fn (.func 46) [rA r] [],.fn (.func 47) [rA r] [],.fn (.func 48) [rA r] [],.fn (.func 49) [rA r] [],.fn (.func 50) [rA r] []]),(19,.d (.v (.int .i64 i)))] []
def ckR (r:Rm):Int:=if rmB r=true then 0 else 440
set_option maxRecDepth 10000 in
set_option maxHeartbeats 2000000 in
theorem cq_ (r:Rm) (h:rmOk r):Fn0 Tryz.prog 15 [rmD r] (.v (.int .i64 (ckR r))):=by
 have hs1:=rn_ r h.sd
 have hs0:=mI_ r
 have hs2:=s5_ r h.dk
 refine ad_ (pn:=an_) ac_ Tryz.func15 rfl fun β0=>?_
 simp only[Tryz.f15]
 repeat(first|apply wG|(apply wR;simp -dsimp[rmD,rmC])|refine aI ?_)
 refine ai_ (fun q S=>∃ i:Nat,q=5-i∧i≤5∧(∀ j,j<i→c5 r j=true)∧S=ckS r i) 5 (S0:=ckS r 0) (af_ [] (by simp[rmC];exact Leq.refl _) (by simp)) ⟨0,rfl,by omega,fun j hj=>by omega,rfl⟩ ?_
 rintro _ _ ⟨i,rfl,hi,hj,rfl⟩
 simp -dsimp
 refine sG ?_
 rcases (by omega:i=5∨i=0∨i=1∨i=2∨i=3∨i=4) with rfl|rfl|rfl|rfl|rfl|rfl
 ·have hR:ckR r=0:=by rw[ckR,km_,hj 0 (by omega),hj 1 (by omega),hj 2 (by omega),hj 3 (by omega),hj 4 (by omega)];rfl
  refine cF (by simp) ?_
  refine WP.exit ?_
  simp -dsimp
  refine sG ?_
  refine WP.ret (ab_ ?_)
  simp -dsimp[hR]
 ·refine cT (by simp) ?_
  refine WP.skip ?_
  simp -dsimp
  repeat(first|apply wG|(apply wR;simp -dsimp[rmC])|refine aI ?_)
  refine aa_ pP_ hs0 rfl rfl (by simp[rmD,rmC]) ?_
  simp -dsimp
  refine sG ?_
  refine WP.cond (b := !c5 r 0) (by simp[c5]) (fun hc=>?_) (fun hc=>?_)
  ·have hc:c5 r 0=false:=by simpa using hc
   have hR:ckR r=440:=by rw[ckR,km_,hc];simp
   refine sG ?_
   refine WP.ret (ab_ ?_)
   simp -dsimp[hR]
  ·have hc:c5 r 0=true:=by simpa using hc
   have w1:IntKind.i64.wrap (1:Int)=(1:Int):=by decide
   refine WP.skip ?_
   simp -dsimp
   refine sG ?_
   refine loopW.next (ckS r 1) (af_ [] (by simp[w1,rmC]) (by simp)) (5-1) (by omega) ⟨1,rfl,by omega,fun j hj1=>?_,rfl⟩
   rcases Nat.lt_or_eq_of_le (Nat.le_of_lt_succ hj1) with h1|rfl
   ·exact hj j h1
   ·exact hc
 ·refine cT (by simp) ?_
  refine WP.skip ?_
  simp -dsimp
  repeat(first|apply wG|(apply wR;simp -dsimp[rmC])|refine aI ?_)
  refine aa_ pO_ hs1 rfl rfl (by simp[rmD,rmC]) ?_
  simp -dsimp
  refine sG ?_
  refine WP.cond (b := !c5 r 1) (by simp[c5]) (fun hc=>?_) (fun hc=>?_)
  ·have hc:c5 r 1=false:=by simpa using hc
   have hR:ckR r=440:=by rw[ckR,km_,hc];simp
   refine sG ?_
   refine WP.ret (ab_ ?_)
   simp -dsimp[hR]
  ·have hc:c5 r 1=true:=by simpa using hc
   have w1:IntKind.i64.wrap 2=2:=by decide
   refine WP.skip ?_
   simp -dsimp
   refine sG ?_
   refine loopW.next (ckS r 2) (af_ [] (by simp[w1,rmC]) (by simp)) (5-2) (by omega) ⟨2,rfl,by omega,fun j hj1=>?_,rfl⟩
   rcases Nat.lt_or_eq_of_le (Nat.le_of_lt_succ hj1) with h1|rfl
   ·exact hj j h1
   ·exact hc
 ·refine cT (by simp) ?_
  refine WP.skip ?_
  simp -dsimp
  repeat(first|apply wG|(apply wR;simp -dsimp[rmC])|refine aI ?_)
  refine aa_ pN_ hs2 rfl rfl (by simp[rmD,rmC]) ?_
  simp -dsimp
  refine sG ?_
  refine WP.cond (b := !c5 r 2) (by simp[c5]) (fun hc=>?_) (fun hc=>?_)
  ·have hc:c5 r 2=false:=by simpa using hc
   have hR:ckR r=440:=by rw[ckR,km_,hc];simp
   refine sG ?_
   refine WP.ret (ab_ ?_)
   simp -dsimp[hR]
  ·have hc:c5 r 2=true:=by simpa using hc
   have w1:IntKind.i64.wrap 3=3:=by decide
   refine WP.skip ?_
   simp -dsimp
   refine sG ?_
   refine loopW.next (ckS r 3) (af_ [] (by simp[w1,rmC]) (by simp)) (5-3) (by omega) ⟨3,rfl,by omega,fun j hj1=>?_,rfl⟩
   rcases Nat.lt_or_eq_of_le (Nat.le_of_lt_succ hj1) with h1|rfl
   ·exact hj j h1
   ·exact hc
 ·refine cT (by simp) ?_
  refine WP.skip ?_
  simp -dsimp
  repeat(first|apply wG|(apply wR;simp -dsimp[rmC])|refine aI ?_)
  have b2:=hj 2 (by omega)
  simp only[c5,Bool.and_eq_true,Bool.not_eq_true',decide_eq_true_eq] at b2
  have hs3:=pd_ r h b2.1 b2.2.1 b2.2.2
  refine aa_ pM_ hs3 rfl rfl (by simp[rmD,rmC]) ?_
  simp -dsimp
  refine sG ?_
  refine WP.cond (b := !c5 r 3) (by simp[c5]) (fun hc=>?_) (fun hc=>?_)
  ·have hc:c5 r 3=false:=by simpa using hc
   have hR:ckR r=440:=by rw[ckR,km_,hc];simp
   refine sG ?_
   refine WP.ret (ab_ ?_)
   simp -dsimp[hR]
  ·have hc:c5 r 3=true:=by simpa using hc
   have w1:IntKind.i64.wrap 4=4:=by decide
   refine WP.skip ?_
   simp -dsimp
   refine sG ?_
   refine loopW.next (ckS r 4) (af_ [] (by simp[w1,rmC]) (by simp)) (5-4) (by omega) ⟨4,rfl,by omega,fun j hj1=>?_,rfl⟩
   rcases Nat.lt_or_eq_of_le (Nat.le_of_lt_succ hj1) with h1|rfl
   ·exact hj j h1
   ·exact hc
 ·refine cT (by simp) ?_
  refine WP.skip ?_
  simp -dsimp
  repeat(first|apply wG|(apply wR;simp -dsimp[rmC])|refine aI ?_)
  have b1:keyV r.seed r.many r.used=true:=hj 1 (by omega)
  have b2:=hj 2 (by omega)
  have b3:=hj 3 (by omega)
  simp only[c5,Bool.and_eq_true,Bool.not_eq_true',decide_eq_true_eq] at b2 b3
  have hdd:=a1_.1 b2.1
  have hrl:=c7_ hdd.2.2
  have hsm:=b2_ hdd.2.2 hdd.1.2.1
  rw[b3.2.2] at hrl hsm
  have hs4:=lw_ r h b1 (by have:=hdd.1.2.1;omega) (fun b hb=>by have:=hsm b hb;omega)
  refine aa_ pL_ hs4 rfl rfl (by simp[rmD,rmC]) ?_
  simp -dsimp
  refine sG ?_
  refine WP.cond (b := !c5 r 4) (by simp[c5]) (fun hc=>?_) (fun hc=>?_)
  ·have hc:c5 r 4=false:=by simpa using hc
   have hR:ckR r=440:=by rw[ckR,km_,hc];simp
   refine sG ?_
   refine WP.ret (ab_ ?_)
   simp -dsimp[hR]
  ·have hc:c5 r 4=true:=by simpa using hc
   have w1:IntKind.i64.wrap 5=5:=by decide
   refine WP.skip ?_
   simp -dsimp
   refine sG ?_
   refine loopW.next (ckS r 5) (af_ [] (by simp[w1,rmC]) (by simp)) (5-5) (by omega) ⟨5,rfl,by omega,fun j hj1=>?_,rfl⟩
   rcases Nat.lt_or_eq_of_le (Nat.le_of_lt_succ hj1) with h1|rfl
   ·exact hj j h1
   ·exact hc
end Go.Proofs.YtfgcgagcpnbgmaaGreatDoor
