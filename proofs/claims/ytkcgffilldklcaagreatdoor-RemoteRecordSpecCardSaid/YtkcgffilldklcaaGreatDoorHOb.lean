/-
  Joined texts.
-/
import Derived.Test.YtkcgffilldklcaaGreatDoorHNl
import Derived.Test.YtkcgffilldklcaaGreatDoorHTr
import Derived.Test.YtkcgffilldklcaaGreatDoorHLb
import Derived.Test.YtkcgffilldklcaaGreatDoorHNg
import Derived.Test.YtkcgffilldklcaaGreatDoorHNc
import Derived.Test.YtkcgffilldklcaaGreatDoorHMa
set_option linter.all false
set_option maxRecDepth 10000
namespace Go.Proofs.YtkcgffilldklcaaGreatDoor
open Go.Xe Go.RowKit
theorem iS_ (c:Int):Fn0 Tryz.prog 34 [.v (.int .i64 c)] (.v (.bool (decide (0≤c)&&decide (c<32)))):=by
 refine ad_ (pn:=an_) ac_ Tryz.func34 rfl fun β0=>?_
 simp only[Tryz.f34]
 refine sG ?_
 refine WP.ret (ab_ ?_)
 simp -dsimp
abbrev nbX (M:Int) (R:List By) (Y:Int):Box:=.cells 30 ((lgC M R Y).map .d)
abbrev nbS (lp:Nat) (M:Int) (R:List By) (Y:Int) (i:Nat) (B:Value→World→(Nat→Prop)→Prop):St:=mkS 20 [(0,.d (.v (.func (.yield lp) #[] #[]))),(1,.ptr 1000 0),(6,.d (slLB R)),(7,.d (.v (.int .i64 R.length))),(8,.d (.v (.int .i64 i)))] [(1000,nbX M R Y),(500,.opq B)]
set_option maxHeartbeats 1000000 in
theorem iE_ (M:Int) (R:List By) (Y:Int) (hR:R.length≤1000000) (goes:Nat→Bool) (m:Nat) (hm:m≤R.length) (hg:∀ i,i+1<m→goes i=true) (he:m=R.length∨0<m∧goes (m-1)=false) :
  ra_ Tryz.prog 145 [.ptr 1000 0] [(1000,nbX M R Y)] (fun i=>[.v (.int .i64 ((i+1:Nat):Int)),slB (R.getD i [])]) goes m:=by
 intro lp B hB
 simp only[List.cons_append,List.nil_append]
 have lR:=aI_ R
 refine ad_ (pn:=an_) ac_ Tryz.func145 rfl fun β0=>?_
 simp only[Tryz.f145]
 repeat(first|apply wG|(apply wR;simp -dsimp[lgC])|refine aI ?_)
 refine ai_ (fun q S=>∃ i:Nat,q=R.length-i∧i≤m∧(i=m→m=R.length)∧S=nbS lp M R Y i (B i)) R.length (S0:=nbS lp M R Y 0 (B 0)) (Wk.go [] 1999 500 (by decide) (by simp) (by simp) (by simp[lgC])) ⟨0,by omega,by omega,fun h=>by rcases he with he|he<;>omega,rfl⟩ ?_
 rintro _ _ ⟨i,rfl,hi,hi2,rfl⟩
 refine sH ?_
 by_cases hx:i=R.length
 ·subst hx
  have hmm:m=R.length:=by omega
  subst hmm
  refine cE ?_
  refine WP.exit ?_
  simp -dsimp
  refine lr_ (S':=mkS 20 [] [(1000,nbX M R Y),(0,.opq (B R.length))]) (Wk.go [] 500 0 (by decide) (by simp) (by simp) (by simp)) ?_
  simp -dsimp
 ·have hlt:i<m:=by
   rcases Nat.lt_or_ge i m with h|h
   ·exact h
   ·have:=hi2 (by omega);omega
  have hlR:i<R.length:=by omega
  have e1:IntKind.i64.wrap ((i:Int)+1)=(i:Int)+1:=IntWalk.i64_in _ (by omega)
  have hat:=iM_ (R.take i) R[i] (R.drop (i+1))
  rw[← List.drop_eq_getElem_cons hlR,List.take_append_drop,List.length_take,Nat.min_eq_left (by omega)] at hat
  have hyy:=hB i hlt
  have hgd:R.getD i []=R[i]:=by rw[List.getD_eq_getElem?_getD,List.getElem?_eq_getElem hlR];rfl
  simp only[hgd] at hyy
  generalize R[i]=x at *
  refine cT (by simp;omega) ?_
  refine WP.skip ?_
  simp -dsimp
  repeat(first|apply wG|(apply wR;simp -dsimp[hat,lR,hlR,e1])|refine aI ?_)
  refine vcStop.yield hyy 500 501 rfl rfl (by simp[e1]) rfl (by decide) (by simp) ?_
  refine sH ?_
  refine WP.cond (b := !goes i) (by simp) (fun hgo=>?_) (fun hgo=>?_)
  ·have hgo:goes i=false:=by simpa using hgo
   have hme:i+1=m:=by
    rcases Nat.lt_or_ge (i+1) m with h|h
    ·rw[hg _ h] at hgo;cases hgo
    ·omega
   refine WP.ret (aj_ (S':=mkS 20 [] [(1000,nbX M R Y),(0,.opq (B m))]) (Wk.go [] 501 0 (by decide) (by simp) (by simp) (by simp[hme])) ?_)
   simp -dsimp
  ·have hgo:goes i=true:=by simpa using hgo
   refine WP.skip ?_
   refine sH ?_
   refine loopW.next (nbS lp M R Y (i+1) (B (i+1))) (Wk.go [] 501 500 (by decide) (by simp) (by simp[e1]) (by simp)) (R.length-(i+1)) (by omega) ⟨i+1,rfl,by omega,fun h=>?_,rfl⟩
   rcases he with he|⟨_,he⟩
   ·exact he
   ·rw[← h,Nat.add_sub_cancel,hgo] at he;cases he
theorem o1_ (M:Int) (R:List By) (Y:Int):Fun Tryz.prog 90 [.d (logD M R Y)] [] (.fn (.func 145) [] [.ptr 0 0]) [(0,nbX M R Y)] fun _=>False:=by
 refine ad_ (pn:=an_) ac_ Tryz.func90 rfl fun β0=>?_
 simp only[Tryz.f90]
 repeat(first|apply wG|(apply wR;simp -dsimp[logD,lgC])|refine aI ?_)
 refine WP.ret (aj_ (S':=mkS 4 [(2,.fn (.func 145) [] [.ptr 0 0])] [(0,nbX M R Y)]) (Wk.go [] 1 0 (by decide) (by simp) (by simp) (by simp[lgC])) ?_)
 simp -dsimp
theorem vu_ {l:List (Int×By)} {i:Nat} (h:i<l.length):List.take 2 ((wrC l).drop (i*2))=[.v (.int .i64 l[i].1),slB l[i].2]:=by
 have e:=h6_ (l.take i) l[i] (l.drop (i+1))
 rw[← List.drop_eq_getElem_cons h,List.take_append_drop] at e
 rwa[show (l.take i).length=i by rw[List.length_take];omega] at e
abbrev rkdA (d:Dk) (i:Nat):St:=mkS 71 [(1,.ptr 1 0),(3,.d (.v (.int .i64 d.s.length))),(4,.d (.v (.int .i64 i)))] [(1,.cells 28 ((dkC d).map .d))]
abbrev rkdB (d:Dk) (j:Nat):St:=mkS 71 [(1,.ptr 1 0),(3,.d (.v (.int .i64 d.s.length))),(5,.d (.v (.int .i64 j)))] [(1,.cells 28 ((dkC d).map .d))]
set_option maxRecDepth 10000 in
set_option maxHeartbeats 2000000 in
theorem fF_ (d:Dk) (hd:dkOk d):Fn0 Tryz.prog 64 [dkD d] (.v (.int .i64 (dkE d))):=by
 have la:=aI_ d.s
 have lw:=wrC_len d.p
 have ns:=hd.ns
 have np:=hd.np
 have hbad:dkB d=false→dkE d=380:=fun h=>by rw[dkE,h];rfl
 refine ad_ (pn:=an_) ac_ Tryz.func64 rfl fun β0=>?_
 simp only[Tryz.f64]
 repeat(first|apply wG|(apply wR;simp -dsimp[dkD,dkC])|refine aI ?_)
 by_cases h1:1≤d.s.length∧d.s.length≤4096∧d.p.length≤4096 ∧ -1≤d.left∧d.left≤65536
 ·refine cF (by simp;omega) ?_
  refine WP.skip ?_
  refine sH ?_
  refine ai_ (fun q S=>∃ i:Nat,q=d.s.length-i∧i≤d.s.length∧(∀ b∈d.s.take i,b.length=128)∧S=rkdA d i) d.s.length (S0:=rkdA d 0) (ae_ [] (by simp) (by simp[dkC])) ⟨0,rfl,by omega,fun _ h=>by simp at h,rfl⟩ ?_
  rintro _ _ ⟨i,rfl,hi,hall,rfl⟩
  simp -dsimp[dkC]
  repeat(first|apply wG|(apply wR;simp -dsimp[dkC])|refine aI ?_)
  by_cases hin:i<d.s.length
  ·have e1:IntKind.i64.wrap ((i:Int)+1)=((i+1:Nat):Int):=by rw[IntWalk.i64_in _ (by omega)];omega
   refine cT (by simp;omega) ?_
   refine WP.skip ?_
   simp -dsimp
   repeat(first|apply wG|(apply wR;simp -dsimp[as_,la,hin,dkC,slB])|refine aI ?_)
   by_cases hl:d.s[i].length=128
   ·refine cF (by simp;omega) ?_
    refine WP.skip ?_
    refine sH ?_
    refine loopW.next (rkdA d (i+1)) (ae_ [] (by simp[e1]) (by simp[dkC])) (d.s.length-(i+1)) (by omega) ⟨i+1,rfl,by omega,fun b hb=>?_,rfl⟩
    rw[List.take_add_one,List.getElem?_eq_getElem hin] at hb
    rcases List.mem_append.1 hb with hb|hb
    ·exact hall b hb
    ·simp at hb;rw[hb];exact hl
   ·have hB:dkB d=false:=by
     rw[Bool.eq_false_iff]
     intro h
     exact hl ((aZ_.1 h).2.2 _ (List.getElem_mem hin))
    refine cT (by simp;omega) ?_
    refine sG ?_
    refine WP.ret (ab_ ?_)
    simp -dsimp[hbad hB]
  ·obtain rfl:i=d.s.length:=by omega
   rw[List.take_length] at hall
   refine cE ?_
   refine WP.exit ?_
   refine sH ?_
   refine ai_ (fun q S=>∃ j:Nat,q=d.p.length-j∧j≤d.p.length∧(∀ w∈d.p.take j,0≤w.1∧w.1<d.s.length∧w.2.length=128)∧S=rkdB d j) d.p.length (S0:=rkdB d 0) (ae_ [] (by simp) (by simp[dkC])) ⟨0,rfl,by omega,fun _ h=>by simp at h,rfl⟩ ?_
   rintro _ _ ⟨j,rfl,hj,hall2,rfl⟩
   simp -dsimp[dkC]
   repeat(first|apply wG|(apply wR;simp -dsimp[dkC])|refine aI ?_)
   by_cases hjn:j<d.p.length
   ·have e1:IntKind.i64.wrap ((j:Int)+1)=((j+1:Nat):Int):=by rw[IntWalk.i64_in _ (by omega)];omega
    have hat:=vu_ hjn
    refine cT (by simp;omega) ?_
    refine WP.skip ?_
    simp -dsimp
    repeat(first|apply wG|(apply wR;simp -dsimp[hat,lw,hjn,dkC,slB])|refine aI ?_)
    by_cases hl:0≤d.p[j].1∧d.p[j].1<d.s.length∧d.p[j].2.length=128
    ·refine cF (by simp;omega) ?_
     refine WP.skip ?_
     refine sH ?_
     refine loopW.next (rkdB d (j+1)) (ae_ [6] (by simp[e1]) (by simp[dkC])) (d.p.length-(j+1)) (by omega) ⟨j+1,rfl,by omega,fun b hb=>?_,rfl⟩
     rw[List.take_add_one,List.getElem?_eq_getElem hjn] at hb
     rcases List.mem_append.1 hb with hb|hb
     ·exact hall2 b hb
     ·simp at hb;rw[hb];exact hl
    ·have hB:dkB d=false:=by
      rw[Bool.eq_false_iff]
      intro h
      exact hl ((aZ_.1 h).2.1 _ (List.getElem_mem hjn))
     refine cT (by simp;omega) ?_
     refine sG ?_
     refine WP.ret (ab_ ?_)
     simp -dsimp[hbad hB]
   ·obtain rfl:j=d.p.length:=by omega
    rw[List.take_length] at hall2
    have hB:dkE d=0:=by rw[dkE,aZ_.2 ⟨h1,hall2,hall⟩];rfl
    refine cE ?_
    refine WP.exit ?_
    refine sH ?_
    refine WP.ret (ab_ ?_)
    simp -dsimp[hB]
 ·have hB:dkB d=false:=by
   rw[Bool.eq_false_iff]
   intro h
   exact h1 (aZ_.1 h).1
  refine cT (by simp;omega) ?_
  refine sG ?_
  refine WP.ret (ab_ ?_)
  simp -dsimp[hbad hB]
theorem oM_ (d:Dk):Fn0 Tryz.prog 84 [dkD d] (dkD ⟨d.s,[],-1,false⟩):=by
 refine ad_ (pn:=an_) ac_ Tryz.func84 rfl fun β0=>?_
 simp only[Tryz.f84]
 repeat(first|apply wG|(apply wR;simp -dsimp[dkD,dkC])|refine aI ?_)
 refine WP.ret (ab_ ?_)
 simp -dsimp[dkD,dkC,wrD,wrC]
def DD_ (crew:Int) (seed:By) (m:Int) (R:List By):D:=if onB crew m 0 R=true then .tup [sgD (onL seed m R) false,.v (.bool true)] else .tup [.v (.slice none 0 0),.v (.bool false)]
def dcB (crew:Int) (i:Nat) (b:By):Bool:=decide ((decF b).2=0∧(decF b).1 0=crew∧(decF b).1 1=(i:Int)+1)
theorem Bw_ (crew m:Int) (i:Nat) (b:By):onK crew m i b=(dcB crew i b&&decide ((i:Int)<m)):=by
 rw[Bool.eq_iff_iff,Bool.and_eq_true,onK,dcB,decide_eq_true_eq,decide_eq_true_eq,decide_eq_true_eq];simp only[and_assoc]
abbrev sdB (crew:Int) (seed:By) (m u:Int) (R:List By) (i:Nat):Bxs :=
 [(1103,.cells 3 [.d (.v (.int .i64 crew))]),(1104,.cells 24 [.d (slB seed),.d (.v (.int .i64 m)),.d (.v (.int .i64 u))]),(1106,.cells 31 [.row 505]),(1107,.cells 4 [.d (.v (.bool false))]),(505,.row 78 61 i ((sgC (onL seed m (R.take i))).map .d))]
abbrev sdF (crew:Int) (seed:By) (m u:Int):Bxs :=
 [(1103,.cells 3 [.d (.v (.int .i64 crew))]),(1104,.cells 24 [.d (slB seed),.d (.v (.int .i64 m)),.d (.v (.int .i64 u))]),(1106,.cells 31 [.d (.v (.slice none 0 0))]),(1107,.cells 4 [.d (.v (.bool false))])]
def sdX (crew:Int) (seed:By) (m u:Int) (R:List By):Nat→Bxs
 | 0=>sdF crew seed m u
 | i+1=>sdB crew seed m u R (i+1)
theorem oF_ (crew:Int) (seed:By) (m u:Int) (R:List By) (i:Nat):bX_ (sdB crew seed m u R i):=by
 intro k b h
 simp only[sdB,getB] at h
 (repeat' split at h)<;>cases h<;>rfl
theorem im_ (crew:Int) (seed:By) (m u:Int):bX_ (sdF crew seed m u):=by
 intro k b h
 simp only[sdF,getB] at h
 (repeat' split at h)<;>cases h<;>rfl
theorem il_ (crew:Int) (seed:By) (m u:Int) (R:List By) (i:Nat):bX_ (sdX crew seed m u R i):=by
 cases i with
 | zero=>exact im_ _ _ _ _
 | succ i=>exact oF_ _ _ _ _ _ _
theorem s1_ (crew:Int) (seed:By) (m u:Int) (R:List By) (i:Nat) (x y:D) :
  Wk ⟨setP (mkS 49 [(3,.ptr 1103 0),(4,.ptr 1104 0),(6,.ptr 1106 0),(7,.ptr 1107 0)] []).sl #[15,16].toList [.d x,.d y],sdX crew seed m u R i,[]⟩
   ⟨setP (mkS 49 [(3,.ptr 1103 0),(4,.ptr 1104 0),(6,.ptr 1106 0),(7,.ptr 1107 0)] []).sl #[15,16].toList [.d x,.d y],sdB crew seed m u R i,[]⟩:=by
 cases i with
 | zero=>exact (bo_ 1106 0 505 78 61 (by simp[sdX];exact⟨rfl,rfl⟩) rfl (by simp[sdX])).trans (ae_ [] (by simp) (by simp[sdX];rfl))
 | succ i=>exact ae_ [] (by simp) (by simp[sdX])
theorem lc_ (seed:By) (m:Int) (R:List By) {i:Nat} (h:i<R.length):sgC (onL seed m (R.take (i+1)))=sgC (onL seed m (R.take i))++sgc (sgQ seed m (decF (R.getD i [])).1):=by
 have e:R.take (i+1)=R.take i++[R.getD i []]:=by
  rw[List.take_add_one,List.getElem?_eq_getElem h,List.getD_eq_getElem?_getD,List.getElem?_eq_getElem h];rfl
 rw[e,onL,List.map_append,c6_]
 simp[onL,sgC,sgc]
theorem gf_ (seed:By) (m:Int) (f:Nat→Int):(sgc (sgQ seed m f)).length=61:=by rw[sgc,sgQ,List.length_append,aU_];rfl
theorem de_ (seed:By) (m:Int):∀ l:List By,(sgC (onL seed m l)).length=l.length*61
 | []=>rfl
 | b::l=>by
  have h:=de_ seed m l
  have h2:=gf_ seed m (decF b).1
  rw[sgC,onL] at h
  rw[sgC,onL,List.map_cons,List.flatMap_cons,List.length_append,h,List.length_cons]
  rw[sgc] at h2
  omega
theorem tO_:∀ {crew m:Int} {i:Nat} {l:List By},onB crew m i l=false→∃ p b q,l=p++b::q∧onB crew m i p=true∧onK crew m (i+p.length) b=false
 | _,_,_,[],h=>by simp[onB] at h
 | crew,m,i,b::l,h=>by
  rw[onB] at h
  cases hb:onK crew m i b with
  | false=>exact⟨[],b,l,rfl,rfl,hb⟩
  | true =>
   rw[hb,Bool.true_and] at h
   obtain⟨p,c,q,rfl,hp,hc⟩:=tO_ h
   exact⟨b::p,c,q,rfl,by rw[onB,hb,hp];rfl,by rw[List.length_cons,← Nat.add_assoc,Nat.add_right_comm];exact hc⟩
set_option maxRecDepth 10000 in
set_option maxHeartbeats 4000000 in
theorem ii_ (crew:Int) (seed:By) (m u:Int) (M:Int) (R:List By) (Y:Int) (hk:keyV seed m u=true) (hR:R.length≤1000000) (hb:∀ b∈R,b.length≤1000000) :
  Fn0 Tryz.prog 39 [.v (.int .i64 crew),keyD seed m u,logD M R Y] (DD_ crew seed m R):=by
 obtain⟨k1,k2,k3,k4,k5,k6⟩:=bd_.1 hk
 refine ku_ ac_ Tryz.func39 rfl fun β0=>?_
 simp only[Tryz.f39]
 repeat(first|apply wG|(apply wR;simp -dsimp[logD,lgC,keyD])|refine aI ?_)
 refine vcStop.call pq_ (o1_ M R Y) (rl [(0,600)]) rfl rfl (by simp[logD,lgC,BoxLeq]) (ag_ (by simp[logD,lgC,BoxLeq]) rfl (by first|rfl|(simp[logD,lgC,BoxLeq];done)) (by simp[logD,lgC,BoxLeq]) (by simp[logD,lgC,BoxLeq])) (fun _ h=>h.elim) (fun ⟨_,h⟩=>h.elim) (fun ⟨_,h⟩=>h.elim) (by simp[logD,lgC,BoxLeq]) ?_
 refine sH ?_
 unfold DD_
 cases hon:onB crew m 0 R with
 | true =>
  rw[if_pos rfl]
  refine dE_ hp_ (m:=R.length) (jump:=fun _=>none) (iE_ M R Y hR (fun _=>true) R.length (Nat.le_refl _) (fun _ _=>rfl) (.inl rfl)) (sdX crew seed m u R) (mkS 49 [(3,.ptr 1103 0),(4,.ptr 1104 0),(6,.ptr 1106 0),(7,.ptr 1107 0)] []).sl 990 (rl [(1000,600),(1103,3),(1104,4),(1106,6),(1107,7),(505,510),(990,602)]) rfl rfl rfl (by simp) (by simp) (by simp) (fun i _=>il_ _ _ _ _ _ i)
   (by cases R.length<;>simp[sdX]) (by simp) (by cases R.length<;>simp[sdX]) (by simp) (by decide) (by cases R.length<;>simp[sdX]) (fun _ _=>rfl) (fun _ _=>rfl) ?_ (fun G=>ag_ (by simp[slB,lgC,sdX]) (by cases R.length<;>simp[sdX]) (by cases R.length<;>simp[sdX]) (by cases R.length<;>simp[sdX]) (by cases R.length<;>simp[sdX])) (fun G=>by cases R.length<;>simp[sdX]) ?_
  ·intro i hi lp β1
   have hsn:=lc_ seed m R hi
   have hgd:R.getD i []=R[i]:=by rw[List.getD_eq_getElem?_getD,List.getElem?_eq_getElem hi];rfl
   have hbi:(R.getD i []).length≤1000000:=by rw[hgd];exact hb _ (List.getElem_mem hi)
   have hok:=iC_ hon hi
   rw[Nat.zero_add,← hgd] at hok
   obtain⟨f1,f2,f3,f4,f5⟩:=mH_ hok (by omega)
   rw[onK,decide_eq_true_eq] at hok
   have hdec:=c4_ (R.getD i []) (by omega)
   rw[m9_,fD,hok.1] at hdec
   generalize R.getD i []=b at *
   generalize (decF b).1=f at *
   have hsg:=eG_ seed (by omega) m u f f1
   have hsr:sgnR seed m u f=(sgc (sgQ seed m f),0):=by
    rw[sgnR,if_pos f2,if_pos ⟨hk,by omega⟩];rfl
   rw[hsr] at hsg
   simp only at hsg
   have lW:=de_ seed m (R.take i)
   rw[List.length_take,Nat.min_eq_left (by omega)] at lW
   have hl57:=aU_ f
   have hl61:=gf_ seed m f
   have hso:dP_ (sgQ seed m f):=⟨f1,rfl,fun d hd=>cK_ hd⟩
   refine aq_ (s1_ crew seed m u R i _ _) ?_
   refine sH ?_
   refine aa_ fg_ hdec rfl rfl (by simp) ?_
   simp -dsimp
   repeat(first|apply wG|(apply wR;simp -dsimp[setL_whole,hl57])|refine aI ?_)
   refine cF (by simp[f3,f4]) ?_
   refine WP.skip ?_
   simp -dsimp
   repeat(first|apply wG|(apply wR;simp -dsimp[hl57,slB])|refine aI ?_)
   refine aa_ cI_ hsg rfl rfl (by simp[keyD,fD,slB]) ?_
   simp -dsimp
   repeat(first|apply wG|(apply wR;simp -dsimp[setL_whole,hl61])|refine aI ?_)
   refine And.intro ⟨hl61,fun d hd=>sgc_oneD hso d hd⟩ ?_
   simp -dsimp[setL_whole,hl61]
   refine sG ?_
   refine cE ?_
   refine WP.skip ?_
   simp -dsimp
   have h61:=gT_ hso
   have h1o:=dY_ hso
   repeat(first|apply wG|(apply wR;simp -dsimp[hl61,lW,h61])|refine aI ?_)
   exact⟨mkS 49 [] (sdB crew seed m u R (i+1)),Wk.go [10,12,46] 47 505 (by decide) (by simp) (by simp) (by simp[hsn]),subB_ok (by simp[sdX])⟩
  ·intro G
   rw[iw_,m7_]
   cases hw:R.length with
   | zero =>
    have hw0:R=[]:=List.eq_nil_of_length_eq_zero hw
    subst hw0
    simp -dsimp[sdX]
    refine sG ?_
    refine WP.ret (gC_ ?_ G 602 rfl rfl rfl)
    simp -dsimp[onL,sgC]
   | succ q =>
    simp -dsimp[sdX]
    rw[← hw,List.take_length]
    refine sG ?_
    refine WP.ret (gB_ (Wk.freeze (k:=510) (T:=78) (sz:=61) (n:=R.length) (ds:=sgC (onL seed m R)) (by simp)) ?_ G 602 rfl rfl rfl)
    simp -dsimp[b4_]
 | false =>
  rw[if_neg (by decide)]
  obtain⟨p,bb,q,hpq,hp,hbad⟩:=tO_ hon
  rw[Nat.zero_add] at hbad
  have hpl:p.length<R.length:=by rw[hpq];simp
  have hgb:R.getD p.length []=bb:=by rw[hpq];simp
  have hgood:∀ i,i<p.length→onK crew m i (R.getD i [])=true:=fun i hi=>by
   have:=iC_ hp hi
   rw[Nat.zero_add] at this
   rw[hpq,List.getD_eq_getElem?_getD,List.getElem?_append_left hi,List.getElem?_eq_getElem hi]
   exact this
  refine dE_ hp_ (m:=p.length+1) (jump:=fun i=>if i=p.length then some .ret else none) (iE_ M R Y hR _ (p.length+1) (by omega) (fun i hi=>by simp;omega) (.inr ⟨by omega,by simp⟩)) (fun i=>if i=p.length+1 then sdF crew seed m u else sdX crew seed m u R i) (mkS 49 [(3,.ptr 1103 0),(4,.ptr 1104 0),(6,.ptr 1106 0),(7,.ptr 1107 0)] []).sl 990 (rl [(1000,600),(1103,3),(1104,4),(1106,6),(1107,7),(505,510),(990,602)]) rfl rfl rfl (by simp) (by simp) (by simp)
   (fun i _=>by split;exact im_ _ _ _ _;exact il_ _ _ _ _ _ i) (by simp[sdX]) (by simp) (by simp[sdX]) (by simp) (by decide) (by simp[sdX]) (fun i hi=>if_neg (by omega)) (fun _ _=>rfl) ?_ (fun G=>ag_ (by simp[slB,lgC,sdX]) (by simp[sdX]) (by simp[sdX]) (by simp[sdX]) (by simp[sdX])) (fun G=>by simp[sdX]) ?_
  ·intro i hi0 lp β1
   have hi:i<R.length:=by omega
   rcases Nat.lt_or_eq_of_le (show i≤p.length by omega) with hlt|heq
   ·have c1:¬ i=p.length+1:=by omega
    have c2:¬ i=p.length:=by omega
    have c3:¬ i+1=p.length+1:=by omega
    rw[if_neg c1,if_neg c2,if_neg c3]
    have hsn:=lc_ seed m R hi
    have hgd:R.getD i []=R[i]:=by rw[List.getD_eq_getElem?_getD,List.getElem?_eq_getElem hi];rfl
    have hbi:(R.getD i []).length≤1000000:=by rw[hgd];exact hb _ (List.getElem_mem hi)
    have hok:=hgood i hlt
    obtain⟨f1,f2,f3,f4,f5⟩:=mH_ hok (by omega)
    rw[onK,decide_eq_true_eq] at hok
    have hdec:=c4_ (R.getD i []) (by omega)
    rw[m9_,fD,hok.1] at hdec
    generalize R.getD i []=b at *
    generalize (decF b).1=f at *
    have hsg:=eG_ seed (by omega) m u f f1
    have hsr:sgnR seed m u f=(sgc (sgQ seed m f),0):=by
     rw[sgnR,if_pos f2,if_pos ⟨hk,by omega⟩];rfl
    rw[hsr] at hsg
    simp only at hsg
    have lW:=de_ seed m (R.take i)
    rw[List.length_take,Nat.min_eq_left (by omega)] at lW
    have hl57:=aU_ f
    have hl61:=gf_ seed m f
    have hso:dP_ (sgQ seed m f):=⟨f1,rfl,fun d hd=>cK_ hd⟩
    refine aq_ (s1_ crew seed m u R i _ _) ?_
    refine sH ?_
    refine aa_ fg_ hdec rfl rfl (by simp) ?_
    simp -dsimp
    repeat(first|apply wG|(apply wR;simp -dsimp[setL_whole,hl57])|refine aI ?_)
    refine cF (by simp[f3,f4]) ?_
    refine WP.skip ?_
    simp -dsimp
    repeat(first|apply wG|(apply wR;simp -dsimp[hl57,slB])|refine aI ?_)
    refine aa_ cI_ hsg rfl rfl (by simp[keyD,fD,slB]) ?_
    simp -dsimp
    repeat(first|apply wG|(apply wR;simp -dsimp[setL_whole,hl61])|refine aI ?_)
    refine And.intro ⟨hl61,fun d hd=>sgc_oneD hso d hd⟩ ?_
    simp -dsimp[setL_whole,hl61]
    refine sG ?_
    refine cE ?_
    refine WP.skip ?_
    simp -dsimp
    have h61:=gT_ hso
    have h1o:=dY_ hso
    repeat(first|apply wG|(apply wR;simp -dsimp[hl61,lW,h61])|refine aI ?_)
    exact⟨mkS 49 [] (sdB crew seed m u R (i+1)),Wk.go [10,12,46] 47 505 (by decide) (by simp) (by simp) (by simp[hsn]),subB_ok (by simp[sdX])⟩
   ·have c1:¬ i=p.length+1:=by omega
    rw[if_neg c1,if_pos heq,if_pos (show i+1=p.length+1 by omega)]
    have hgd:R.getD i []=R[i]:=by rw[List.getD_eq_getElem?_getD,List.getElem?_eq_getElem hi];rfl
    have hbi:(R.getD i []).length≤1000000:=by rw[hgd];exact hb _ (List.getElem_mem hi)
    have hno:onK crew m i (R.getD i [])=false:=by rw[heq,hgb];exact hbad
    have hdec:=c4_ (R.getD i []) (by omega)
    have f1:=lB_ (bs:=R.getD i []) (by omega)
    rw[Bw_] at hno
    rw[m9_,fD] at hdec
    unfold dcB at hno
    generalize R.getD i []=b at *
    generalize (decF b).1=f at *
    generalize (decF b).2=e at *
    have hsg:=eG_ seed (by omega) m u f f1
    have hl57:=aU_ f
    refine aq_ (s1_ crew seed m u R i _ _) ?_
    refine sH ?_
    refine aa_ fg_ hdec rfl rfl (by simp) ?_
    simp -dsimp
    repeat(first|apply wG|(apply wR;simp -dsimp[setL_whole,hl57])|refine aI ?_)
    by_cases hdc:e=0∧f 0=crew∧f 1=(i:Int)+1
    ·rw[decide_eq_true hdc,Bool.true_and,decide_eq_false_iff_not] at hno
     obtain⟨rfl,f3,f4⟩:=hdc
     have hsr:(sgnR seed m u f).1=fcs f0 0 57++zsC∧(sgnR seed m u f).2≠0:=by
      unfold sgnR
      split
      ·rw[if_neg (by rintro⟨_,h⟩;omega)];exact⟨rfl,by decide⟩
      ·exact⟨rfl,by decide⟩
     obtain⟨hs1,hs2⟩:=hsr
     rw[hs1] at hsg
     have hzo:dP_ (f0,zsC):=⟨r8_,rfl,by decide⟩
     have hz1:=sgc_oneD hzo
     have hz61:=bp_ hzo
     simp only[sgc] at hz1 hz61
     generalize fcs f0 0 57++zsC=Z at *
     generalize (sgnR seed m u f).2=z at *
     refine cF (by simp[f3,f4]) ?_
     refine WP.skip ?_
     simp -dsimp
     repeat(first|apply wG|(apply wR;simp -dsimp[hl57,slB])|refine aI ?_)
     refine aa_ cI_ hsg rfl rfl (by simp[keyD,fD,slB]) ?_
     simp -dsimp
     repeat(first|apply wG|(apply wR;simp -dsimp[setL_whole])|refine aI ?_)
     refine cT (by simp[hs2]) ?_
     refine sG ?_
     refine WP.ret ?_
     simp -dsimp
     exact⟨rfl,mkS 49 [] (sdF crew seed m u),ae_ [10,12,505] (by simp) (by simp),subB_ok (by simp)⟩
    ·refine cT (by simp;omega) ?_
     refine sG ?_
     refine WP.ret ?_
     simp -dsimp
     exact⟨rfl,mkS 49 [] (sdF crew seed m u),ae_ [10,505] (by simp) (by simp),subB_ok (by simp)⟩
  ·intro G
   rw[show pendOf (fun i=>if i=p.length then some Code.ret else none) (p.length+1)=some Code.ret from if_pos rfl,uy_,if_pos rfl]
   simp -dsimp[sdX]
   refine WP.ret (gC_ ?_ G 602 rfl rfl rfl)
   simp -dsimp
end Go.Proofs.YtkcgffilldklcaaGreatDoor
