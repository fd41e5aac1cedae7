/-
  Joined texts.
-/
import Derived.Test.YtfgcgagcpnbgmaaGreatDoorWNl
import Derived.Test.YtfgcgagcpnbgmaaGreatDoorWXa
import Derived.Test.YtfgcgagcpnbgmaaGreatDoorWMa
import Derived.Test.YtfgcgagcpnbgmaaGreatDoorWEngFz
set_option maxRecDepth 10000
set_option linter.unusedVariables false
set_option linter.unusedSimpArgs false
set_option linter.unusedSectionVars false
namespace Go.Proofs.YtfgcgagcpnbgmaaGreatDoor
open Go.Xe Go.RowKit
theorem h4_ (c:Int):Fn0 Tryz.prog 38 [.v (.int .i64 c)] (.v (.bool (decide (0≤c)&&decide (c<32)))):=by
 refine ad_ (pn:=ap_) aa_ Tryz.func38 rfl fun β0=>?_
 simp only[Tryz.f38]
 repeat(first|apply wG|(apply wR;simp -dsimp)|refine aI ?_)
 refine WP.ret (ac_ ?_)
 simp -dsimp
abbrev nbX (M:Int) (R:List By) (Y:Int):Box:=.cells 30 ((lgC M R Y).map .d)
abbrev nbS (lp:Nat) (M:Int) (R:List By) (Y:Int) (i:Nat) (B:Value→World→(Nat→Prop)→Prop):St:=mkS 20 [(0,.d (.v (.func (.yield lp) #[] #[]))),(1,.ptr 1000 0),(6,.d (slLB R)),(7,.d (.v (.int .i64 R.length))),(8,.d (.v (.int .i64 i)))] [(1000,nbX M R Y),(500,.opq B)]
set_option maxHeartbeats 1000000 in
theorem hU_ (M:Int) (R:List By) (Y:Int) (hR:R.length≤1000000) (goes:Nat→Bool) (m:Nat) (hm:m≤R.length) (hg:∀ i,i+1<m→goes i=true) (he:m=R.length∨0<m∧goes (m-1)=false) :
  mO_ Tryz.prog 184 [.ptr 1000 0] [(1000,nbX M R Y)] (fun i=>[.v (.int .i64 ((i+1:Nat):Int)),slB (R.getD i [])]) goes m:=by
 intro lp B hB
 simp only[List.cons_append,List.nil_append]
 have lR:=bo_ R
 refine ad_ (pn:=ap_) aa_ Tryz.func184 rfl fun β0=>?_
 simp only[Tryz.f184]
 repeat(first|apply wG|(apply wR;simp -dsimp[lgC])|refine aI ?_)
 refine ai_ (fun q S=>∃ i:Nat,q=R.length-i∧i≤m∧(i=m→m=R.length)∧S=nbS lp M R Y i (B i)) R.length (S0:=nbS lp M R Y 0 (B 0)) (Wk.go [] 1999 500 (by decide) (by simp) (by simp) (by simp[lgC])) ⟨0,by omega,by omega,fun h=>by rcases he with he|he<;>omega,rfl⟩ ?_
 rintro _ _ ⟨i,rfl,hi,hi2,rfl⟩
 simp -dsimp
 repeat(first|apply wG|(apply wR;simp -dsimp)|refine aI ?_)
 by_cases hx:i=R.length
 ·subst hx
  have hmm:m=R.length:=by omega
  subst hmm
  refine cF (by simp) ?_
  refine WP.exit ?_
  simp -dsimp
  refine e4_ (S':=mkS 20 [] [(1000,nbX M R Y),(0,.opq (B R.length))]) (Wk.go [] 500 0 (by decide) (by simp) (by simp) (by simp)) ?_
  simp -dsimp
 ·have hlt:i<m:=by
   rcases Nat.lt_or_ge i m with h|h
   ·exact h
   ·have:=hi2 (by omega);omega
  have hlR:i<R.length:=by omega
  have e1:IntKind.i64.wrap ((i:Int)+1)=(i:Int)+1:=IntWalk.i64_in _ (by omega)
  have hat:=jh_ (R.take i) R[i] (R.drop (i+1))
  rw[← List.drop_eq_getElem_cons hlR,List.take_append_drop,List.length_take,Nat.min_eq_left (by omega)] at hat
  have hyy:=hB i hlt
  have hgd:R.getD i []=R[i]:=by rw[List.getD_eq_getElem?_getD,List.getElem?_eq_getElem hlR];rfl
  simp only[hgd] at hyy
  generalize R[i]=x at *
  refine cT (by simp;omega) ?_
  refine WP.skip ?_
  simp -dsimp
  repeat(first|apply wG|(apply wR;simp -dsimp[hat,lR,hlR,e1])|refine aI ?_)
  refine vcStop.yield hyy 500 501 rfl rfl (by simp[e1]) rfl (by decide) (by simp) ?_
  simp -dsimp
  repeat(first|apply wG|(apply wR;simp -dsimp)|refine aI ?_)
  refine WP.cond (b := !goes i) (by simp) (fun hgo=>?_) (fun hgo=>?_)
  ·have hgo:goes i=false:=by simpa using hgo
   have hme:i+1=m:=by
    rcases Nat.lt_or_ge (i+1) m with h|h
    ·rw[hg _ h] at hgo;cases hgo
    ·omega
   refine WP.ret (ak_ (S':=mkS 20 [] [(1000,nbX M R Y),(0,.opq (B m))]) (Wk.go [] 501 0 (by decide) (by simp) (by simp) (by simp[hme])) ?_)
   simp -dsimp
  ·have hgo:goes i=true:=by simpa using hgo
   refine WP.skip ?_
   simp -dsimp
   repeat(first|apply wG|(apply wR;simp -dsimp)|refine aI ?_)
   refine loopW.next (nbS lp M R Y (i+1) (B (i+1))) (Wk.go [] 501 500 (by decide) (by simp) (by simp[e1]) (by simp)) (R.length-(i+1)) (by omega) ⟨i+1,rfl,by omega,fun h=>?_,rfl⟩
   rcases he with he|⟨_,he⟩
   ·exact he
   ·rw[← h,Nat.add_sub_cancel,hgo] at he;cases he
theorem nB_ (M:Int) (R:List By) (Y:Int):Fun Tryz.prog 117 [.d (logD M R Y)] [] (.fn (.func 184) [] [.ptr 0 0]) [(0,nbX M R Y)] fun _=>False:=by
 refine ad_ (pn:=ap_) aa_ Tryz.func117 rfl fun β0=>?_
 simp only[Tryz.f117]
 repeat(first|apply wG|(apply wR;simp -dsimp[logD,lgC])|refine aI ?_)
 refine WP.ret (ak_ (S':=mkS 4 [(2,.fn (.func 184) [] [.ptr 0 0])] [(0,nbX M R Y)]) (Wk.go [] 1 0 (by decide) (by simp) (by simp) (by simp[lgC])) ?_)
 simp -dsimp
end Go.Proofs.YtfgcgagcpnbgmaaGreatDoor
set_option linter.unusedVariables false
set_option linter.unusedSimpArgs false
set_option linter.unusedSectionVars false
namespace Go.Proofs.YtfgcgagcpnbgmaaGreatDoor
open Go.Xe Go.RowKit
def BK_ (crew:Int) (seed:By) (m:Int) (R:List By):D:=if onB crew m 0 R=true then .tup [sgD (onL seed m R) false,.v (.bool true)] else .tup [.v (.slice none 0 0),.v (.bool false)]
def dcB (crew:Int) (i:Nat) (b:By):Bool:=decide ((decF b).2=0∧(decF b).1 0=crew∧(decF b).1 1=(i:Int)+1)
theorem zw_ (crew m:Int) (i:Nat) (b:By):onK crew m i b=(dcB crew i b&&decide ((i:Int)<m)):=by
 rw[Bool.eq_iff_iff,Bool.and_eq_true,onK,dcB,decide_eq_true_eq,decide_eq_true_eq,decide_eq_true_eq];simp only[and_assoc]
abbrev sdB (crew:Int) (seed:By) (m u:Int) (R:List By) (i:Nat):Bxs :=
 [(1103,.cells 3 [.d (.v (.int .i64 crew))]),(1104,.cells 24 [.d (slB seed),.d (.v (.int .i64 m)),.d (.v (.int .i64 u))]),(1106,.cells 31 [.row 505]),(1107,.cells 4 [.d (.v (.bool false))]),(505,.row 82 61 i ((sgC (onL seed m (R.take i))).map .d))]
abbrev sdF (crew:Int) (seed:By) (m u:Int):Bxs :=
 [(1103,.cells 3 [.d (.v (.int .i64 crew))]),(1104,.cells 24 [.d (slB seed),.d (.v (.int .i64 m)),.d (.v (.int .i64 u))]),(1106,.cells 31 [.d (.v (.slice none 0 0))]),(1107,.cells 4 [.d (.v (.bool false))])]
def sdX (crew:Int) (seed:By) (m u:Int) (R:List By):Nat→Bxs
 | 0=>sdF crew seed m u
 | i+1=>sdB crew seed m u R (i+1)
theorem nh_ (crew:Int) (seed:By) (m u:Int) (R:List By) (i:Nat):bw_ (sdB crew seed m u R i):=by
 intro k b h
 simp only[sdB,getB] at h
 (repeat' split at h)<;>cases h<;>rfl
theorem hH_ (crew:Int) (seed:By) (m u:Int):bw_ (sdF crew seed m u):=by
 intro k b h
 simp only[sdF,getB] at h
 (repeat' split at h)<;>cases h<;>rfl
theorem hG_ (crew:Int) (seed:By) (m u:Int) (R:List By) (i:Nat):bw_ (sdX crew seed m u R i):=by
 cases i with
 | zero=>exact hH_ _ _ _ _
 | succ i=>exact nh_ _ _ _ _ _ _
theorem rO_ (crew:Int) (seed:By) (m u:Int) (R:List By) (i:Nat) (x y:D) :
  Wk ⟨setP (mkS 49 [(3,.ptr 1103 0),(4,.ptr 1104 0),(6,.ptr 1106 0),(7,.ptr 1107 0)] []).sl #[15,16].toList [.d x,.d y],sdX crew seed m u R i,[]⟩
   ⟨setP (mkS 49 [(3,.ptr 1103 0),(4,.ptr 1104 0),(6,.ptr 1106 0),(7,.ptr 1107 0)] []).sl #[15,16].toList [.d x,.d y],sdB crew seed m u R i,[]⟩:=by
 cases i with
 | zero=>exact (cc_ 1106 0 505 82 61 (by simp[sdX];exact⟨rfl,rfl⟩) rfl (by simp[sdX])).trans (ae_ [] (by simp) (by simp[sdX];rfl))
 | succ i=>exact ae_ [] (by simp) (by simp[sdX])
theorem o8_ (seed:By) (m:Int) (R:List By) {i:Nat} (h:i<R.length):sgC (onL seed m (R.take (i+1)))=sgC (onL seed m (R.take i))++sgc (sgQ seed m (decF (R.getD i [])).1):=by
 have e:R.take (i+1)=R.take i++[R.getD i []]:=by
  rw[List.take_add_one,List.getElem?_eq_getElem h,List.getD_eq_getElem?_getD,List.getElem?_eq_getElem h];rfl
 rw[e,onL,List.map_append,sgC_append]
 simp[onL,sgC,sgc]
theorem jM_ (seed:By) (m:Int) (f:Nat→Int):(sgc (sgQ seed m f)).length=61:=by rw[sgc,sgQ,List.length_append,ar_];rfl
theorem eW_ (seed:By) (m:Int):∀ l:List By,(sgC (onL seed m l)).length=l.length*61
 | []=>rfl
 | b::l=>by
  have h:=eW_ seed m l
  have h2:=jM_ seed m (decF b).1
  rw[sgC,onL] at h
  rw[sgC,onL,List.map_cons,List.flatMap_cons,List.length_append,h,List.length_cons]
  rw[sgc] at h2
  omega
theorem sk_:∀ {crew m:Int} {i:Nat} {l:List By},onB crew m i l=false→∃ p b q,l=p++b::q∧onB crew m i p=true∧onK crew m (i+p.length) b=false
 | _,_,_,[],h=>by simp[onB] at h
 | crew,m,i,b::l,h=>by
  rw[onB] at h
  cases hb:onK crew m i b with
  | false=>exact⟨[],b,l,rfl,rfl,hb⟩
  | true =>
   rw[hb,Bool.true_and] at h
   obtain⟨p,c,q,rfl,hp,hc⟩:=sk_ h
   exact⟨b::p,c,q,rfl,by rw[onB,hb,hp];rfl,by rw[List.length_cons,← Nat.add_assoc,Nat.add_right_comm];exact hc⟩
set_option maxRecDepth 10000 in
set_option maxHeartbeats 4000000 in
theorem hB_ (crew:Int) (seed:By) (m u:Int) (M:Int) (R:List By) (Y:Int) (hk:keyV seed m u=true) (hR:R.length≤1000000) (hb:∀ b∈R,b.length≤1000000) :
  Fn0 Tryz.prog 65 [.v (.int .i64 crew),keyD seed m u,logD M R Y] (BK_ crew seed m R):=by
 obtain⟨k1,k2,k3,k4,k5,k6⟩:=a8_.1 hk
 refine fR_ aa_ Tryz.func65 rfl fun β0=>?_
 simp only[Tryz.f65]
 repeat(first|apply wG|(apply wR;simp -dsimp[logD,lgC,keyD])|refine aI ?_)
 refine vcStop.call mE_ (nB_ M R Y) (rl [(0,600)]) rfl rfl (by simp[logD,lgC,BoxLeq]) (af_ (by simp[logD,lgC,BoxLeq]) rfl (by first|rfl|(simp[logD,lgC,BoxLeq];done)) (by simp[logD,lgC,BoxLeq]) (by simp[logD,lgC,BoxLeq])) (fun _ h=>h.elim) (fun ⟨_,h⟩=>h.elim) (fun ⟨_,h⟩=>h.elim) (by simp[logD,lgC,BoxLeq]) ?_
 simp -dsimp
 repeat(first|apply wG|(apply wR;simp -dsimp)|refine aI ?_)
 unfold BK_
 cases hon:onB crew m 0 R with
 | true =>
  rw[if_pos rfl]
  refine b8_ gf_ (m:=R.length) (jump:=fun _=>none) (hU_ M R Y hR (fun _=>true) R.length (Nat.le_refl _) (fun _ _=>rfl) (.inl rfl)) (sdX crew seed m u R) (mkS 49 [(3,.ptr 1103 0),(4,.ptr 1104 0),(6,.ptr 1106 0),(7,.ptr 1107 0)] []).sl 990 (rl [(1000,600),(1103,3),(1104,4),(1106,6),(1107,7),(505,510),(990,602)]) rfl rfl rfl (by simp) (by simp) (by simp) (fun i _=>hG_ _ _ _ _ _ i)
   (by cases R.length<;>simp[sdX]) (by simp) (by cases R.length<;>simp[sdX]) (by simp) (by decide) (by cases R.length<;>simp[sdX]) (fun _ _=>rfl) (fun _ _=>rfl) ?_ (fun G=>af_ (by simp[slB,lgC,sdX]) (by cases R.length<;>simp[sdX]) (by cases R.length<;>simp[sdX]) (by cases R.length<;>simp[sdX]) (by cases R.length<;>simp[sdX])) (fun G=>by cases R.length<;>simp[sdX]) ?_
  ·intro i hi lp β1
   have hsn:=o8_ seed m R hi
   have hgd:R.getD i []=R[i]:=by rw[List.getD_eq_getElem?_getD,List.getElem?_eq_getElem hi];rfl
   have hbi:(R.getD i []).length≤1000000:=by rw[hgd];exact hb _ (List.getElem_mem hi)
   have hok:=ej_ hon hi
   rw[Nat.zero_add,← hgd] at hok
   obtain⟨f1,f2,f3,f4,f5⟩:=dm_ hok (by omega)
   rw[onK,decide_eq_true_eq] at hok
   have hdec:=cD_ (R.getD i []) (by omega)
   rw[tf_,fD,hok.1] at hdec
   generalize R.getD i []=b at *
   generalize (decF b).1=f at *
   have hsg:=dT_ seed (by omega) m u f f1
   have hsr:sgnR seed m u f=(sgc (sgQ seed m f),0):=by
    rw[sgnR,if_pos f2,if_pos ⟨hk,by omega⟩];rfl
   rw[hsr] at hsg
   simp only at hsg
   have lW:=eW_ seed m (R.take i)
   rw[List.length_take,Nat.min_eq_left (by omega)] at lW
   have hl57:=ar_ f
   have hl61:=jM_ seed m f
   have hso:b2_ (sgQ seed m f):=⟨f1,rfl,fun d hd=>cP_ hd⟩
   refine an_ (rO_ crew seed m u R i _ _) ?_
   simp -dsimp
   repeat(first|apply wG|(apply wR;simp -dsimp)|refine aI ?_)
   refine ab_ dE_ hdec rfl rfl (by simp) ?_
   simp -dsimp
   repeat(first|apply wG|(apply wR;simp -dsimp[setL_whole,hl57])|refine aI ?_)
   refine cF (by simp[f3,f4]) ?_
   refine WP.skip ?_
   simp -dsimp
   repeat(first|apply wG|(apply wR;simp -dsimp[hl57,slB])|refine aI ?_)
   refine ab_ co_ hsg rfl rfl (by simp[keyD,fD,slB]) ?_
   simp -dsimp
   repeat(first|apply wG|(apply wR;simp -dsimp[setL_whole,hl61])|refine aI ?_)
   refine And.intro ⟨hl61,fun d hd=>sgc_oneD hso d hd⟩ ?_
   simp -dsimp[setL_whole,hl61]
   repeat(first|apply wG|(apply wR;simp -dsimp)|refine aI ?_)
   refine cF (by simp) ?_
   refine WP.skip ?_
   simp -dsimp
   have h61:=d7_ hso
   have h1o:=fl_ hso
   repeat(first|apply wG|(apply wR;simp -dsimp[hl61,lW,h61])|refine aI ?_)
   exact⟨mkS 49 [] (sdB crew seed m u R (i+1)),Wk.go [10,12,46] 47 505 (by decide) (by simp) (by simp) (by simp[hsn]),subB_ok (by simp[sdX])⟩
  ·intro G
   rw[ei_,ie_]
   cases hw:R.length with
   | zero =>
    have hw0:R=[]:=List.eq_nil_of_length_eq_zero hw
    subst hw0
    simp -dsimp[sdX]
    repeat(first|apply wG|(apply wR;simp -dsimp)|refine aI ?_)
    refine WP.ret (dP_ ?_ G 602 rfl rfl rfl)
    simp -dsimp[onL,sgC]
   | succ q =>
    simp -dsimp[sdX]
    rw[← hw,List.take_length]
    repeat(first|apply wG|(apply wR;simp -dsimp)|refine aI ?_)
    refine WP.ret (dO_ (Wk.freeze (k:=510) (T:=82) (sz:=61) (n:=R.length) (ds:=sgC (onL seed m R)) (by simp)) ?_ G 602 rfl rfl rfl)
    simp -dsimp[bn_]
 | false =>
  rw[if_neg (by decide)]
  obtain⟨p,bb,q,hpq,hp,hbad⟩:=sk_ hon
  rw[Nat.zero_add] at hbad
  have hpl:p.length<R.length:=by rw[hpq];simp
  have hgb:R.getD p.length []=bb:=by rw[hpq];simp
  have hgood:∀ i,i<p.length→onK crew m i (R.getD i [])=true:=fun i hi=>by
   have:=ej_ hp hi
   rw[Nat.zero_add] at this
   rw[hpq,List.getD_eq_getElem?_getD,List.getElem?_append_left hi,List.getElem?_eq_getElem hi]
   exact this
  refine b8_ gf_ (m:=p.length+1) (jump:=fun i=>if i=p.length then some .ret else none) (hU_ M R Y hR _ (p.length+1) (by omega) (fun i hi=>by simp;omega) (.inr ⟨by omega,by simp⟩)) (fun i=>if i=p.length+1 then sdF crew seed m u else sdX crew seed m u R i) (mkS 49 [(3,.ptr 1103 0),(4,.ptr 1104 0),(6,.ptr 1106 0),(7,.ptr 1107 0)] []).sl 990 (rl [(1000,600),(1103,3),(1104,4),(1106,6),(1107,7),(505,510),(990,602)]) rfl rfl rfl (by simp) (by simp) (by simp)
   (fun i _=>by split;exact hH_ _ _ _ _;exact hG_ _ _ _ _ _ i) (by simp[sdX]) (by simp) (by simp[sdX]) (by simp) (by decide) (by simp[sdX]) (fun i hi=>if_neg (by omega)) (fun _ _=>rfl) ?_ (fun G=>af_ (by simp[slB,lgC,sdX]) (by simp[sdX]) (by simp[sdX]) (by simp[sdX]) (by simp[sdX])) (fun G=>by simp[sdX]) ?_
  ·intro i hi0 lp β1
   have hi:i<R.length:=by omega
   rcases Nat.lt_or_eq_of_le (show i≤p.length by omega) with hlt|heq
   ·have c1:¬ i=p.length+1:=by omega
    have c2:¬ i=p.length:=by omega
    have c3:¬ i+1=p.length+1:=by omega
    rw[if_neg c1,if_neg c2,if_neg c3]
    have hsn:=o8_ seed m R hi
    have hgd:R.getD i []=R[i]:=by rw[List.getD_eq_getElem?_getD,List.getElem?_eq_getElem hi];rfl
    have hbi:(R.getD i []).length≤1000000:=by rw[hgd];exact hb _ (List.getElem_mem hi)
    have hok:=hgood i hlt
    obtain⟨f1,f2,f3,f4,f5⟩:=dm_ hok (by omega)
    rw[onK,decide_eq_true_eq] at hok
    have hdec:=cD_ (R.getD i []) (by omega)
    rw[tf_,fD,hok.1] at hdec
    generalize R.getD i []=b at *
    generalize (decF b).1=f at *
    have hsg:=dT_ seed (by omega) m u f f1
    have hsr:sgnR seed m u f=(sgc (sgQ seed m f),0):=by
     rw[sgnR,if_pos f2,if_pos ⟨hk,by omega⟩];rfl
    rw[hsr] at hsg
    simp only at hsg
    have lW:=eW_ seed m (R.take i)
    rw[List.length_take,Nat.min_eq_left (by omega)] at lW
    have hl57:=ar_ f
    have hl61:=jM_ seed m f
    have hso:b2_ (sgQ seed m f):=⟨f1,rfl,fun d hd=>cP_ hd⟩
    refine an_ (rO_ crew seed m u R i _ _) ?_
    simp -dsimp
    repeat(first|apply wG|(apply wR;simp -dsimp)|refine aI ?_)
    refine ab_ dE_ hdec rfl rfl (by simp) ?_
    simp -dsimp
    repeat(first|apply wG|(apply wR;simp -dsimp[setL_whole,hl57])|refine aI ?_)
    refine cF (by simp[f3,f4]) ?_
    refine WP.skip ?_
    simp -dsimp
    repeat(first|apply wG|(apply wR;simp -dsimp[hl57,slB])|refine aI ?_)
    refine ab_ co_ hsg rfl rfl (by simp[keyD,fD,slB]) ?_
    simp -dsimp
    repeat(first|apply wG|(apply wR;simp -dsimp[setL_whole,hl61])|refine aI ?_)
    refine And.intro ⟨hl61,fun d hd=>sgc_oneD hso d hd⟩ ?_
    simp -dsimp[setL_whole,hl61]
    repeat(first|apply wG|(apply wR;simp -dsimp)|refine aI ?_)
    refine cF (by simp) ?_
    refine WP.skip ?_
    simp -dsimp
    have h61:=d7_ hso
    have h1o:=fl_ hso
    repeat(first|apply wG|(apply wR;simp -dsimp[hl61,lW,h61])|refine aI ?_)
    exact⟨mkS 49 [] (sdB crew seed m u R (i+1)),Wk.go [10,12,46] 47 505 (by decide) (by simp) (by simp) (by simp[hsn]),subB_ok (by simp[sdX])⟩
   ·have c1:¬ i=p.length+1:=by omega
    rw[if_neg c1,if_pos heq,if_pos (show i+1=p.length+1 by omega)]
    have hgd:R.getD i []=R[i]:=by rw[List.getD_eq_getElem?_getD,List.getElem?_eq_getElem hi];rfl
    have hbi:(R.getD i []).length≤1000000:=by rw[hgd];exact hb _ (List.getElem_mem hi)
    have hno:onK crew m i (R.getD i [])=false:=by rw[heq,hgb];exact hbad
    have hdec:=cD_ (R.getD i []) (by omega)
    have f1:=kD_ (bs:=R.getD i []) (by omega)
    rw[zw_] at hno
    rw[tf_,fD] at hdec
    unfold dcB at hno
    generalize R.getD i []=b at *
    generalize (decF b).1=f at *
    generalize (decF b).2=e at *
    have hsg:=dT_ seed (by omega) m u f f1
    have hl57:=ar_ f
    refine an_ (rO_ crew seed m u R i _ _) ?_
    simp -dsimp
    repeat(first|apply wG|(apply wR;simp -dsimp)|refine aI ?_)
    refine ab_ dE_ hdec rfl rfl (by simp) ?_
    simp -dsimp
    repeat(first|apply wG|(apply wR;simp -dsimp[setL_whole,hl57])|refine aI ?_)
    by_cases hdc:e=0∧f 0=crew∧f 1=(i:Int)+1
    ·rw[decide_eq_true hdc,Bool.true_and,decide_eq_false_iff_not] at hno
     obtain⟨rfl,f3,f4⟩:=hdc
     have hsr:(sgnR seed m u f).1=fcs f0 0 57++zsC∧(sgnR seed m u f).2≠0:=by
      unfold sgnR
      split
      ·rw[if_neg (by rintro⟨_,h⟩;omega)];exact⟨rfl,by decide⟩
      ·exact⟨rfl,by decide⟩
     obtain⟨hs1,hs2⟩:=hsr
     rw[hs1] at hsg
     have hzo:b2_ (f0,zsC):=⟨xL_,rfl,by decide⟩
     have hz1:=sgc_oneD hzo
     have hz61:=aO_ hzo
     simp only[sgc] at hz1 hz61
     generalize fcs f0 0 57++zsC=Z at *
     generalize (sgnR seed m u f).2=z at *
     refine cF (by simp[f3,f4]) ?_
     refine WP.skip ?_
     simp -dsimp
     repeat(first|apply wG|(apply wR;simp -dsimp[hl57,slB])|refine aI ?_)
     refine ab_ co_ hsg rfl rfl (by simp[keyD,fD,slB]) ?_
     simp -dsimp
     repeat(first|apply wG|(apply wR;simp -dsimp[setL_whole])|refine aI ?_)
     refine cT (by simp[hs2]) ?_
     repeat(first|apply wG|(apply wR;simp -dsimp)|refine aI ?_)
     refine WP.ret ?_
     simp -dsimp
     exact⟨rfl,mkS 49 [] (sdF crew seed m u),ae_ [10,12,505] (by simp) (by simp),subB_ok (by simp)⟩
    ·refine cT (by simp;omega) ?_
     repeat(first|apply wG|(apply wR;simp -dsimp)|refine aI ?_)
     refine WP.ret ?_
     simp -dsimp
     exact⟨rfl,mkS 49 [] (sdF crew seed m u),ae_ [10,505] (by simp) (by simp),subB_ok (by simp)⟩
  ·intro G
   rw[show pendOf (fun i=>if i=p.length then some Code.ret else none) (p.length+1)=some Code.ret from if_pos rfl,s6_,if_pos rfl]
   simp -dsimp[sdX]
   refine WP.ret (dP_ ?_ G 602 rfl rfl rfl)
   simp -dsimp
end Go.Proofs.YtfgcgagcpnbgmaaGreatDoor
set_option linter.unusedVariables false
set_option linter.unusedSimpArgs false
set_option linter.unusedSectionVars false
namespace Go.Proofs.YtfgcgagcpnbgmaaGreatDoor
open Go.Xe Go.RowKit
abbrev edS (a b:List Dg) (i:Nat):St:=mkS 26 [(0,.d (slG a)),(1,.d (slG b)),(12,.d (.v (.int .i64 a.length))),(13,.d (.v (.int .i64 i)))] []
set_option maxRecDepth 10000 in
set_option maxHeartbeats 4000000 in
theorem nM_ (a b:List Dg) (ha:aY_ a) (hb:aY_ b) (hna:a.length≤10000000000000) (hnb:b.length≤10000000000000):Fn0 Tryz.prog 156 [slG a,slG b] (.v (.bool (decide (a=b)))):=by
 refine ad_ (pn:=ap_) aa_ Tryz.func156 rfl fun β0=>?_
 simp only[Tryz.f156]
 repeat(first|apply wG|(apply wR;simp -dsimp[slG])|refine aI ?_)
 by_cases hl:a.length=b.length
 ·refine cF (by simp[hl]) ?_
  refine WP.skip ?_
  simp -dsimp
  repeat(first|apply wG|(apply wR;simp -dsimp)|refine aI ?_)
  refine ai_ (fun q S=>∃ i:Nat,q=a.length-i∧i≤a.length∧(∀ j,j<i→digA a j=digA b j)∧S=edS a b i) a.length (S0:=edS a b 0) (ae_ [] (by simp[slG]) (by simp)) ⟨0,rfl,by omega,fun j h=>by omega,rfl⟩ ?_
  rintro _ _ ⟨i,rfl,hi,hj,rfl⟩
  simp -dsimp[slG]
  repeat(first|apply wG|(apply wR;simp -dsimp)|refine aI ?_)
  by_cases hil:i<a.length
  ·have hib:i<b.length:=by omega
   have aa:=eb_ ha i hil
   have ab:=eb_ hb i hib
   have la:=cl_ ha i hil
   have lb:=cl_ hb i hib
   have ca:=bq_ ha
   have cb:=bq_ hb
   have ta:=hf_ la
   have tb:=hf_ lb
   have e1:IntKind.i64.wrap ((i:Int)+1)=((i+1:Nat):Int):=by rw[IntWalk.i64_in _ (by omega)];omega
   have hstep:digA a i=digA b i→∀ j,j<i+1→digA a j=digA b j:=fun h j hj1=>by
    rcases Nat.lt_or_ge j i with h1|h1
    ·exact hj j h1
    ·rw[show j=i by omega];exact h
   have hbad:digA a i≠digA b i→a≠b:=fun h e=>h (by rw[e])
   generalize digA a i=x at *
   generalize digA b i=y at *
   refine cT (by simp;omega) ?_
   refine WP.skip ?_
   simp -dsimp
   repeat(first|apply wG|(apply wR;simp -dsimp[aa,ab,ta,tb])|refine aI ?_)
   refine i0_ aa_ Dk_ sr_ rfl (.inr rfl) (q:=4) (by omega) (T:=87) kR_ ik_ (by decide) pV_ (cs:=de_ x) (es:=de_ y) (by simp[bB_]) (by simp[bB_]) (by simp[de_,la]) (by simp[de_,lb]) (dL_ x) (dL_ y) (hZ_ x y) ?_
   simp -dsimp[eqRes]
   repeat(first|apply wG|(apply wR;simp -dsimp)|refine aI ?_)
   by_cases hxy:x=y
   ·refine cF (by simp[eqRes,hxy]) ?_
    refine WP.skip ?_
    simp -dsimp
    repeat(first|apply wG|(apply wR;simp -dsimp)|refine aI ?_)
    refine loopW.next (edS a b (i+1)) (ae_ [] (by simp[e1,slG]) (by simp)) (a.length-(i+1)) (by omega) ⟨i+1,rfl,by omega,hstep hxy,rfl⟩
   ·refine cT (by simp[eqRes,hxy]) ?_
    have hr:decide (a=b)=false:=decide_eq_false (hbad hxy)
    repeat(first|apply wG|(apply wR;simp -dsimp)|refine aI ?_)
    refine WP.ret (ac_ ?_)
    simp -dsimp[hr]
  ·refine cF (by simp;omega) ?_
   refine WP.exit ?_
   have hr:decide (a=b)=true:=decide_eq_true (g9_ hl fun j h=>hj j (by omega))
   simp -dsimp
   repeat(first|apply wG|(apply wR;simp -dsimp)|refine aI ?_)
   refine WP.ret (ac_ ?_)
   simp -dsimp[hr]
 ·refine cT (by simp;omega) ?_
  have hr:decide (a=b)=false:=decide_eq_false fun h=>hl (by rw[h])
  repeat(first|apply wG|(apply wR;simp -dsimp)|refine aI ?_)
  refine WP.ret (ac_ ?_)
  simp -dsimp[hr]
end Go.Proofs.YtfgcgagcpnbgmaaGreatDoor
set_option linter.unusedVariables false
set_option linter.unusedSimpArgs false
set_option linter.unusedSectionVars false
namespace Go.Proofs.YtfgcgagcpnbgmaaGreatDoor
open Go.Xe Go.RowKit
set_option maxRecDepth 10000 in
set_option maxHeartbeats 4000000 in
theorem wP_ (p q:Sg) (hp:b2_ p) (hq:b2_ q) (up:sgT p) (uq:sgT q):Fn0 Tryz.prog 90 [sgV p,sgV q] (.v (.bool (rF_ p q))):=by
 have k1:=rQ_ p.1 q.1 hp.1 hq.1
 have l1:=aO_ hp
 have l2:=aO_ hq
 have h57:=fW_ p
 have g57:=fW_ q
 have h4:List.take 4 (List.drop 57 ((sgc p).map AV.d))=p.2.map .d:=by rw[← List.map_drop,← List.map_take,gS_ hp]
 have g4:List.take 4 (List.drop 57 ((sgc q).map AV.d))=q.2.map .d:=by rw[← List.map_drop,← List.map_take,gS_ hq]
 obtain⟨k,o,c,a,e,h⟩:=up
 obtain⟨k',o',c',a',e',h'⟩:=uq
 have k2:=nM_ o o' h.ho h'.ho h.no h'.no
 have k3:=nM_ c c' h.hc h'.hc h.nc h'.nc
 have k4:=nM_ a a' h.hp h'.hp h.np h'.np
 have hr:rF_ p q=(eqF p.1 q.1&&(decide (k=k')&&(decide (o=o')&&(decide (c=c')&&decide (a=a'))))):=by
  rw[rF_,e,e',(bu_ h).1,(bu_ h).2.1,(bu_ h).2.2,(bu_ h').1,(bu_ h').2.1,(bu_ h').2.2];rfl
 rw[hr]
 rw[e] at h4
 rw[e'] at g4
 clear hr h h' e e'
 generalize eqF p.1 q.1=b1 at *
 generalize decide (o=o')=b2 at *
 generalize decide (c=c')=b3 at *
 generalize decide (a=a')=b4 at *
 simp only[sgV]
 refine ad_ (pn:=ap_) aa_ Tryz.func90 rfl fun β0=>?_
 simp only[Tryz.f90]
 repeat(first|apply wG|(apply wR;simp -dsimp)|refine aI ?_)
 refine And.intro (sgc_oneD hp) ?_
 repeat(first|apply wG|(apply wR;simp -dsimp)|refine aI ?_)
 refine And.intro (sgc_oneD hq) ?_
 repeat(first|apply wG|(apply wR;simp -dsimp[h57,h4,g57,g4,cz_,slG])|refine aI ?_)
 refine al_ ix_ k1 rfl rfl (And.intro (by simp[fD]) (And.intro (by simp[fD]) trivial)) ?_
 cases b1 with
 | false =>
  simp -dsimp
  repeat(first|apply wG|(apply wR;simp -dsimp)|refine aI ?_)
  refine vcStopG.skip (.d (.v (.bool false))) ?_
  simp -dsimp
  repeat(first|apply wG|(apply wR;simp -dsimp)|refine aI ?_)
  refine vcStopG.skip (.d (.v (.bool false))) ?_
  simp -dsimp
  repeat(first|apply wG|(apply wR;simp -dsimp)|refine aI ?_)
  refine vcStopG.skip (.d (.v (.bool false))) ?_
  simp -dsimp
  repeat(first|apply wG|(apply wR;simp -dsimp)|refine aI ?_)
  refine WP.ret (ac_ ?_)
  simp -dsimp
 | true =>
  simp -dsimp
  repeat(first|apply wG|(apply wR;simp -dsimp)|refine aI ?_)
  refine aj_ dA_ (fun _=>k2) rfl (fun _=>rfl) (fun _=>by simp[slG]) ?_
  simp -dsimp
  repeat(first|apply wG|(apply wR;simp -dsimp)|refine aI ?_)
  refine aj_ dA_ (fun _=>k3) rfl (fun _=>rfl) (fun _=>by simp[slG]) ?_
  simp -dsimp
  repeat(first|apply wG|(apply wR;simp -dsimp)|refine aI ?_)
  refine aj_ dA_ (fun _=>k4) rfl (fun _=>rfl) (fun _=>by simp[slG]) ?_
  simp -dsimp
  repeat(first|apply wG|(apply wR;simp -dsimp)|refine aI ?_)
  refine WP.ret (ac_ ?_)
  simp -dsimp[Bool.and_assoc]
end Go.Proofs.YtfgcgagcpnbgmaaGreatDoor
set_option linter.unusedVariables false
set_option linter.unusedSimpArgs false
set_option linter.unusedSectionVars false
namespace Go.Proofs.YtfgcgagcpnbgmaaGreatDoor
open Go.Xe Go.RowKit
theorem oI_:∀ {a b:List Sg},iH_ a b=true→a.length=b.length
 | [],[],_=>rfl
 | [],_::_,h=>by simp[iH_] at h
 | _::_,[],h=>by simp[iH_] at h
 | p::a,q::b,h=>by
  rw[iH_,Bool.and_eq_true] at h
  rw[List.length_cons,List.length_cons,oI_ h.2]
theorem wM_ {a b:List Sg} {i:Nat} (ha:i<a.length) (hb:i<b.length):iH_ (a.drop i) (b.drop i)=(rF_ a[i] b[i]&&iH_ (a.drop (i+1)) (b.drop (i+1))):=by
 rw[List.drop_eq_getElem_cons ha,List.drop_eq_getElem_cons hb,iH_]
abbrev D1_:D:=.v (.func (.func 90) #[] #[])
abbrev esS (a b:List Sg) (i:Nat):St:=mkS 32 [(0,.d (sgD a false)),(1,.d (sgD b false)),(2,.d D1_),(15,.d (sgD a false)),(16,.d (.v (.int .i64 a.length))),(17,.d (.v (.int .i64 i)))] []
set_option maxRecDepth 10000 in
set_option maxHeartbeats 2000000 in
theorem vf_ (a b:List Sg) (ha:a.length≤1000000000000) (hb:b.length≤1000000000000) (oa:∀ p∈a,b2_ p∧sgT p) (ob:∀ p∈b,b2_ p∧sgT p):Fn0 Tryz.prog 89 [sgD a false,sgD b false,D1_] (.v (.bool (iH_ a b))):=by
 have la:=sgC_len (l:=a) fun p h=>(oa p h).1
 have lb:=sgC_len (l:=b) fun p h=>(ob p h).1
 refine ad_ (pn:=ap_) aa_ Tryz.func89 rfl fun β0=>?_
 simp only[Tryz.f89]
 repeat(first|apply wG|(apply wR;simp -dsimp)|refine aI ?_)
 by_cases hl:a.length=b.length
 ·refine cF (by simp[hl]) ?_
  refine WP.skip ?_
  simp -dsimp
  repeat(first|apply wG|(apply wR;simp -dsimp)|refine aI ?_)
  refine ai_ (fun q S=>∃ i:Nat,q=a.length-i∧i≤a.length∧iH_ a b=iH_ (a.drop i) (b.drop i)∧S=esS a b i) a.length (S0:=esS a b 0) (ae_ [] (by simp) (by simp)) ⟨0,rfl,by omega,rfl,rfl⟩ ?_
  rintro _ _ ⟨i,rfl,hi,ht,rfl⟩
  simp -dsimp
  repeat(first|apply wG|(apply wR;simp -dsimp)|refine aI ?_)
  by_cases hin:i<a.length
  ·have hib:i<b.length:=by omega
   have e1:IntKind.i64.wrap ((i:Int)+1)=((i+1:Nat):Int):=by rw[IntWalk.i64_in _ (by omega)];omega
   obtain⟨o1,t1⟩:=oa _ (List.getElem_mem hin)
   obtain⟨o2,t2⟩:=ob _ (List.getElem_mem hib)
   have heq:=wP_ a[i] b[i] o1 o2 t1 t2
   have aa:=d8_ hin fun p h=>(oa p h).1
   have ab:=d8_ hib fun p h=>(ob p h).1
   have hs:=wM_ hin hib
   rw[hs] at ht
   generalize a[i]=x at *
   generalize b[i]=y at *
   have lx:=aO_ o1
   have ly:=aO_ o2
   have tx:=d7_ o1
   have ty:=d7_ o2
   have ox:=fl_ o1
   have oy:=fl_ o2
   refine cT (by simp;omega) ?_
   refine WP.skip ?_
   simp -dsimp
   repeat(first|apply wG|(apply wR;simp -dsimp[aa,ab,la,lb,hin,hib,setL_whole,lx,ly,tx,ty])|refine aI ?_)
   refine al_ n1_ heq rfl rfl (And.intro (by simp[sgV]) (And.intro (by simp[sgV]) trivial)) ?_
   simp -dsimp
   repeat(first|apply wG|(apply wR;simp -dsimp)|refine aI ?_)
   refine WP.cond (b := !rF_ x y) (by simp) (fun hc=>?_) (fun hc=>?_)
   ·have hc:rF_ x y=false:=by simpa using hc
    rw[hc,Bool.false_and] at ht
    repeat(first|apply wG|(apply wR;simp -dsimp)|refine aI ?_)
    refine WP.ret (ac_ ?_)
    simp -dsimp[ht]
   ·have hc:rF_ x y=true:=by simpa using hc
    rw[hc,Bool.true_and] at ht
    refine WP.skip ?_
    simp -dsimp
    repeat(first|apply wG|(apply wR;simp -dsimp)|refine aI ?_)
    refine loopW.next (esS a b (i+1)) (ae_ [8,9] (by simp[e1]) (by simp)) (a.length-(i+1)) (by omega) ⟨i+1,rfl,by omega,ht,rfl⟩
  ·obtain rfl:i=a.length:=by omega
   have hab:iH_ a b=true:=by rw[ht,List.drop_length,hl,List.drop_length];rfl
   refine cF (by simp) ?_
   refine WP.exit ?_
   simp -dsimp
   repeat(first|apply wG|(apply wR;simp -dsimp)|refine aI ?_)
   refine WP.ret (ac_ ?_)
   simp -dsimp[hab]
 ·have hne:iH_ a b=false:=by
   cases h:iH_ a b with
   | false=>rfl
   | true=>exact absurd (oI_ h) hl
  refine cT (by simp;omega) ?_
  repeat(first|apply wG|(apply wR;simp -dsimp)|refine aI ?_)
  refine WP.ret (ac_ ?_)
  simp -dsimp[hne]
end Go.Proofs.YtfgcgagcpnbgmaaGreatDoor
set_option maxRecDepth 10000
set_option linter.unusedVariables false
set_option linter.unusedSimpArgs false
set_option linter.unusedSectionVars false
namespace Go.Proofs.YtfgcgagcpnbgmaaGreatDoor
open Go.Xe Go.RowKit
def rmC (r:Rm):List D:=.v (.int .i64 r.crew)::slB r.seed :: .v (.int .i64 r.many) :: .v (.int .i64 r.used)::slLB r.dk.s::wrD r.dk.p :: .v (.int .i64 r.dk.left) :: .v (.bool r.dk.st) :: .v (.int .i64 r.lm)::slLB r.lr :: .v (.int .i64 r.ls)::sgD r.fs false :: .v (.int .i64 r.sent)::[]
def rmD (r:Rm):D:=.agg (rmC r)
structure rmOk (r:Rm):Prop where
 c:isI r.crew
 m:isI r.many
 u:isI r.used
 dk:dkOk r.dk
 sd:r.seed.length≤1000
 lr:r.lr.length≤1000000000000
 fl:r.fs.length≤1000000000000
 fo:∀ p∈r.fs,b2_ p∧sgT p
theorem lt_ (r:Rm):Fn0 Tryz.prog 46 [rmD r] (.v (.bool (decide (0≤r.crew∧r.crew<32∧r.used=r.fs.length∧0≤r.sent∧r.sent≤r.fs.length)))):=by
 have h38:=h4_ r.crew
 refine ad_ (pn:=ap_) aa_ Tryz.func46 rfl fun β0=>?_
 simp only[Tryz.f46]
 repeat(first|apply wG|(apply wR;simp -dsimp[rmD,rmC])|refine aI ?_)
 refine ab_ ez_ h38 rfl rfl (by simp) ?_
 simp -dsimp
 repeat(first|apply wG|(apply wR;simp -dsimp)|refine aI ?_)
 refine WP.ret (ac_ ?_)
 simp -dsimp[Bool.and_assoc]
theorem w5_ (seed:By) (m u:Int):(oX_ seed m u).1.length=32:=by
 unfold oX_
 split
 ·exact aX_ _
 ·rfl
theorem p5_ (r:Rm) (hs:r.seed.length≤1000):Fn0 Tryz.prog 47 [rmD r] (.v (.bool (keyV r.seed r.many r.used))):=by
 have h29:=dK_ r.seed hs r.many r.used
 obtain⟨d,e,hde,h32⟩:∃ (d:Dg) (e:Int),oX_ r.seed r.many r.used=(d,e)∧d.length=32:=⟨_,_,rfl,w5_ _ _ _⟩
 have hke:decide (e=0)=keyV r.seed r.many r.used:=by
  have h2:(oX_ r.seed r.many r.used).2=e:=by rw[hde]
  rw[← h2,oX_]
  cases keyV r.seed r.many r.used<;>rfl
 rw[hde,dD] at h29
 have ld:=bys_len d
 have h1:∀ c∈bys d,oneD c=true:=fun c hc=>by
  obtain⟨x,_,rfl⟩:=List.mem_map.1 hc
  rfl
 refine ad_ (pn:=ap_) aa_ Tryz.func47 rfl fun β0=>?_
 simp only[Tryz.f47]
 repeat(first|apply wG|(apply wR;simp -dsimp[rmD,rmC])|refine aI ?_)
 refine ab_ bP_ h29 rfl rfl (by simp[keyD,slB]) ?_
 simp -dsimp
 repeat(first|apply wG|(apply wR;simp -dsimp[ld,h32,setL_whole])|refine aI ?_)
 refine WP.ret (ac_ ?_)
 simp -dsimp[hke]
theorem rV_ (r:Rm) (hd:dkOk r.dk):Fn0 Tryz.prog 48 [rmD r] (.v (.bool (dkB r.dk&&(!r.dk.st&&decide (r.dk.p.length=0))))):=by
 have h82:=dR_ r.dk hd
 refine ad_ (pn:=ap_) aa_ Tryz.func48 rfl fun β0=>?_
 simp only[Tryz.f48]
 repeat(first|apply wG|(apply wR;simp -dsimp[rmD,rmC])|refine aI ?_)
 refine ab_ c5_ h82 rfl rfl (by simp[dkD,dkC]) ?_
 simp -dsimp
 repeat(first|apply wG|(apply wR;simp -dsimp)|refine aI ?_)
 refine WP.ret (ac_ ?_)
 simp -dsimp[py_,Bool.and_assoc]
theorem nF_ (r:Rm) (h:rmOk r) (hb:dkB r.dk=true) (hst:r.dk.st=false) (hp:r.dk.p.length=0):Fn0 Tryz.prog 49 [rmD r] (.v (.bool (decide ((r.dk.s.length:Int)=r.lm∧((recs r.dk.s).length:Int)=r.ls∧recs r.dk.s=r.lr)))):=by
 have h40:=gZ_ r.dk h.dk
 rw[tU_,if_pos hb,if_neg (by rw[hst];decide),if_neg (by omega),logD,lgC] at h40
 have h87:=lK_ (recs r.dk.s) r.lr (by have:=dI_ (bp_.1 hb).2.2;have:=(bp_.1 hb).1.2.1;omega) h.lr
 refine ad_ (pn:=ap_) aa_ Tryz.func49 rfl fun β0=>?_
 simp only[Tryz.f49]
 repeat(first|apply wG|(apply wR;simp -dsimp[rmD,rmC])|refine aI ?_)
 refine ab_ cp_ h40 rfl rfl (by simp[dkD,dkC]) ?_
 simp -dsimp
 repeat(first|apply wG|(apply wR;simp -dsimp)|refine aI ?_)
 refine aj_ ip_ (fun _=>h87) rfl (fun _=>rfl) (fun _=>by simp) ?_
 simp -dsimp
 repeat(first|apply wG|(apply wR;simp -dsimp)|refine aI ?_)
 refine WP.ret (ac_ ?_)
 simp -dsimp[Bool.decide_and,Bool.and_assoc]
theorem o9_ {crew m:Int} {seed:By} {i:Nat} {l:List By} (h:onB crew m i l=true) (hm:m≤4096) (hl:∀ b∈l,b.length≤1000000000000):∀ p∈onL seed m l,b2_ p∧sgT p:=by
 intro p hp
 obtain⟨h1,h2⟩:=xf_ h hm hl p hp
 refine⟨⟨h1,?_,?_⟩,h2⟩
 ·obtain⟨b,_,rfl⟩:=List.mem_map.1 hp
  rfl
 ·obtain⟨b,_,rfl⟩:=List.mem_map.1 hp
  exact fun d hd=>cP_ hd
theorem ky_ (r:Rm) (h:rmOk r) (hk:keyV r.seed r.many r.used=true) (hR:r.lr.length≤1000000) (hb:∀ b∈r.lr,b.length≤1000000):Fn0 Tryz.prog 50 [rmD r] (.v (.bool (onB r.crew r.many 0 r.lr&&iH_ (onL r.seed r.many r.lr) r.fs))):=by
 have h65:=hB_ r.crew r.seed r.many r.used r.lm r.lr r.ls hk hR hb
 refine ad_ (pn:=ap_) aa_ Tryz.func50 rfl fun β0=>?_
 simp only[Tryz.f50]
 repeat(first|apply wG|(apply wR;simp -dsimp[rmD,rmC])|refine aI ?_)
 refine ab_ is_ h65 rfl rfl (by simp[keyD,slB,logD,lgC]) ?_
 unfold BK_
 cases hon:onB r.crew r.many 0 r.lr with
 | true =>
  rw[if_pos rfl,Bool.true_and]
  have hm:=(a8_.1 hk).2.2.2.1
  have heq:=vf_ (onL r.seed r.many r.lr) r.fs (by rw[bn_];omega) h.fl (fun p hp=>o9_ hon hm (fun b hh=>by have:=hb b hh;omega) p hp) h.fo
  simp -dsimp
  repeat(first|apply wG|(apply wR;simp -dsimp)|refine aI ?_)
  refine aj_ n2_ (fun _=>heq) rfl (fun _=>rfl) (fun _=>by simp) ?_
  simp -dsimp
  repeat(first|apply wG|(apply wR;simp -dsimp)|refine aI ?_)
  refine WP.ret (ac_ ?_)
  simp -dsimp
 | false =>
  rw[if_neg (by decide),Bool.false_and]
  simp -dsimp
  repeat(first|apply wG|(apply wR;simp -dsimp)|refine aI ?_)
  refine vcStopG.skip (.d (.v (.bool false))) ?_
  simp -dsimp
  repeat(first|apply wG|(apply wR;simp -dsimp)|refine aI ?_)
  refine WP.ret (ac_ ?_)
  simp -dsimp
end Go.Proofs.YtfgcgagcpnbgmaaGreatDoor
set_option linter.unusedVariables false
set_option linter.unusedSimpArgs false
set_option linter.unusedSectionVars false
namespace Go.Proofs.YtfgcgagcpnbgmaaGreatDoor
open Go.Xe Go.RowKit
def CW_ (s:List By) (left:Int) (b:By):D :=
 if gnr s<4294967296 then
  if 0≤left∧left<secs b.length then .tup [logD 0 [] 0,dkD ⟨stopS s (wrR s b) left.toNat,[],0,true⟩,.v (.int .i64 380)]
  else .tup [logD s.length (recs s++[b]) ((recs s).length+1),dkD ⟨perf s (wrI (wrR s b)),[],kk_ left (secs b.length),false⟩,.v (.int .i64 0)]
 else .tup [logD 0 [] 0,dkD ⟨[],[],0,false⟩,.v (.int .i64 390)]
theorem uZ_ (s:List By) {i:Nat} (h:i<s.length):gnr (s.take (i+1))=max (gnr (s.take i)) (max (genS s[i]+1) (tailS s[i]+1)):=by
 have e:s.take (i+1)=s.take i++[s[i]]:=by rw[List.take_add_one,List.getElem?_eq_getElem h];rfl
 rw[e,gnr,List.foldl_append];rfl
abbrev jB2 (s:List By) (b:By):Box:=.cells 30 [.d (.v (.int .i64 s.length)),.d (slLB (recs s++[b])),.d (.v (.int .i64 (recs s).length))]
abbrev jB3 (d:Dk):Box:=.cells 28 ((dkC d).map .d)
abbrev jB4:Box:=.cells 30 [.d (.v (.int .i64 0)),.d (.v (.slice none 0 0)),.d (.v (.int .i64 0))]
abbrev jB5:Box:=.cells 28 [.d (.v (.slice none 0 0)),.d (.v (.slice none 0 0)),.d (.v (.int .i64 0)),.d (.v (.bool false))]
abbrev jB9 (s:List By):Box:=.cells 30 [.d (.v (.int .i64 s.length)),.d (slLB (recs s)),.d (.v (.int .i64 (recs s).length))]
abbrev jBx (s:List By) (b:By) (d:Dk):Bxs:=[(2,jB2 s b),(3,jB3 d),(4,jB4),(5,jB5),(9,jB9 s)]
abbrev jG (s:List By) (b:By) (d:Dk) (i:Nat):St:=mkS 167 [(2,.ptr 2 0),(3,.ptr 3 0),(4,.ptr 4 0),(5,.ptr 5 0),(9,.ptr 9 0),(10,.d (.v (.int .u64 (gnr (s.take i))))),(57,.d (slLB s)),(58,.d (.v (.int .i64 s.length))),(59,.d (.v (.int .i64 i)))] (jBx s b d)
abbrev jI (s:List By) (b:By) (left:Int) (at_ n kind:Nat) (rest:By) (w:List (Nat×By)):St :=
 mkS 167 [(2,.ptr 2 0),(3,.ptr 3 0),(4,.ptr 4 0),(5,.ptr 5 0),(9,.ptr 9 0),(10,.d (.v (.int .u64 (gnr s)))),(13,.d (.v (.int .i64 at_))),(15,.d (slB rest)),(16,.d (.v (.int .u8 kind))),(17,.d (.v (.int .i64 n))),(108,.d (.sl 1 [slB b] 1 false)),(109,.d (.v (.int .i64 1))),(110,.d (.v (.int .i64 0)))] (jBx s b ⟨s,wrI w,left,false⟩)
abbrev jO (s:List By) (b:By) (left:Int) (at_:Nat) (w:List (Nat×By)) (i:Nat):St :=
 mkS 167 [(2,.ptr 2 0),(3,.ptr 3 0),(4,.ptr 4 0),(5,.ptr 5 0),(9,.ptr 9 0),(10,.d (.v (.int .u64 (gnr s)))),(13,.d (.v (.int .i64 at_))),(108,.d (.sl 1 [slB b] 1 false)),(109,.d (.v (.int .i64 1))),(110,.d (.v (.int .i64 i)))] (jBx s b ⟨s,wrI w,left,false⟩)
theorem tY_ (w:List (Nat×By)) (m:Nat):(wrI w).take m=wrI (w.take m):=by rw[wrI,wrI,List.map_take]
theorem tZ_ (w:List (Nat×By)) (m:Nat):(wrI w).getD m (0,[])=(((w.getD m (0,[])).1:Int),(w.getD m (0,[])).2):=by
 simp only[wrI,List.getD_eq_getElem?_getD,List.getElem?_map]
 cases w[m]? <;> rfl
theorem wv_ {s:List By} {b:By} (hu:usd (recs s)+secs b.length≤s.length) {w:Nat×By} (h:w∈wrR s b):w.1<s.length∧w.2.length=128:=by
 refine⟨?_,hk_ _ _ _ _ _ w h⟩
 have h2:w.1∈(wrR s b).map (·.1):=List.mem_map_of_mem h
 rw[wrR,fe_,List.mem_range'_1] at h2
 omega
theorem mW_ (s:List By) (b:By):(wrR s b).length=secs b.length:=ee_ _ _ _ _ _
theorem ta_ {s:List By} (hs:∀ x∈s,x.length=128) (n1:1≤s.length) (n2:s.length≤4096) {left:Int} (l1 : -1≤left) (l2:left≤65536) {b:By} (hu:usd (recs s)+secs b.length≤s.length) {w w':List (Nat×By)} (h:wrR s b=w++w') :
  dkB ⟨s,wrI w,left,false⟩=true:=by
 have hl:w.length≤secs b.length:=by rw[← mW_ s b,h,List.length_append];omega
 refine bp_.2 ⟨⟨n1,n2,?_,l1,l2⟩,fun x hx=>?_,hs⟩
 ·simp only[mY_];omega
 ·obtain⟨y,hy,rfl⟩:=List.mem_map.1 hx
  have:=wv_ hu (w:=y) (by rw[h];exact List.mem_append_left _ hy)
  exact⟨Int.natCast_nonneg _,by simp only;omega,this.2⟩
theorem vo_ (s:List By) (b:By) (left:Int):s8_ ⟨s,wrI (wrR s b),left,false⟩ =
  if 0≤left∧left<secs b.length then (⟨stopS s (wrR s b) left.toNat,[],0,true⟩,380) else (⟨perf s (wrI (wrR s b)),[],kk_ left (secs b.length),false⟩,0):=by
 simp only[s8_,mY_,mW_,BI_,BH_,tY_,tZ_,Int.toNat_natCast,stopS,kk_]
theorem w7_ {k:Nat} (h:k≤1):bits .or .u8 (k:Int) 2=((k+2:Nat):Int):=by
 rcases (by omega:k=0∨k=1) with rfl|rfl<;>decide
theorem zG_ (n:Nat):(n:Int).fdiv (2^shN .u64 32)=((n/4294967296:Nat):Int):=by
 rw[show ((2:Int)^shN .u64 32)=((4294967296:Nat):Int) by decide,Int.fdiv_eq_ediv_of_nonneg _ (Int.natCast_nonneg _),← Int.natCast_ediv]
set_option maxRecDepth 10000 in
set_option maxHeartbeats 4000000 in
theorem uT_ (s:List By) (hs:∀ x∈s,x.length=128) (n1:1≤s.length) (n2:s.length≤4096) (left:Int) (l1 : -1≤left) (l2:left≤65536) (b:By) (hb:b.length≤1000000) (hu:usd (recs s)+secs b.length≤s.length) :
  Fn0 Tryz.prog 57 [logD s.length (recs s++[b]) (recs s).length,dkD ⟨s,[],left,false⟩] (CW_ s left b):=by
 have hdk:dkB ⟨s,[],left,false⟩=true:=bp_.2 ⟨⟨n1,n2,Nat.zero_le _,l1,l2⟩,(fun _ h=>by cases h),hs⟩
 have hus:=hM_ hs
 have hsm:=bA_ hs n2
 have lgk:lgOk s.length (recs s++[b]) (recs s).length:=⟨n1,n2,by simp,by rw[m4_];simp[usd];omega,fun x hx=>by
  rcases List.mem_append.1 hx with hx|hx
  ·have:=hsm x hx;omega
  ·rw[List.mem_singleton.1 hx];exact hb,by simp;omega⟩
 have h95:=lx_ lgk
 have h82:=dR_ ⟨s,[],left,false⟩ (jv_ hdk)
 rw[dkE,if_pos hdk] at h82
 have h40:=gZ_ ⟨s,[],left,false⟩ (jv_ hdk)
 rw[tU_,if_pos hdk,if_neg (by simp),if_neg (by simp)] at h40
 have h87:=lK_ (recs s) (recs s) (by omega) (by omega)
 rw[decide_eq_true rfl] at h87
 have h97:=m3_ (recs s) (by omega) (by omega) (fun x hx=>by have:=hsm x hx;omega)
 have lR:=bo_ (recs s)
 have hla:lsB (recs s++[b])=lsB (recs s)++[slB b]:=by simp[lsB]
 refine ad_ (pn:=ap_) aa_ Tryz.func57 rfl fun β0=>?_
 simp only[Tryz.f57]
 repeat(first|apply wG|(apply wR;simp -dsimp[logD,lgC,dkD,dkC,wrC])|refine aI ?_)
 refine ab_ im_ h95 rfl rfl (by simp[logD,lgC]) ?_
 simp -dsimp
 repeat(first|apply wG|(apply wR;simp -dsimp)|refine aI ?_)
 refine cF (by simp) ?_
 refine WP.skip ?_
 simp -dsimp
 repeat(first|apply wG|(apply wR;simp -dsimp)|refine aI ?_)
 refine ab_ c5_ h82 rfl rfl (by simp[dkD,dkC,wrC]) ?_
 simp -dsimp
 repeat(first|apply wG|(apply wR;simp -dsimp)|refine aI ?_)
 refine cF (by simp) ?_
 refine WP.skip ?_
 simp -dsimp
 repeat(first|apply wG|(apply wR;simp -dsimp)|refine aI ?_)
 refine cF (by simp) ?_
 refine WP.skip ?_
 simp -dsimp
 repeat(first|apply wG|(apply wR;simp -dsimp)|refine aI ?_)
 refine ab_ cp_ h40 rfl rfl (by simp[dkD,dkC,wrC]) ?_
 simp -dsimp[logD,lgC]
 repeat(first|apply wG|(apply wR;simp -dsimp)|refine aI ?_)
 refine cF (by simp) ?_
 refine WP.skip ?_
 simp -dsimp
 repeat(first|apply wG|(apply wR;simp -dsimp)|refine aI ?_)
 refine ai_ (fun q S=>∃ i:Nat,q=s.length-i∧i≤s.length∧S=jG s b ⟨s,[],left,false⟩ i) s.length (S0:=jG s b ⟨s,[],left,false⟩ 0) (ae_ [] (by simp[gnr]) (by simp[dkC,wrC])) ⟨0,rfl,by omega,rfl⟩ ?_
 rintro _ _ ⟨i,rfl,hi,rfl⟩
 simp -dsimp
 repeat(first|apply wG|(apply wR;simp -dsimp)|refine aI ?_)
 by_cases hx:i=s.length
 ·subst hx
  refine cF (by simp) ?_
  refine WP.exit ?_
  simp -dsimp[List.take_length]
  have htk:List.take (recs s).length (lsB (recs s++[b]))=lsB (recs s):=by rw[hla,List.take_left' lR]
  have lA:(lsB (recs s++[b])).length=(recs s).length+1:=by rw[bo_];simp
  repeat(first|apply wG|(apply wR;simp -dsimp[htk,lA,List.take_length])|refine aI ?_)
  refine ab_ ip_ h87 rfl rfl (by simp[htk]) ?_
  simp -dsimp
  repeat refine aI ?_
  have hsh:=zG_ (gnr s)
  unfold CW_
  by_cases hg:gnr s<4294967296
  ·rw[if_pos hg]
   have hg0:gnr s/4294967296=0:=by omega
   rw[hg0] at hsh
   refine cF (by simp[hsh]) ?_
   refine WP.skip ?_
   simp -dsimp
   repeat(first|apply wG|(apply wR;simp -dsimp)|refine aI ?_)
   refine cF (by simp[lA];omega) ?_
   refine WP.skip ?_
   simp -dsimp
   repeat(first|apply wG|(apply wR;simp -dsimp[htk,lA])|refine aI ?_)
   refine ab_ et_ h97 rfl rfl (by simp[htk]) ?_
   simp -dsimp
   have hdr:List.drop (recs s).length (lsB (recs s++[b]))=[slB b]:=by rw[hla,List.drop_left' lR]
   repeat(first|apply wG|(apply wR;simp -dsimp[htk,hdr,lA])|refine aI ?_)
   have i1:∀ i:Nat,IntKind.i64.wrap ((((recs s).length+1:Nat):Int)-((recs s).length:Nat))=1:=fun _=>by rw[IntWalk.i64_in _ (by omega)];omega
   refine ai_ (fun q S=>(q=1∧S=jO s b left (usd (recs s)) [] 0)∨(q=0∧S=jO s b left (usd (recs s)+secs b.length) (wrR s b) 1)) 1 (S0:=jO s b left (usd (recs s)) [] 0) (ae_ [] (by simp[hdr,lA,List.take_length]) (by simp[wrI,dkC,wrC])) (.inl ⟨rfl,rfl⟩) ?_
   rintro _ _ (⟨rfl,rfl⟩|⟨rfl,rfl⟩)
   ·simp -dsimp
    repeat(first|apply wG|(apply wR;simp -dsimp)|refine aI ?_)
    refine cT (by simp) ?_
    refine WP.skip ?_
    simp -dsimp
    repeat(first|apply wG|(apply wR;simp -dsimp)|refine aI ?_)
    refine ab_ eu_ (fo_ b (by omega)) rfl rfl (by simp) ?_
    simp -dsimp
    repeat(first|apply wG|(apply wR;simp -dsimp)|refine aI ?_)
    refine ai_ (fun q S=>∃ (n kind at_:Nat) (rest:By) (w:List (Nat×By)),q=n∧at_=usd (recs s)+w.length∧wrR s b=w++wrt (gnr s) n at_ kind rest∧kind≤1∧rest.length≤1000000∧S=jI s b left at_ n kind rest w) (secs b.length) (S0:=jI s b left (usd (recs s)) (secs b.length) 1 b []) (ae_ [] (by simp[slB]) (by simp)) ⟨secs b.length,1,usd (recs s),b,[],rfl,rfl,rfl,by omega,hb,rfl⟩ ?_
    rintro n _ ⟨_,kind,at_,rest,w,rfl,ha,hw,hk,hr,rfl⟩
    have hwl:=mW_ s b
    rw[hw,List.length_append,ee_] at hwl
    simp -dsimp
    repeat(first|apply wG|(apply wR;simp -dsimp)|refine aI ?_)
    cases n with
    | zero =>
     rw[wrt,List.append_nil] at hw
     refine cF (by simp) ?_
     refine WP.exit ?_
     simp -dsimp
     repeat(first|apply wG|(apply wR;simp -dsimp)|refine aI ?_)
     have w1:IntKind.i64.wrap 1=1:=by decide
     obtain rfl:at_=usd (recs s)+secs b.length:=by omega
     refine loopW.next (jO s b left (usd (recs s)+secs b.length) (wrR s b) 1) (ae_ [] (by simp[w1]) (by simp[hw])) 0 (by omega) (.inr ⟨rfl,rfl⟩)
    | succ n =>
     have hpre:=ta_ hs n1 n2 l1 l2 hu hw
     obtain⟨m,hm⟩:∃ m:Nat,m=min rest.length 112:=⟨_,rfl⟩
     have em:min (rest.length:Int) 112=(m:Int):=by omega
     have hml:m≤rest.length:=by omega
     have htm:rest.take 112=rest.take m:=by
      rcases Nat.le_total rest.length 112 with h|h
      ·rw[List.take_of_length_le h,List.take_of_length_le (by omega)]
      ·rw[show m=112 by omega]
     have hdm:rest.drop 112=rest.drop m:=by
      rcases Nat.le_total rest.length 112 with h|h
      ·rw[List.drop_of_length_le h,List.drop_of_length_le (by omega)]
      ·rw[show m=112 by omega]
     have lr:=bys_len rest
     obtain⟨k2,hk2,hk3⟩:∃ k2:Nat,k2=(if n=0 then kind+2 else kind)∧k2≤3:=⟨_,rfl,by split<;>omega⟩
     have hkk:(UInt8.ofNat k2).toNat=k2:=by rw[UInt8.toNat_ofNat'];omega
     have henc:=ju_ (gnr s) at_ (by omega) (by omega) (UInt8.ofNat k2) (rest.take m) (by rw[List.length_take];omega)
     rw[eK_ rest m hml,hkk] at henc
     have lE:=gT_ (g:=gnr s) (num:=at_) (kind:=k2) (b:=rest.take m) (by rw[List.length_take];omega)
     have hwr:=tW_ ⟨s,wrI w,left,false⟩ hpre rfl at_ (by simp only;omega) (secE (gnr s) at_ k2 (rest.take m)) lE (by simp only[mY_];omega)
     rw[wrt,← hk2,htm,hdm] at hw
     have hwi:wrI w++[((at_:Int),secE (gnr s) at_ k2 (rest.take m))]=wrI (w++[(at_,secE (gnr s) at_ k2 (rest.take m))]):=by rw[wrI,wrI,List.map_append];rfl
     rw[hwi] at hwr
     generalize secE (gnr s) at_ k2 (rest.take m)=E at *
     have hor:=w7_ hk
     refine cT (by simp) ?_
     refine WP.skip ?_
     simp -dsimp
     repeat(first|apply wG|(apply wR;simp -dsimp)|refine aI ?_)
     refine WP.cond (b:=decide (n=0)) (by simp;omega) (fun hb=>?_) (fun hb=>?_)
     have hb:=of_decide_eq_true hb
     rw[if_pos hb] at hk2
     refine WP.region aa_ ?_
     simp -dsimp[hor]
     repeat refine aI ?_
     refine an_ (S':=jI s b left at_ (n+1) k2 rest w) (ae_ [] (by simp[hk2]) (by simp)) ?_
     rotate_left
     have hb:=of_decide_eq_false hb
     rw[if_neg hb] at hk2
     refine WP.skip ?_
     refine an_ (S':=jI s b left at_ (n+1) k2 rest w) (ae_ [] (by simp[hk2]) (by simp)) ?_
     all_goals
      simp -dsimp
      repeat(first|apply wG|(apply wR;simp -dsimp[em,dkC,wrD,lr,hml])|refine aI ?_)
      have ea:IntKind.i64.wrap ((at_:Int)+1)=(at_:Int)+1:=IntWalk.i64_in _ (by omega)
      have en:IntKind.i64.wrap (n:Int)=(n:Int):=IntWalk.i64_in _ (by omega)
      have hbd:bys (rest.drop m)=(bys rest).drop m:=by rw[bys,List.map_drop];rfl
      have htd:List.take (rest.length-m) ((bys rest).drop m)=(bys rest).drop m:=List.take_of_length_le (by rw[List.length_drop,lr];exact Nat.le_refl _)
      refine ab_ gt_ henc rfl rfl (by simp) ?_
      simp -dsimp
      repeat refine aI ?_
      refine ab_ mG_ hwr rfl rfl (by simp[dkD,dkC,wrD]) ?_
      simp -dsimp[dkD,dkC,wrD]
      repeat refine aI ?_
      repeat(first|apply wG|(apply wR;simp -dsimp)|refine aI ?_)
      refine cF (by simp) ?_
      refine WP.skip ?_
      simp -dsimp
      repeat(first|apply wG|(apply wR;simp -dsimp[lr,hml])|refine aI ?_)
      refine loopW.next (jI s b left (at_+1) n 0 (rest.drop m) (w++[(at_,E)])) (ae_ [] (by simp[ea,en,hbd,htd]) (by simp[dkC,wrD])) n (by omega) ⟨n,0,at_+1,rest.drop m,w++[(at_,E)],rfl,by simp;omega,by rw[hw];simp,by omega,by rw[List.length_drop];omega,rfl⟩
   ·simp -dsimp
    repeat(first|apply wG|(apply wR;simp -dsimp)|refine aI ?_)
    refine cF (by simp) ?_
    refine WP.exit ?_
    simp -dsimp
    have h103:=vk_ ⟨s,wrI (wrR s b),left,false⟩ (ta_ hs n1 n2 l1 l2 hu (w':=[]) (by simp)) rfl
    rw[vo_] at h103
    repeat(first|apply wG|(apply wR;simp -dsimp[dkC,wrD])|refine aI ?_)
    refine ab_ mF_ h103 rfl rfl (by simp[dkD,dkC,wrD]) ?_
    simp -dsimp
    by_cases hc:0≤left∧left<secs b.length
    ·rw[if_pos hc,if_pos hc]
     simp -dsimp[dkD,dkC,wrC,wrD]
     repeat(first|apply wG|(apply wR;simp -dsimp)|refine aI ?_)
     refine cT (by simp) ?_
     repeat(first|apply wG|(apply wR;simp -dsimp)|refine aI ?_)
     refine WP.ret (ac_ ?_)
     simp -dsimp[logD,lgC,dkD,dkC,wrC,slLB,lsB,wrD]
    ·rw[if_neg hc,if_neg hc]
     simp -dsimp[dkD,dkC,wrC,wrD]
     repeat(first|apply wG|(apply wR;simp -dsimp)|refine aI ?_)
     refine cF (by simp) ?_
     refine WP.skip ?_
     simp -dsimp
     repeat(first|apply wG|(apply wR;simp -dsimp[lA])|refine aI ?_)
     refine WP.ret (ac_ ?_)
     simp -dsimp[logD,lgC,dkD,dkC,wrC,slLB,wrD]
  ·rw[if_neg hg]
   have hg0:gnr s/4294967296≠0:=by omega
   refine cT (by simp[hsh];omega) ?_
   repeat(first|apply wG|(apply wR;simp -dsimp)|refine aI ?_)
   refine WP.ret (ac_ ?_)
   simp -dsimp[logD,lgC,dkD,dkC,wrC,slLB,lsB,wrD]
 ·have hlt:i<s.length:=by omega
  have e1:IntKind.i64.wrap ((i:Int)+1)=(i:Int)+1:=IntWalk.i64_in _ (by omega)
  have hsi:s[i].length=128:=hs _ (List.getElem_mem _)
  have hat:=jh_ (s.take i) s[i] (s.drop (i+1))
  rw[← List.drop_eq_getElem_cons hlt,List.take_append_drop,List.length_take,Nat.min_eq_left hi] at hat
  have lS:=bo_ s
  have hst:=uZ_ s hlt
  have g0:=h3_ (s[i].take 4) (by rw[List.length_take];omega)
  have g1:=h3_ ((s[i].drop 124).take 4) (by rw[List.length_take];omega)
  rw[eK_ _ _ (by omega),← genS] at g0
  rw[rC_ _ _ _ (by omega),List.take_of_length_le (l:=s[i].drop 124) (by rw[List.length_drop];omega),← tailS] at g1
  have hg0:=ks_ s[i]
  have hg1:=uc_ hsi
  generalize s[i]=x at *
  have lx:=bys_len x
  refine cT (by simp;omega) ?_
  refine WP.skip ?_
  simp -dsimp
  repeat(first|apply wG|(apply wR;simp -dsimp[hat,lS,hlt,slB,hsi,lx])|refine aI ?_)
  refine ab_ aG_ g0 rfl rfl (by simp) ?_
  simp -dsimp
  repeat refine aI ?_
  refine ab_ aG_ g1 rfl rfl (by simp[lx,hsi]) ?_
  simp -dsimp
  repeat refine aI ?_
  refine m2_ rfl rfl rfl rfl ?_
  simp -dsimp
  repeat refine aI ?_
  have em:max ((gnr (s.take i):Nat):Int) (max (IntKind.u64.wrap ((genS x:Int)+1)) (IntKind.u64.wrap ((tailS x:Int)+1)))=((gnr (s.take (i+1)):Nat):Int):=by
   rw[hst,IntKind.wrap_u64,IntKind.wrap_u64,Int.emod_eq_of_lt (by omega) (by omega),Int.emod_eq_of_lt (by omega) (by omega)];omega
  repeat(first|apply wG|(apply wR;simp -dsimp)|refine aI ?_)
  refine loopW.next (jG s b ⟨s,[],left,false⟩ (i+1)) (ae_ [12] (by simp[e1,em]) (by simp)) (s.length-(i+1)) (by omega) ⟨i+1,rfl,by omega,rfl⟩
end Go.Proofs.YtfgcgagcpnbgmaaGreatDoor
