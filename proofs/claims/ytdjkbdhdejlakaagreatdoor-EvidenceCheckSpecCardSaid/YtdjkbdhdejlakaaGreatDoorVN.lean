/-
  Joined texts.
-/
import Derived.Test.YtdjkbdhdejlakaaGreatDoorVM
import Derived.Test.YtdjkbdhdejlakaaGreatDoorV8
import Derived.Test.YtdjkbdhdejlakaaGreatDoorVZ
set_option maxRecDepth 10000
set_option maxHeartbeats 4000000
set_option linter.unusedVariables false
set_option linter.unusedSimpArgs false
set_option linter.unusedSectionVars false
namespace Go.Proofs.YtdjkbdhdejlakaaGreatDoor
open Go.Xe Go.RowKit
@[simp] theorem Cr_ (k n:Nat):al_ k (List.replicate n (.d .any))=false:=by
 induction n with
 | zero=>rfl
 | succ n ih=>rw[List.replicate_succ,al_,ih];rfl
theorem vI_ (n:Nat) (hn:n≤1000000):Fun Tryz.prog 49 [.d (.v (.slice none 0 0)),.d (.v (.int .i64 n))] [] (.row 0) [(0,.row 63 61 0 [])] fun _=>False:=by
 have e0:IntKind.i64.wrap 0=0:=by decide
 have e1:IntKind.i64.wrap (n:Int)=n:=IntWalk.i64_in _ (by omega)
 refine ac_ (pn:=ao_) aa_ Tryz.func49 rfl fun β0=>?_
 simp only[Tryz.f49]
 repeat(first|apply wG|(apply wR;simp -dsimp)|refine aI ?_)
 refine cF (by simp) ?_
 refine WP.skip ?_
 simp -dsimp
 repeat(first|apply wG|(apply wR;simp -dsimp)|refine aI ?_)
 refine b8_ aa_ rfl rfl rfl ?_
 simp -dsimp[e0,e1]
 repeat(first|apply wG|(apply wR;simp -dsimp[e0,e1])|refine aI ?_)
 refine WP.cond (b:=decide (0<n)) (by simp) (fun hb=>?_) (fun hb=>?_)
 ·have hb:0<n:=of_decide_eq_true hb
  repeat(first|apply wG|(apply wR;simp -dsimp)|refine aI ?_)
  refine b8_ aa_ rfl rfl rfl ?_
  simp -dsimp
  repeat refine aI ?_
  refine dN_ aa_ rfl rfl rfl rfl rfl ?_
  simp -dsimp
  repeat refine aI ?_
  refine cY_ aa_ (k:=500) rfl rfl rfl rfl (by decide) rfl hb rfl (by simp;omega) (by simp) ?_
  simp -dsimp
  repeat refine aI ?_
  refine ci_ aa_ (j:=500) (k:=501) (m:=0) rfl rfl rfl rfl rfl hb (Nat.zero_le _) rfl (by simp) ?_
  simp -dsimp
  repeat(first|apply wG|(apply wR;simp -dsimp)|refine aI ?_)
  refine WP.ret (am_ (S':=mkS 27 [(4,.row 0)] [(0,.row 63 61 0 [])]) (Wk.go [] 501 0 (by decide) (by simp) (by simp) (by simp)) ?_)
  simp -dsimp
 ·refine WP.skip ?_
  simp -dsimp
  repeat(first|apply wG|(apply wR;simp -dsimp)|refine aI ?_)
  refine WP.ret (am_ (S':=mkS 27 [(4,.row 0)] [(0,.row 63 61 0 [])]) ((bk_ 4 0 63 61 (by simp) (by simp)).trans (ae_ [] (by simp) (by simp))) ?_)
  simp -dsimp
def catS:List (List Sg)→List Sg
 | []=>[]
 | l::r=>l++catS r
theorem dw_:∀ a b:List (List Sg),catS (a++b)=catS a++catS b
 | [],_=>rfl
 | l::a,b=>by rw[List.cons_append,catS,catS,dw_ a b,List.append_assoc]
theorem mF_ (a:List (List Sg)) (l:List Sg):catS (a++[l])=catS a++l:=by rw[dw_];simp[catS]
def lsS (ls:List (List Sg)):List D:=ls.map fun l=>.sl 61 (sgC l) l.length false
theorem wW_ (a:List (List Sg)) (l:List Sg) (b:List (List Sg)):(lsS (a++l::b)).drop a.length=.sl 61 (sgC l) l.length false::lsS b:=by
 rw[lsS,List.map_append,List.drop_left' (by simp)]
 rfl
@[simp] def slLS (ls:List (List Sg)):D:=.sl 1 (lsS ls) ls.length false
theorem rL_ (ls:List (List Sg)) (hl:ls.length≤1000) (hf:(catS ls).length≤100000) (hok:∀ l∈ls,∀ p∈l,aL_ p):Fun Tryz.prog 25 [.d (slLS ls)] [] (.row 0) [(0,.row 63 61 (catS ls).length ((sgC (catS ls)).map .d))] fun _=>False:=by
 refine ac_ (pn:=ao_) aa_ Tryz.func25 rfl fun β0=>?_
 simp only[Tryz.f25]
 repeat(first|apply wG|(apply wR;simp -dsimp)|refine aI ?_)
 refine ak_ (fun m S=>∃ l1 l2,ls=l1++l2∧m=l2.length∧S=mkS 36 [(0,.d (slLS ls)),(3,.d (.v (.int .i64 (catS l1).length))),(9,.d (slLS ls)),(10,.d (.v (.int .i64 ls.length))),(11,.d (.v (.int .i64 l1.length)))] []) ls.length
  (S0:=mkS 36 [(0,.d (slLS ls)),(3,.d (.v (.int .i64 0))),(9,.d (slLS ls)),(10,.d (.v (.int .i64 ls.length))),(11,.d (.v (.int .i64 0)))] []) (ae_ [] (by simp) (by simp)) ⟨[],ls,rfl,rfl,rfl⟩ ?_
 rintro _ _ ⟨l1,l2,hl12,rfl,rfl⟩
 simp -dsimp
 repeat(first|apply wG|(apply wR;simp -dsimp)|refine aI ?_)
 cases l2 with
 | cons l l2 =>
  have hll:ls.length=l1.length+(l2.length+1):=by rw[hl12];simp
  have hff:(catS ls).length=(catS l1).length+(l.length+(catS l2).length):=by rw[hl12,dw_,List.length_append,catS,List.length_append]
  have e1:IntKind.i64.wrap ((l1.length:Int)+1)=(l1.length:Int)+1:=IntWalk.i64_in _ (by omega)
  have e2:IntKind.i64.wrap (((catS l1).length:Int)+l.length)=((catS l1).length:Int)+l.length:=IntWalk.i64_in _ (by omega)
  have e3:(catS (l1++[l])).length=(catS l1).length+l.length:=by rw[mF_,List.length_append]
  have h1:=wW_ l1 l l2
  rw[← hl12] at h1
  refine cT (by simp;omega) ?_
  refine WP.skip ?_
  simp -dsimp
  refine WP.seq (WP.block ?_)
  repeat(first|apply wG|(apply wR;simp -dsimp[h1,e2])|refine aI ?_)
  refine cF (by simp[e2];omega) ?_
  refine WP.skip ?_
  simp -dsimp
  repeat(first|apply wG|(apply wR;simp -dsimp)|refine aI ?_)
  refine loopW.next (mkS 36 [(0,.d (slLS ls)),(3,.d (.v (.int .i64 (catS (l1++[l])).length))),(9,.d (slLS ls)),(10,.d (.v (.int .i64 ls.length))),(11,.d (.v (.int .i64 (l1++[l]).length)))] []) (ae_ [] (by simp[e1,e2,e3]) (by simp)) l2.length (by simp) ⟨l1++[l],l2,by simp[hl12],rfl,rfl⟩
 | nil =>
  simp only[List.append_nil] at hl12
  subst hl12
  refine cF (by simp) ?_
  refine WP.exit ?_
  simp -dsimp
  repeat(first|apply wG|(apply wR;simp -dsimp)|refine aI ?_)
  refine vcStop.call oZ_ (vI_ (catS ls).length (by omega)) (rl [(0,600)]) rfl rfl (by simp[BoxLeq]) (ai_ (by simp[BoxLeq]) rfl (by first|rfl|(simp[BoxLeq];done)) (by simp[BoxLeq]) (by simp[BoxLeq])) (fun _ h=>h.elim) (fun ⟨_,h⟩=>h.elim) (fun ⟨_,h⟩=>h.elim) (by simp[BoxLeq]) ?_
  simp -dsimp
  repeat(first|apply wG|(apply wR;simp -dsimp)|refine aI ?_)
  refine ak_ (fun m S=>∃ l1 l2,ls=l1++l2∧m=l2.length∧S=mkS 36 [(6,.row 500),(25,.d (slLS ls)),(26,.d (.v (.int .i64 ls.length))),(27,.d (.v (.int .i64 l1.length)))] [(500,.row 63 61 (catS l1).length ((sgC (catS l1)).map .d))]) ls.length
   (S0:=mkS 36 [(6,.row 500),(25,.d (slLS ls)),(26,.d (.v (.int .i64 ls.length))),(27,.d (.v (.int .i64 0)))] [(500,.row 63 61 0 [])]) (Wk.go [] 600 500 (by decide) (by simp) (by simp) (by simp)) ⟨[],ls,rfl,rfl,rfl⟩ ?_
  rintro _ _ ⟨l1,l2,hl12,rfl,rfl⟩
  simp -dsimp
  repeat(first|apply wG|(apply wR;simp -dsimp)|refine aI ?_)
  cases l2 with
  | cons l l2 =>
   have hll:ls.length=l1.length+(l2.length+1):=by rw[hl12];simp
   have hff:(catS ls).length=(catS l1).length+(l.length+(catS l2).length):=by rw[hl12,dw_,List.length_append,catS,List.length_append]
   have e1:IntKind.i64.wrap ((l1.length:Int)+1)=(l1.length:Int)+1:=IntWalk.i64_in _ (by omega)
   have e3:(catS (l1++[l]))=(catS l1)++l:=mF_ l1 l
   have lc:=sgC_len (hok l (by rw[hl12];simp))
   have e4:sgC (catS l1++l)=sgC (catS l1)++sgC l:=a2_ _ _
   have h1:=wW_ l1 l l2
   rw[← hl12] at h1
   refine cT (by simp;omega) ?_
   refine WP.skip ?_
   simp -dsimp
   refine WP.seq (WP.block ?_)
   repeat(first|apply wG|(apply wR;simp -dsimp[h1,lc])|refine aI ?_)
   refine loopW.next (mkS 36 [(6,.row 500),(25,.d (slLS ls)),(26,.d (.v (.int .i64 ls.length))),(27,.d (.v (.int .i64 (l1++[l]).length)))] [(500,.row 63 61 (catS (l1++[l])).length ((sgC (catS (l1++[l]))).map .d))]) (Wk.go [] 33 500 (by decide) (by simp) (by simp[e1]) (by simp[e3,e4])) l2.length (by simp) ⟨l1++[l],l2,by simp[hl12],rfl,rfl⟩
  | nil =>
   simp only[List.append_nil] at hl12
   subst hl12
   refine cF (by simp) ?_
   refine WP.exit ?_
   simp -dsimp
   repeat(first|apply wG|(apply wR;simp -dsimp)|refine aI ?_)
   refine WP.ret (am_ (S':=mkS 36 [(2,.row 0)] [(0,.row 63 61 (catS ls).length ((sgC (catS ls)).map .d))]) (Wk.go [] 500 0 (by decide) (by simp) (by simp) (by simp)) ?_)
   simp -dsimp
theorem bB_ {r:R2} (h1:isI r.1) (h2:isI r.2):OkD aj_ 3 56 [.v (.int .i64 r.1),.v (.int .i64 r.2)]:=by
 have h:∀ i,isI ((fun i=>if i=55 then r.1 else if i=56 then r.2 else 0:Nat→Int) i):=fun i=>by
  dsimp only
  split
  ·exact h1
  ·split
   ·exact h2
   ·exact vy_
 exact qn_ h 3 56 55 Ai_
theorem di_ (a b:R2):decide (a=b)=true↔a6_ [.v (.int .i64 a.1),.v (.int .i64 a.2)]=a6_ [.v (.int .i64 b.1),.v (.int .i64 b.2)]:=by
 rw[decide_eq_true_iff]
 constructor
 ·rintro rfl;rfl
 ·intro h
  simp[a6_,y4_] at h
  exact Prod.ext h.1 h.2
theorem bN_:Tryz.prog.eqGuardType Tryz.prog.depth 56=false:=by kernel_rfl
theorem nG_:(match Tryz.prog.underlying 56 with|some (.struct _)|some (.array _ _)=>true|_=>false)=true:=by rw[Tryz.underlying56]
abbrev uA_ (r:R2):Box:=.cells 56 [.d (.v (.int .i64 r.1)),.d (.v (.int .i64 r.2))]
theorem qo_ (p:Sg) (r:R2) (hp:aL_ p) (hr1:isI r.1) (hr2:isI r.2):Fun Tryz.prog 21 [.d (sgV p),.ptr 1000 0] [(1000,uA_ r)] (.d (.v (.bool (decide (refS p≠r))))) [(1000,uA_ r)] fun _=>False:=by
 have l1:=az_ hp
 have h57:=b4_ p
 refine ac_ (pn:=ao_) aa_ Tryz.func21 rfl fun β0=>?_
 simp only[Tryz.f21]
 simp only[sgV]
 repeat(first|apply wG|(apply wR;simp -dsimp[l1])|refine aI ?_)
 refine And.intro (sgc_oneD hp) ?_
 repeat(first|apply wG|(apply wR;simp -dsimp[l1,h57])|refine aI ?_)
 refine ad_ e7_ (ko_ p.1) rfl rfl (by simp[fD]) ?_
 simp -dsimp
 repeat(first|apply wG|(apply wR;simp -dsimp)|refine aI ?_)
 refine bq_ aa_ qd_ cH_ rfl (.inr rfl) (m:=5) (by omega) bv_ (by decide) bN_ nG_ (cs:=[.v (.int .i64 (p.1 0)),.v (.int .i64 (p.1 1))]) (es:=[.v (.int .i64 r.1),.v (.int .i64 r.2)]) (.refl _) (ag_ [.v (.int .i64 r.1),.v (.int .i64 r.2)]) (bB_ (r:=refS p) (hp.1.1 0) (hp.1.1 1)) (bB_ hr1 hr2) (di_ (refS p) r) ?_
 simp -dsimp
 repeat(first|apply wG|(apply wR;simp -dsimp)|refine aI ?_)
 refine WP.ret (ab_ ?_)
 simp -dsimp[eqRes]
def preR (r:R2) (l:List Sg):Nat:=(l.takeWhile fun p=>decide (refS p=r)).length
theorem sN_ (r:R2) (l:List Sg):preR r l≤l.length:=(List.takeWhile_sublist _).length_le
theorem hX_ (r:R2) (p:Sg) (l:List Sg):preR r (p::l)=if refS p=r then preR r l+1 else 0:=by
 rw[preR,List.takeWhile_cons]
 by_cases h:refS p=r
 ·rw[if_pos h,if_pos (by simp[h])];rfl
 ·rw[if_neg h,if_neg (by simp[h])];rfl
theorem nZ_ (r:R2):∀ (l:List Sg) (i:Nat) (hi:i<l.length),i≤preR r l→(refS l[i]=r→i+1≤preR r l)∧(refS l[i]≠r→preR r l=i)
 | p::l,0,_,_=>by
  rw[hX_]
  constructor
  ·intro h
   have h:refS p=r:=h
   rw[if_pos h];omega
  ·intro h
   have h:refS p≠r:=h
   rw[if_neg h]
 | p::l,i+1,hi,h=>by
  rw[hX_] at h ⊢
  split
  ·rename_i he
   rw[if_pos he] at h
   obtain⟨h1,h2⟩:=nZ_ r l i (by simpa using hi) (by omega)
   exact⟨fun k=>by have:=h1 k;omega,fun k=>by rw[h2 k]⟩
  ·rename_i he
   rw[if_neg he] at h
   omega
theorem hW_ (r:R2):∀ (l:List Sg) (i:Nat),i≤preR r l→ofR r (l.take i)=l.take i
 | [],i,_=>by simp[ofR]
 | p::l,0,_=>by simp[ofR]
 | p::l,i+1,h=>by
  rw[hX_] at h
  split at h
  ·rename_i he
   have:=hW_ r l i (by omega)
   rw[ofR] at this ⊢
   rw[List.take_succ_cons,List.filter_cons,if_pos (by simp[he]),this]
  ·omega
def vE_ (r:R2) (l:List Sg):Int:=if preR r l=l.length then -1 else preR r l
theorem nK_ {x:List Sg} {i:Nat} (hi:i<x.length) (h:∀ q∈x,aL_ q):List.take 61 (List.drop (i*61) ((sgC x).map AV.d))=(sgc x[i]).map .d:=by
 rw[← List.map_drop,← List.map_take,bl_ hi h]
abbrev sgB (l:List Sg):Box:=.row 63 61 l.length ((sgC l).map .d)
abbrev Cu_ (k:Nat):AV:=.fn (.func 21) [] [.ptr k 0]
abbrev ixS (l:List Sg) (r:R2) (i:Nat):St:=mkS 19 [(0,.row 1000),(1,Cu_ 1001),(7,.d (.v (.int .i64 l.length))),(8,.d (.v (.int .i64 i)))] [(1000,sgB l),(1001,uA_ r)]
theorem vC_ (l:List Sg) (r:R2) (hl:∀ p∈l,aL_ p) (hn:l.length≤1000) (hr1:isI r.1) (hr2:isI r.2):Fun Tryz.prog 48 [.row 1000,Cu_ 1001] [(1000,sgB l),(1001,uA_ r)] (.d (.v (.int .i64 (vE_ r l)))) [(1000,sgB l),(1001,uA_ r)] fun _=>False:=by
 have hp:=sN_ r l
 have lc:=sgC_len hl
 refine ac_ (pn:=ao_) aa_ Tryz.func48 rfl fun β0=>?_
 simp only[Tryz.f48]
 repeat(first|apply wG|(apply wR;simp -dsimp)|refine aI ?_)
 refine ak_ (fun m S=>∃ i,m=l.length-i∧i≤preR r l∧S=ixS l r i) l.length (S0:=ixS l r 0) (ae_ [] (by simp) (by simp)) ⟨0,rfl,by omega,rfl⟩ ?_
 rintro m _ ⟨i,rfl,hi,rfl⟩
 simp -dsimp
 repeat(first|apply wG|(apply wR;simp -dsimp)|refine aI ?_)
 by_cases hil:i<l.length
 ·have hat:=nK_ hil hl
  have hok:=hl l[i] (List.getElem_mem hil)
  obtain⟨hp1,hp2⟩:=nZ_ r l i hil hi
  have e1:IntKind.i64.wrap ((i:Int)+1)=((i+1:Nat):Int):=by rw[IntWalk.i64_in _ (by omega)];omega
  generalize l[i]=p at hat hok hp1 hp2
  have l2:=az_ hok
  refine cT (by simp;omega) ?_
  refine WP.skip ?_
  simp -dsimp
  repeat(first|apply wG|(apply wR;simp -dsimp[hat,l2])|refine aI ?_)
  refine vcStop.call iQ_ (qo_ p r hok hr1 hr2) (rl [(1000,1001)]) rfl rfl (by simp[sgV,BoxLeq]) (ai_ (by simp[sgV,BoxLeq]) rfl (by first|rfl|(simp[sgV,BoxLeq];done)) (by simp[sgV,BoxLeq]) (by simp[sgV,BoxLeq])) (fun _ h=>h.elim) (fun ⟨_,h⟩=>h.elim) (fun ⟨_,h⟩=>h.elim) (by simp[sgV,BoxLeq]) ?_
  simp -dsimp
  repeat(first|apply wG|(apply wR;simp -dsimp)|refine aI ?_)
  by_cases hre:refS p=r
  ·refine cF (by simp[hre]) ?_
   refine WP.skip ?_
   simp -dsimp
   repeat(first|apply wG|(apply wR;simp -dsimp)|refine aI ?_)
   refine loopW.next (ixS l r (i+1)) (ae_ [] (by simp[e1]) (by simp)) (l.length-(i+1)) (by omega) ⟨i+1,rfl,hp1 hre,rfl⟩
  ·refine cT (by simp[hre]) ?_
   repeat(first|apply wG|(apply wR;simp -dsimp)|refine aI ?_)
   have hi2:vE_ r l=i:=by rw[vE_,if_neg (by have:=hp2 hre;omega),hp2 hre]
   refine WP.ret (ab_ ?_)
   simp -dsimp[hi2]
 ·refine cF (by simp;omega) ?_
  refine WP.exit ?_
  simp -dsimp
  repeat(first|apply wG|(apply wR;simp -dsimp)|refine aI ?_)
  have hi2:vE_ r l=-1:=by rw[vE_,if_pos (by omega)]
  refine WP.ret (ab_ ?_)
  simp -dsimp[hi2]
theorem xD_ {x:List Sg} (h:∀ q∈x,aL_ q) {i:Nat} (hi:i<x.length) {p:Sg} (hp:aL_ p):setL ((sgC x).map AV.d) (i*61) ((sgc p).map .d)=(sgC (x.set i p)).map .d:=by
 have lc:=sgC_len h
 have l2:=az_ hp
 rw[co_ _ _ _ (by rw[List.length_map,List.length_map];omega),← List.map_take,← List.map_drop,(he_ h (by omega)).1,List.length_map,l2,show i*61+61=(i+1)*61 by omega,(he_ h (by omega)).2,← List.map_append,← List.map_append]
 congr 1
 rw[List.set_eq_take_append_cons_drop,if_pos hi,a2_]
 rw[show sgC (p::x.drop (i+1))=sgc p++sgC (x.drop (i+1)) from rfl,List.append_assoc]
theorem hn_ (r:R2) (l:List Sg) (p:Sg):ofR r (l++[p])=if refS p=r then ofR r l++[p] else ofR r l:=by
 rw[ofR,List.filter_append]
 by_cases h:refS p=r
 ·rw[if_pos h];simp[h,ofR]
 ·rw[if_neg h];simp[h,ofR]
theorem kH_ (r:R2) (l:List Sg):(ofR r l).length≤l.length:=List.length_filter_le _ _
def midR (r:R2) (l:List Sg) (j:Nat):List Sg:=ofR r (l.take j)++l.drop (ofR r (l.take j)).length
theorem pW_ (r:R2) (l:List Sg) (j:Nat):(midR r l j).length=l.length:=by
 have h1:=kH_ r (l.take j)
 have h2:=List.length_take_le' j l
 rw[midR,List.length_append,List.length_drop]
 omega
theorem x3_ {r:R2} {l:List Sg} (h:∀ q∈l,aL_ q) (j:Nat):∀ q∈midR r l j,aL_ q:=fun q hq=>by
 rcases List.mem_append.1 hq with hq|hq
 ·exact h q (List.mem_of_mem_take (List.mem_filter.1 hq).1)
 ·exact h q (List.mem_of_mem_drop hq)
theorem x5_ {r:R2} {l:List Sg} {j:Nat} (hj:j<l.length) (hlt:(ofR r (l.take j)).length≤j):(midR r l j)[j]'(by rw[pW_];exact hj)=l[j]:=by
 simp only[midR]
 rw[List.getElem_append_right hlt,List.getElem_drop]
 congr 1
 omega
theorem n3_ {r:R2} {l:List Sg} {j:Nat} (hj:j<l.length) (hr:refS l[j]≠r):ofR r (l.take (j+1))=ofR r (l.take j):=by
 rw[List.take_add_one,List.getElem?_eq_getElem hj]
 simp only[Option.toList_some]
 rw[hn_,if_neg hr]
theorem x4_ {r:R2} {l:List Sg} {j:Nat} (hj:j<l.length) (hr:refS l[j]≠r):midR r l (j+1)=midR r l j:=by
 have e:ofR r (l.take (j+1))=ofR r (l.take j):=by
  rw[List.take_add_one,List.getElem?_eq_getElem hj]
  simp only[Option.toList_some]
  rw[hn_,if_neg hr]
 rw[midR,midR,e]
theorem vm_ {r:R2} {l:List Sg} {j:Nat} (hj:j<l.length) (hr:refS l[j]=r) (hlt:(ofR r (l.take j)).length<l.length):midR r l (j+1)=(midR r l j).set (ofR r (l.take j)).length l[j]∧(ofR r (l.take (j+1))).length=(ofR r (l.take j)).length+1:=by
 have e:ofR r (l.take (j+1))=ofR r (l.take j)++[l[j]]:=by
  rw[List.take_add_one,List.getElem?_eq_getElem hj]
  simp only[Option.toList_some]
  rw[hn_,if_pos hr]
 refine⟨?_,by rw[e];simp⟩
 rw[midR,midR,e,List.set_append_right _ _ (Nat.le_refl _),Nat.sub_self,List.drop_eq_getElem_cons hlt,List.set_cons_zero]
 simp
abbrev dlS (l:List Sg) (r:R2) (i j:Nat):St:=mkS 42 [(0,.row 1000),(1,Cu_ 1001),(5,.d (.v (.int .i64 i))),(6,.d (.v (.int .i64 j)))] [(1000,.row 63 61 l.length ((sgC (midR r l j)).map .d)),(1001,uA_ r)]
theorem tP_ (l:List Sg) (r:R2) (hl:∀ p∈l,aL_ p) (hn:l.length≤1000) (hr1:isI r.1) (hr2:isI r.2):Fun Tryz.prog 24 [.row 1000,Cu_ 1001] [(1000,sgB l),(1001,uA_ r)] (.row 0) [(0,sgB (ofR r l)),(1001,uA_ r)] fun _=>False:=by
 have hp:=sN_ r l
 refine ac_ (pn:=ao_) aa_ Tryz.func24 rfl fun β0=>?_
 simp only[Tryz.f24]
 repeat(first|apply wG|(apply wR;simp -dsimp)|refine aI ?_)
 refine vcStop.call o0_ (vC_ l r hl hn hr1 hr2) (rl [(1000,1000),(1001,1001)]) rfl rfl (by simp[BoxLeq]) (ai_ (by simp[BoxLeq]) rfl (by first|rfl|(simp[BoxLeq];done)) (by simp[BoxLeq]) (by simp[BoxLeq])) (fun _ h=>h.elim) (fun ⟨_,h⟩=>h.elim) (fun ⟨_,h⟩=>h.elim) (by simp[BoxLeq]) ?_
 simp -dsimp
 repeat(first|apply wG|(apply wR;simp -dsimp)|refine aI ?_)
 by_cases hall:preR r l=l.length
 ·have hof:ofR r l=l:=by
   have:=hW_ r l l.length (by omega)
   rwa[List.take_length] at this
  have hi2:vE_ r l=-1:=by rw[vE_,if_pos hall]
  refine cT (by simp[hi2]) ?_
  repeat(first|apply wG|(apply wR;simp -dsimp)|refine aI ?_)
  rw[hof]
  refine WP.ret (am_ (S':=mkS 42 [(4,.row 0)] [(0,sgB l),(1001,uA_ r)]) (Wk.go [] 1000 0 (by decide) (by simp) (by simp) (by simp)) ?_)
  simp -dsimp
 ·have hi2:vE_ r l=(preR r l:Nat):=by rw[vE_,if_neg hall]
  generalize hq:preR r l=q at hp hall hi2
  have hql:q<l.length:=by omega
  have e0:IntKind.i64.wrap ((q:Int)+1)=((q+1:Nat):Int):=by rw[IntWalk.i64_in _ (by omega)];omega
  have h0:ofR r (l.take q)=l.take q:=hW_ r l q (by omega)
  have hq2:refS l[q]≠r:=fun h=>by have:=(nZ_ r l q hql (by omega)).1 h;omega
  have h1:ofR r (l.take (q+1))=l.take q:=by
   rw[List.take_add_one,List.getElem?_eq_getElem hql]
   simp only[Option.toList_some]
   rw[hn_,if_neg hq2,h0]
  have hm1:midR r l (q+1)=l:=by
   rw[midR,h1,List.length_take,Nat.min_eq_left (by omega),List.take_append_drop]
  have hmn:min q l.length=q:=by omega
  rw[hi2]
  refine cF (by simp) ?_
  refine WP.skip ?_
  simp -dsimp
  repeat(first|apply wG|(apply wR;simp -dsimp[e0])|refine aI ?_)
  refine ak_ (fun m S=>∃ j,m=l.length-j∧j≤l.length∧(ofR r (l.take j)).length<j∧S=dlS l r (ofR r (l.take j)).length j) (l.length-(q+1)) (S0:=dlS l r (ofR r (l.take (q+1))).length (q+1)) (ae_ [] (by simp[h1,e0,hmn]) (by simp[hm1])) ⟨q+1,rfl,by omega,by rw[h1,List.length_take];omega,rfl⟩ ?_
  rintro m _ ⟨j,rfl,hjl,hlt,rfl⟩
  have hYl:=pW_ r l j
  have hYk:=x3_ (r:=r) hl j
  have lc:=sgC_len hYk
  simp -dsimp
  repeat(first|apply wG|(apply wR;simp -dsimp)|refine aI ?_)
  by_cases hj:j<l.length
  ·have hat:=nK_ (x:=midR r l j) (i:=j) (by omega) hYk
   rw[x5_ hj (by omega)] at hat
   have hno:=x4_ (r:=r) hj
   have hon:=n3_ (r:=r) hj
   have hyes:=vm_ (r:=r) hj
   have hok:=hl l[j] (List.getElem_mem hj)
   have l2:=az_ hok
   have hts:=dQ_ hok
   have e1:IntKind.i64.wrap ((j:Int)+1)=((j+1:Nat):Int):=by rw[IntWalk.i64_in _ (by omega)];omega
   refine cT (by simp;omega) ?_
   refine WP.skip ?_
   simp -dsimp
   repeat(first|apply wG|(apply wR;simp -dsimp[hat,l2,hts])|refine aI ?_)
   refine And.intro (sgc_oneD hok) ?_
   repeat(first|apply wG|(apply wR;simp -dsimp[l2,hts])|refine aI ?_)
   generalize hp:l[j]=p at hat hno hon hyes hok l2 hts
   refine vcStop.call iQ_ (qo_ p r hok hr1 hr2) (rl [(1000,1001)]) rfl rfl (by simp[sgV,BoxLeq]) (ai_ (by simp[sgV,BoxLeq]) rfl (by first|rfl|(simp[sgV,BoxLeq];done)) (by simp[sgV,BoxLeq]) (by simp[sgV,BoxLeq])) (fun _ h=>h.elim) (fun ⟨_,h⟩=>h.elim) (fun ⟨_,h⟩=>h.elim) (by simp[sgV,BoxLeq]) ?_
   simp -dsimp
   repeat(first|apply wG|(apply wR;simp -dsimp)|refine aI ?_)
   have hbd:(ofR r (l.take j)).length<l.length:=by omega
   by_cases hre:refS p=r
   ·obtain⟨hy1,hy2⟩:=hyes hre hbd
    have hst:=xD_ hYk (i:=(ofR r (l.take j)).length) (by omega) hok
    rw[← hy1] at hst
    have e2:IntKind.i64.wrap (((ofR r (l.take j)).length:Int)+1)=(((ofR r (l.take j)).length+1:Nat):Int):=by rw[IntWalk.i64_in _ (by omega)];omega
    refine cT (by simp[hre]) ?_
    repeat(first|apply wG|(apply wR;simp -dsimp[l2,hts])|refine aI ?_)
    refine And.intro ⟨by omega,sgc_oneD hok⟩ ?_
    repeat(first|apply wG|(apply wR;simp -dsimp)|refine aI ?_)
    refine loopW.next (dlS l r (ofR r (l.take (j+1))).length (j+1)) (ae_ [7] (by simp[e1,e2,hy2]) (by simp[hst])) (l.length-(j+1)) (by omega) ⟨j+1,rfl,by omega,by omega,rfl⟩
   ·refine cF (by simp[hre]) ?_
    refine WP.skip ?_
    simp -dsimp
    repeat(first|apply wG|(apply wR;simp -dsimp)|refine aI ?_)
    have h3:=hno hre
    have h4:=hon hre
    refine loopW.next (dlS l r (ofR r (l.take (j+1))).length (j+1)) (ae_ [7] (by simp[e1,h4]) (by simp[h3])) (l.length-(j+1)) (by omega) ⟨j+1,rfl,by omega,by rw[h4];omega,rfl⟩
  ·have hje:j=l.length:=by omega
   subst hje
   have hti:(midR r l l.length).take (ofR r l).length=ofR r l:=by
    rw[midR,List.take_length,List.take_left]
   rw[List.take_length] at *
   refine cF (by simp) ?_
   refine WP.exit ?_
   simp -dsimp
   repeat(first|apply wG|(apply wR;simp -dsimp)|refine aI ?_)
   have hnl:=mm_
   generalize midR r l l.length=Y at hYl hYk lc hti
   refine hB_ aa_ (k:=1000) rfl rfl rfl rfl rfl (m:=(ofR r l).length) hlt rfl ?_
   simp -dsimp
   refine hG_ aa_ rfl rfl rfl rfl rfl rfl (by simp[lc,hYl];omega) (by omega) ?_
   simp -dsimp
   repeat(first|apply wG|(apply wR;simp -dsimp)|refine aI ?_)
   refine ci_ aa_ (j:=1000) (k:=500) (m:=(ofR r l).length) rfl rfl rfl rfl rfl (by omega) (by omega) rfl (by simp;exact mm_ _ _ _ _) ?_
   simp -dsimp
   repeat(first|apply wG|(apply wR;simp -dsimp)|refine aI ?_)
   have hfin:List.take ((ofR r l).length*61) (setL (List.map AV.d (sgC Y)) ((ofR r l).length*61) (List.replicate ((l.length-(ofR r l).length)*61) (AV.d D.any)))=(sgC (ofR r l)).map .d:=by
    rw[co_ _ _ _ (by rw[List.length_map,List.length_replicate,lc,hYl];omega),List.append_assoc,List.take_left' (by rw[List.length_take,List.length_map,lc,hYl];omega),← List.map_take,(he_ hYk (by omega)).1,hti]
   refine WP.ret (am_ (S':=mkS 42 [(4,.row 0)] [(0,sgB (ofR r l)),(1001,uA_ r)]) (Wk.go [] 500 0 (by decide) (by simp[hfin]) (by simp) (by simp[hfin])) ?_)
   simp -dsimp
def fk0:Sg×Sg:=((f0,zs),(f0,zs))
def fndR (a b:List Sg) (r:R2):Sg×Sg:=(fndO a b r).getD fk0
theorem rN_ (a b:List Sg) (ha:∀ p∈a,aL_ p) (hb:∀ p∈b,aL_ p) (hn:a.length+b.length≤900):Fun Tryz.prog 25 [.row 1000] [(1000,.row 23 1 2 [.d (.sl 61 (sgC a) a.length false),.d (.sl 61 (sgC b) b.length false)])] (.row 0) [(0,sgB (a++b))] fun _=>False:=by
 have h:=aW_ 1000 (T:=23) (cs:=[.sl 61 (sgC a) a.length false,.sl 61 (sgC b) b.length false]) (args':=[.row 1000]) (bi':=[(1000,.row 23 1 2 [.d (.sl 61 (sgC a) a.length false),.d (.sl 61 (sgC b) b.length false)])]) (rL_ [a,b] (by simp) (by simp[catS];omega) (fun l hl p hp=>by
  simp only[List.mem_cons,List.not_mem_nil,or_false] at hl
  rcases hl with rfl|rfl
  ·exact ha p hp
  ·exact hb p hp)) rfl rfl trivial
 simpa [catS,sgB] using h
theorem tD_ (l:List Sg) (hl:∀ p∈l,aL_ p) (hn:l.length≤900):Fun Tryz.prog 23 [.row 1000] [(1000,sgB l)] (.d (slK (frkL l))) [] fun _=>False :=
 aW_ 1000 (T:=63) (cs:=sgC l) (args':=[.row 1000]) (bi':=[(1000,sgB l)]) (vM_ l false hl hn) rfl rfl trivial
theorem vP_ (a b:List Sg) (r:R2) (ha:∀ p∈a,aL_ p) (hb:∀ p∈b,aL_ p) (hn:a.length+b.length≤900) (hr1:isI r.1) (hr2:isI r.2):Fn0 Tryz.prog 11 [lgD a false,lgD b false,rfD r] (.tup [.agg (fkc (fndR a b r)),.v (.bool (fndO a b r).isSome)]):=by
 have hab:∀ p∈a++b,aL_ p:=fun p hp=>by
  rcases List.mem_append.1 hp with h|h
  ·exact ha p h
  ·exact hb p h
 have hrk:∀ p∈ofR r (a++b),aL_ p:=fun p hp=>hab p (List.mem_filter.1 hp).1
 have hfk:=tD_ (ofR r (a++b)) hrk (by have:=kH_ r (a++b);rw[List.length_append] at this;omega)
 rw[ql_] at hfk
 refine ac_ (pn:=ao_) aa_ Tryz.func11 rfl fun β0=>?_
 simp only[Tryz.f11]
 repeat(first|apply wG|(apply wR;simp -dsimp)|refine aI ?_)
 refine vcStop.call pg_ (rN_ a b ha hb hn) (rl [(1000,15),(0,600)]) rfl rfl (by simp[BoxLeq]) (ai_ (by simp[BoxLeq]) rfl (by first|rfl|(simp[BoxLeq];done)) (by simp[BoxLeq]) (by simp[BoxLeq])) (fun _ h=>h.elim) (fun ⟨_,h⟩=>h.elim) (fun ⟨_,h⟩=>h.elim) (by simp[BoxLeq]) ?_
 simp -dsimp
 repeat(first|apply wG|(apply wR;simp -dsimp)|refine aI ?_)
 refine vcStop.call ph_ (tP_ (a++b) r hab (by rw[List.length_append];omega) hr1 hr2) (rl [(1000,600),(1001,5),(0,601)]) rfl rfl (by simp[BoxLeq]) (ai_ (by simp[BoxLeq]) rfl (by first|rfl|(simp[BoxLeq];done)) (by simp[BoxLeq]) (by simp[BoxLeq])) (fun _ h=>h.elim) (fun ⟨_,h⟩=>h.elim) (fun ⟨_,h⟩=>h.elim) (by simp[BoxLeq]) ?_
 simp -dsimp
 repeat(first|apply wG|(apply wR;simp -dsimp)|refine aI ?_)
 refine vcStop.call pi_ (hfk) (rl [(1000,601)]) rfl rfl (by simp[BoxLeq]) (ai_ (by simp[BoxLeq]) rfl (by first|rfl|(simp[BoxLeq];done)) (by simp[BoxLeq]) (by simp[BoxLeq])) (fun _ h=>h.elim) (fun ⟨_,h⟩=>h.elim) (fun ⟨_,h⟩=>h.elim) (by simp[BoxLeq]) ?_
 simp -dsimp
 repeat(first|apply wG|(apply wR;simp -dsimp)|refine aI ?_)
 have hq2:∀ q,two (shlf r (a++b))=some q→aL_ q.1∧aL_ q.2:=fun q h=>by
  obtain⟨h1,h2,_⟩:=se_ (fun s hs=>(hab s hs).1) (a:=q.1) (b:=q.2) h
  exact⟨hab _ (bd_ h1),hab _ (bd_ h2)⟩
 have hfo:fndO a b r=two (shlf r (a++b)):=rfl
 have hfr:fndR a b r=(two (shlf r (a++b))).getD fk0:=rfl
 rw[hfo,hfr]
 cases h:two (shlf r (a++b)) with
 | none =>
  refine cT (by simp) ?_
  repeat(first|apply wG|(apply wR;simp -dsimp)|refine aI ?_)
  refine WP.ret (ab_ ?_)
  simp -dsimp
  exact (Leq.tup (l:=[.agg ((fkc fk0).map .d),.d (.v (.bool false))]) (l':=[.d (.agg (fkc fk0)),.d (.v (.bool false))]) ⟨ag_ (fkc fk0),.refl _,trivial⟩).trans (cd_ [.agg (fkc fk0),.v (.bool false)])
 | some q =>
  obtain⟨hqa,hqb⟩:=hq2 q h
  have fl:=eS_ hqa hqb
  have fo:=gk_ hqa hqb
  have e1:fkC [q]=fkc q:=by simp[fkC]
  have ft:List.take 122 (fkc q)=fkc q:=List.take_of_length_le (by omega)
  refine cF (by simp) ?_
  refine WP.skip ?_
  simp -dsimp
  repeat(first|apply wG|(apply wR;simp -dsimp[e1,ft,fl])|refine aI ?_)
  refine WP.ret (ab_ ?_)
  simp -dsimp[fl]
  rw[show List.take 122 ((fkc q).map AV.d)=(fkc q).map .d from List.take_of_length_le (by rw[List.length_map,fl];omega)]
  exact (Leq.tup (l:=[.agg ((fkc q).map .d),.d (.v (.bool true))]) (l':=[.d (.agg (fkc q)),.d (.v (.bool true))]) ⟨ag_ (fkc q),.refl _,trivial⟩).trans (cd_ [.agg (fkc q),.v (.bool true)])
theorem od_ (a b:List Sg) (ba bb:Bool) (r:R2) (ha:∀ p∈a,aL_ p) (hb:∀ p∈b,aL_ p) (hn:a.length+b.length≤900) (hr1:isI r.1) (hr2:isI r.2):Fn0 Tryz.prog 11 [lgD a ba,lgD b bb,rfD r] (.tup [.agg (fkc (fndR a b r)),.v (.bool (fndO a b r).isSome)]) :=
 wx_ (vP_ a b r ha hb hn hr1 hr2) (by simp)
end Go.Proofs.YtdjkbdhdejlakaaGreatDoor
