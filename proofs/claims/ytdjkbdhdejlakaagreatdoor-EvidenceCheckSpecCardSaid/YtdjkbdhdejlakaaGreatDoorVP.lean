/-
  Joined texts.
-/
import Derived.Test.YtdjkbdhdejlakaaGreatDoorVI
set_option maxRecDepth 10000
set_option linter.unusedVariables false
set_option linter.unusedSimpArgs false
set_option linter.unusedSectionVars false
namespace Go.Proofs.YtdjkbdhdejlakaaGreatDoor
open Go.Xe Go.RowKit
def lsA (M:List Int) (j:Nat):Bool:=decide (M[j]?.getD 0<M[j-1]?.getD 0)
def swA (M:List Int) (j:Nat):List Int:=(M.set j (M[j-1]?.getD 0)).set (j-1) (M[j]?.getD 0)
def p8_:Nat→List Int→List Int
 | 0,M=>M
 | j+1,M=>if lsA M (j+1)=true then p8_ j (swA M (j+1)) else M
def outA:Nat→List Int→List Int
 | 0,M=>M
 | i+1,M=>p8_ i (outA i M)
def isA (M:List Int):List Int:=outA (max 1 M.length) M
theorem swA_len (M:List Int) (j:Nat):(swA M j).length=M.length:=by simp[swA]
theorem p7_:∀ (j:Nat) (M:List Int),(p8_ j M).length=M.length
 | 0,M=>rfl
 | j+1,M=>by
  rw[p8_]
  split
  ·rw[p7_,swA_len]
  ·rfl
theorem hj_:∀ (i:Nat) (M:List Int),(outA i M).length=M.length
 | 0,M=>rfl
 | i+1,M=>by rw[outA,p7_,hj_]
theorem tk_ (M:List Int):(isA M).length=M.length:=hj_ _ _
theorem xo_ (A R:List Int) (a x:Int):swA ((A++[a])++x::R) (A.length+1)=A++x::a::R:=by
 have h1:((A++[a])++x::R)[A.length+1]?.getD 0=x:=by simp
 have h2:((A++[a])++x::R)[A.length]?.getD 0=a:=by simp
 rw[swA,h1,Nat.add_sub_cancel,h2]
 simp
theorem x7_ (A R:List Int) (a x:Int):lsA ((A++[a])++x::R) (A.length+1)=decide (x<a):=by
 have h1:((A++[a])++x::R)[A.length+1]?.getD 0=x:=by simp
 have h2:((A++[a])++x::R)[A.length]?.getD 0=a:=by simp
 rw[lsA,h1,Nat.add_sub_cancel,h2]
theorem tq_:∀ (j:Nat) (A R:List Int) (x:Int),A.length=j→A.Pairwise (fun a b=>a≤b)→∃ C:List Int,p8_ j (A++x::R)=C++R∧C.Perm (x::A)∧C.Pairwise (fun a b=>a≤b)
 | 0,A,R,x,hl,_=>by
  have:A=[]:=List.eq_nil_of_length_eq_zero hl
  subst this
  exact⟨[x],rfl,List.Perm.refl _,by simp⟩
 | j+1,A,R,x,hl,hs=>by
  rcases List.eq_nil_or_concat A with rfl|⟨B,a,rfl⟩
  ·cases hl
  ·rw[List.concat_eq_append] at hl hs ⊢
   have hb:B.length=j:=by simpa using hl
   subst hb
   rw[p8_,x7_,xo_]
   obtain⟨h1,h2,h3⟩:=List.pairwise_append.1 hs
   by_cases hx:x<a
   ·rw[if_pos (by simp[hx])]
    obtain⟨C,e,hp,hc⟩:=tq_ B.length B (a::R) x rfl h1
    refine⟨C++[a],by rw[e];simp,?_,?_⟩
    ·exact (hp.append_right [a]).trans (List.Perm.refl _)
    ·refine List.pairwise_append.2 ⟨hc,by simp,fun p hp' q hq=>?_⟩
     rw[List.mem_singleton] at hq
     subst hq
     rcases List.mem_cons.1 (hp.mem_iff.1 hp') with rfl|h
     ·omega
     ·exact h3 p h q (by simp)
   ·rw[if_neg (by simp[hx])]
    refine⟨(B++[a])++[x],by simp,?_,?_⟩
    ·exact List.perm_append_comm.trans (List.Perm.refl _)
    ·refine List.pairwise_append.2 ⟨hs,by simp,fun p hp q hq=>?_⟩
     rw[List.mem_singleton] at hq
     subst hq
     rcases List.mem_append.1 hp with h|h
     ·have:=h3 p h a (by simp);omega
     ·rw[List.mem_singleton] at h;subst h;omega
theorem sV_ (M:List Int):∀ i,i≤M.length→∃ C:List Int,outA i M=C++M.drop i∧C.Perm (M.take i)∧C.Pairwise (fun a b=>a≤b)
 | 0,_=>⟨[],by simp[outA],by simp,List.Pairwise.nil⟩
 | i+1,hi=>by
  obtain⟨C,e,hp,hc⟩:=sV_ M i (by omega)
  have hl:C.length=i:=by rw[hp.length_eq];simp;omega
  rw[outA,e,List.drop_eq_getElem_cons (by omega:i<M.length)]
  obtain⟨D,e2,hp2,hd⟩:=tq_ i C (M.drop (i+1)) M[i] hl hc
  refine⟨D,e2,?_,hd⟩
  refine hp2.trans ?_
  rw[List.take_add_one,List.getElem?_eq_getElem (by omega:i<M.length)]
  exact (List.Perm.cons _ hp).trans (List.perm_append_comm (l₁:=[M[i]]))
theorem id_ (M:List Int):(isA M).Perm M∧(isA M).Pairwise (fun a b=>a≤b):=by
 rcases Nat.eq_zero_or_pos M.length with h|h
 ·have:M=[]:=List.eq_nil_of_length_eq_zero h
  subst this
  exact⟨List.Perm.refl _,List.Pairwise.nil⟩
 ·obtain⟨C,e,hp,hc⟩:=sV_ M M.length (Nat.le_refl _)
  have e2:isA M=C:=by rw[isA,Nat.max_eq_right h,e];simp
  rw[e2]
  refine⟨?_,hc⟩
  simpa using hp
theorem wJ_:∀ {A B:List Int},A.Perm B→A.Pairwise (fun a b=>a≤b)→B.Pairwise (fun a b=>a≤b)→A=B
 | [],B,h,_,_=>(List.Perm.nil_eq h)
 | a::A,[],h,_,_=>absurd h.length_eq (by simp)
 | a::A,b::B,h,ha,hb=>by
  obtain⟨ha1,ha2⟩:=List.pairwise_cons.1 ha
  obtain⟨hb1,hb2⟩:=List.pairwise_cons.1 hb
  have e:a=b:=by
   have h1:a≤b:=by
    rcases List.mem_cons.1 (h.mem_iff.2 (List.mem_cons_self (a:=b) (l:=B))) with e|h'
    ·exact Int.le_of_eq e.symm
    ·exact ha1 b h'
   have h2:b≤a:=by
    rcases List.mem_cons.1 (h.mem_iff.1 (List.mem_cons_self (a:=a) (l:=A))) with e|h'
    ·exact Int.le_of_eq e.symm
    ·exact hb1 a h'
   omega
  subst e
  rw[wJ_ ((List.perm_cons a).1 h) ha2 hb2]
theorem vz_ {A B:List Int} (h:A.Perm B):isA A=isA B:=wJ_ ((id_ A).1.trans (h.trans (id_ B).1.symm)) (id_ A).2 (id_ B).2
theorem Ab_ {M:List Int} (h:M.Nodup):(isA M).Pairwise (fun a b=>a<b):=by
 have h1:=(id_ M).2
 have h2:(isA M).Nodup:=(id_ M).1.nodup_iff.2 h
 refine (h1.and h2).imp fun h=>?_
 obtain⟨k1,k2⟩:=h
 omega
theorem tl_ (M:List Int) (x:Int):x∈isA M↔x∈M:=(id_ M).1.mem_iff
theorem tt_ {W:List Int} {j:Nat} (h:j<W.length):atL ((ifC W).map .d) j=.d (.v (.int .i64 (W[j]?.getD 0))):=by
 rw[← b6_]
 simp[ifC,h]
theorem ifC_set (W:List Int) (j:Nat) (x:Int):((ifC W).map AV.d).set j (.d (.v (.int .i64 x)))=(ifC (W.set j x)).map .d:=by
 simp[ifC,List.map_set]
theorem innA_go {W:List Int} {j:Nat} (hj:0<j) (h:lsA W j=true):p8_ j W=p8_ (j-1) (swA W j):=by
 obtain⟨q,rfl⟩:∃ q,j=q+1:=⟨j-1,by omega⟩
 rw[p8_,if_pos h]
 rfl
theorem vB_ {W:List Int} {j:Nat} (h:j=0∨lsA W j=false):p8_ j W=W:=by
 cases j with
 | zero=>rfl
 | succ q =>
  rw[p8_,if_neg]
  rcases h with h|h
  ·omega
  ·simp[h]
theorem w1:IntKind.i64.wrap 1=1:=by decide
abbrev insI (M W:List Int) (i:Nat):St:=mkS 49 [(0,.row 1000),(1,.d (.v (.int .i64 0))),(2,.d (.v (.int .i64 M.length))),(6,.d (.v (.int .i64 i)))] [(1000,.row 3 1 M.length ((ifC W).map .d))]
abbrev insJ (M W:List Int) (i j:Nat):St:=mkS 49 [(0,.row 1000),(1,.d (.v (.int .i64 0))),(2,.d (.v (.int .i64 M.length))),(6,.d (.v (.int .i64 i))),(7,.d (.v (.int .i64 j)))] [(1000,.row 3 1 M.length ((ifC W).map .d))]
theorem ro_ (M:List Int) (hl:M.length≤1000):Fun Tryz.prog 105 [.row 1000,.d (.v (.int .i64 0)),.d (.v (.int .i64 M.length))] [(1000,ifB M)] (.d .any) [(1000,ifB (isA M))] fun _=>False:=by
 refine ac_ (pn:=ao_) aa_ Tryz.func105 rfl fun β0=>?_
 simp only[Tryz.f105]
 repeat(first|apply wG|(apply wR;simp -dsimp)|refine aI ?_)
 refine ak_ (fun m S=>∃ i,1≤i∧i+m=max 1 M.length∧S=insI M (outA i M) i) (max 1 M.length-1) (S0:=insI M (outA 1 M) 1) (ae_ [] (by simp[w1]) (by simp[outA,p8_])) ⟨1,by omega,by omega,rfl⟩ ?_
 rintro m _ ⟨i,hi1,him,rfl⟩
 simp -dsimp
 repeat(first|apply wG|(apply wR;simp -dsimp)|refine aI ?_)
 by_cases hiL:i<M.length
 ·refine cT (by simp;omega) ?_
  refine WP.skip ?_
  simp -dsimp
  repeat(first|apply wG|(apply wR;simp -dsimp)|refine aI ?_)
  refine ak_ (fun n S=>∃ j W,n=j∧j≤i∧W.length=M.length∧p8_ j W=p8_ i (outA i M)∧S=insJ M W i j) i (S0:=insJ M (outA i M) i i) (ae_ [] (by simp) (by simp)) ⟨i,outA i M,rfl,by omega,hj_ _ _,rfl,rfl⟩ ?_
  have e4:IntKind.i64.wrap ((i:Int)+1)=((i+1:Nat):Int):=by rw[IntWalk.i64_in _ (by omega)];omega
  rintro n _ ⟨j,W,rfl,hji,hWl,hin,rfl⟩
  have hat:=tt_ (W:=W) (j:=n) (by omega)
  simp -dsimp
  rcases Nat.eq_zero_or_pos n with rfl|hn0
  ·repeat(first|apply wG|(apply wR;simp -dsimp)|refine aI ?_)
   refine vcStopG.skip (.d (.v (.bool false))) ?_
   simp -dsimp
   repeat(first|apply wG|(apply wR;simp -dsimp)|refine aI ?_)
   refine cF (by simp) ?_
   refine WP.exit ?_
   simp -dsimp
   repeat(first|apply wG|(apply wR;simp -dsimp)|refine aI ?_)
   have e5:outA (i+1) M=W:=by rw[outA,← hin];rfl
   refine loopW.next (insI M (outA (i+1) M) (i+1)) (ae_ [] (by simp[e4]) (by simp[e5])) (m-1) (by omega) ⟨i+1,by omega,by omega,rfl⟩
  ·have hat1:=tt_ (W:=W) (j:=n-1) (by omega)
   have e1:IntKind.i64.wrap ((n:Int)-1)=((n-1:Nat):Int):=by rw[IntWalk.i64_in _ (by omega)];omega
   have hd:decide (0<n)=true:=by simp;omega
   repeat(first|apply wG|(apply wR;simp -dsimp[hat,hat1,e1,hd])|refine aI ?_)
   refine ah_ no_ (fun _=>vp_ (W[n]?.getD 0) (W[n-1]?.getD 0)) rfl (fun _=>rfl) (fun _=>by simp) ?_
   simp -dsimp
   repeat(first|apply wG|(apply wR;simp -dsimp)|refine aI ?_)
   by_cases hls:lsA W n=true
   ·refine cT (by rw[← hls];simp[lsA]) ?_
    refine WP.skip ?_
    simp -dsimp
    repeat(first|apply wG|(apply wR;simp -dsimp[hat,hat1,e1,hd])|refine aI ?_)
    refine loopW.next (insJ M (swA W n) i (n-1)) (ae_ [] (by simp) (by simp[ifC_set,swA])) (n-1) (by omega) ⟨n-1,swA W n,rfl,by omega,by rw[swA_len,hWl],by rw[← innA_go hn0 hls,hin],rfl⟩
   ·have hls:lsA W n=false:=by simpa using hls
    refine cF (by rw[← hls];simp[lsA]) ?_
    refine WP.exit ?_
    simp -dsimp
    repeat(first|apply wG|(apply wR;simp -dsimp)|refine aI ?_)
    have e5:outA (i+1) M=W:=by rw[outA,← hin,vB_ (.inr hls)]
    refine loopW.next (insI M (outA (i+1) M) (i+1)) (ae_ [] (by simp[e4]) (by simp[e5])) (m-1) (by omega) ⟨i+1,by omega,by omega,rfl⟩
 ·refine cF (by simp;omega) ?_
  refine WP.exit ?_
  simp -dsimp
  repeat(first|apply wG|(apply wR;simp -dsimp)|refine aI ?_)
  have e6:isA M=outA i M:=by
   rw[isA]
   congr 1
   omega
  refine be_ ?_
  simp -dsimp[e6,hj_]
theorem xM_ (M:List Int) (hl:M.length≤12) (k:Int):Fun Tryz.prog 78 [.row 1000,.d (.v (.int .i64 0)),.d (.v (.int .i64 M.length)),.d (.v (.int .i64 k))] [(1000,ifB M)] (.d .any) [(1000,ifB (isA M))] fun _=>False:=by
 refine ac_ (pn:=ao_) aa_ Tryz.func78 rfl fun β0=>?_
 simp only[Tryz.f78]
 repeat(first|apply wG|(apply wR;simp -dsimp)|refine aI ?_)
 refine ak_ (fun n S=>S=mkS 134 [(0,.row 1000),(1,.d (.v (.int .i64 0))),(2,.d (.v (.int .i64 M.length)))] [(1000,ifB M)]) 0 (S0:=mkS 134 [(0,.row 1000),(1,.d (.v (.int .i64 0))),(2,.d (.v (.int .i64 M.length)))] [(1000,ifB M)]) (ae_ [] (by simp) (by simp)) rfl ?_
 rintro n _ rfl
 have e1:IntKind.i64.wrap (M.length:Int)=M.length:=IntWalk.i64_in _ (by omega)
 simp -dsimp
 repeat(first|apply wG|(apply wR;simp -dsimp[e1])|refine aI ?_)
 refine cT (by simp[e1];omega) ?_
 repeat(first|apply wG|(apply wR;simp -dsimp)|refine aI ?_)
 refine vcStop.call np_ (ro_ M (by omega)) (rl [(1000,1000)]) rfl rfl (by simp[BoxLeq]) (ai_ (by simp[BoxLeq]) rfl (by first|rfl|(simp[BoxLeq];done)) (by simp[BoxLeq]) (by simp[BoxLeq])) (fun _ h=>h.elim) (fun ⟨_,h⟩=>h.elim) (fun ⟨_,h⟩=>h.elim) (by simp[BoxLeq]) ?_
 simp -dsimp
 repeat(first|apply wG|(apply wR;simp -dsimp)|refine aI ?_)
 refine WP.ret (ab_ ?_)
 simp -dsimp
theorem uQ_ (M:List Int) (hl:M.length≤12):Fun Tryz.prog 52 [.row 1000] [(1000,ifB M)] (.d .any) [(1000,ifB (isA M))] fun _=>False:=by
 refine ac_ (pn:=ao_) aa_ Tryz.func52 rfl fun β0=>?_
 simp only[Tryz.f52]
 have e1:IntKind.u64.wrap (M.length:Int)=M.length:=by rw[IntKind.wrap_u64];omega
 repeat(first|apply wG|(apply wR;simp -dsimp)|refine aI ?_)
 rw[e1]
 refine vcStop.call iE_ (z9_ M.length hl) (rl []) rfl rfl (by simp[BoxLeq]) (ai_ (by simp[BoxLeq]) rfl (by first|rfl|(simp[BoxLeq];done)) (by simp[BoxLeq]) (by simp[BoxLeq])) (fun _ h=>h.elim) (fun ⟨_,h⟩=>h.elim) (fun ⟨_,h⟩=>h.elim) (by simp[BoxLeq]) ?_
 simp -dsimp
 refine vcStop.call oL_ (xM_ M hl (Ed_ M.length)) (rl [(1000,1000)]) rfl rfl (by simp[BoxLeq]) (ai_ (by simp[BoxLeq]) rfl (by first|rfl|(simp[BoxLeq];done)) (by simp[BoxLeq]) (by simp[BoxLeq])) (fun _ h=>h.elim) (fun ⟨_,h⟩=>h.elim) (fun ⟨_,h⟩=>h.elim) (by simp[BoxLeq]) ?_
 simp -dsimp
 refine be_ ?_
 simp -dsimp
theorem qU_ (M:List Int) (hnd:M.Nodup) (kvs:List (Value×D)) (hkv:kvs.map (·.1)=M.map fun r=>Value.int .i64 r) (hl:M.length≤12) :
  Fun Tryz.prog 27 [.fn (.func 53) [] [.ptr 1000 0]] [(1000,.cells 87 [.row 1001]),(1001,.mp kvs)] (.row 0) [(1000,.cells 87 [.row 1001]),(1001,.mp kvs),(0,ifB (isA M))] fun _=>False:=by
 refine FunX.one (α:={o:List Int // o.Perm M}) (res:=fun _=>.row 0) (bo:=fun _=>[(1000,.cells 87 [.row 1001]),(1001,.mp kvs),(0,ifB (isA M))]) ?_ (fun _=>rfl) (fun _=>rfl)
 refine cg_ aa_ Tryz.func27 rfl fun β0=>?_
 simp only[Tryz.f27]
 refine WP.seq ?_
 refine WP.region aa_ ?_
 simp -dsimp
 repeat refine aI ?_
 refine WP.seq ?_
 refine li_ aa_ rfl ?_
 simp -dsimp
 refine fg_ oY_ (ol_ M hnd kvs hkv (by omega)) (rl [(1000,1000),(1001,1001),(0,600)]) rfl rfl (by simp) (ai_ (by simp[BoxLeq]) rfl (by first|rfl|(simp;done)) (by simp) (by simp)) (fun x=>ai_ (by simp[BoxLeq]) rfl (by first|rfl|(simp;done)) (by simp) (by simp)) (fun x=>by simp) (fun x=>?_)
 obtain⟨o,ho⟩:=x
 have hol:=ho.length_eq
 have hso:=uQ_ o (by omega)
 rw[vz_ ho] at hso
 refine⟨_,Wk.refl _,?_⟩
 simp -dsimp
 repeat(first|apply wG|(apply wR;simp -dsimp)|refine aI ?_)
 refine vcStop.call oX_ (hso) (rl [(1000,600)]) rfl rfl (by simp[BoxLeq]) (ai_ (by simp[BoxLeq]) rfl (by first|rfl|(simp[BoxLeq];done)) (by simp[BoxLeq]) (by simp[BoxLeq])) (fun _ h=>h.elim) (fun ⟨_,h⟩=>h.elim) (fun ⟨_,h⟩=>h.elim) (by simp[BoxLeq]) ?_
 simp -dsimp
 repeat(first|apply wG|(apply wR;simp -dsimp)|refine aI ?_)
 refine WP.ret (finX.ret ⟨o,ho⟩ (am_ (S':=mkS 9 [(2,.row 0)] [(1000,.cells 87 [.row 1001]),(1001,.mp kvs),(0,ifB (isA M))]) (Wk.go [] 600 0 (by decide) (by simp) (by simp) (by simp)) ?_))
 simp -dsimp
end Go.Proofs.YtdjkbdhdejlakaaGreatDoor
