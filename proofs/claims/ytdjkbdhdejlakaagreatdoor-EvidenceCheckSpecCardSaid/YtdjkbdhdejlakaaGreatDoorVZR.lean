/-
  Joined texts.
-/
import Derived.Test.YtdjkbdhdejlakaaGreatDoorVO
import Derived.Test.YtdjkbdhdejlakaaGreatDoorVG
import Derived.Test.YtdjkbdhdejlakaaGreatDoorVQ
import Derived.Test.YtdjkbdhdejlakaaGreatDoorVN
import Derived.Test.YtdjkbdhdejlakaaGreatDoorVZG
import Derived.Test.YtdjkbdhdejlakaaGreatDoorVS
set_option maxRecDepth 10000
set_option maxHeartbeats 4000000
set_option linter.unusedVariables false
set_option linter.unusedSimpArgs false
set_option linter.unusedSectionVars false
namespace Go.Proofs.YtdjkbdhdejlakaaGreatDoor
open Go.Xe Go.RowKit
theorem hU_ (f:F):Fn0 Tryz.prog 41 [fD f] (.agg [.v (.int .i64 (f 0)),.v (.int .i64 (f 1))]):=by
 refine ac_ (pn:=ao_) aa_ Tryz.func41 rfl fun β0=>?_
 simp only[Tryz.f41]
 rw[fD]
 repeat(first|apply wG|(apply wR;simp -dsimp)|refine aI ?_)
 refine WP.ret (ab_ ?_)
 simp -dsimp
abbrev fcS (l:List Sg) (b:Bool) (i:Nat) (A:List F):St:=mkS 31 [(1,.ptr 1 0),(3,.row 503),(4,.d (.v (.int .i64 (i:Nat))))] [(1,.cells 25 [.d (sgD l b)]),(503,.row 58 57 A.length ((fsC A).map .d))]
theorem k4_ (l:List Sg) (b:Bool) (hl:l.length≤1000) (hv:∀ p∈l,aL_ p):Fn0 Tryz.prog 38 [lgD l b] (slF (vF l)):=by
 refine ac_ (pn:=ao_) aa_ Tryz.func38 rfl fun β0=>?_
 simp only[Tryz.f38]
 repeat(first|apply wG|(apply wR;simp -dsimp)|refine aI ?_)
 refine ak_ (fun m S=>∃ l1 l2,l=l1++l2∧m=l2.length∧S=fcS l b l1.length (vF l1)) l.length (S0:=fcS l b 0 []) (Wk.go [] 5 503 (by decide) (by simp) (by simp) (by simp)) ⟨[],l,rfl,rfl,rfl⟩ ?_
 rintro _ _ ⟨l1,l2,hl12,rfl,rfl⟩
 simp -dsimp
 repeat(first|apply wG|(apply wR;simp -dsimp)|refine aI ?_)
 cases l2 with
 | nil =>
  simp only[List.append_nil] at hl12
  subst hl12
  refine cF (by simp) ?_
  refine WP.exit ?_
  simp -dsimp
  repeat(first|apply wG|(apply wR;simp -dsimp)|refine aI ?_)
  refine WP.ret (am_ (S':=mkS 31 [(2,.d (slF (vF l)))] []) (Wk.trans (ae_ [1] (S':=mkS 31 [(2,.row 503)] [(503,.row 58 57 (vF l).length ((fsC (vF l)).map .d))]) (by simp) (by simp)) (Wk.trans (Wk.freeze (k:=503) (T:=58) (sz:=57) (n:=(vF l).length) (ds:=fsC (vF l)) (by simp)) (ae_ [] (by simp) (by simp)))) ?_)
  simp -dsimp
 | cons p l2 =>
  have hll:l.length=l1.length+(l2.length+1):=by rw[hl12];simp
  have hp:=hv p (by rw[hl12];simp)
  have lp:=az_ hp
  have hi:l1.length<l.length:=by omega
  have h1:=bl_ hi hv
  have h1m:=nK_ hi hv
  have hre:l[l1.length]=p:=by simp[hl12]
  rw[hre] at h1 h1m
  have e1:IntKind.i64.wrap ((l1.length:Int)+1)=((l1++[p]).length:Nat):=by rw[IntWalk.i64_in _ (by omega)];simp
  have hrc:=dj_ p.1 hp.1
  rw[← (kJ_ hp.1).1] at hrc
  have hsn:=sb_ l1 p
  have h57:=b4_ p
  have h57D:=dh_ p
  have hA:(vF l1).length≤l1.length:=fh_ l1
  generalize vF l1=A at hsn hA
  generalize (numF p.1).2=c at hrc hsn
  refine cT (by simp;omega) ?_
  refine WP.skip ?_
  simp -dsimp
  repeat(first|apply wG|(apply wR;simp -dsimp[h1,h1m,h57,h57D])|refine aI ?_)
  refine ad_ dA_ hrc rfl rfl (by simp[fD]) ?_
  simp -dsimp
  repeat(first|apply wG|(apply wR;simp -dsimp)|refine aI ?_)
  cases c with
  | true =>
   simp only[if_true] at hsn
   refine cT (by simp) ?_
   repeat(first|apply wG|(apply wR;simp -dsimp[h1,h1m,h57,h57D])|refine aI ?_)
   refine loopW.next (fcS l b (l1++[p]).length (vF (l1++[p]))) (Wk.go [28,503] 29 503 (by decide) (by simp) (by simp[e1]) (by simp[hsn,fsC_append,fsC_cons])) l2.length (by simp) ⟨l1++[p],l2,by simp[hl12],rfl,rfl⟩
  | false =>
   simp only[Bool.false_eq_true,if_false,List.append_nil] at hsn
   refine cF (by simp) ?_
   refine WP.skip ?_
   simp -dsimp
   repeat(first|apply wG|(apply wR;simp -dsimp)|refine aI ?_)
   refine loopW.next (fcS l b (l1++[p]).length (vF (l1++[p]))) (ae_ [] (by simp[e1]) (by simp[hsn])) l2.length (by simp) ⟨l1++[p],l2,by simp[hl12],rfl,rfl⟩
theorem tf_ (a b:R2):Fn0 Tryz.prog 65 [rfD a,rfD b] (.v (.bool (decide (ltR a b)))):=by
 have h:decide (ltR a b)=(decide (a.1<b.1)||(decide (a.1=b.1)&&decide (a.2<b.2))):=by
  rw[Bool.eq_iff_iff,decide_eq_true_iff]
  simp[ltR]
 rw[h]
 refine ac_ (pn:=ao_) aa_ Tryz.func65 rfl fun β0=>?_
 simp only[Tryz.f65]
 repeat(first|apply wG|(apply wR;simp -dsimp)|refine aI ?_)
 refine WP.ret (ab_ ?_)
 simp -dsimp
abbrev hasS (B:List F) (f:F) (i:Nat):St:=mkS 18 [(0,.d (slF B)),(3,.ptr 3 0),(5,.d (.v (.int .i64 i)))] [(3,.cells 58 ((fcs f 0 57).map .d))]
theorem Ae_ (B:List F) (f:F) (hB:∀ g∈B,fOk g) (hf:fOk f) (hn:B.length≤1000):Fn0 Tryz.prog 39 [slF B,fD f] (.v (.bool (fG_ B f))):=by
 refine ac_ (pn:=ao_) aa_ Tryz.func39 rfl fun β0=>?_
 simp only[Tryz.f39]
 rw[fD]
 repeat(first|apply wG|(apply wR;simp -dsimp)|refine aI ?_)
 refine ak_ (fun m S=>∃ i:Nat,m=B.length-i∧i≤B.length∧fG_ (B.take i) f=false∧S=hasS B f i) B.length (S0:=hasS B f 0) (ae_ [] (by simp) (by simp)) ⟨0,rfl,by omega,rfl,rfl⟩ ?_
 rintro m _ ⟨i,rfl,hi,hno,rfl⟩
 simp -dsimp
 repeat(first|apply wG|(apply wR;simp -dsimp)|refine aI ?_)
 by_cases hil:i<B.length
 ·have hat:=qj_ hil
  have lB:=ij_ B
  have hg:=hB B[i] (List.getElem_mem hil)
  have e1:IntKind.i64.wrap ((i:Int)+1)=((i+1:Nat):Int):=by rw[IntWalk.i64_in _ (by omega)];omega
  have hfa:fat B i=B[i]:=by simp[fat,hil]
  have htk:fG_ (B.take (i+1)) f=(fG_ (B.take i) f||eqF B[i] f):=by
   rw[fG_,List.take_succ_eq_append_getElem hil,List.any_append]
   simp[fG_]
  have hall:fG_ B f=true∨eqF B[i] f=false:=by
   cases he:eqF B[i] f with
   | false=>exact .inr rfl
   | true=>exact .inl (by rw[fG_,List.any_eq_true];exact⟨B[i],List.getElem_mem hil,he⟩)
  rw[hfa] at hat
  generalize B[i]=g at hat hg htk hall
  refine cT (by simp;omega) ?_
  refine WP.skip ?_
  simp -dsimp
  repeat(first|apply wG|(apply wR;simp -dsimp[hat])|refine aI ?_)
  refine bq_ aa_ qd_ cH_ rfl (.inl rfl) (m:=5) (by omega) cf_ (by decide) d7_ zr_ (cs:=fcs g 0 57) (es:=fcs f 0 57) (by simp) (by simp) (okF hg.1) (okF hf.1) (fE_ hg hf) ?_
  simp -dsimp[eqRes]
  repeat(first|apply wG|(apply wR;simp -dsimp)|refine aI ?_)
  cases he:eqF g f with
  | true =>
   have ht:fG_ B f=true:=hall.resolve_right (by rw[he];simp)
   refine cT (by simp[he]) ?_
   repeat(first|apply wG|(apply wR;simp -dsimp)|refine aI ?_)
   refine WP.ret (ab_ ?_)
   simp -dsimp[ht]
  | false =>
   refine cF (by simp[he]) ?_
   refine WP.skip ?_
   simp -dsimp
   repeat(first|apply wG|(apply wR;simp -dsimp)|refine aI ?_)
   refine loopW.next (hasS B f (i+1)) (ae_ [] (by simp[e1]) (by simp)) (B.length-(i+1)) (by omega) ⟨i+1,rfl,by omega,by rw[htk,hno,he];rfl,rfl⟩
 ·have hx:fG_ B f=false:=by rw[← List.take_of_length_le (l:=B) (i:=i) (by omega)];exact hno
  refine cF (by simp;omega) ?_
  refine WP.exit ?_
  simp -dsimp
  repeat(first|apply wG|(apply wR;simp -dsimp)|refine aI ?_)
  refine WP.ret (ab_ ?_)
  simp -dsimp[hx]
abbrev metS (B:List F) (r:R2) (i:Nat):St:=mkS 19 [(0,.d (slF B)),(3,.ptr 3 0),(5,.d (.v (.int .i64 i)))] [(3,.cells 56 [.d (.v (.int .i64 r.1)),.d (.v (.int .i64 r.2))])]
theorem z6_ (B:List F) (r:R2) (hB:∀ g∈B,fOk g) (h1:isI r.1) (h2:isI r.2) (hn:B.length≤1000):Fn0 Tryz.prog 43 [slF B,rfD r] (.v (.bool (decide (r∈B.map cA_)))):=by
 generalize hd:decide (r∈B.map cA_)=d
 refine ac_ (pn:=ao_) aa_ Tryz.func43 rfl fun β0=>?_
 simp only[Tryz.f43]
 repeat(first|apply wG|(apply wR;simp -dsimp)|refine aI ?_)
 refine ak_ (fun m S=>∃ i:Nat,m=B.length-i∧i≤B.length∧(∀ f∈B.take i,cA_ f≠r)∧S=metS B r i) B.length (S0:=metS B r 0) (ae_ [] (by simp) (by simp)) ⟨0,rfl,by omega,by simp,rfl⟩ ?_
 rintro m _ ⟨i,rfl,hi,hno,rfl⟩
 simp -dsimp
 repeat(first|apply wG|(apply wR;simp -dsimp)|refine aI ?_)
 by_cases hil:i<B.length
 ·have hat:=qj_ hil
  have lB:=ij_ B
  have hm:=List.getElem_mem hil
  have hg:=hB B[i] hm
  have e1:IntKind.i64.wrap ((i:Int)+1)=((i+1:Nat):Int):=by rw[IntWalk.i64_in _ (by omega)];omega
  have hfa:fat B i=B[i]:=by simp[fat,hil]
  have htk:B.take (i+1)=B.take i++[B[i]]:=List.take_succ_eq_append_getElem hil
  rw[hfa] at hat
  generalize B[i]=g at hat hg htk hm
  have hof:=hU_ g
  refine cT (by simp;omega) ?_
  refine WP.skip ?_
  simp -dsimp
  repeat(first|apply wG|(apply wR;simp -dsimp[hat])|refine aI ?_)
  refine af_ e3_ hof rfl rfl (And.intro (by simp[fD]) trivial) ?_
  simp -dsimp
  repeat(first|apply wG|(apply wR;simp -dsimp)|refine aI ?_)
  refine bq_ aa_ qd_ cH_ rfl (.inl rfl) (m:=5) (by omega) bv_ (by decide) bN_ nG_ (cs:=[.v (.int .i64 (cA_ g).1),.v (.int .i64 (cA_ g).2)]) (es:=[.v (.int .i64 r.1),.v (.int .i64 r.2)]) (by simp[cA_]) (by simp) (bB_ (hg.1 0) (hg.1 1)) (bB_ h1 h2) (di_ (cA_ g) r) ?_
  simp -dsimp[eqRes]
  repeat(first|apply wG|(apply wR;simp -dsimp)|refine aI ?_)
  by_cases he:cA_ g=r
  ·have ht:d=true:=by
    rw[← hd,decide_eq_true_iff];exact List.mem_map.2 ⟨g,hm,he⟩
   refine cT (by simp[he]) ?_
   repeat(first|apply wG|(apply wR;simp -dsimp)|refine aI ?_)
   refine WP.ret (ab_ ?_)
   simp -dsimp[ht]
  ·refine cF (by simp[he]) ?_
   refine WP.skip ?_
   simp -dsimp
   repeat(first|apply wG|(apply wR;simp -dsimp)|refine aI ?_)
   refine loopW.next (metS B r (i+1)) (ae_ [] (by simp[e1]) (by simp)) (B.length-(i+1)) (by omega) ⟨i+1,rfl,by omega,fun f hf=>?_,rfl⟩
   rw[htk] at hf
   rcases List.mem_append.1 hf with hf|hf
   ·exact hno f hf
   ·rw[List.mem_singleton.1 hf];exact he
 ·have hx:d=false:=by
   rw[List.take_of_length_le (by omega)] at hno
   rw[← hd,decide_eq_false_iff_not]
   rintro hm
   obtain⟨f,hf,e⟩:=List.mem_map.1 hm
   exact hno f hf e
  refine cF (by simp;omega) ?_
  refine WP.exit ?_
  simp -dsimp
  repeat(first|apply wG|(apply wR;simp -dsimp)|refine aI ?_)
  refine WP.ret (ab_ ?_)
  simp -dsimp[hx]
abbrev lstS (B:List F) (c q:Int) (i:Nat):St:=mkS 28 [(0,.d (slF B)),(1,.d (.v (.int .i64 c))),(5,.d (.v (.int .i64 q))),(6,.d (.v (.int .i64 i)))] []
theorem ye_ (B:List F) (c:Int) (hB:∀ g∈B,fOk g) (hn:B.length≤1000):Fn0 Tryz.prog 42 [slF B,.v (.int .i64 c)] (.v (.int .i64 (lastN c B 0))):=by
 refine ac_ (pn:=ao_) aa_ Tryz.func42 rfl fun β0=>?_
 simp only[Tryz.f42]
 repeat(first|apply wG|(apply wR;simp -dsimp)|refine aI ?_)
 refine ak_ (fun m S=>∃ i:Nat,m=B.length-i∧i≤B.length∧S=lstS B c (lastN c (B.take i) 0) i) B.length (S0:=lstS B c (lastN c (B.take 0) 0) 0) (ae_ [] (by simp[lastN]) (by simp)) ⟨0,rfl,by omega,rfl⟩ ?_
 rintro m _ ⟨i,rfl,hi,rfl⟩
 simp -dsimp
 repeat(first|apply wG|(apply wR;simp -dsimp)|refine aI ?_)
 by_cases hil:i<B.length
 ·have hat:=qj_ hil
  have lB:=ij_ B
  have hg:=hB B[i] (List.getElem_mem hil)
  have e1:IntKind.i64.wrap ((i:Int)+1)=((i+1:Nat):Int):=by rw[IntWalk.i64_in _ (by omega)];omega
  have hfa:fat B i=B[i]:=by simp[fat,hil]
  have htk:lastN c (B.take (i+1)) 0=if B[i] 0=c∧lastN c (B.take i) 0<B[i] 1 then B[i] 1 else lastN c (B.take i) 0:=by
   rw[List.take_succ_eq_append_getElem hil,ef_]
  rw[hfa] at hat
  generalize B[i]=g at hat hg htk
  generalize lastN c (B.take i) 0=q at htk
  refine cT (by simp;omega) ?_
  refine WP.skip ?_
  simp -dsimp
  repeat(first|apply wG|(apply wR;simp -dsimp[hat])|refine aI ?_)
  by_cases hc:g 0=c
  ·have hmx:lastN c (B.take (i+1)) 0=max q (g 1):=by
    rw[htk]
    split
    ·rename_i h;omega
    ·rename_i h;simp only[hc,true_and] at h;omega
   refine cT (by simp[hc]) ?_
   repeat(first|apply wG|(apply wR;simp -dsimp[hat])|refine aI ?_)
   refine loopW.next (lstS B c (lastN c (B.take (i+1)) 0) (i+1)) (ae_ [] (by simp[e1,hmx]) (by simp)) (B.length-(i+1)) (by omega) ⟨i+1,rfl,by omega,rfl⟩
  ·rw[if_neg fun h=>hc h.1] at htk
   refine cF (by simp[hc]) ?_
   refine WP.skip ?_
   simp -dsimp
   repeat(first|apply wG|(apply wR;simp -dsimp)|refine aI ?_)
   refine loopW.next (lstS B c (lastN c (B.take (i+1)) 0) (i+1)) (ae_ [] (by simp[e1,htk]) (by simp)) (B.length-(i+1)) (by omega) ⟨i+1,rfl,by omega,rfl⟩
 ·have hx:B.take i=B:=List.take_of_length_le (by omega)
  rw[hx]
  refine cF (by simp;omega) ?_
  refine WP.exit ?_
  simp -dsimp
  repeat(first|apply wG|(apply wR;simp -dsimp)|refine aI ?_)
  refine WP.ret (ab_ ?_)
  simp -dsimp
theorem gh_ (r:R2):∀ (l1 l2:List R2),(∀ s∈l1,ltR s r)→cI_ r (l1++l2)=l1++cI_ r l2
 | [],_,_=>rfl
 | s::l1,l2,h=>by
  rw[List.cons_append,cI_,if_pos (h s (by simp)),gh_ r l1 l2 fun t ht=>h t (by simp[ht])]
  rfl
abbrev wiS (x:List R2) (r:R2) (i:Nat):St:=mkS 45 [(0,.d (slR x)),(3,.ptr 3 0),(5,.d (.v (.int .i64 i)))] [(3,.cells 56 [.d (.v (.int .i64 r.1)),.d (.v (.int .i64 r.2))])]
theorem xf_ (x:List R2) (r:R2) (hx:∀ s∈x,isI s.1∧isI s.2) (h1:isI r.1) (h2:isI r.2) (hn:x.length≤100000):Fn0 Tryz.prog 40 [slR x,rfD r] (slR (cI_ r x)):=by
 refine ac_ (pn:=ao_) aa_ Tryz.func40 rfl fun β0=>?_
 simp only[Tryz.f40]
 repeat(first|apply wG|(apply wR;simp -dsimp)|refine aI ?_)
 refine ak_ (fun m S=>∃ l1 l2,x=l1++l2∧m=l2.length∧(∀ s∈l1,ltR s r)∧S=wiS x r l1.length) x.length (S0:=wiS x r 0) (ae_ [] (by simp) (by simp)) ⟨[],x,rfl,rfl,by simp,rfl⟩ ?_
 rintro m _ ⟨l1,l2,hx12,rfl,hlt,rfl⟩
 have lx:=cp_ x
 have l1':=cp_ l1
 have l2':=cp_ l2
 have hxl:x.length=l1.length+l2.length:=by rw[hx12];simp
 have hC:rfC x=rfC l1++rfC l2:=by rw[hx12,c0_]
 have hdr:List.take ((x.length-l1.length)*2) (List.drop (l1.length*2) ((rfC x).map AV.d))=(rfC l2).map .d:=by
  rw[hC,List.map_append,List.drop_left' (by rw[List.length_map,l1']),List.take_of_length_le (by rw[List.length_map,l2'];omega)]
 have htk:List.take (l1.length*2) ((rfC x).map AV.d)=(rfC l1).map .d:=by
  rw[hC,List.map_append,List.take_left' (by rw[List.length_map,l1'])]
 have hins:(l2=[]∨∃ s t,l2=s::t∧¬ ltR s r∧s≠r)→cI_ r x=l1++r::l2:=fun h=>by
  rw[hx12,gh_ r l1 l2 hlt]
  rcases h with rfl|⟨s,t,rfl,h1,h2⟩
  ·rfl
  ·rw[cI_,if_neg h1,if_neg h2]
 simp -dsimp
 cases l2 with
 | nil =>
  have hil:¬ l1.length<x.length:=by simp at hxl;omega
  have hi0:cI_ r x=l1++[r]:=hins (.inl rfl)
  repeat(first|apply wG|(apply wR;simp -dsimp[hil])|refine aI ?_)
  refine av_ iK_ (fun _=>tf_ r r) rfl (fun _=>rfl) (fun h=>by simp at h) ?_
  simp -dsimp[hil]
  repeat(first|apply wG|(apply wR;simp -dsimp[hil])|refine aI ?_)
  refine cF (by simp) ?_
  refine WP.exit ?_
  simp -dsimp[hil]
  repeat(first|apply wG|(apply wR;simp -dsimp[hil])|refine aI ?_)
  refine dd_ aa_ qd_ cH_ rfl (.inl rfl) (m:=5) (by omega) bv_ (by decide) bN_ nG_ (cs:=[.v (.int .i64 r.1),.v (.int .i64 r.2)]) (es:=[.v (.int .i64 r.1),.v (.int .i64 r.2)]) (fun h=>by simp at h) (fun h=>by simp at h) (bB_ h1 h2) (bB_ h1 h2) (di_ r r) ?_
  simp -dsimp[eqRes,hil]
  repeat(first|apply wG|(apply wR;simp -dsimp[hil])|refine aI ?_)
  refine cF (by simp) ?_
  refine WP.skip ?_
  simp -dsimp[htk,hdr]
  repeat(first|apply wG|(apply wR;simp -dsimp[htk,hdr])|refine aI ?_)
  have hR:List.map AV.d (rfC l1)++AV.d (.v (.int .i64 r.1))::AV.d (.v (.int .i64 r.2))::List.map AV.d (rfC [])=(rfC (cI_ r x)).map .d:=by
   rw[hi0,c0_,List.map_append];rfl
  have hlen:l1.length+1+(x.length-l1.length)=(cI_ r x).length:=by rw[hi0,hxl];first|(simp;done)|(simp;omega)
  rw[hR,hlen]
  refine WP.ret (am_ (S':=mkS 45 [(4,.d (slR (cI_ r x)))] []) (Wk.trans (ae_ [3,39] (S':=mkS 45 [(4,.row 44)] [(44,.row 56 2 (cI_ r x).length ((rfC (cI_ r x)).map .d))]) (by simp) (by simp)) (Wk.trans (Wk.freeze (k:=44) (T:=56) (sz:=2) (n:=(cI_ r x).length) (ds:=rfC (cI_ r x)) (by simp)) (ae_ [] (by simp) (by simp)))) ?_)
  simp -dsimp
 | cons s l2 =>
  have hil:l1.length<x.length:=by simp at hxl;omega
  have hat:=hS_ (x:=x) hil
  have hre:x[l1.length]=s:=by simp[hx12]
  obtain⟨s1,s2⟩:=hx x[l1.length] (List.getElem_mem hil)
  rw[hre] at hat s1 s2
  repeat(first|apply wG|(apply wR;simp -dsimp[hat,hil])|refine aI ?_)
  refine av_ iK_ (fun _=>tf_ s r) rfl (fun _=>rfl) (fun _=>And.intro (by simp) (And.intro (by simp) trivial)) ?_
  simp -dsimp
  repeat(first|apply wG|(apply wR;simp -dsimp)|refine aI ?_)
  by_cases hsr:ltR s r
  ·have e1:IntKind.i64.wrap ((l1.length:Int)+1)=((l1++[s]).length:Nat):=by rw[IntWalk.i64_in _ (by omega)];simp
   refine cT (by simp[hsr]) ?_
   refine WP.skip ?_
   simp -dsimp
   repeat(first|apply wG|(apply wR;simp -dsimp)|refine aI ?_)
   refine loopW.next (wiS x r (l1++[s]).length) (ae_ [] (by simp[e1]) (by simp)) l2.length (by simp) ⟨l1++[s],l2,by simp[hx12],rfl,fun t ht=>?_,rfl⟩
   rcases List.mem_append.1 ht with ht|ht
   ·exact hlt t ht
   ·rw[List.mem_singleton.1 ht];exact hsr
  ·refine cF (by simp[hsr]) ?_
   refine WP.exit ?_
   simp -dsimp
   repeat(first|apply wG|(apply wR;simp -dsimp[hat,hil])|refine aI ?_)
   refine dd_ aa_ qd_ cH_ rfl (.inl rfl) (m:=5) (by omega) bv_ (by decide) bN_ nG_ (cs:=[.v (.int .i64 s.1),.v (.int .i64 s.2)]) (es:=[.v (.int .i64 r.1),.v (.int .i64 r.2)]) (fun h=>by simp) (fun h=>by simp) (bB_ s1 s2) (bB_ h1 h2) (di_ s r) ?_
   simp -dsimp[eqRes]
   repeat(first|apply wG|(apply wR;simp -dsimp)|refine aI ?_)
   by_cases he:s=r
   ·have hi0:cI_ r x=x:=by
     rw[hx12,gh_ r l1 _ hlt,cI_,if_neg hsr,if_pos he]
    refine cT (by simp[he]) ?_
    repeat(first|apply wG|(apply wR;simp -dsimp)|refine aI ?_)
    refine WP.ret (ab_ ?_)
    simp -dsimp[hi0]
   ·have hi0:=hins (.inr ⟨s,l2,rfl,hsr,he⟩)
    refine cF (by simp[he]) ?_
    refine WP.skip ?_
    simp -dsimp[htk,hdr]
    repeat(first|apply wG|(apply wR;simp -dsimp[htk,hdr])|refine aI ?_)
    have hR:List.map AV.d (rfC l1)++AV.d (.v (.int .i64 r.1))::AV.d (.v (.int .i64 r.2))::List.map AV.d (rfC (s::l2))=(rfC (cI_ r x)).map .d:=by
     rw[hi0,c0_,List.map_append];rfl
    have hlen:l1.length+1+(x.length-l1.length)=(cI_ r x).length:=by rw[hi0,hxl];first|(simp;done)|(simp;omega)
    rw[hR,hlen]
    refine WP.ret (am_ (S':=mkS 45 [(4,.d (slR (cI_ r x)))] []) (Wk.trans (ae_ [3,39] (S':=mkS 45 [(4,.row 44)] [(44,.row 56 2 (cI_ r x).length ((rfC (cI_ r x)).map .d))]) (by simp) (by simp)) (Wk.trans (Wk.freeze (k:=44) (T:=56) (sz:=2) (n:=(cI_ r x).length) (ds:=rfC (cI_ r x)) (by simp)) (ae_ [] (by simp) (by simp)))) ?_)
    simp -dsimp
theorem uk_ (A:List F) (B:List F) (f:F):wj_ (A++[f]) B=wj_ A B++if fG_ B f=true then [] else [cA_ f]:=by
 rw[wj_,List.filter_append,List.map_append]
 congr 1
 cases h:fG_ B f<;>simp[h]
abbrev raS (a b:List Sg) (A B:List F) (i:Nat) (x:List R2):St:=mkS 35 [(2,.ptr 2 0),(3,.ptr 3 0),(5,.d (slF A)),(6,.d (slF B)),(7,.d (slR x)),(8,.d (.v (.int .i64 i)))] [(2,.cells 25 [.d (sgD a false)]),(3,.cells 25 [.d (sgD b false)])]
theorem kv_ (a b:List Sg) (hla:a.length≤30) (hlb:b.length≤30) (ha:∀ p∈a,aL_ p) (hb:∀ p∈b,aL_ p):Fn0 Tryz.prog 18 [lgD a false,lgD b false] (slR (altL (vF a) (vF b))):=by
 have ca:=k4_ a false (by omega) ha
 have cb:=k4_ b false (by omega) hb
 have hA:=eC_ fun p hp=>(ha p hp).1
 have hB:=eC_ fun p hp=>(hb p hp).1
 have lA:=fh_ a
 have lB:=fh_ b
 generalize vF a=A at ca hA lA
 generalize vF b=B at cb hB lB
 refine ac_ (pn:=ao_) aa_ Tryz.func18 rfl fun β0=>?_
 simp only[Tryz.f18]
 repeat(first|apply wG|(apply wR;simp -dsimp)|refine aI ?_)
 refine af_ e4_ ca rfl rfl (And.intro (ag_ [sgD a false]) trivial) ?_
 simp -dsimp
 repeat(first|apply wG|(apply wR;simp -dsimp)|refine aI ?_)
 refine af_ e4_ cb rfl rfl (And.intro (ag_ [sgD b false]) trivial) ?_
 simp -dsimp
 repeat(first|apply wG|(apply wR;simp -dsimp)|refine aI ?_)
 have hz:slR (altL (A.take 0) B)=.sl 2 [] 0 false:=rfl
 refine ak_ (fun m S=>∃ i:Nat,m=A.length-i∧i≤A.length∧S=raS a b A B i (altL (A.take i) B)) A.length (S0:=raS a b A B 0 (altL (A.take 0) B)) ((ae_ [] (S':=mkS 35 [(2,.ptr 2 0),(3,.ptr 3 0),(5,.d (slF A)),(6,.d (slF B)),(7,.row 13),(8,.d (.v (.int .i64 0)))] [(2,.cells 25 [.d (sgD a false)]),(3,.cells 25 [.d (sgD b false)]),(13,.row 56 2 0 [])]) (by simp) (by simp)).trans ((Wk.freeze (k:=13) (T:=56) (sz:=2) (n:=0) (ds:=[]) (by simp)).trans (ae_ [] (by rw[raS,hz];simp) (by simp)))) ⟨0,rfl,by omega,rfl⟩ ?_
 rintro m _ ⟨i,rfl,hi,rfl⟩
 simp -dsimp
 repeat(first|apply wG|(apply wR;simp -dsimp)|refine aI ?_)
 by_cases hil:i<A.length
 ·have hat:=qj_ hil
  have lA':=ij_ A
  have hg:=hA A[i] (List.getElem_mem hil)
  have e1:IntKind.i64.wrap ((i:Int)+1)=((i+1:Nat):Int):=by rw[IntWalk.i64_in _ (by omega)];omega
  have hfa:fat A i=A[i]:=by simp[fat,hil]
  have htk:altL (A.take (i+1)) B=if fG_ B A[i]=true then altL (A.take i) B else cI_ (cA_ A[i]) (altL (A.take i) B):=by
   rw[altL,List.take_succ_eq_append_getElem hil,uk_]
   split
   ·rw[List.append_nil,altL]
   ·rw[qW_,altL]
  rw[hfa] at hat
  have hxI:∀ s∈altL (A.take i) B,isI s.1∧isI s.2:=fun s hs=>ov_ (fun f hf=>hA f (List.mem_of_mem_take hf)) hB hs
  have hxl:=lg_ (A.take i) B
  rw[List.length_take] at hxl
  generalize A[i]=g at hat hg htk
  generalize altL (A.take i) B=x at htk hxI hxl
  have hha:=Ae_ B g hB hg (by omega)
  have hof:=hU_ g
  have hwi:=xf_ x (cA_ g) hxI (hg.1 0) (hg.1 1) (by omega)
  refine cT (by simp;omega) ?_
  refine WP.skip ?_
  simp -dsimp
  repeat(first|apply wG|(apply wR;simp -dsimp[hat])|refine aI ?_)
  refine af_ o7_ hha rfl rfl (And.intro (.refl _) (And.intro (by simp[fD]) trivial)) ?_
  simp -dsimp
  repeat(first|apply wG|(apply wR;simp -dsimp)|refine aI ?_)
  cases hh:fG_ B g with
  | true =>
   rw[if_pos hh] at htk
   refine cF (by simp) ?_
   refine WP.skip ?_
   simp -dsimp
   repeat(first|apply wG|(apply wR;simp -dsimp)|refine aI ?_)
   refine loopW.next (raS a b A B (i+1) (altL (A.take (i+1)) B)) (ae_ [] (by simp[e1,htk]) (by simp)) (A.length-(i+1)) (by omega) ⟨i+1,rfl,by omega,rfl⟩
  | false =>
   rw[if_neg (by simp[hh])] at htk
   refine cT (by simp) ?_
   repeat(first|apply wG|(apply wR;simp -dsimp[hat])|refine aI ?_)
   refine af_ e3_ hof rfl rfl (And.intro (by simp[fD]) trivial) ?_
   simp -dsimp
   repeat(first|apply wG|(apply wR;simp -dsimp)|refine aI ?_)
   refine af_ o6_ hwi rfl rfl (And.intro (.refl _) (And.intro (.refl _) trivial)) ?_
   simp -dsimp
   repeat(first|apply wG|(apply wR;simp -dsimp)|refine aI ?_)
   refine loopW.next (raS a b A B (i+1) (altL (A.take (i+1)) B)) (ae_ [] (by simp[e1,htk]) (by simp)) (A.length-(i+1)) (by omega) ⟨i+1,rfl,by omega,rfl⟩
 ·rw[List.take_of_length_le (by omega)]
  refine cF (by simp;omega) ?_
  refine WP.exit ?_
  simp -dsimp
  repeat(first|apply wG|(apply wR;simp -dsimp)|refine aI ?_)
  refine WP.ret (ab_ ?_)
  simp -dsimp
def crs (n:Nat):List Int:=(List.range n).map fun k=>((k:Nat):Int)
theorem v8_ (n:Nat):crs (n+1)=crs n++[(n:Int)]:=by simp[crs,List.range_succ]
theorem AK_ {n:Nat} {c:Int}:c∈crs n↔0≤c∧c<n:=by
 rw[crs,List.mem_map]
 constructor
 ·rintro⟨k,hk,rfl⟩
  have:=List.mem_range.1 hk
  omega
 ·intro h
  exact⟨c.toNat,List.mem_range.2 (by omega),by omega⟩
theorem AJ_ (n:Nat):(crs n).Pairwise fun a b=>a<b:=by
 rw[crs,List.pairwise_map]
 exact List.Pairwise.imp (fun h=>by omega) List.pairwise_lt_range
theorem qe_ (l:List Sg):gapS (vF l) (isA (crN (vF l) (vF l).length))=gapS (vF l) (crs 32) :=
 yk_ (Ab_ (fS_ _ _ (Nat.le_refl _)).1) (AJ_ 32) (fun f hf=>by
  rw[tl_,(fS_ _ _ (Nat.le_refl _)).2.2,List.take_length]
  exact⟨f,hf,rfl⟩) fun f hf=>by
  have:=xj_ hf
  rw[AK_];omega
abbrev rgS (a:List Sg) (A:List F) (Z:List R2) (c:Nat):St:=mkS 34 [(1,.ptr 1 0),(3,.d (slF A)),(4,.row 510),(5,.d (.v (.int .i64 c)))] [(1,.cells 25 [.d (sgD a false)]),(510,rfB Z)]
abbrev rhS (a:List Sg) (A:List F) (Z:List R2) (c n:Nat):St:=mkS 34 [(1,.ptr 1 0),(3,.d (slF A)),(4,.row 510),(5,.d (.v (.int .i64 c))),(6,.d (.v (.int .i64 n)))] [(1,.cells 25 [.d (sgD a false)]),(510,rfB Z)]
theorem rd_ (a:List Sg) (hla:a.length≤30) (ha:∀ p∈a,aL_ p) (hno:∀ p∈a,p.1 1≤200):Fn0 Tryz.prog 19 [lgD a false] (slR (gapS (vF a) (crs 32))):=by
 have ca:=k4_ a false (by omega) ha
 have hA:=eC_ fun p hp=>(ha p hp).1
 have lA:=fh_ a
 have hn200:∀ f∈vF a,f 1≤200:=fun f hf=>by
  obtain⟨p,hp,rfl,_⟩:=jw_.1 hf
  exact hno p hp
 generalize vF a=A at ca hA lA hn200
 refine ac_ (pn:=ao_) aa_ Tryz.func19 rfl fun β0=>?_
 simp only[Tryz.f19]
 repeat(first|apply wG|(apply wR;simp -dsimp)|refine aI ?_)
 refine af_ e4_ ca rfl rfl (And.intro (ag_ [sgD a false]) trivial) ?_
 simp -dsimp
 repeat(first|apply wG|(apply wR;simp -dsimp)|refine aI ?_)
 have hz:rfB (gapS A (crs 0))=.row 56 2 0 []:=rfl
 refine ak_ (fun q S=>∃ c:Nat,q=32-c∧c≤32∧S=rgS a A (gapS A (crs c)) c) 32 (S0:=rgS a A (gapS A (crs 0)) 0) (Wk.go [] 9 510 (by decide) (by simp) (by simp) (by rw[rgS,hz];simp)) ⟨0,rfl,by omega,rfl⟩ ?_
 rintro _ _ ⟨c,rfl,hc32,rfl⟩
 simp -dsimp
 repeat(first|apply wG|(apply wR;simp -dsimp)|refine aI ?_)
 by_cases hc:c<32
 ·have hci:isI (c:Int):=by unfold isI;omega
  have e1:IntKind.i64.wrap ((c:Int)+1)=((c+1:Nat):Int):=by rw[IntWalk.i64_in _ (by omega)];omega
  refine cT (by simp;omega) ?_
  refine WP.skip ?_
  simp -dsimp
  repeat(first|apply wG|(apply wR;simp -dsimp)|refine aI ?_)
  have hla2:=ye_ A (c:Int) hA (by omega)
  have hm0:=kN_ (c:Int) A 0
  have hm2:=hq_ (A:=A) (c:=(c:Int)) (b:=200) (by omega) hn200
  have hgc:gapS A (crs (c+1))=gapS A (crs c)++ii_ (A.map cA_) c (lastN c A 0) 1 (lastN c A 0).toNat:=by rw[v8_,kW_];simp[gapS]
  have hgl:(gapS A (crs (c+1))).length≤7000:=by
   have h1:=fI_ A hn200 (crs (c+1))
   have h2:(crs (c+1)).length=c+1:=by simp[crs]
   omega
  generalize hG:gapS A (crs (c+1))=G at hgc hgl
  generalize lastN (c:Int) A 0=m at hm0 hm2 hgc hla2
  refine ak_ (fun q S=>∃ n Z,q=m.toNat+1-n∧1≤n∧n≤m.toNat+1∧Z++ii_ (A.map cA_) c m n (m.toNat+1-n)=G∧S=rhS a A Z c n) m.toNat (S0:=rhS a A (gapS A (crs c)) c 1)
   (ae_ [] (by simp) (by simp)) ⟨1,gapS A (crs c),rfl,by omega,by omega,hgc.symm,rfl⟩ ?_
  rintro _ _ ⟨n,Z,rfl,hn1,hnm,hZ,rfl⟩
  have hZl:Z.length≤7000:=by
   have:=congrArg List.length hZ
   rw[List.length_append] at this
   omega
  simp -dsimp
  repeat(first|apply wG|(apply wR;simp -dsimp)|refine aI ?_)
  refine af_ o5_ hla2 rfl rfl (And.intro (.refl _) (And.intro (.refl _) trivial)) ?_
  simp -dsimp
  repeat(first|apply wG|(apply wR;simp -dsimp)|refine aI ?_)
  by_cases hnlt:(n:Int)<m
  ·have e2:IntKind.i64.wrap ((n:Int)+1)=((n+1:Nat):Int):=by rw[IntWalk.i64_in _ (by omega)];omega
   have hg1:ii_ (A.map cA_) c m n (m.toNat+1-n)=(if ((c:Int),(n:Int))∉A.map cA_ then [((c:Int),(n:Int))] else [])++ii_ (A.map cA_) c m (n+1) (m.toNat+1-(n+1)):=by
    rw[show m.toNat+1-n=(m.toNat+1-(n+1))+1 by omega,ii_]
    simp[hnlt]
   have hme:=z6_ A ((c:Int),(n:Int)) hA hci (by unfold isI;omega) (by omega)
   have hin:decide (((c:Int),(n:Int))∈A.map cA_)=true↔((c:Int),(n:Int))∈A.map cA_:=decide_eq_true_iff
   generalize decide (((c:Int),(n:Int))∈A.map cA_)=d at hme hin
   refine cT (by simp;omega) ?_
   refine WP.skip ?_
   simp -dsimp
   repeat(first|apply wG|(apply wR;simp -dsimp)|refine aI ?_)
   refine af_ o4_ hme rfl rfl (And.intro (.refl _) (And.intro (ag_ [.v (.int .i64 c),.v (.int .i64 n)]) trivial)) ?_
   simp -dsimp
   repeat(first|apply wG|(apply wR;simp -dsimp)|refine aI ?_)
   cases d with
   | true =>
    rw[hg1,if_neg (by simpa using hin.1 rfl),List.nil_append] at hZ
    refine cF (by simp) ?_
    refine WP.skip ?_
    simp -dsimp
    repeat(first|apply wG|(apply wR;simp -dsimp)|refine aI ?_)
    refine loopW.next (rhS a A Z c (n+1)) (ae_ [] (by simp[e2]) (by simp)) (m.toNat+1-(n+1)) (by omega) ⟨n+1,Z,rfl,by omega,by omega,hZ,rfl⟩
   | false =>
    rw[hg1,if_pos (fun h=>by cases hin.2 h),← List.append_assoc] at hZ
    refine cT (by simp) ?_
    repeat(first|apply wG|(apply wR;simp -dsimp)|refine aI ?_)
    refine loopW.next (rhS a A (Z++[((c:Int),(n:Int))]) c (n+1)) (Wk.go [31,510] 32 510 (by decide) (by simp) (by simp[e2]) (by simp[rfC])) (m.toNat+1-(n+1)) (by omega) ⟨n+1,Z++[((c:Int),(n:Int))],rfl,by omega,by omega,hZ,rfl⟩
  ·refine cF (by simp;omega) ?_
   refine WP.exit ?_
   simp -dsimp
   repeat(first|apply wG|(apply wR;simp -dsimp)|refine aI ?_)
   rw[kX_ _ _ _ _ _ (by omega),List.append_nil] at hZ
   have hZG:gapS A (crs (c+1))=Z:=hG.trans hZ.symm
   refine loopW.next (rgS a A (gapS A (crs (c+1))) (c+1)) (ae_ [] (by simp[e1]) (by simp[hZG])) (32-(c+1)) (by omega) ⟨c+1,rfl,by omega,rfl⟩
 ·have hce:c=32:=by omega
  subst hce
  refine cF (by simp) ?_
  refine WP.exit ?_
  simp -dsimp
  repeat(first|apply wG|(apply wR;simp -dsimp)|refine aI ?_)
  refine WP.ret (am_ (S':=mkS 34 [(2,.d (slR (gapS A (crs 32))))] []) (Wk.trans (ae_ [1] (S':=mkS 34 [(2,.row 510)] [(510,rfB (gapS A (crs 32)))]) (by simp) (by simp)) (Wk.trans (Wk.freeze (k:=510) (T:=56) (sz:=2) (n:=(gapS A (crs 32)).length) (ds:=rfC (gapS A (crs 32))) (by simp)) (ae_ [] (by simp) (by simp)))) ?_)
  simp -dsimp
end Go.Proofs.YtdjkbdhdejlakaaGreatDoor
