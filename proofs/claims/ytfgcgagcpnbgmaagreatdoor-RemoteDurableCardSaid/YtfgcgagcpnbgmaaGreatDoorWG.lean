/-
  Joined texts.
-/
import Derived.Test.YtfgcgagcpnbgmaaGreatDoorWFC
import Derived.Test.YtfgcgagcpnbgmaaGreatDoorW4
set_option maxRecDepth 10000
set_option maxHeartbeats 4000000
set_option linter.unusedVariables false
set_option linter.unusedSimpArgs false
set_option linter.unusedSectionVars false
namespace Go.Proofs.YtfgcgagcpnbgmaaGreatDoor
open Go.Xe Go.RowKit
end Go.Proofs.YtfgcgagcpnbgmaaGreatDoor
namespace Go.Proofs.YtfgcgagcpnbgmaaGreatDoor
open Go.Xe Go.RowKit
@[simp] theorem B3_ (g f:Nat→Int):fcp g f 0 0=g:=by funext i;simp only[fcp];rw[if_neg (by omega)]
theorem kI_ (f:Nat→Int) (hf:fOk f):Fn0 Tryz.prog 74 [fD f] (.v (.int .i64 (if (numF f).2=true then 0 else 120))):=by
 have h24:=jd_ f hf
 rw[pa_] at h24
 generalize numF f=R at *
 obtain⟨l,b⟩:=R
 refine ad_ (pn:=ap_) aa_ Tryz.func74 rfl fun β0=>?_
 simp only[Tryz.f74]
 rw[fD]
 repeat(first|apply wG|(apply wR;simp -dsimp)|refine aI ?_)
 refine ab_ in_ h24 rfl rfl (by simp[fD]) ?_
 simp -dsimp
 repeat(first|apply wG|(apply wR;simp -dsimp)|refine aI ?_)
 cases b with
 | true =>
  refine cF (by simp) ?_
  refine WP.skip ?_
  simp -dsimp
  repeat(first|apply wG|(apply wR;simp -dsimp)|refine aI ?_)
  refine WP.ret (ac_ ?_)
  simp -dsimp
 | false =>
  refine cT (by simp) ?_
  repeat(first|apply wG|(apply wR;simp -dsimp)|refine aI ?_)
  refine WP.ret (ac_ ?_)
  simp -dsimp
def sH_ (x:Int):V:=.mk 1 x ⟨#[]⟩ []
def cj_ (l:List Int):V:=.mk 3 0 ⟨#[]⟩ (l.map sH_)
theorem cV_:∀ {l:List Int},(∀ x∈l,isI x)→cq_ (l.map sH_)=true∧bb_ (l.map sH_)=0∧(aC_ (l.map sH_)).length≤11*l.length∧ba_ (l.map sH_)=true
 | [],_=>by simp[cq_,bb_,aC_,ba_]
 | x::l,h=>by
  obtain⟨h1,h2,h3,h4⟩:=cV_ (l:=l) fun y hy=>h y (by simp[hy])
  have hx:=h x (by simp)
  have h10:=bM_ (rh_ hx)
  unfold isI at hx
  rw[List.map_cons,cq_,bb_,aC_,ba_,h1,h2,h4]
  simp only[sH_,V.ok,V.dep,V.enc,V.rng,ba_,show (⟨#[]⟩:ByteArray).size=0 from rfl]
  simp
  omega
theorem cU_ {l:List Int} (h:∀ x∈l,isI x) (hl:l.length≤1000):V.chk (cj_ l)=0∧V.rng (cj_ l)=true∧V.dep (cj_ l)=1∧(V.enc (cj_ l)).length≤100000:=by
 obtain⟨h1,h2,h3,h4⟩:=cV_ h
 have h5:V.dep (cj_ l)=1:=by rw[cj_,V.dep,if_pos rfl,h2]
 have h10:=bM_ (u:=l.length) (by unfold isU;omega)
 refine⟨?_,?_,h5,?_⟩
 ·rw[V.chk,if_pos (by rw[cj_,V.ok];simp[h1]),if_neg (by omega)]
 ·simp[cj_,V.rng,h4,show (⟨#[]⟩:ByteArray).size=0 from rfl]
 ·rw[cj_,V.enc]
  simp
  omega
theorem fy_ {f:Nat→Int} (hf:fOk f):(∀ x∈(numF f).1,isI x)∧(numF f).1.length≤12:=by
 unfold numF
 split
 ·simp
 ·rename_i E hE
  split
  ·refine⟨fun x hx=>?_,by have:=cX_ hE;simp;omega⟩
   obtain⟨e,_,rfl⟩:=List.mem_map.1 hx
   unfold valE
   split
   ·exact hf.1 _
   ·exact wE_
  ·simp
def encF (f:Nat→Int):List UInt8:=V.enc (cj_ (numF f).1)
def encR (f:Nat→Int):List UInt8×Int:=if (numF f).2=true then (encF f,0) else ([],120)
def yv_ (f:Nat→Int):D:=.tup [slB (encR f).1,.v (.int .i64 (encR f).2)]
theorem zJ_ (a:List Int) (x:Int) (b:List Int):(iD (a++x::b)).drop a.length=.v (.int .i64 x)::iD b:=by
 rw[lz_,← ly_ a,List.drop_left];rfl
def ics:List Int→List D
 | []=>[]
 | x::l=>.v (.int .i64 1) :: .v (.int .i64 x) :: .v (.string ⟨#[]⟩) :: .v (.slice none 0 0)::ics l
@[simp] theorem qF_:∀ a b:List Int,ics (a++b)=ics a++ics b
 | [],_=>rfl
 | x::a,b=>by rw[List.cons_append,ics,ics,qF_ a b];rfl
@[simp] theorem qE_:∀ a:List Int,(ics a).length=a.length*4
 | []=>rfl
 | x::a=>by rw[ics];simp[qE_ a];omega
theorem wa_:∀ l:List Int,DLes (ics l) (aB_ (l.map sH_))
 | []=>trivial
 | x::l=>⟨DLe.refl _,DLe.refl _,DLe.refl _,DLe.nil 4,wa_ l⟩
theorem ints_arg (l:List Int):Leq (.agg [.d (.v (.int .i64 3)),.d (.v (.int .i64 0)),.d (.v (.string ⟨#[]⟩)),.d (.sl 4 (ics l) l.length false)]) (.d (cj_ l).d):=by
 have hle:Leq (.d (.sl 4 (ics l) l.length false)) (.d (.sl 4 (aB_ (l.map sH_)) l.length false)):=Leq.data (DLe.sl (wa_ l))
 have h1:LeqL [.d (.v (.int .i64 3)),.d (.v (.int .i64 0)),.d (.v (.string ⟨#[]⟩)),.d (.sl 4 (ics l) l.length false)] ([D.v (.int .i64 3),.v (.int .i64 0),.v (.string ⟨#[]⟩),.sl 4 (aB_ (l.map sH_)) l.length false].map .d) :=
  ⟨Leq.refl _,Leq.refl _,Leq.refl _,hle,trivial⟩
 have h2:=(Leq.agg h1).trans (am_ _)
 rw[cj_,V.d,V.cells,List.length_map]
 exact h2
def sE (l:List Int) (l1:List Int):St :=
 mkS 35 [(6,.ptr 6 0),(17,.d (slI l)),(18,.d (.v (.int .i64 l.length))),(19,.d (.v (.int .i64 l1.length)))]
  [(6,.cells 166 [.d (.v (.int .i64 3)),.d (.v (.int .i64 0)),.d (.v (.string ⟨#[]⟩)),.row 500]),(500,.row 166 4 l1.length ((ics l1).map .d))]
theorem dt_ (f:Nat→Int) (hf:fOk f):Fn0 Tryz.prog 55 [fD f] (yv_ f):=by
 have h24:=jd_ f hf
 rw[pa_] at h24
 obtain⟨hin,hlen⟩:=fy_ hf
 unfold yv_ encR encF
 generalize numF f=R at *
 obtain⟨l,b⟩:=R
 simp only at hin hlen
 obtain⟨c1,c2,c3,c4⟩:=cU_ hin (by omega)
 have h12:=z6_ (cj_ l) (by omega) c2 (by omega)
 rw[show V.encB (cj_ l)=V.enc (cj_ l) from if_pos c1,c1] at h12
 refine ad_ (pn:=ap_) aa_ Tryz.func55 rfl fun β0=>?_
 simp only[Tryz.f55]
 rw[fD]
 repeat(first|apply wG|(apply wR;simp -dsimp)|refine aI ?_)
 refine ab_ in_ h24 rfl rfl (by simp[fD]) ?_
 simp -dsimp
 repeat(first|apply wG|(apply wR;simp -dsimp)|refine aI ?_)
 cases b with
 | false =>
  refine cT (by simp) ?_
  repeat(first|apply wG|(apply wR;simp -dsimp)|refine aI ?_)
  refine WP.ret (ac_ ?_)
  simp -dsimp
 | true =>
  refine cF (by simp) ?_
  refine WP.skip ?_
  simp -dsimp
  repeat(first|apply wG|(apply wR;simp -dsimp)|refine aI ?_)
  refine ai_ (fun m S=>∃ l1 l2,l=l1++l2∧m=l2.length∧S=sE l l1) l.length (S0:=sE l [])
   ((cc_ 6 3 500 166 4 (by simp;exact⟨rfl,rfl⟩) rfl (by simp)).trans (ae_ [] (by simp[sE]) (by simp[sE,ics]))) ⟨[],l,rfl,rfl,rfl⟩ ?_
  rintro _ _ ⟨l1,l2,hl12,rfl,rfl⟩
  simp -dsimp[sE]
  repeat(first|apply wG|(apply wR;simp -dsimp)|refine aI ?_)
  cases l2 with
  | nil =>
   simp only[List.append_nil] at hl12
   subst hl12
   refine cF (by simp) ?_
   refine WP.exit ?_
   simp -dsimp
   refine an_ (Wk.freeze (k:=500) (T:=166) (sz:=4) (ds:=ics l) (by simp;rfl)) ?_
   simp -dsimp
   repeat(first|apply wG|(apply wR;simp -dsimp)|refine aI ?_)
   refine al_ n0_ h12 rfl rfl (And.intro (ints_arg l) trivial) ?_
   simp -dsimp
   repeat(first|apply wG|(apply wR;simp -dsimp)|refine aI ?_)
   refine WP.ret (ac_ ?_)
   simp -dsimp
  | cons x l2 =>
   have hll:l.length=l1.length+(l2.length+1):=by rw[hl12];simp
   have e1:IntKind.i64.wrap ((l1.length:Int)+1)=(l1.length:Int)+1:=IntWalk.i64_in _ (by omega)
   have h1:=zJ_ l1 x l2
   rw[← hl12] at h1
   refine cT (by simp;omega) ?_
   refine WP.skip ?_
   simp -dsimp
   refine WP.seq (WP.block ?_)
   repeat(first|apply wG|(apply wR;simp -dsimp[h1])|refine aI ?_)
   refine loopW.next (sE l (l1++[x])) (Wk.go [27] 28 500 (by decide) (by simp[sE]) (by simp[sE,e1]) (by simp[sE,ics])) l2.length (by simp) ⟨l1++[x],l2,by simp[hl12],rfl,rfl⟩
def d2_ (x y:Int):Int:=if x<y then -1 else if y<x then 1 else 0
theorem pg_ (x:Int):Fn0 Tryz.prog 241 [.v (.int .i64 x)] (.v (.bool false)):=by
 refine ad_ (pn:=ap_) aa_ Tryz.func241 rfl fun β0=>?_
 simp only[Tryz.f241]
 repeat(first|apply wG|(apply wR;simp -dsimp)|refine aI ?_)
 refine WP.ret (ac_ ?_)
 simp -dsimp
theorem cL_ (x y:Int):Fn0 Tryz.prog 193 [.v (.int .i64 x),.v (.int .i64 y)] (.v (.int .i64 (d2_ x y))):=by
 refine ad_ (pn:=ap_) aa_ Tryz.func193 rfl fun β0=>?_
 simp only[Tryz.f193]
 repeat(first|apply wG|(apply wR;simp -dsimp)|refine aI ?_)
 refine ab_ f5_ (pg_ x) rfl rfl (by simp) ?_
 simp -dsimp
 repeat(first|apply wG|(apply wR;simp -dsimp)|refine aI ?_)
 refine ab_ f5_ (pg_ y) rfl rfl (by simp) ?_
 simp -dsimp
 repeat(first|apply wG|(apply wR;simp -dsimp)|refine aI ?_)
 refine cF (by simp) ?_
 refine WP.skip ?_
 simp -dsimp
 repeat(first|apply wG|(apply wR;simp -dsimp)|refine aI ?_)
 refine cF (by simp) ?_
 refine WP.skip ?_
 simp -dsimp
 repeat(first|apply wG|(apply wR;simp -dsimp)|refine aI ?_)
 refine WP.cond (b:=decide (x<y)) (by simp) (fun hb=>?_) (fun hb=>?_)
 ·have hb:=of_decide_eq_true hb
  repeat(first|apply wG|(apply wR;simp -dsimp)|refine aI ?_)
  refine WP.ret (ac_ ?_)
  simp -dsimp[d2_,hb]
 have h1:=of_decide_eq_false hb
 refine WP.skip ?_
 simp -dsimp
 repeat(first|apply wG|(apply wR;simp -dsimp)|refine aI ?_)
 refine WP.cond (b:=decide (y<x)) (by simp) (fun hb=>?_) (fun hb=>?_)
 ·have hb:=of_decide_eq_true hb
  have e:d2_ x y=1:=by rw[d2_,if_neg h1,if_pos hb]
  repeat(first|apply wG|(apply wR;simp -dsimp)|refine aI ?_)
  refine WP.ret (ac_ ?_)
  simp -dsimp[e]
 have h2:=of_decide_eq_false hb
 have e:d2_ x y=0:=by rw[d2_,if_neg h1,if_neg h2]
 refine WP.skip ?_
 simp -dsimp
 repeat(first|apply wG|(apply wR;simp -dsimp)|refine aI ?_)
 refine WP.ret (ac_ ?_)
 simp -dsimp[e]
def orL:List Int→Int
 | []=>0
 | x::l=>if x=0 then orL l else x
theorem w9_ (l:List Int) (hl:l.length≤1000):Fn0 Tryz.prog 192 [slI l] (.v (.int .i64 (orL l))):=by
 refine ad_ (pn:=ap_) aa_ Tryz.func192 rfl fun β0=>?_
 simp only[Tryz.f192]
 repeat(first|apply wG|(apply wR;simp -dsimp)|refine aI ?_)
 refine ai_ (fun m S=>∃ l1 l2,l=l1++l2∧m=l2.length∧orL l=orL l2∧S=mkS 18 [(3,.d (.v (.int .i64 0))),(6,.d (slI l)),(7,.d (.v (.int .i64 l.length))),(8,.d (.v (.int .i64 l1.length)))] []) l.length
  (S0:=mkS 18 [(3,.d (.v (.int .i64 0))),(6,.d (slI l)),(7,.d (.v (.int .i64 l.length))),(8,.d (.v (.int .i64 0)))] []) (ae_ [] (by simp) (by simp)) ⟨[],l,rfl,rfl,rfl,rfl⟩ ?_
 rintro _ _ ⟨l1,l2,hl12,rfl,ho,rfl⟩
 simp -dsimp
 repeat(first|apply wG|(apply wR;simp -dsimp)|refine aI ?_)
 cases l2 with
 | nil =>
  simp only[List.append_nil] at hl12
  subst hl12
  refine cF (by simp) ?_
  refine WP.exit ?_
  simp -dsimp
  repeat(first|apply wG|(apply wR;simp -dsimp)|refine aI ?_)
  refine WP.ret (ac_ ?_)
  simp -dsimp[ho,orL]
 | cons x l2 =>
  have hll:l.length=l1.length+(l2.length+1):=by rw[hl12];simp
  have e1:IntKind.i64.wrap ((l1.length:Int)+1)=(l1.length:Int)+1:=IntWalk.i64_in _ (by omega)
  have h1:=zJ_ l1 x l2
  rw[← hl12] at h1
  refine cT (by simp;omega) ?_
  refine WP.skip ?_
  simp -dsimp
  refine WP.seq (WP.block ?_)
  repeat(first|apply wG|(apply wR;simp -dsimp[h1])|refine aI ?_)
  refine WP.cond (b := !decide (x=0)) (by simp) (fun hb=>?_) (fun hb=>?_)
  ·have hb:¬ x=0:=by simpa using hb
   repeat(first|apply wG|(apply wR;simp -dsimp)|refine aI ?_)
   refine WP.ret (ac_ ?_)
   simp -dsimp[ho,orL,hb]
  ·have hb:x=0:=by simpa using hb
   refine WP.skip ?_
   simp -dsimp
   repeat(first|apply wG|(apply wR;simp -dsimp)|refine aI ?_)
   refine loopW.next (mkS 18 [(3,.d (.v (.int .i64 0))),(6,.d (slI l)),(7,.d (.v (.int .i64 l.length))),(8,.d (.v (.int .i64 (l1++[x]).length)))] []) (ae_ [] (by simp[e1]) (by simp)) l2.length (by simp) ⟨l1++[x],l2,by simp[hl12],rfl,by rw[ho,orL,if_pos hb],rfl⟩
theorem c1_ (a b:List UInt8):Fn0 Tryz.prog 88 [slB a,slB b] (.v (.bool (decide (a=b)))):=by
 refine ad_ (pn:=ap_) aa_ Tryz.func88 rfl fun β0=>?_
 simp only[Tryz.f88]
 repeat(first|apply wG|(apply wR;simp -dsimp)|refine aI ?_)
 refine WP.ret (ac_ ?_)
 simp -dsimp
theorem rQ_ (f g:Nat→Int) (hf:fOk f) (hg:fOk g):Fn0 Tryz.prog 27 [fD f,fD g] (.v (.bool (eqF f g))):=by
 refine ad_ (pn:=ap_) aa_ Tryz.func27 rfl fun β0=>?_
 simp only[Tryz.f27]
 simp only[fD]
 repeat(first|apply wG|(apply wR;simp -dsimp)|refine aI ?_)
 refine dG_ aa_ BY_ pb_ rfl (.inl rfl) (m:=5) (by omega) dW_ (by decide) fc_ BJ_ (cs:=fcs f 0 57) (es:=fcs g 0 57) (by simp) (by simp) (okF hf.1) (okF hg.1) (g4_ hf hg) ?_
 simp -dsimp[eqRes]
 repeat(first|apply wG|(apply wR;simp -dsimp)|refine aI ?_)
 refine WP.ret (ac_ ?_)
 simp -dsimp
theorem qn_ (f g:Nat→Int) (hf:fOk f) (hg:fOk g):Fn0 Tryz.prog 68 [fD f,fD g] (.v (.bool (eqF f g))):=by
 refine ad_ (pn:=ap_) aa_ Tryz.func68 rfl fun β0=>?_
 simp only[Tryz.f68]
 simp only[fD]
 repeat(first|apply wG|(apply wR;simp -dsimp)|refine aI ?_)
 refine dG_ aa_ BY_ pb_ rfl (.inl rfl) (m:=5) (by omega) dW_ (by decide) fc_ BJ_ (cs:=fcs f 0 57) (es:=fcs g 0 57) (by simp) (by simp) (okF hf.1) (okF hg.1) (g4_ hf hg) ?_
 simp -dsimp[eqRes]
 repeat(first|apply wG|(apply wR;simp -dsimp)|refine aI ?_)
 refine WP.ret (ac_ ?_)
 simp -dsimp
@[simp] theorem BM_ (cs xs:List AV) (h:cs.length=xs.length):setL cs 0 xs=xs:=by
 refine List.ext_getElem? fun i=>?_
 rw[jN_ _ _ _ _ (by omega)]
 split
 ·simp
 ·rw[List.getElem?_eq_none (by omega),List.getElem?_eq_none (by omega)]
end Go.Proofs.YtfgcgagcpnbgmaaGreatDoor
namespace Go.Proofs.YtfgcgagcpnbgmaaGreatDoor
open Go.Xe Go.RowKit
theorem ih_ (a b:List UInt8):Fn0 Tryz.prog 194 [slB a,slB b] (.v (.int .i64 (Lib.compareBytes a b))):=by
 refine ad_ (pn:=ap_) aa_ Tryz.func194 rfl fun β0=>?_
 simp only[Tryz.f194]
 repeat(first|apply wG|(apply wR;simp -dsimp)|refine aI ?_)
 refine ht_ Tryz.func242 (by kernel_rfl) rfl (by kernel_rfl) (by kernel_rfl) rfl (l:=a) (m:=b) rfl rfl ?_
 simp -dsimp
 repeat(first|apply wG|(apply wR;simp -dsimp)|refine aI ?_)
 refine WP.ret (ac_ ?_)
 simp -dsimp
theorem zg_ (a b c:Int):Fun Tryz.prog 192 [.row 1000] [(1000,.row 3 1 3 [.d (.v (.int .i64 a)),.d (.v (.int .i64 b)),.d (.v (.int .i64 c))])] (.d (.v (.int .i64 (orL [a,b,c])))) [] fun _=>False :=
 b1_ 1000 (T:=3) (cs:=iD [a,b,c]) (w9_ [a,b,c] (by simp)) rfl rfl trivial
def kp_ (f g:Nat→Int):Int:=orL [d2_ (f 2) (g 2),d2_ (f 0) (g 0),d2_ (f 1) (g 1)]
def er_ (f g:Nat→Int):Int:=if kp_ f g=0 then Lib.compareBytes (encR f).1 (encR g).1 else kp_ f g
theorem ib_ (f g:Nat→Int) (hf:fOk f) (hg:fOk g):Fn0 Tryz.prog 135 [fD f,fD g] (.v (.int .i64 (er_ f g))):=by
 have ef:=dt_ f hf
 have eg:=dt_ g hg
 unfold yv_ at ef eg
 refine ad_ (pn:=ap_) aa_ Tryz.func135 rfl fun β0=>?_
 simp only[Tryz.f135]
 simp only[fD]
 repeat(first|apply wG|(apply wR;simp -dsimp)|refine aI ?_)
 refine ab_ bX_ (cL_ (f 2) (g 2)) rfl rfl (by simp) ?_
 simp -dsimp
 repeat refine aI ?_
 refine ab_ bX_ (cL_ (f 0) (g 0)) rfl rfl (by simp) ?_
 simp -dsimp
 repeat refine aI ?_
 refine ab_ bX_ (cL_ (f 1) (g 1)) rfl rfl (by simp) ?_
 simp -dsimp
 repeat refine aI ?_
 refine vcStop.call gb_ (zg_ (d2_ (f 2) (g 2)) (d2_ (f 0) (g 0)) (d2_ (f 1) (g 1))) (rl [(1000,25)]) rfl rfl (by simp[BoxLeq]) (af_ (by simp[BoxLeq]) rfl (by first|rfl|(simp[BoxLeq];done)) (by simp[BoxLeq]) (by simp[BoxLeq])) (fun _ h=>h.elim) (fun ⟨_,h⟩=>h.elim) (fun ⟨_,h⟩=>h.elim) (by simp[BoxLeq]) ?_
 simp -dsimp
 repeat(first|apply wG|(apply wR;simp -dsimp)|refine aI ?_)
 refine WP.cond (b := !decide (kp_ f g=0)) (by simp[kp_];rfl) (fun hb=>?_) (fun hb=>?_)
 ·have hb:¬ kp_ f g=0:=by simpa using hb
  repeat(first|apply wG|(apply wR;simp -dsimp)|refine aI ?_)
  have e:er_ f g=kp_ f g:=if_neg hb
  refine WP.ret (ac_ ?_)
  simp -dsimp[e,kp_]
 have hb:kp_ f g=0:=by simpa using hb
 refine WP.skip ?_
 simp -dsimp
 repeat(first|apply wG|(apply wR;simp -dsimp)|refine aI ?_)
 refine ab_ cn_ ef rfl rfl (by simp[fD]) ?_
 simp -dsimp
 repeat(first|apply wG|(apply wR;simp -dsimp)|refine aI ?_)
 refine ab_ cn_ eg rfl rfl (by simp[fD]) ?_
 simp -dsimp
 repeat(first|apply wG|(apply wR;simp -dsimp)|refine aI ?_)
 refine ab_ mh_ (ih_ (encR f).1 (encR g).1) rfl rfl (by simp) ?_
 simp -dsimp
 repeat(first|apply wG|(apply wR;simp -dsimp)|refine aI ?_)
 refine WP.ret (ac_ ?_)
 simp -dsimp[er_,hb]
end Go.Proofs.YtfgcgagcpnbgmaaGreatDoor
