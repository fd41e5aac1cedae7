/-
  Joined texts.
-/
import Derived.Test.YtfgcgagcpnbgmaaGreatDoorWOw
import Derived.Test.YtfgcgagcpnbgmaaGreatDoorWUe
import Derived.Test.YtfgcgagcpnbgmaaGreatDoorWKe
import Derived.Test.YtfgcgagcpnbgmaaGreatDoorWUd
import Derived.Test.YtfgcgagcpnbgmaaGreatDoorWXa
set_option linter.unusedVariables false
set_option linter.unusedSimpArgs false
set_option linter.unusedSectionVars false
namespace Go.Proofs.YtfgcgagcpnbgmaaGreatDoor
open Go.Xe Go.RowKit
abbrev hoS (r:Rm) (K:List F) (i:Nat):St:=mkS 30 [(1,.row 1000),(2,.ptr 2 0),(5,.d (.v (.int .i64 i)))] [(1000,.row 67 57 K.length ((fsC K).map .d)),(2,.cells 33 ((rmC r).map .d))]
set_option maxRecDepth 10000 in
set_option maxHeartbeats 4000000 in
theorem po_ (r:Rm) (K:List F) (hK:r.fs.map (·.1)=K) (ho:∀ p∈r.fs,b2_ p) (hl:r.fs.length≤1000) :
  Fun Tryz.prog 33 [.d (rmD r),.row 1000] [(1000,.row 67 57 K.length ((fsC K).map .d))] (.d (.v (.bool true))) [(1000,.row 67 57 K.length ((fsC K).map .d))] fun _=>False:=by
 have lK:K.length=r.fs.length:=by rw[← hK,List.length_map]
 have lC:=sgC_len ho
 have lF:=sT_ K
 refine ad_ (pn:=ap_) aa_ Tryz.func33 rfl fun β0=>?_
 simp only[Tryz.f33]
 repeat(first|apply wG|(apply wR;simp -dsimp[rmD,rmC])|refine aI ?_)
 refine cF (by simp;omega) ?_
 refine WP.skip ?_
 simp -dsimp
 repeat(first|apply wG|(apply wR;simp -dsimp)|refine aI ?_)
 refine ai_ (fun q S=>∃ i:Nat,q=r.fs.length-i∧i≤r.fs.length∧S=hoS r K i) r.fs.length (S0:=hoS r K 0) (ae_ [] (by simp) (by simp[rmC])) ⟨0,rfl,by omega,rfl⟩ ?_
 rintro _ _ ⟨i,rfl,hi,rfl⟩
 simp -dsimp[rmC]
 repeat(first|apply wG|(apply wR;simp -dsimp[rmC])|refine aI ?_)
 by_cases hin:i<r.fs.length
 ·have e1:IntKind.i64.wrap ((i:Int)+1)=((i+1:Nat):Int):=by rw[IntWalk.i64_in _ (by omega)];omega
  have hiK:i<K.length:=by omega
  have hx:fat K i=r.fs[i].1:=by
   rw[fat,sQ_ hiK]
   simp only[← hK,List.getElem_map]
  have hm:=ho _ (List.getElem_mem hin)
  have h27:=rQ_ r.fs[i].1 r.fs[i].1 hm.1 hm.1
  rw[(fH_ hm.1 hm.1).2 rfl] at h27
  have aa:=d8_ hin ho
  have b7:=wO_ r.fs[i]
  have lx:=aO_ hm
  have fa:=xw_ hiK
  rw[hx] at fa
  generalize r.fs[i]=x at *
  have l57:=ar_ x.1
  refine cT (by simp;omega) ?_
  refine WP.skip ?_
  simp -dsimp
  repeat(first|apply wG|(apply wR;simp -dsimp[rmC,aa,b7,lx,lC,hin,hiK,fa,l57,lF])|refine aI ?_)
  refine al_ ix_ h27 rfl rfl (And.intro (by simp[fD,b7];try exact am_ _) (And.intro (by simp[fD,fa];try exact am_ _) trivial)) ?_
  simp -dsimp
  repeat refine aI ?_
  refine cF (by simp) ?_
  refine WP.skip ?_
  simp -dsimp
  repeat(first|apply wG|(apply wR;simp -dsimp)|refine aI ?_)
  refine loopW.next (hoS r K (i+1)) (ae_ [] (by simp[e1]) (by simp[rmC])) (r.fs.length-(i+1)) (by omega) ⟨i+1,rfl,by omega,rfl⟩
 ·obtain rfl:i=r.fs.length:=by omega
  refine cF (by simp;omega) ?_
  refine WP.exit ?_
  simp -dsimp
  repeat(first|apply wG|(apply wR;simp -dsimp)|refine aI ?_)
  refine WP.ret (ac_ ?_)
  simp -dsimp
/-! ### the script -/
structure Act where
 f:F
 stop:Bool
 res:Bool
 left:UInt8
def acA (a:Act):List D:=fcs a.f 0 57++[.v (.bool a.stop),.v (.bool a.res),.v (.int .u8 (a.left.toNat:Int))]
def acC (l:List Act):List D:=l.flatMap acA
def acD (l:List Act):D:=.sl 60 (acC l) l.length false
theorem fN_ (a:Act):(acA a).length=60:=by rw[acA,List.length_append,ar_];rfl
theorem tE_:∀ l:List Act,(acC l).length=l.length*60
 | []=>rfl
 | a::l=>by rw[acC,List.flatMap_cons,List.length_append,fN_,← acC,tE_ l,List.length_cons];omega
theorem ws_:∀ {l:List Act} {i:Nat} (h:i<l.length),((acC l).drop (i*60)).take 60=acA l[i]
 | a::l,0,_=>by
  rw[acC,List.flatMap_cons,Nat.zero_mul,List.drop_zero,List.take_left' (fN_ a)];rfl
 | a::l,i+1,h=>by
  rw[acC,List.flatMap_cons,show (i+1)*60=60+i*60 by omega,← List.drop_drop,List.drop_left' (fN_ a),← acC]
  exact ws_ (by simpa using h)
end Go.Proofs.YtfgcgagcpnbgmaaGreatDoor
set_option linter.unusedVariables false
set_option linter.unusedSimpArgs false
set_option linter.unusedSectionVars false
namespace Go.Proofs.YtfgcgagcpnbgmaaGreatDoor
open Go.Xe Go.RowKit
theorem zx_ {n:Nat} {ds:List D} (h:OkD ag_ n 98 ds):∃ a:Act,ds=acA a∧fOk a.f:=by
 cases n with
 | zero=>exact h.elim
 | succ n =>
  simp only[OkD,vP_] at h
  obtain⟨l,rfl,hl,h⟩:=h
  match l,hl,h with
  | [a,b,c,d],_,h =>
   obtain⟨f,rfl,hf⟩:=xE_ (h 0 a (0,67) rfl rfl)
   obtain⟨x,rfl⟩:=sm_ (h 1 b (57,4) rfl rfl)
   obtain⟨y,rfl⟩:=sm_ (h 2 c (58,4) rfl rfl)
   obtain⟨z,rfl⟩:=xg_ (h 3 d (59,5) rfl rfl)
   exact⟨⟨f,x,y,z⟩,by simp[acA,aN_],hf⟩
theorem vN_ {n:Nat} {ds:List D} (h:OkD ag_ n 94 ds):∃ l:List Act,lX_ ag_ 94 ds=acD l∧(∀ a∈l,fOk a.f)∧l.length≤1000000000000:=by
 cases n with
 | zero=>exact h.elim
 | succ n =>
  simp only[OkD,vQ_] at h
  obtain⟨m,rfl,h1,h2⟩:=h
  have key:∀ m:List (List D),(∀ x∈m,OkD ag_ n 98 x)→∃ l:List Act,m.flatten=acC l∧l.length=m.length∧∀ a∈l,fOk a.f:=by
   intro m
   induction m with
   | nil=>intro _;exact⟨[],rfl,rfl,fun _ h=>by cases h⟩
   | cons x m ih =>
    intro h
    obtain⟨p,hp,hpo⟩:=zx_ (h x (by simp))
    obtain⟨l,h3,h4,h5⟩:=ih fun y hy=>h y (by simp[hy])
    refine⟨p::l,?_,by simp[h4],fun q hq=>?_⟩
    ·rw[List.flatten_cons,hp,h3];rfl
    ·rcases List.mem_cons.1 hq with rfl|hq
     ·exact hpo
     ·exact h5 q hq
  obtain⟨l,h3,h4,h5⟩:=key m h1
  refine⟨l,?_,h5,?_⟩
  ·rw[h3,← h4]
   rfl
  ·have e:400≤tby ag_ 98:=by decide
   have h6:m.length*400≤m.length*tby ag_ 98:=Nat.mul_le_mul_left _ e
   omega
end Go.Proofs.YtfgcgagcpnbgmaaGreatDoor
set_option linter.unusedVariables false
set_option linter.unusedSimpArgs false
set_option linter.unusedSectionVars false
namespace Go.Proofs.YtfgcgagcpnbgmaaGreatDoor
open Go.Xe Go.RowKit
def dC (s:List By) (left:Int):List D:=[.v (.int .i64 2),slB [1],.v (.int .i64 3),.v (.int .i64 (recs s).length),slLB s,.sl 2 [] 0 false,.v (.int .i64 left),.v (.bool false),.v (.int .i64 s.length),slLB (recs s),.v (.int .i64 (recs s).length),.sl 61 (sgC (onL [1] 3 (recs s))) (recs s).length false,.v (.int .i64 0)]
theorem ln_ (s:List By) (left:Int):rmD (dR s left)=.agg (dC s left):=oO_ 2 [1] 3 s left 0
abbrev drS (sc:List Act) (s:List By) (left:Int) (K:List F) (all:List Sg) (i:Nat):St :=
 mkS 159 [(0,.d (acD sc)),(3,.ptr 3 0),(7,.d (crwD dCr)),(8,.row 500),(9,.row 501),(10,.d (.v (.int .i64 i)))]
  [(3,.cells 33 ((dC s left).map .d)),(500,.row 67 57 K.length ((fsC K).map .d)),(501,.row 82 61 all.length ((sgC all).map .d))]
abbrev drT (sc:List Act) (s:List By) (left:Int) (K:List F) (all:List Sg) (i:Nat) (a:Act):St :=
 mkS 159 [(0,.d (acD sc)),(3,.ptr 3 0),(7,.d (crwD dCr)),(8,.row 500),(9,.row 501),(10,.d (.v (.int .i64 i))),(11,.ptr 11 0)]
  [(3,.cells 33 ((dC s left).map .d)),(11,.cells 98 ((acA a).map .d)),(500,.row 67 57 K.length ((fsC K).map .d)),(501,.row 82 61 all.length ((sgC all).map .d))]
abbrev duV (all:List Sg) (i:Nat):St:=mkS 159 [(7,.d (crwD dCr)),(9,.d (sgD all false)),(17,.d (.v (.int .i64 i)))] []
theorem lP_ {s:List By} {left:Int} (h:dOk s left):rmOk (dR s left):=ki_ h (by decide)
theorem wn_ {s:List By} {left:Int} (h:dOk s left):rmB (dR s left)=true:=eY_ h
theorem vw_ (s:List By) (left:Int):(dR s left).fs=onL [1] 3 (recs s):=rfl
theorem Ak_ (a:Act):atL ((acA a).map AV.d) 57=.d (.v (.bool a.stop)):=rfl
theorem Aj_ (a:Act):atL ((acA a).map AV.d) 58=.d (.v (.bool a.res)):=rfl
theorem Ai_ (a:Act):atL ((acA a).map AV.d) 59=.d (.v (.int .u8 (a.left.toNat:Int))):=rfl
theorem Ah_ (a:Act):List.take 57 ((acA a).map AV.d)=(fcs a.f 0 57).map .d:=by
 rw[← List.map_take,acA,List.take_left' (ar_ _)]
theorem Ag_ (a:Act):List.take 60 ((acA a).map AV.d)=(acA a).map .d:=List.take_of_length_le (by rw[List.length_map,fN_];exact Nat.le_refl _)
theorem DI_ (a:Act):List.take 60 (acA a)=acA a:=List.take_of_length_le (by rw[fN_];exact Nat.le_refl _)
theorem acA_one (a:Act):∀ d∈acA a,oneD d=true:=fun d hd=>by
 rcases List.mem_append.1 hd with h|h
 ·exact fcs_side h
 ·simp only[List.mem_cons,List.not_mem_nil,or_false] at h
  rcases h with rfl|rfl|rfl<;>rfl
theorem yY_ (Z A:List AV) (hZ:Z.length=33) (hA:A.length=32) (x:AV):(setL Z 0 A).set 32 x=A++[x]:=by
 rw[eN_ _ _ _ (by omega),hA]
 obtain⟨w,e⟩:∃ w,Z.drop (0+32)=[w]:=List.length_eq_one_iff.1 (by rw[List.length_drop];omega)
 rw[e,List.take_zero,List.nil_append]
 simp[List.set_append,hA]
theorem Ab_ {s:List By} {left:Int} (h:dOk s left) {f:Nat→Int} (hf:fOk f):∃ X e s2 L3,oR_ (dR s left) f=(X,e)∧dOk s2 L3∧(∃ t,recs s2=recs s++t) ∧
  ((e=0∧X=dR s2 L3∧kpF s2=kpF s++[ownF 2 (kpF s).length f])∨(e=380∧X=dR s2 L3∧recs s2=recs s)∨(e≠0∧e≠380∧s2=s∧L3=left)):=by
 rcases d_rec h hf with⟨s',l',e1,o1,⟨b,r1⟩,k1⟩|⟨s',e1,o1,r1⟩|⟨e,e1,n1,n2⟩
 ·exact⟨_,_,s',l',e1,o1,⟨[b],r1⟩,.inl ⟨rfl,rfl,by rw[kl_];exact k1⟩⟩
 ·exact⟨_,_,s',-1,e1,o1,⟨[],by rw[r1,List.append_nil]⟩,.inr (.inl ⟨rfl,rfl,r1⟩)⟩
 ·exact⟨_,e,s,left,e1,h,⟨[],by rw[List.append_nil]⟩,.inr (.inr ⟨n1,n2,rfl,rfl⟩)⟩
set_option maxRecDepth 10000 in
set_option maxHeartbeats 8000000 in
theorem nG_ (sc:List Act) (hf:∀ a∈sc,fOk a.f) (hsc:sc.length≤1000000000000):Fn0 Tryz.prog 9 [acD sc] (.v (.bool true)):=by
 have h10:=rP_
 have h31:=oE_ 3 12
 rw[xS_,rmT,ln_] at h31
 have lA:=tE_ sc
 refine ad_ (pn:=ap_) aa_ Tryz.func9 rfl fun β0=>?_
 simp only[Tryz.f9]
 repeat(first|apply wG|(apply wR;simp -dsimp)|refine aI ?_)
 refine ab_ ou_ h10 rfl rfl (by simp) ?_
 simp -dsimp
 repeat(first|apply wG|(apply wR;simp -dsimp)|refine aI ?_)
 refine cF (by simp) ?_
 refine WP.skip ?_
 simp -dsimp[acD]
 repeat(first|apply wG|(apply wR;simp -dsimp[acD])|refine aI ?_)
 by_cases h6:sc.length≤6
 ·refine cF (by simp;omega) ?_
  refine WP.skip ?_
  have h29:=dK_ [1] (by decide) 3 (recs (zeS 12)).length
  rw[aV_] at h29
  have hpb:oX_ [1] 3 (([]:List By).length:Int)=(treeB (pubsB [1] 3),0):=by rw[oX_,if_pos (by decide)];rfl
  rw[hpb] at h29
  have hT:(treeB (pubsB [1] 3)).length=32:=aX_ _
  have eC:crC dCr=crX (z32,1)++(crX (z32,1)++crX (treeB (pubsB [1] 3),3)):=by simp[dCr,crC]
  obtain⟨d,hd⟩:∃ d,treeB (pubsB [1] 3)=d:=⟨_,rfl⟩
  rw[hd] at h29 hT eC
  have ld:=bys_len d
  have td:=bysA_take d hT
  simp -dsimp
  repeat(first|apply wG|(apply wR;simp -dsimp)|refine aI ?_)
  refine ab_ iw_ h31 rfl rfl (by simp) ?_
  simp -dsimp[dC,aV_]
  repeat(first|apply wG|(apply wR;simp -dsimp)|refine aI ?_)
  refine ab_ bP_ h29 rfl rfl (by simp[keyD,slB]) ?_
  simp -dsimp[dD,setL_whole,ld,hT]
  refine And.intro (fun a h=>ao_ h) ?_
  repeat(first|apply wG|(apply wR;simp -dsimp[setL_whole,ld,hT])|refine aI ?_)
  refine cF (by simp) ?_
  refine WP.skip ?_
  have eCr:(bys d).map AV.d++[AV.d (.v (.int .i64 3))]=(crX (d,3)).map .d:=by simp[crX]
  have lCr:(crX (d,3)).length=33:=fK_ ⟨hT,by simp only[isI];decide⟩
  simp -dsimp
  refine WP.seq ?_
  refine WP.region aa_ ?_
  simp -dsimp[td,yY_,setL_whole,bys_len,hT,eCr,lCr,setL_length]
  refine And.intro (fun a h=>ao_ h) (And.intro (fun a h=>nO_ h) ?_)
  have eZ:setL ((crX (z32,1)).map AV.d++((crX (z32,1)).map AV.d++(List.replicate 32 (AV.d (.v (.int .u8 0)))++[AV.d (.v (.int .i64 0))]))) 66 ((crX (d,3)).map .d)=(crC dCr).map .d:=by
   have h1:(crX (z32,1)).length=33:=rfl
   rw[eN_ _ _ _ (by simp[h1,lCr]),← List.append_assoc,List.take_left' (by simp[h1]),List.drop_of_length_le (by simp[h1,lCr]),List.append_nil,eC,List.map_append,List.map_append,List.append_assoc]
  refine an_ (Wk.freeze (k:=43) (T:=92) (sz:=33) (n:=3) (ds:=crC dCr) (congrArg (fun x=>some (Box.row 92 33 3 x)) eZ)) ?_
  simp -dsimp
  repeat(first|apply wG|(apply wR;simp -dsimp)|refine aI ?_)
  refine an_ (S':=mkS 159 [(0,.d (.sl 60 (acC sc) sc.length false)),(3,.ptr 3 0),(7,.d (.sl 33 (crC dCr) 3 false)),(8,.row 500),(9,.row 45),(10,.d (.v (.int .i64 0)))] [(3,.cells 33 [.d (.v (.int .i64 2)),.d (.sl 1 [.v (.int .u8 1)] 1 false),.d (.v (.int .i64 3)),.d (.v (.int .i64 0)),.d (.sl 1 (lsB (zeS 12)) (zeS 12).length false),.d (.sl 2 [] 0 false),.d (.v (.int .i64 (-1))),.d (.v (.bool false)),.d (.v (.int .i64 (zeS 12).length)),.d (.sl 1 (lsB []) 0 false),.d (.v (.int .i64 0)),.d (.sl 61 (sgC (onL [1] 3 [])) 0 false),.d (.v (.int .i64 0))]),(500,.row 67 57 0 []),(45,.row 82 61 0 [])])
   (Wk.go [5] 44 500 (by decide) (by simp) (by simp) (by simp)) ?_
  refine ai_ (fun q S=>∃ i s left all,q=sc.length-i∧i≤sc.length∧dOk s left∧(∀ p∈all,p∈onL [1] 3 (recs s))∧all.length≤3*i∧S=drS sc s left (kpF s) all i) sc.length (S0:=drS sc (zeS 12) (-1) (kpF (zeS 12)) [] 0) (Wk.go [] 45 501 (by decide) (by simp[acD,crwD]) (by simp[acD,crwD,show dCr.length=3 from rfl]) (by simp[dC,aV_,qT_,sgC,slB,onL,bys,aN_])) ⟨0,_,_,[],rfl,by omega,qS_,(fun _ h=>by cases h),by simp,rfl⟩ ?_
  rintro _ _ ⟨i,s,left,all,rfl,hi,hd,hal,hall,rfl⟩
  simp -dsimp[acD,crwD]
  repeat(first|apply wG|(apply wR;simp -dsimp[acD,crwD])|refine aI ?_)
  by_cases hin:i<sc.length
  ·have e1:IntKind.i64.wrap ((i:Int)+1)=((i+1:Nat):Int):=by rw[IntWalk.i64_in _ (by omega)];omega
   refine cT (by simp;omega) ?_
   refine WP.skip ?_
   have hat:=ws_ hin
   have hfa:=hf _ (List.getElem_mem hin)
   obtain⟨a,ha⟩:∃ a,sc[i]=a:=⟨_,rfl⟩
   rw[ha] at hat hfa
   have lAa:=fN_ a
   have l57:=ar_ a.f
   simp -dsimp
   refine WP.seq (WP.block ?_)
   refine WP.seq ?_
   refine WP.region aa_ ?_
   simp -dsimp[hat,hin,lA,lAa,Ag_,DI_]
   refine And.intro (acA_one a) ?_
   obtain⟨k4,hk4⟩:∃ k4,a.left.toNat%4=k4:=⟨_,rfl⟩
   have hk4':k4<4:=by omega
   have t4:((a.left.toNat:Int)).tmod 4=(k4:Int):=by rw[Int.tmod_eq_emod_of_nonneg (by omega)];omega
   have w4:IntKind.i64.wrap (k4:Int)=(k4:Int):=IntWalk.i64_in _ (by omega)
   obtain⟨L1,hL1⟩:∃ L1:Int,(if a.stop=true then (k4:Int) else left)=L1:=⟨_,rfl⟩
   have hd1:dOk s L1:=by
    rw[← hL1]
    split
    ·exact Aa_ hd (by omega) (by omega)
    ·exact hd
   refine b7_ (drT sc s L1 (kpF s) all i a) ?_ ?_
   ·refine WP.seq ?_
    refine WP.region aa_ ?_
    simp -dsimp[Ak_,lAa,dC]
    cases hst:a.stop with
    | true =>
     rw[hst,if_pos rfl] at hL1
     have hdb:dkB ⟨s,[],left,false⟩=true:=bp_.2 ⟨⟨hd.n1,hd.n2,Nat.zero_le _,hd.l1,hd.l2⟩,(fun _ h=>by cases h),hd.h128⟩
     have h32:=s9_ ⟨s,[],left,false⟩ hdb rfl k4 (by omega)
     refine cT (by simp) ?_
     repeat(first|apply wG|(apply wR;simp -dsimp[Ai_,lAa,t4,w4])|refine aI ?_)
     refine ab_ oo_ h32 rfl rfl (by simp[dkD,dkC,wrD,wrC]) ?_
     simp -dsimp[dkD,dkC,wrD,wrC]
     repeat(first|apply wG|(apply wR;simp -dsimp[dkD,dkC])|refine aI ?_)
     refine cF (by simp) ?_
     refine WP.skip ?_
     refine aI_ (ae_ [] (by simp[acD,crwD]) (by simp[dC,hL1]))
    | false =>
     rw[hst,if_neg (by decide)] at hL1
     refine cF (by simp) ?_
     refine WP.skip ?_
     refine aI_ (ae_ [] (by simp[acD,crwD]) (by simp[dC,hL1]))
   obtain⟨L2,hL2⟩:∃ L2:Int,(if a.res=true then (-1:Int) else L1)=L2:=⟨_,rfl⟩
   have hd2:dOk s L2:=by
    rw[← hL2]
    split
    ·exact wX_ hd1
    ·exact hd1
   have lkp:=kl_ s
   have lrs:=th_ hd
   have hhold:∀ L,dOk s L→Fun Tryz.prog 33 [.d (rmD (dR s L)),.row 1000] [(1000,.row 67 57 (kpF s).length ((fsC (kpF s)).map .d))] (.d (.v (.bool true))) [(1000,.row 67 57 (kpF s).length ((fsC (kpF s)).map .d))] fun _=>False:=fun L hL =>
    po_ (dR s L) (kpF s) (sj_ [1] 3 s) (fun p hp=>((lP_ hL).fo p hp).1) (by rw[vw_,bn_];omega)
   refine b7_ (drT sc s L2 (kpF s) all i a) ?_ ?_
   ·refine WP.seq ?_
    refine WP.region aa_ ?_
    simp -dsimp[Aj_,lAa,dC]
    cases hrs:a.res with
    | true =>
     rw[hrs,if_pos rfl] at hL2
     subst hL2
     have h23:=jV_ (dR s L1) (lP_ hd1)
     rw[show v2_ (dR s L1)=(dR s (-1),0) from v1_ hd1,rmT,ln_,ln_] at h23
     have h33:=hhold (-1) hd2
     rw[ln_] at h33
     refine cT (by simp) ?_
     repeat(first|apply wG|(apply wR;simp -dsimp)|refine aI ?_)
     refine ab_ eA_ h23 rfl rfl (by simp[dC]) ?_
     simp -dsimp[dC]
     repeat(first|apply wG|(apply wR;simp -dsimp[dC])|refine aI ?_)
     refine bt_ iv_ (fun _=>h33) (rl [(1000,500)]) rfl (fun _=>rfl) (fun _=>by simp[dC]) (fun _=>af_ (by simp[BoxLeq]) rfl (by first|rfl|(simp;done)) (by simp) (by simp)) (fun _=>by simp) ?_
     simp -dsimp
     repeat(first|apply wG|(apply wR;simp -dsimp)|refine aI ?_)
     refine cF (by simp) ?_
     refine WP.skip ?_
     refine aI_ (ae_ [] (by simp[acD,crwD]) (by simp[dC]))
    | false =>
     rw[hrs,if_neg (by decide)] at hL2
     refine cF (by simp) ?_
     refine WP.skip ?_
     refine aI_ (ae_ [] (by simp[acD,crwD]) (by simp[dC,hL2]))
   obtain⟨X,e,s2,L3,hX,hd3,⟨tl,htl⟩,hcs⟩:=Ab_ hd2 hfa
   have h17:=gV_ (dR s L2) (lP_ hd2) a.f hfa
   rw[hX,ln_,rmT] at h17
   have hrf:=oQ_ a.f 2 (kpF s).length
   have eR:IntKind.i64.wrap (((kpF s).length:Int)+1)=((kpF s).length:Int)+1:=IntWalk.i64_in _ (by omega)
   have hfo:fOk (ownF 2 (kpF s).length a.f):=j7_ hfa (by simp[isI]) (by omega)
   have l57o:=ar_ (ownF 2 (kpF s).length a.f)
   simp -dsimp[dC]
   refine WP.seq ?_
   refine WP.region aa_ ?_
   simp -dsimp[Ah_,lAa]
   repeat refine aI ?_
   refine ab_ c7_ h17 rfl rfl (by simp[dC,fD]) ?_
   simp -dsimp[rmD,rmC]
   repeat refine aI ?_
   refine WP.seq ?_
   refine WP.region aa_ ?_
   simp -dsimp[Ah_,lAa]
   repeat refine aI ?_
   refine WP.seq ?_
   refine WP.region aa_ ?_
   simp -dsimp[eR,hrf]
   repeat refine aI ?_
   refine b7_ (drS sc s2 L3 (kpF s2) all i) ?_ ?_
   ·refine WP.seq ?_
    refine WP.region aa_ ?_
    simp -dsimp
    rcases hcs with⟨rfl,rfl,hk⟩|⟨rfl,rfl,hk⟩|⟨n1,n2,rfl,rfl⟩
    ·have hkc:fsC (kpF s2)=fsC (kpF s)++fcs (ownF 2 (kpF s).length a.f) 0 57:=by
      rw[hk,qK_,g6_];simp
     have hkl:(kpF s2).length=(kpF s).length+1:=by rw[hk];simp
     refine WP.block ?_
     repeat(first|apply wG|(apply wR;simp -dsimp)|refine aI ?_)
     refine cT (by simp) ?_
     repeat(first|apply wG|(apply wR;simp -dsimp[l57o])|refine aI ?_)
     refine aI_ (Wk.go [105,11,12,14] 106 500 (by decide) (by simp[acD,crwD]) (by simp[acD,crwD]) (by simp[dC,dR,mkR,slB,bn_,hkc,hkl,sgD,wrC]))
    ·have hkk:kpF s2=kpF s:=by rw[kpF,hk];rfl
     have hxl:(dR s2 L3).fs.length=(kpF s).length:=by rw[vw_,bn_,hk,kl_]
     refine WP.block ?_
     repeat(first|apply wG|(apply wR;simp -dsimp)|refine aI ?_)
     refine cF (by simp) ?_
     repeat(first|apply wG|(apply wR;simp -dsimp)|refine aI ?_)
     refine cT (by simp) ?_
     repeat(first|apply wG|(apply wR;simp -dsimp[hxl])|refine aI ?_)
     refine cF (by simp[hxl]) ?_
     refine WP.skip ?_
     simp -dsimp
     repeat(first|apply wG|(apply wR;simp -dsimp)|refine aI ?_)
     refine aI_ (ae_ [11,12,14] (by simp[acD,crwD]) (by simp[dC,dR,mkR,slB,bn_,hkk,wrC,kl_,hk]))
    ·refine WP.block ?_
     repeat(first|apply wG|(apply wR;simp -dsimp)|refine aI ?_)
     refine cF (by simp[n1]) ?_
     repeat(first|apply wG|(apply wR;simp -dsimp)|refine aI ?_)
     refine cF (by simp[n2]) ?_
     refine WP.skip ?_
     simp -dsimp
     refine aI_ (ae_ [11,12,14] (by simp[acD,crwD]) (by simp[dC]))
   have h19:=jX_ (dR s2 L3) (lP_ hd3) (by rw[vw_,bn_];have:=th_ hd3;omega)
   rw[wr_,if_pos (wn_ hd3),show (dR s2 L3).fs.drop (dR s2 L3).sent.toNat=onL [1] 3 (recs s2) from rfl,ln_] at h19
   have h15:=b9_ (dR s2 L3) (lP_ hd3)
   rw[x3_ (wn_ hd3),ln_] at h15
   have h33:=po_ (dR s2 L3) (kpF s2) (sj_ [1] 3 s2) (fun p hp=>((lP_ hd3).fo p hp).1) (by rw[vw_,bn_];have:=th_ hd3;omega)
   rw[ln_] at h33
   have lon:=bn_ [1] 3 (recs s2)
   have hlr2:=th_ hd3
   have hal2:∀ p∈all++onL [1] 3 (recs s2),p∈onL [1] 3 (recs s2):=fun p hp=>by
    rcases List.mem_append.1 hp with h|h
    ·have:=hal p h
     rw[htl,onL,List.map_append]
     exact List.mem_append_left _ this
    ·exact h
   have hsoF:∀ p∈onL [1] 3 (recs s2),b2_ p:=fun p hp=>((lP_ hd3).fo p hp).1
   have lonC:=sgC_len hsoF
   have hone:∀ c∈sgC (onL [1] 3 (recs s2)),oneD c=true:=fun c hc=>by
    obtain⟨p,hp,hc⟩:=List.mem_flatMap.1 hc
    exact sgc_oneD (hsoF p hp) c hc
   simp -dsimp[dC,acD,crwD]
   repeat(first|apply wG|(apply wR;simp -dsimp)|refine aI ?_)
   refine ab_ eB_ h19 rfl rfl (by simp[dC]) ?_
   simp -dsimp
   repeat(first|apply wG|(apply wR;simp -dsimp)|refine aI ?_)
   refine ab_ a4_ h15 rfl rfl (by simp[dC]) ?_
   simp -dsimp
   repeat(first|apply wG|(apply wR;simp -dsimp)|refine aI ?_)
   refine bt_ iv_ (fun _=>h33) (rl [(1000,500)]) rfl (fun _=>rfl) (fun _=>by simp[dC]) (fun _=>af_ (by simp[BoxLeq]) rfl (by first|rfl|(simp;done)) (by simp) (by simp)) (fun _=>by simp) ?_
   simp -dsimp
   repeat(first|apply wG|(apply wR;simp -dsimp)|refine aI ?_)
   refine cF (by simp) ?_
   refine WP.skip ?_
   simp -dsimp
   repeat(first|apply wG|(apply wR;simp -dsimp[lon,lonC])|refine aI ?_)
   refine loopW.next (drS sc s2 L3 (kpF s2) (all++onL [1] 3 (recs s2)) (i+1)) (Wk.go [] 141 501 (by decide) (by simp[acD,crwD]) (by simp[acD,crwD,e1]) (by simp[dC,sgC_append,List.length_append,lon])) (sc.length-(i+1)) (by omega) ⟨i+1,s2,L3,_,rfl,by omega,hd3,hal2,by rw[List.length_append,lon];omega,rfl⟩
  ·refine cF (by simp;omega) ?_
   refine WP.exit ?_
   have hfs:=(lP_ hd).fo
   have hao:∀ p∈all,b2_ p∧sgT p:=fun p hp=>hfs p (hal p hp)
   have hso:∀ p∈all,b2_ p:=fun p hp=>(hao p hp).1
   have lC:=sgC_len hso
   have h34:=u5_ all false hso (by omega)
   rw[Dx_ hd hal] at h34
   refine an_ ((Wk.freeze (k:=501) (T:=82) (sz:=61) (n:=all.length) (ds:=sgC all) (by simp)).trans (ae_ [3,500] (S':=mkS 159 [(7,.d (crwD dCr)),(9,.d (sgD all false))] []) (by simp[crwD]) (by simp))) ?_
   simp -dsimp
   repeat(first|apply wG|(apply wR;simp -dsimp)|refine aI ?_)
   refine ai_ (fun q S=>∃ j:Nat,q=all.length-j∧j≤all.length∧S=duV all j) all.length (S0:=duV all 0) (ae_ [] (by simp[crwD]) (by simp)) ⟨0,rfl,by omega,rfl⟩ ?_
   rintro _ _ ⟨j,rfl,hj,rfl⟩
   simp -dsimp[crwD]
   repeat(first|apply wG|(apply wR;simp -dsimp[crwD])|refine aI ?_)
   by_cases hjn:j<all.length
   ·have e1:IntKind.i64.wrap ((j:Int)+1)=((j+1:Nat):Int):=by rw[IntWalk.i64_in _ (by omega)];omega
    have hm:all[j]∈all:=List.getElem_mem hjn
    have w1:=kE_ dCr Ac_ (by decide) all[j] (hao _ hm).1.1 (hao _ hm).2
    rw[Dw_ hd (hal _ hm)] at w1
    have aa:=d8_ hjn hso
    have lx:=aO_ (hso _ hm)
    have tx:=na_ (hso _ hm)
    generalize all[j]=x at *
    refine cT (by simp;omega) ?_
    refine WP.skip ?_
    simp -dsimp
    repeat(first|apply wG|(apply wR;simp -dsimp[aa,lC,hjn,lx,tx])|refine aI ?_)
    refine al_ op_ w1 rfl rfl (And.intro (by simp[crwD];try exact .refl _) (And.intro (by simp[sgV,tx];try exact .refl _) trivial)) ?_
    simp -dsimp
    repeat refine aI ?_
    refine cF (by simp) ?_
    refine WP.skip ?_
    simp -dsimp
    repeat(first|apply wG|(apply wR;simp -dsimp)|refine aI ?_)
    refine loopW.next (duV all (j+1)) (ae_ [] (by simp[crwD,e1]) (by simp)) (all.length-(j+1)) (by omega) ⟨j+1,rfl,by omega,rfl⟩
   ·obtain rfl:j=all.length:=by omega
    refine cF (by simp) ?_
    refine WP.exit ?_
    simp -dsimp
    repeat(first|apply wG|(apply wR;simp -dsimp)|refine aI ?_)
    refine ab_ on_ h34 rfl rfl (by simp) ?_
    simp -dsimp
    repeat(first|apply wG|(apply wR;simp -dsimp)|refine aI ?_)
    refine WP.ret (ac_ ?_)
    simp -dsimp
 ·refine cT (by simp;omega) ?_
  repeat(first|apply wG|(apply wR;simp -dsimp)|refine aI ?_)
  refine WP.ret (ac_ ?_)
  simp -dsimp
end Go.Proofs.YtfgcgagcpnbgmaaGreatDoor
