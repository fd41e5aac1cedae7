/-
  Joined texts.
-/
import Derived.Test.YtdjkbdhdejlakaaGreatDoorVO
import Derived.Test.YtdjkbdhdejlakaaGreatDoorV0
import Derived.Test.YtdjkbdhdejlakaaGreatDoorV4
import Derived.Test.YtdjkbdhdejlakaaGreatDoorCards
import Derived.Test.YtdjkbdhdejlakaaGreatDoorTie
import Derived.SevenTiedAt
import Derived.Stop.Joined
import Derived.Test.YtdjkbdhdejlakaaGreatDoorVB
import Derived.Test.YtdjkbdhdejlakaaGreatDoorVR
import Derived.Test.YtdjkbdhdejlakaaGreatDoorVZ
set_option linter.unusedVariables false
set_option linter.unusedSimpArgs false
set_option linter.unusedSectionVars false
namespace Go.Proofs.YtdjkbdhdejlakaaGreatDoor
open Go.Xe Go.RowKit
theorem wu_:ownKnob Tryz.prog.godebug=none:=by kernel_rfl
theorem mP_:laidOutB Tryz.prog=true:=by kernel_rfl
def B7_:List TypeId:=[5,157,74,59,61,63,22,76,23,25,151]++FL
theorem wv_:gOk aj_ B7_=true:=by decide
theorem wO_ {n:Nat} {ds:List D} (h:OkD aj_ n 3 ds):∃ x,ds=[.v (.int .i64 x)]∧isI x:=by
 cases n with
 | zero=>exact h.elim
 | succ n =>
  simp only[OkD,yW_] at h
  exact h
theorem x1_ {n:Nat} {ds:List D} (h:OkD aj_ n 5 ds):∃ c:UInt8,ds=[aS_ c]:=by
 cases n with
 | zero=>exact h.elim
 | succ n =>
  simp only[OkD,uu_] at h
  obtain⟨x,rfl,h1,h2⟩:=h
  have h1:(0:Int)≤x:=h1
  have h2:x≤255:=h2
  refine⟨UInt8.ofNat x.toNat,?_⟩
  rw[aS_]
  simp
  omega
theorem wP_ {n:Nat}:∀ l:List (List D),(∀ x∈l,OkD aj_ n 5 x)→∃ bs:List UInt8,l.flatten=bys bs∧l.length=bs.length
 | [],_=>⟨[],rfl,rfl⟩
 | x::l,h=>by
  obtain⟨c,hc⟩:=x1_ (h x (by simp))
  obtain⟨bs,h2,h3⟩:=wP_ l fun y hy=>h y (by simp[hy])
  exact⟨c::bs,by rw[List.flatten_cons,hc,h2];rfl,by simp[h3]⟩
theorem zZ_ {n:Nat} {ds:List D} (h:OkD aj_ n 74 ds):∃ d:Dg,ds=bys d∧d.length=32:=by
 cases n with
 | zero=>exact h.elim
 | succ n =>
  simp only[OkD,ll_] at h
  obtain⟨l,rfl,h1,h2⟩:=h
  obtain⟨bs,h3,h4⟩:=wP_ l h2
  exact⟨bs,h3,by rw[← h4,h1]⟩
theorem s2_ {n:Nat} {ds:List D} (h:OkD aj_ n 59 ds):∃ l:List Dg,ds=[slG l]∧bf_ l:=by
 cases n with
 | zero=>exact h.elim
 | succ n =>
  simp only[OkD,wp_] at h
  obtain⟨m,rfl,h1,_⟩:=h
  have key:∀ m:List (List D),(∀ x∈m,OkD aj_ n 74 x)→∃ l:List Dg,m.flatten=dgL l∧m.length=l.length∧bf_ l:=by
   intro m
   induction m with
   | nil=>intro _;exact⟨[],rfl,rfl,fun _ h=>by cases h⟩
   | cons x m ih =>
    intro h
    obtain⟨d,hd,hl⟩:=zZ_ (h x (by simp))
    obtain⟨l,h2,h3,h4⟩:=ih fun y hy=>h y (by simp[hy])
    refine⟨d::l,by rw[List.flatten_cons,hd,h2];rfl,by simp[h3],fun y hy=>?_⟩
    rcases List.mem_cons.1 hy with rfl|hy
    ·exact hl
    ·exact h4 y hy
  obtain⟨l,h2,h3,h4⟩:=key m h1
  exact⟨l,by rw[h2,h3];rfl,h4⟩
theorem zY_ {n:Nat} {ds:List D} (h:OkD aj_ n 61 ds):∃ (k:Int) (op cl pa:List Dg),ds=sigC k op cl pa∧isI k∧bf_ op∧bf_ cl∧bf_ pa:=by
 cases n with
 | zero=>exact h.elim
 | succ n =>
  simp only[OkD,wo_] at h
  obtain⟨l,rfl,hl,h⟩:=h
  match l,hl,h with
  | [a,b,c,d],_,h =>
   obtain⟨x,ha,hx⟩:=wO_ (h 0 a (0,3) rfl rfl)
   obtain⟨l1,hb,h1⟩:=s2_ (h 1 b (1,59) rfl rfl)
   obtain⟨l2,hc,h2⟩:=s2_ (h 2 c (2,59) rfl rfl)
   obtain⟨l3,hd,h3⟩:=s2_ (h 3 d (3,59) rfl rfl)
   subst ha hb hc hd
   exact⟨x,l1,l2,l3,rfl,hx,h1,h2,h3⟩
theorem s0_ {n:Nat} {ds:List D} (h:OkD aj_ n 63 ds):∃ p:Sg,ds=sgc p∧aL_ p∧sgU p:=by
 cases n with
 | zero=>exact h.elim
 | succ n =>
  simp only[OkD,wn_] at h
  obtain⟨l,rfl,hl,h⟩:=h
  match l,hl,h with
  | [a,b],_,h =>
   obtain⟨f,rfl,hf⟩:=yu_ (h 0 a (0,58) rfl rfl)
   obtain⟨k,l1,l2,l3,rfl,hk,h1,h2,h3⟩:=zY_ (h 1 b (57,61) rfl rfl)
   exact⟨(f,_),by simp[sgc,sigC],⟨hf,rfl,fun d hd=>fk_ hd⟩,k,l1,l2,l3,rfl,hk,h1,h2,h3⟩
theorem ri_ {n:Nat} {ds:List D} (h:OkD aj_ n 23 ds):∃ l:List Sg,ds=[sgD l false]∧(∀ p∈l,aL_ p∧sgU p)∧l.length≤1000000000000:=by
 cases n with
 | zero=>exact h.elim
 | succ n =>
  simp only[OkD,wr_] at h
  obtain⟨m,rfl,h1,h2⟩:=h
  have key:∀ m:List (List D),(∀ x∈m,OkD aj_ n 63 x)→∃ l:List Sg,m.flatten=sgC l∧l.length=m.length∧∀ p∈l,aL_ p∧sgU p:=by
   intro m
   induction m with
   | nil=>intro _;exact⟨[],rfl,rfl,fun _ h=>by cases h⟩
   | cons x m ih =>
    intro h
    obtain⟨p,hp,hpo⟩:=s0_ (h x (by simp))
    obtain⟨l,h3,h4,h5⟩:=ih fun y hy=>h y (by simp[hy])
    refine⟨p::l,?_,by simp[h4],fun q hq=>?_⟩
    ·rw[List.flatten_cons,hp,h3];rfl
    ·rcases List.mem_cons.1 hq with rfl|hq
     ·exact hpo
     ·exact h5 q hq
  obtain⟨l,h3,h4,h5⟩:=key m h1
  refine⟨l,?_,h5,?_⟩
  ·rw[h3,← h4]
   rfl
  ·have e:tby aj_ 63=536:=rfl
   rw[e] at h2
   omega
theorem x0_ {n:Nat} {ds:List D} (h:OkD aj_ n 76 ds):∃ c:Crw,ds=crX c∧gC_ c:=by
 cases n with
 | zero=>exact h.elim
 | succ n =>
  simp only[OkD,wm_] at h
  obtain⟨l,rfl,hl,h⟩:=h
  match l,hl,h with
  | [a,b],_,h =>
   obtain⟨d,rfl,hd⟩:=zZ_ (h 0 a (0,74) rfl rfl)
   obtain⟨x,rfl,hx⟩:=wO_ (h 1 b (32,3) rfl rfl)
   exact⟨(d,x),by simp[crX],hd,hx⟩
theorem vj_ {n:Nat} {ds:List D} (h:OkD aj_ n 22 ds):∃ l:List Crw,ds=[crwD l]∧(∀ c∈l,gC_ c)∧l.length≤10000000000000:=by
 cases n with
 | zero=>exact h.elim
 | succ n =>
  simp only[OkD,ws_] at h
  obtain⟨m,rfl,h1,h2⟩:=h
  have key:∀ m:List (List D),(∀ x∈m,OkD aj_ n 76 x)→∃ l:List Crw,m.flatten=crC l∧l.length=m.length∧∀ c∈l,gC_ c:=by
   intro m
   induction m with
   | nil=>intro _;exact⟨[],rfl,rfl,fun _ h=>by cases h⟩
   | cons x m ih =>
    intro h
    obtain⟨c,hc,hco⟩:=x0_ (h x (by simp))
    obtain⟨l,h3,h4,h5⟩:=ih fun y hy=>h y (by simp[hy])
    refine⟨c::l,by rw[List.flatten_cons,hc,h3];rfl,by simp[h4],fun q hq=>?_⟩
    rcases List.mem_cons.1 hq with rfl|hq
    ·exact hco
    ·exact h5 q hq
  obtain⟨l,h3,h4,h5⟩:=key m h1
  refine⟨l,?_,h5,?_⟩
  ·rw[h3,← h4]
   rfl
  ·have e:tby aj_ 76=40:=rfl
   rw[e] at h2
   omega
theorem s1_ {n:Nat} {ds:List D} (h:OkD aj_ n 25 ds):∃ l:List Sg,ds=[sgD l false]∧(∀ p∈l,aL_ p∧sgU p)∧l.length≤1000000000000:=by
 cases n with
 | zero=>exact h.elim
 | succ n =>
  simp only[OkD,wq_] at h
  obtain⟨l,rfl,hl,h⟩:=h
  match l,hl,h with
  | [a],_,h =>
   obtain⟨x,rfl,h1,h2⟩:=ri_ (h 0 a (0,23) rfl rfl)
   exact⟨x,rfl,h1,h2⟩
theorem j0_ {n:Nat} {ds:List D} (h:OkD aj_ n 25 ds):∃ l,lf_ aj_ 25 ds=lgD l false∧((∀ p∈l,aL_ p)∧(∀ p∈l,sgU p)∧l.length≤1000000000000):=by
 obtain⟨l,rfl,h1,h2⟩:=s1_ h
 exact⟨l,rfl,fun p hp=>(h1 p hp).1,fun p hp=>(h1 p hp).2,h2⟩
theorem ug_ {n:Nat} {ds:List D} (h:OkD aj_ n 22 ds):∃ l,lf_ aj_ 22 ds=crwD l∧((∀ c∈l,gC_ c)∧l.length≤10000000000000):=by
 obtain⟨l,rfl,h1,h2⟩:=vj_ h
 exact⟨l,rfl,h1,h2⟩
def uv_:List TypeId:=[3,5,176,189,264,283,284]
theorem wt_:pOk aj_ uv_=true:=by decide
def laidL : List (String × DataW Unit) := [("stopwatch/digest.start", Rows.laid_stopwatch_digest_start), ("stopwatch/digest.permutations", Rows.laid_stopwatch_digest_permutations), ("stopwatch/facts.timeS", Rows.laid_stopwatch_facts_timeS), ("stopwatch/facts.lengthS", Rows.laid_stopwatch_facts_lengthS), ("stopwatch/facts.bibS", Rows.laid_stopwatch_facts_bibS), ("stopwatch/facts.matS", Rows.laid_stopwatch_facts_matS), ("stopwatch/facts.epochS", Rows.laid_stopwatch_facts_epochS), ("stopwatch/facts.chipS", Rows.laid_stopwatch_facts_chipS), ("stopwatch/facts.positionS", Rows.laid_stopwatch_facts_positionS), ("stopwatch/facts.caseS", Rows.laid_stopwatch_facts_caseS), ("stopwatch/facts.crewS", Rows.laid_stopwatch_facts_crewS), ("stopwatch/facts.numberS", Rows.laid_stopwatch_facts_numberS), ("stopwatch/facts.bitS", Rows.laid_stopwatch_facts_bitS)]
theorem vt_:h9_ Tryz.prog uv_ laidL=true:=by kernel_rfl
theorem n5_:(laidL.all fun x=>x.2.handleName?.isNone)=true:=by kernel_rfl
theorem v3_ (os:Os) (args:Array Value):laidMetH Tryz.prog laidL ((World.doorLaid Tryz.prog (400) os).forCall (fun _ _=>0) ⟨#[],args,[]⟩).memory :=
 laidMetH_of_parts3 (fuel:=8) (laidMet_of_run' 8 (by kernel_rfl) (by kernel_rfl)) (by kernel_rfl) (by kernel_rfl)
theorem yf_ (g:Nat) (ds:List D) (h:Glob.laid g=some ds):mh_ Tryz.prog laidL g=some ds:=by
 dsimp only[Glob.laid,instGlob] at h
 split at h<;>cases h<;>kernel_rfl
end Go.Proofs.YtdjkbdhdejlakaaGreatDoor
set_option linter.unusedVariables false
set_option linter.unusedSimpArgs false
set_option linter.unusedSectionVars false
namespace Go.Proofs.YtdjkbdhdejlakaaGreatDoor
open Go.Xe Go.RowKit
theorem s5_ {f:F} (h:(numF f).2=true):headE.all (inE f (susp f))=true:=by
 unfold numF at h
 split at h
 ·cases h
 ·split at h
  ·rename_i hc
   rw[Bool.and_eq_true,List.all_append,Bool.and_eq_true] at hc
   exact hc.2.1
  ·cases h
theorem vl_ {f:F} (h:(numF f).2=true):0≤f 0∧f 0≤31∧1≤f 1:=by
 have:=s5_ h
 simp[headE,inE,valE] at this
 obtain⟨_,⟨h1,h2⟩,⟨h3,_⟩,_⟩:=this
 exact⟨of_decide_eq_true h1,of_decide_eq_true h2,of_decide_eq_true h3⟩
theorem xj_ {l:List Sg} {f:F} (h:f∈vF l):0≤f 0∧f 0≤31∧1≤f 1:=by
 obtain⟨s,_,rfl,hs⟩:=jw_.1 h
 exact vl_ hs
end Go.Proofs.YtdjkbdhdejlakaaGreatDoor
