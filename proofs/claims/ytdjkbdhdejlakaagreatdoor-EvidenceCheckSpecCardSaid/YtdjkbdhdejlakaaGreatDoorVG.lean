/-
  Joined texts.
-/
import Derived.Test.YtdjkbdhdejlakaaGreatDoorVFC
import Derived.Test.YtdjkbdhdejlakaaGreatDoorV4
set_option maxRecDepth 10000
set_option maxHeartbeats 4000000
set_option linter.unusedVariables false
set_option linter.unusedSimpArgs false
set_option linter.unusedSectionVars false
namespace Go.Proofs.YtdjkbdhdejlakaaGreatDoor
open Go.Xe Go.RowKit
theorem hx_ (f:Nat→Int) (hf:fOk f):Fn0 Tryz.prog 46 [fD f] (.v (.int .i64 (if (numF f).2=true then 0 else 120))):=by
 have h24:=jJ_ f hf
 rw[pV_] at h24
 generalize numF f=R at *
 obtain⟨l,b⟩:=R
 refine ac_ (pn:=ao_) aa_ Tryz.func46 rfl fun β0=>?_
 simp only[Tryz.f46]
 rw[fD]
 repeat(first|apply wG|(apply wR;simp -dsimp)|refine aI ?_)
 refine ad_ iF_ h24 rfl rfl (by simp[fD]) ?_
 simp -dsimp
 repeat(first|apply wG|(apply wR;simp -dsimp)|refine aI ?_)
 cases b with
 | true =>
  refine cF (by simp) ?_
  refine WP.skip ?_
  simp -dsimp
  repeat(first|apply wG|(apply wR;simp -dsimp)|refine aI ?_)
  refine WP.ret (ab_ ?_)
  simp -dsimp
 | false =>
  refine cT (by simp) ?_
  repeat(first|apply wG|(apply wR;simp -dsimp)|refine aI ?_)
  refine WP.ret (ab_ ?_)
  simp -dsimp
def p0_ (x:Int):V:=.mk 1 x ⟨#[]⟩ []
def bJ_ (l:List Int):V:=.mk 3 0 ⟨#[]⟩ (l.map p0_)
theorem eP_:∀ {l:List Int},(∀ x∈l,isI x)→cD_ (l.map p0_)=true∧aT_ (l.map p0_)=0∧(aA_ (l.map p0_)).length≤11*l.length∧bH_ (l.map p0_)=true
 | [],_=>by simp[cD_,aT_,aA_,bH_]
 | x::l,h=>by
  obtain⟨h1,h2,h3,h4⟩:=eP_ (l:=l) fun y hy=>h y (by simp[hy])
  have hx:=h x (by simp)
  have h10:=a8_ (lw_ hx)
  unfold isI at hx
  rw[List.map_cons,cD_,aT_,aA_,bH_,h1,h2,h4]
  simp only[p0_,V.ok,V.dep,V.enc,V.rng,bH_,show (⟨#[]⟩:ByteArray).size=0 from rfl]
  simp
  omega
theorem do_ {l:List Int} (h:∀ x∈l,isI x) (hl:l.length≤1000):V.chk (bJ_ l)=0∧V.rng (bJ_ l)=true∧V.dep (bJ_ l)=1∧(V.enc (bJ_ l)).length≤100000:=by
 obtain⟨h1,h2,h3,h4⟩:=eP_ h
 have h5:V.dep (bJ_ l)=1:=by rw[bJ_,V.dep,if_pos rfl,h2]
 have h10:=a8_ (u:=l.length) (by unfold isU;omega)
 refine⟨?_,?_,h5,?_⟩
 ·rw[V.chk,if_pos (by rw[bJ_,V.ok];simp[h1]),if_neg (by omega)]
 ·simp[bJ_,V.rng,h4,show (⟨#[]⟩:ByteArray).size=0 from rfl]
 ·rw[bJ_,V.enc]
  simp
  omega
theorem kK_ {f:Nat→Int} (hf:fOk f):(∀ x∈(numF f).1,isI x)∧(numF f).1.length≤12:=by
 unfold numF
 split
 ·simp
 ·rename_i E hE
  split
  ·refine⟨fun x hx=>?_,by have:=fN_ hE;simp;omega⟩
   obtain⟨e,_,rfl⟩:=List.mem_map.1 hx
   unfold valE
   split
   ·exact hf.1 _
   ·exact xp_
  ·simp
def Cz_ (f:Nat→Int):List UInt8:=V.enc (bJ_ (numF f).1)
def encR (f:Nat→Int):List UInt8×Int:=if (numF f).2=true then (Cz_ f,0) else ([],120)
def CA_ (f:Nat→Int):D:=.tup [slB (encR f).1,.v (.int .i64 (encR f).2)]
theorem yi_ (a:List Int) (x:Int) (b:List Int):(iD (a++x::b)).drop a.length=.v (.int .i64 x)::iD b:=by
 rw[mj_,← mi_ a,List.drop_left];rfl
def ics:List Int→List D
 | []=>[]
 | x::l=>.v (.int .i64 1) :: .v (.int .i64 x) :: .v (.string ⟨#[]⟩) :: .v (.slice none 0 0)::ics l
@[simp] theorem rq_:∀ a b:List Int,ics (a++b)=ics a++ics b
 | [],_=>rfl
 | x::a,b=>by rw[List.cons_append,ics,ics,rq_ a b];rfl
@[simp] theorem rp_:∀ a:List Int,(ics a).length=a.length*4
 | []=>rfl
 | x::a=>by rw[ics];simp[rp_ a];omega
theorem wZ_:∀ l:List Int,DLes (ics l) (aE_ (l.map p0_))
 | []=>trivial
 | x::l=>⟨DLe.refl _,DLe.refl _,DLe.refl _,DLe.nil 4,wZ_ l⟩
theorem ints_arg (l:List Int):Leq (.agg [.d (.v (.int .i64 3)),.d (.v (.int .i64 0)),.d (.v (.string ⟨#[]⟩)),.d (.sl 4 (ics l) l.length false)]) (.d (bJ_ l).d):=by
 have hle:Leq (.d (.sl 4 (ics l) l.length false)) (.d (.sl 4 (aE_ (l.map p0_)) l.length false)):=Leq.data (DLe.sl (wZ_ l))
 have h1:LeqL [.d (.v (.int .i64 3)),.d (.v (.int .i64 0)),.d (.v (.string ⟨#[]⟩)),.d (.sl 4 (ics l) l.length false)] ([D.v (.int .i64 3),.v (.int .i64 0),.v (.string ⟨#[]⟩),.sl 4 (aE_ (l.map p0_)) l.length false].map .d) :=
  ⟨Leq.refl _,Leq.refl _,Leq.refl _,hle,trivial⟩
 have h2:=(Leq.agg h1).trans (ag_ _)
 rw[bJ_,V.d,V.cells,List.length_map]
 exact h2
def sE (l:List Int) (l1:List Int):St :=
 mkS 35 [(6,.ptr 6 0),(17,.d (slI l)),(18,.d (.v (.int .i64 l.length))),(19,.d (.v (.int .i64 l1.length)))]
  [(6,.cells 205 [.d (.v (.int .i64 3)),.d (.v (.int .i64 0)),.d (.v (.string ⟨#[]⟩)),.row 500]),(500,.row 205 4 l1.length ((ics l1).map .d))]
theorem iq_ (f:Nat→Int) (hf:fOk f):Fn0 Tryz.prog 87 [fD f] (CA_ f):=by
 have h24:=jJ_ f hf
 rw[pV_] at h24
 obtain⟨hin,hlen⟩:=kK_ hf
 unfold CA_ encR Cz_
 generalize numF f=R at *
 obtain⟨l,b⟩:=R
 simp only at hin hlen
 obtain⟨c1,c2,c3,c4⟩:=do_ hin (by omega)
 have h12:=AG_ (bJ_ l) (by omega) c2 (by omega)
 rw[show V.encB (bJ_ l)=V.enc (bJ_ l) from if_pos c1,c1] at h12
 refine ac_ (pn:=ao_) aa_ Tryz.func87 rfl fun β0=>?_
 simp only[Tryz.f87]
 rw[fD]
 repeat(first|apply wG|(apply wR;simp -dsimp)|refine aI ?_)
 refine ad_ iF_ h24 rfl rfl (by simp[fD]) ?_
 simp -dsimp
 repeat(first|apply wG|(apply wR;simp -dsimp)|refine aI ?_)
 cases b with
 | false =>
  refine cT (by simp) ?_
  repeat(first|apply wG|(apply wR;simp -dsimp)|refine aI ?_)
  refine WP.ret (ab_ ?_)
  simp -dsimp
 | true =>
  refine cF (by simp) ?_
  refine WP.skip ?_
  simp -dsimp
  repeat(first|apply wG|(apply wR;simp -dsimp)|refine aI ?_)
  refine ak_ (fun m S=>∃ l1 l2,l=l1++l2∧m=l2.length∧S=sE l l1) l.length (S0:=sE l [])
   ((gs_ 6 3 500 205 4 (by simp;exact⟨rfl,rfl⟩) rfl (by simp)).trans (ae_ [] (by simp[sE]) (by simp[sE,ics]))) ⟨[],l,rfl,rfl,rfl⟩ ?_
  rintro _ _ ⟨l1,l2,hl12,rfl,rfl⟩
  simp -dsimp[sE]
  repeat(first|apply wG|(apply wR;simp -dsimp)|refine aI ?_)
  cases l2 with
  | nil =>
   simp only[List.append_nil] at hl12
   subst hl12
   refine cF (by simp) ?_
   refine WP.exit ?_
   simp -dsimp
   refine aw_ (Wk.freeze (k:=500) (T:=205) (sz:=4) (ds:=ics l) (by simp;rfl)) ?_
   simp -dsimp
   repeat(first|apply wG|(apply wR;simp -dsimp)|refine aI ?_)
   refine af_ nh_ h12 rfl rfl (And.intro (ints_arg l) trivial) ?_
   simp -dsimp
   repeat(first|apply wG|(apply wR;simp -dsimp)|refine aI ?_)
   refine WP.ret (ab_ ?_)
   simp -dsimp
  | cons x l2 =>
   have hll:l.length=l1.length+(l2.length+1):=by rw[hl12];simp
   have e1:IntKind.i64.wrap ((l1.length:Int)+1)=(l1.length:Int)+1:=IntWalk.i64_in _ (by omega)
   have h1:=yi_ l1 x l2
   rw[← hl12] at h1
   refine cT (by simp;omega) ?_
   refine WP.skip ?_
   simp -dsimp
   refine WP.seq (WP.block ?_)
   repeat(first|apply wG|(apply wR;simp -dsimp[h1])|refine aI ?_)
   refine loopW.next (sE l (l1++[x])) (Wk.go [27] 28 500 (by decide) (by simp[sE]) (by simp[sE,e1]) (by simp[sE,ics])) l2.length (by simp) ⟨l1++[x],l2,by simp[hl12],rfl,rfl⟩
abbrev inB (x lo hi:Int):Bool:=decide (lo≤x)&&decide (x≤hi)
theorem ct_ (x lo hi:Int):Fn0 Tryz.prog 94 [.v (.int .i64 x),.v (.int .i64 lo),.v (.int .i64 hi)] (.v (.bool (inB x lo hi))):=by
 refine ac_ (pn:=ao_) aa_ Tryz.func94 rfl fun β0=>?_
 simp only[Tryz.f94]
 repeat(first|apply wG|(apply wR;simp -dsimp)|refine aI ?_)
 refine WP.ret (ab_ ?_)
 simp -dsimp
theorem b0_ (x:Int):Fn0 Tryz.prog 138 [.v (.int .i64 x)] (.v (.bool (inB x (-1099511627776) 1099511627776))):=by
 refine ac_ (pn:=ao_) aa_ Tryz.func138 rfl fun β0=>?_
 simp only[Tryz.f138]
 repeat(first|apply wG|(apply wR;simp -dsimp)|refine aI ?_)
 refine ad_ ar_ (ct_ x (-1099511627776) 1099511627776) rfl rfl (by simp) ?_
 simp -dsimp
 repeat(first|apply wG|(apply wR;simp -dsimp)|refine aI ?_)
 refine WP.ret (ab_ ?_)
 simp -dsimp
theorem gD_ (x:Int):Fn0 Tryz.prog 140 [.v (.int .i64 x)] (.v (.bool (inB x (1) 9999))):=by
 refine ac_ (pn:=ao_) aa_ Tryz.func140 rfl fun β0=>?_
 simp only[Tryz.f140]
 repeat(first|apply wG|(apply wR;simp -dsimp)|refine aI ?_)
 refine ad_ ar_ (ct_ x (1) 9999) rfl rfl (by simp) ?_
 simp -dsimp
 repeat(first|apply wG|(apply wR;simp -dsimp)|refine aI ?_)
 refine WP.ret (ab_ ?_)
 simp -dsimp
theorem md_ (x:Int):Fn0 Tryz.prog 135 [.v (.int .i64 x)] (.v (.bool (inB x (0) 39))):=by
 refine ac_ (pn:=ao_) aa_ Tryz.func135 rfl fun β0=>?_
 simp only[Tryz.f135]
 repeat(first|apply wG|(apply wR;simp -dsimp)|refine aI ?_)
 refine ad_ ar_ (ct_ x (0) 39) rfl rfl (by simp) ?_
 simp -dsimp
 repeat(first|apply wG|(apply wR;simp -dsimp)|refine aI ?_)
 refine WP.ret (ab_ ?_)
 simp -dsimp
theorem fM_ (x:Int):Fn0 Tryz.prog 136 [.v (.int .i64 x)] (.v (.bool (inB x (0) 255))):=by
 refine ac_ (pn:=ao_) aa_ Tryz.func136 rfl fun β0=>?_
 simp only[Tryz.f136]
 repeat(first|apply wG|(apply wR;simp -dsimp)|refine aI ?_)
 refine ad_ ar_ (ct_ x (0) 255) rfl rfl (by simp) ?_
 simp -dsimp
 repeat(first|apply wG|(apply wR;simp -dsimp)|refine aI ?_)
 refine WP.ret (ab_ ?_)
 simp -dsimp
theorem t6_ (x:Int):Fn0 Tryz.prog 137 [.v (.int .i64 x)] (.v (.bool (inB x (0) 1048576))):=by
 refine ac_ (pn:=ao_) aa_ Tryz.func137 rfl fun β0=>?_
 simp only[Tryz.f137]
 repeat(first|apply wG|(apply wR;simp -dsimp)|refine aI ?_)
 refine ad_ ar_ (ct_ x (0) 1048576) rfl rfl (by simp) ?_
 simp -dsimp
 repeat(first|apply wG|(apply wR;simp -dsimp)|refine aI ?_)
 refine WP.ret (ab_ ?_)
 simp -dsimp
theorem l6_ (x:Int):Fn0 Tryz.prog 141 [.v (.int .i64 x)] (.v (.bool (inB x (0) 255))):=by
 refine ac_ (pn:=ao_) aa_ Tryz.func141 rfl fun β0=>?_
 simp only[Tryz.f141]
 repeat(first|apply wG|(apply wR;simp -dsimp)|refine aI ?_)
 refine ad_ ar_ (ct_ x (0) 255) rfl rfl (by simp) ?_
 simp -dsimp
 repeat(first|apply wG|(apply wR;simp -dsimp)|refine aI ?_)
 refine WP.ret (ab_ ?_)
 simp -dsimp
theorem la_ (x:Int):Fn0 Tryz.prog 142 [.v (.int .i64 x)] (.v (.bool (inB x (1) 1048576))):=by
 refine ac_ (pn:=ao_) aa_ Tryz.func142 rfl fun β0=>?_
 simp only[Tryz.f142]
 repeat(first|apply wG|(apply wR;simp -dsimp)|refine aI ?_)
 refine ad_ ar_ (ct_ x (1) 1048576) rfl rfl (by simp) ?_
 simp -dsimp
 repeat(first|apply wG|(apply wR;simp -dsimp)|refine aI ?_)
 refine WP.ret (ab_ ?_)
 simp -dsimp
theorem mc_ (x:Int):Fn0 Tryz.prog 93 [.v (.int .i64 x)] (.v (.bool (inB x (1) 1048576))):=by
 refine ac_ (pn:=ao_) aa_ Tryz.func93 rfl fun β0=>?_
 simp only[Tryz.f93]
 repeat(first|apply wG|(apply wR;simp -dsimp)|refine aI ?_)
 refine ad_ ar_ (ct_ x (1) 1048576) rfl rfl (by simp) ?_
 simp -dsimp
 repeat(first|apply wG|(apply wR;simp -dsimp)|refine aI ?_)
 refine WP.ret (ab_ ?_)
 simp -dsimp
theorem tT_ (x:Int):Fn0 Tryz.prog 92 [.v (.int .i64 x)] (.v (.bool (inB x (0) 31))):=by
 refine ac_ (pn:=ao_) aa_ Tryz.func92 rfl fun β0=>?_
 simp only[Tryz.f92]
 repeat(first|apply wG|(apply wR;simp -dsimp)|refine aI ?_)
 refine ad_ ar_ (ct_ x (0) 31) rfl rfl (by simp) ?_
 simp -dsimp
 repeat(first|apply wG|(apply wR;simp -dsimp)|refine aI ?_)
 refine WP.ret (ab_ ?_)
 simp -dsimp
theorem qS_ (f:Nat→Int):Fn0 Tryz.prog 134 [.agg (fcs f 4 8)] (.v (.bool (inB (f 4) 1 9999&&inB (f 5) 0 7&&inB (f 6) 0 31&&inB (f 7) (-1099511627776) 1099511627776&&inB (f 8) 0 120&&inB (f 9) 0 1048576&&inB (f 10) 0 9999&&inB (f 11) 0 1048576))):=by
 refine ac_ (pn:=ao_) aa_ Tryz.func134 rfl fun β0=>?_
 simp only[Tryz.f134]
 repeat(first|apply wG|(apply wR;simp -dsimp)|refine aI ?_)
 refine ad_ a4_ (gD_ (f 4)) rfl rfl (by simp) ?_
 simp -dsimp
 repeat refine aI ?_
 refine ah_ ar_ (fun _=>ct_ (f 5) (0) (7)) rfl (fun _=>rfl) (fun _=>by simp) ?_
 simp -dsimp
 repeat refine aI ?_
 refine ah_ ar_ (fun _=>ct_ (f 6) (0) (31)) rfl (fun _=>rfl) (fun _=>by simp) ?_
 simp -dsimp
 repeat refine aI ?_
 refine ah_ aH_ (fun _=>b0_ (f 7)) rfl (fun _=>rfl) (fun _=>by simp) ?_
 simp -dsimp
 repeat refine aI ?_
 refine ah_ ar_ (fun _=>ct_ (f 8) (0) (120)) rfl (fun _=>rfl) (fun _=>by simp) ?_
 simp -dsimp
 repeat refine aI ?_
 refine ah_ gU_ (fun _=>t6_ (f 9)) rfl (fun _=>rfl) (fun _=>by simp) ?_
 simp -dsimp
 repeat refine aI ?_
 refine ah_ ar_ (fun _=>ct_ (f 10) (0) (9999)) rfl (fun _=>rfl) (fun _=>by simp) ?_
 simp -dsimp
 repeat refine aI ?_
 refine ah_ ar_ (fun _=>ct_ (f 11) (0) (1048576)) rfl (fun _=>rfl) (fun _=>by simp) ?_
 simp -dsimp
 repeat refine aI ?_
 repeat(first|apply wG|(apply wR;simp -dsimp)|refine aI ?_)
 refine WP.ret (ab_ ?_)
 simp -dsimp
theorem xn_ (f:Nat→Int):Fn0 Tryz.prog 139 [.agg (fcs f 21 8)] (.v (.bool (inB (f 21) 0 39&&inB (f 24) 0 39&&inB (f 22) 0 255&&inB (f 25) 0 255&&inB (f 23) (-1099511627776) 1099511627776&&inB (f 26) (-1099511627776) 1099511627776&&inB (f 27) (-1099511627776) 1099511627776&&inB (f 28) (-1099511627776) 1099511627776&&decide (f 27≤f 28)))):=by
 refine ac_ (pn:=ao_) aa_ Tryz.func139 rfl fun β0=>?_
 simp only[Tryz.f139]
 repeat(first|apply wG|(apply wR;simp -dsimp)|refine aI ?_)
 refine ad_ bW_ (md_ (f 21)) rfl rfl (by simp) ?_
 simp -dsimp
 repeat refine aI ?_
 refine ah_ bW_ (fun _=>md_ (f 24)) rfl (fun _=>rfl) (fun _=>by simp) ?_
 simp -dsimp
 repeat refine aI ?_
 refine ah_ bV_ (fun _=>fM_ (f 22)) rfl (fun _=>rfl) (fun _=>by simp) ?_
 simp -dsimp
 repeat refine aI ?_
 refine ah_ bV_ (fun _=>fM_ (f 25)) rfl (fun _=>rfl) (fun _=>by simp) ?_
 simp -dsimp
 repeat refine aI ?_
 refine ah_ aH_ (fun _=>b0_ (f 23)) rfl (fun _=>rfl) (fun _=>by simp) ?_
 simp -dsimp
 repeat refine aI ?_
 refine ah_ aH_ (fun _=>b0_ (f 26)) rfl (fun _=>rfl) (fun _=>by simp) ?_
 simp -dsimp
 repeat refine aI ?_
 refine ah_ aH_ (fun _=>b0_ (f 27)) rfl (fun _=>rfl) (fun _=>by simp) ?_
 simp -dsimp
 repeat refine aI ?_
 refine ah_ aH_ (fun _=>b0_ (f 28)) rfl (fun _=>rfl) (fun _=>by simp) ?_
 simp -dsimp
 repeat refine aI ?_
 repeat(first|apply wG|(apply wR;simp -dsimp)|refine aI ?_)
 refine WP.ret (ab_ ?_)
 simp -dsimp
def q7_ (f:Nat→Int):Bool :=
 if f 49=1∨f 49=2 then decide (f 50=0)&&decide (f 51=0)&&decide (f 52=0)
 else if f 49=3 then inB (f 50) 1 9999&&inB (f 51) 0 255&&inB (f 52) 1 1099511627776
 else if f 49=4 then inB (f 50) 1 9999&&inB (f 51) 0 255&&inB (f 52) 1 64
 else if f 49=5 then inB (f 50) 1 9999&&inB (f 51) 0 255&&decide (f 52=0)
 else false
def sB_ (f:Nat→Int):Bool:=(inB (f 47) 1 1048576&&inB (f 48) 1 2)&&q7_ f
theorem sA_ (f:Nat→Int):Fn0 Tryz.prog 143 [.agg (fcs f 47 6)] (.v (.bool (sB_ f))):=by
 refine ac_ (pn:=ao_) aa_ Tryz.func143 rfl fun β0=>?_
 simp only[Tryz.f143]
 repeat(first|apply wG|(apply wR;simp -dsimp)|refine aI ?_)
 refine ad_ cR_ (la_ (f 47)) rfl rfl (by simp) ?_
 simp -dsimp
 repeat refine aI ?_
 refine ah_ ar_ (fun _=>ct_ (f 48) (1) (2)) rfl (fun _=>rfl) (fun _=>by simp) ?_
 simp -dsimp
 repeat refine aI ?_
 repeat(first|apply wG|(apply wR;simp -dsimp)|refine aI ?_)
 refine WP.cond (b := !(inB (f 47) 1 1048576&&inB (f 48) 1 2)) (by simp) (fun hb=>?_) (fun hb=>?_)
 ·have hb:(inB (f 47) 1 1048576&&inB (f 48) 1 2)=false:=by simpa only[Bool.not_eq_true'] using hb
  repeat(first|apply wG|(apply wR;simp -dsimp)|refine aI ?_)
  refine WP.ret (ab_ ?_)
  simp -dsimp[sB_,hb]
 have hb:(inB (f 47) 1 1048576&&inB (f 48) 1 2)=true:=by simpa only[Bool.not_eq_false'] using hb
 rw[sB_,hb,Bool.true_and]
 refine WP.skip ?_
 simp -dsimp
 repeat(first|apply wG|(apply wR;simp -dsimp)|refine aI ?_)
 have hr:f 49=1∨f 49=2∨f 49=3∨f 49=4∨f 49=5∨(f 49≠1∧f 49≠2∧f 49≠3∧f 49≠4∧f 49≠5):=by omega
 rcases hr with hr|hr|hr|hr|hr|⟨hr1,hr2,hr3,hr4,hr5⟩
 ·rw[hr]
  refine cT (by simp) ?_
  refine WP.skip ?_
  simp -dsimp
  repeat(first|apply wG|(apply wR;simp -dsimp)|refine aI ?_)
  refine cT (by simp) ?_
  repeat(first|apply wG|(apply wR;simp -dsimp)|refine aI ?_)
  refine WP.ret (ab_ ?_)
  simp -dsimp[q7_,hr]
 ·rw[hr]
  refine cF (by simp) ?_
  repeat(first|apply wG|(apply wR;simp -dsimp)|refine aI ?_)
  refine cT (by simp) ?_
  repeat(first|apply wG|(apply wR;simp -dsimp)|refine aI ?_)
  refine WP.ret (ab_ ?_)
  simp -dsimp[q7_,hr]
 ·rw[hr]
  refine cF (by simp) ?_
  repeat(first|apply wG|(apply wR;simp -dsimp)|refine aI ?_)
  refine cF (by simp) ?_
  repeat(first|apply wG|(apply wR;simp -dsimp)|refine aI ?_)
  refine cT (by simp) ?_
  repeat(first|apply wG|(apply wR;simp -dsimp)|refine aI ?_)
  refine ad_ a4_ (gD_ (f 50)) rfl rfl (by simp) ?_
  simp -dsimp
  repeat refine aI ?_
  refine ah_ bU_ (fun _=>l6_ (f 51)) rfl (fun _=>rfl) (fun _=>by simp) ?_
  simp -dsimp
  repeat refine aI ?_
  refine ah_ ar_ (fun _=>ct_ (f 52) (1) (1099511627776)) rfl (fun _=>rfl) (fun _=>by simp) ?_
  simp -dsimp
  repeat refine aI ?_
  repeat(first|apply wG|(apply wR;simp -dsimp)|refine aI ?_)
  refine WP.ret (ab_ ?_)
  simp -dsimp[q7_,hr]
 ·rw[hr]
  refine cF (by simp) ?_
  repeat(first|apply wG|(apply wR;simp -dsimp)|refine aI ?_)
  refine cF (by simp) ?_
  repeat(first|apply wG|(apply wR;simp -dsimp)|refine aI ?_)
  refine cF (by simp) ?_
  repeat(first|apply wG|(apply wR;simp -dsimp)|refine aI ?_)
  refine cT (by simp) ?_
  repeat(first|apply wG|(apply wR;simp -dsimp)|refine aI ?_)
  refine ad_ a4_ (gD_ (f 50)) rfl rfl (by simp) ?_
  simp -dsimp
  repeat refine aI ?_
  refine ah_ bU_ (fun _=>l6_ (f 51)) rfl (fun _=>rfl) (fun _=>by simp) ?_
  simp -dsimp
  repeat refine aI ?_
  refine ah_ ar_ (fun _=>ct_ (f 52) (1) (64)) rfl (fun _=>rfl) (fun _=>by simp) ?_
  simp -dsimp
  repeat refine aI ?_
  repeat(first|apply wG|(apply wR;simp -dsimp)|refine aI ?_)
  refine WP.ret (ab_ ?_)
  simp -dsimp[q7_,hr]
 ·rw[hr]
  refine cF (by simp) ?_
  repeat(first|apply wG|(apply wR;simp -dsimp)|refine aI ?_)
  refine cF (by simp) ?_
  repeat(first|apply wG|(apply wR;simp -dsimp)|refine aI ?_)
  refine cF (by simp) ?_
  repeat(first|apply wG|(apply wR;simp -dsimp)|refine aI ?_)
  refine cF (by simp) ?_
  repeat(first|apply wG|(apply wR;simp -dsimp)|refine aI ?_)
  refine cT (by simp) ?_
  repeat(first|apply wG|(apply wR;simp -dsimp)|refine aI ?_)
  refine ad_ a4_ (gD_ (f 50)) rfl rfl (by simp) ?_
  simp -dsimp
  repeat refine aI ?_
  refine ah_ bU_ (fun _=>l6_ (f 51)) rfl (fun _=>rfl) (fun _=>by simp) ?_
  simp -dsimp
  repeat refine aI ?_
  repeat(first|apply wG|(apply wR;simp -dsimp)|refine aI ?_)
  refine WP.ret (ab_ ?_)
  simp -dsimp[q7_,hr]
 ·refine cF (by simp[*]) ?_
  repeat(first|apply wG|(apply wR;simp -dsimp)|refine aI ?_)
  refine cF (by simp[*]) ?_
  repeat(first|apply wG|(apply wR;simp -dsimp)|refine aI ?_)
  refine cF (by simp[*]) ?_
  repeat(first|apply wG|(apply wR;simp -dsimp)|refine aI ?_)
  refine cF (by simp[*]) ?_
  repeat(first|apply wG|(apply wR;simp -dsimp)|refine aI ?_)
  refine cF (by simp[*]) ?_
  refine WP.skip ?_
  simp -dsimp
  repeat(first|apply wG|(apply wR;simp -dsimp)|refine aI ?_)
  refine WP.ret (ab_ ?_)
  simp -dsimp[q7_,hr1,hr2,hr3,hr4,hr5]
def conF (f:Nat→Int):Bool :=
 if f 3=1 then inB (f 4) 1 9999&&inB (f 5) 0 7&&inB (f 6) 0 31&&inB (f 7) (-1099511627776) 1099511627776&&inB (f 8) 0 120&&inB (f 9) 0 1048576&&inB (f 10) 0 9999&&inB (f 11) 0 1048576
 else if f 3=2 then inB (f 12) 0 39&&inB (f 13) 0 255&&inB (f 14) 0 1048576&&inB (f 15) (-1099511627776) 1099511627776
 else if f 3=3 then inB (f 16) 0 39&&inB (f 17) 0 255&&inB (f 18) (-1099511627776) 1099511627776&&inB (f 19) (-1099511627776) 1099511627776&&inB (f 20) 0 1099511627776
 else if f 3=4 then inB (f 21) 0 39&&inB (f 24) 0 39&&inB (f 22) 0 255&&inB (f 25) 0 255&&inB (f 23) (-1099511627776) 1099511627776&&inB (f 26) (-1099511627776) 1099511627776&&inB (f 27) (-1099511627776) 1099511627776&&inB (f 28) (-1099511627776) 1099511627776&&decide (f 27≤f 28)
 else if f 3=5 then inB (f 29) 1 9999&&inB (f 30) 0 255&&inB (f 31) (-1099511627776) 1099511627776&&inB (f 32) (-1099511627776) 1099511627776&&decide (f 31≤f 32)
 else if f 3=6 then inB (f 33) 0 39&&inB (f 34) 0 255&&inB (f 35) (-1099511627776) 1099511627776&&inB (f 36) (-1099511627776) 1099511627776&&decide (f 35≤f 36)
 else if f 3=7 then inB (f 37) 1 9999&&inB (f 38) 1 9999&&decide (f 37<f 38)
 else if f 3=8 then inB (f 39) 1 1048576&&inB (f 40) 1 9999&&inB (f 41) 0 31&&inB (f 42) 0 255
 else if f 3=9 then inB (f 43) 1 1048576&&inB (f 44) 0 9999&&inB (f 45) 0 1125899906842624&&inB (f 46) 0 1
 else if f 3=10 then sB_ f
 else if f 3=11 then inB (f 53) 1 1048576
 else if f 3=12 then true
 else if f 3=13 then inB (f 55) 0 31&&inB (f 56) 1 1048576
 else false
theorem t3_ (f:Nat→Int) (hk:f 3=1):Fn0 Tryz.prog 95 [fD f] (.v (.bool (inB (f 4) 1 9999&&inB (f 5) 0 7&&inB (f 6) 0 31&&inB (f 7) (-1099511627776) 1099511627776&&inB (f 8) 0 120&&inB (f 9) 0 1048576&&inB (f 10) 0 9999&&inB (f 11) 0 1048576))):=by
 refine ac_ (pn:=ao_) aa_ Tryz.func95 rfl fun β0=>?_
 simp only[Tryz.f95]
 rw[fD]
 repeat(first|apply wG|(apply wR;simp -dsimp)|refine aI ?_)
 rw[hk]
 refine cT (by simp) ?_
 repeat(first|apply wG|(apply wR;simp -dsimp)|refine aI ?_)
 refine ad_ na_ (qS_ f) rfl rfl (by simp) ?_
 simp -dsimp
 repeat refine aI ?_
 repeat(first|apply wG|(apply wR;simp -dsimp)|refine aI ?_)
 refine WP.ret (ab_ ?_)
 simp -dsimp
theorem t2_ (f:Nat→Int) (hk:f 3=2):Fn0 Tryz.prog 95 [fD f] (.v (.bool (inB (f 12) 0 39&&inB (f 13) 0 255&&inB (f 14) 0 1048576&&inB (f 15) (-1099511627776) 1099511627776))):=by
 refine ac_ (pn:=ao_) aa_ Tryz.func95 rfl fun β0=>?_
 simp only[Tryz.f95]
 rw[fD]
 repeat(first|apply wG|(apply wR;simp -dsimp)|refine aI ?_)
 rw[hk]
 refine cF (by simp) ?_
 repeat(first|apply wG|(apply wR;simp -dsimp)|refine aI ?_)
 refine cT (by simp) ?_
 repeat(first|apply wG|(apply wR;simp -dsimp)|refine aI ?_)
 refine ad_ bW_ (md_ (f 12)) rfl rfl (by simp) ?_
 simp -dsimp
 repeat refine aI ?_
 refine ah_ bV_ (fun _=>fM_ (f 13)) rfl (fun _=>rfl) (fun _=>by simp) ?_
 simp -dsimp
 repeat refine aI ?_
 refine ah_ gU_ (fun _=>t6_ (f 14)) rfl (fun _=>rfl) (fun _=>by simp) ?_
 simp -dsimp
 repeat refine aI ?_
 refine ah_ aH_ (fun _=>b0_ (f 15)) rfl (fun _=>rfl) (fun _=>by simp) ?_
 simp -dsimp
 repeat refine aI ?_
 repeat(first|apply wG|(apply wR;simp -dsimp)|refine aI ?_)
 refine WP.ret (ab_ ?_)
 simp -dsimp
theorem t1_ (f:Nat→Int) (hk:f 3=3):Fn0 Tryz.prog 95 [fD f] (.v (.bool (inB (f 16) 0 39&&inB (f 17) 0 255&&inB (f 18) (-1099511627776) 1099511627776&&inB (f 19) (-1099511627776) 1099511627776&&inB (f 20) 0 1099511627776))):=by
 refine ac_ (pn:=ao_) aa_ Tryz.func95 rfl fun β0=>?_
 simp only[Tryz.f95]
 rw[fD]
 repeat(first|apply wG|(apply wR;simp -dsimp)|refine aI ?_)
 rw[hk]
 refine cF (by simp) ?_
 repeat(first|apply wG|(apply wR;simp -dsimp)|refine aI ?_)
 refine cF (by simp) ?_
 repeat(first|apply wG|(apply wR;simp -dsimp)|refine aI ?_)
 refine cT (by simp) ?_
 repeat(first|apply wG|(apply wR;simp -dsimp)|refine aI ?_)
 refine ad_ bW_ (md_ (f 16)) rfl rfl (by simp) ?_
 simp -dsimp
 repeat refine aI ?_
 refine ah_ bV_ (fun _=>fM_ (f 17)) rfl (fun _=>rfl) (fun _=>by simp) ?_
 simp -dsimp
 repeat refine aI ?_
 refine ah_ aH_ (fun _=>b0_ (f 18)) rfl (fun _=>rfl) (fun _=>by simp) ?_
 simp -dsimp
 repeat refine aI ?_
 refine ah_ aH_ (fun _=>b0_ (f 19)) rfl (fun _=>rfl) (fun _=>by simp) ?_
 simp -dsimp
 repeat refine aI ?_
 refine ah_ ar_ (fun _=>ct_ (f 20) (0) (1099511627776)) rfl (fun _=>rfl) (fun _=>by simp) ?_
 simp -dsimp
 repeat refine aI ?_
 repeat(first|apply wG|(apply wR;simp -dsimp)|refine aI ?_)
 refine WP.ret (ab_ ?_)
 simp -dsimp
theorem t0_ (f:Nat→Int) (hk:f 3=4):Fn0 Tryz.prog 95 [fD f] (.v (.bool (inB (f 21) 0 39&&inB (f 24) 0 39&&inB (f 22) 0 255&&inB (f 25) 0 255&&inB (f 23) (-1099511627776) 1099511627776&&inB (f 26) (-1099511627776) 1099511627776&&inB (f 27) (-1099511627776) 1099511627776&&inB (f 28) (-1099511627776) 1099511627776&&decide (f 27≤f 28)))):=by
 refine ac_ (pn:=ao_) aa_ Tryz.func95 rfl fun β0=>?_
 simp only[Tryz.f95]
 rw[fD]
 repeat(first|apply wG|(apply wR;simp -dsimp)|refine aI ?_)
 rw[hk]
 refine cF (by simp) ?_
 repeat(first|apply wG|(apply wR;simp -dsimp)|refine aI ?_)
 refine cF (by simp) ?_
 repeat(first|apply wG|(apply wR;simp -dsimp)|refine aI ?_)
 refine cF (by simp) ?_
 repeat(first|apply wG|(apply wR;simp -dsimp)|refine aI ?_)
 refine cT (by simp) ?_
 repeat(first|apply wG|(apply wR;simp -dsimp)|refine aI ?_)
 refine ad_ m9_ (xn_ f) rfl rfl (by simp) ?_
 simp -dsimp
 repeat refine aI ?_
 repeat(first|apply wG|(apply wR;simp -dsimp)|refine aI ?_)
 refine WP.ret (ab_ ?_)
 simp -dsimp
theorem tZ_ (f:Nat→Int) (hk:f 3=5):Fn0 Tryz.prog 95 [fD f] (.v (.bool (inB (f 29) 1 9999&&inB (f 30) 0 255&&inB (f 31) (-1099511627776) 1099511627776&&inB (f 32) (-1099511627776) 1099511627776&&decide (f 31≤f 32)))):=by
 refine ac_ (pn:=ao_) aa_ Tryz.func95 rfl fun β0=>?_
 simp only[Tryz.f95]
 rw[fD]
 repeat(first|apply wG|(apply wR;simp -dsimp)|refine aI ?_)
 rw[hk]
 refine cF (by simp) ?_
 repeat(first|apply wG|(apply wR;simp -dsimp)|refine aI ?_)
 refine cF (by simp) ?_
 repeat(first|apply wG|(apply wR;simp -dsimp)|refine aI ?_)
 refine cF (by simp) ?_
 repeat(first|apply wG|(apply wR;simp -dsimp)|refine aI ?_)
 refine cF (by simp) ?_
 repeat(first|apply wG|(apply wR;simp -dsimp)|refine aI ?_)
 refine cT (by simp) ?_
 repeat(first|apply wG|(apply wR;simp -dsimp)|refine aI ?_)
 refine ad_ a4_ (gD_ (f 29)) rfl rfl (by simp) ?_
 simp -dsimp
 repeat refine aI ?_
 refine ah_ bU_ (fun _=>l6_ (f 30)) rfl (fun _=>rfl) (fun _=>by simp) ?_
 simp -dsimp
 repeat refine aI ?_
 refine ah_ aH_ (fun _=>b0_ (f 31)) rfl (fun _=>rfl) (fun _=>by simp) ?_
 simp -dsimp
 repeat refine aI ?_
 refine ah_ aH_ (fun _=>b0_ (f 32)) rfl (fun _=>rfl) (fun _=>by simp) ?_
 simp -dsimp
 repeat refine aI ?_
 repeat(first|apply wG|(apply wR;simp -dsimp)|refine aI ?_)
 refine WP.ret (ab_ ?_)
 simp -dsimp
theorem tY_ (f:Nat→Int) (hk:f 3=6):Fn0 Tryz.prog 95 [fD f] (.v (.bool (inB (f 33) 0 39&&inB (f 34) 0 255&&inB (f 35) (-1099511627776) 1099511627776&&inB (f 36) (-1099511627776) 1099511627776&&decide (f 35≤f 36)))):=by
 refine ac_ (pn:=ao_) aa_ Tryz.func95 rfl fun β0=>?_
 simp only[Tryz.f95]
 rw[fD]
 repeat(first|apply wG|(apply wR;simp -dsimp)|refine aI ?_)
 rw[hk]
 refine cF (by simp) ?_
 repeat(first|apply wG|(apply wR;simp -dsimp)|refine aI ?_)
 refine cF (by simp) ?_
 repeat(first|apply wG|(apply wR;simp -dsimp)|refine aI ?_)
 refine cF (by simp) ?_
 repeat(first|apply wG|(apply wR;simp -dsimp)|refine aI ?_)
 refine cF (by simp) ?_
 repeat(first|apply wG|(apply wR;simp -dsimp)|refine aI ?_)
 refine cF (by simp) ?_
 repeat(first|apply wG|(apply wR;simp -dsimp)|refine aI ?_)
 refine cT (by simp) ?_
 repeat(first|apply wG|(apply wR;simp -dsimp)|refine aI ?_)
 refine ad_ bW_ (md_ (f 33)) rfl rfl (by simp) ?_
 simp -dsimp
 repeat refine aI ?_
 refine ah_ bV_ (fun _=>fM_ (f 34)) rfl (fun _=>rfl) (fun _=>by simp) ?_
 simp -dsimp
 repeat refine aI ?_
 refine ah_ aH_ (fun _=>b0_ (f 35)) rfl (fun _=>rfl) (fun _=>by simp) ?_
 simp -dsimp
 repeat refine aI ?_
 refine ah_ aH_ (fun _=>b0_ (f 36)) rfl (fun _=>rfl) (fun _=>by simp) ?_
 simp -dsimp
 repeat refine aI ?_
 repeat(first|apply wG|(apply wR;simp -dsimp)|refine aI ?_)
 refine WP.ret (ab_ ?_)
 simp -dsimp
theorem tX_ (f:Nat→Int) (hk:f 3=7):Fn0 Tryz.prog 95 [fD f] (.v (.bool (inB (f 37) 1 9999&&inB (f 38) 1 9999&&decide (f 37<f 38)))):=by
 refine ac_ (pn:=ao_) aa_ Tryz.func95 rfl fun β0=>?_
 simp only[Tryz.f95]
 rw[fD]
 repeat(first|apply wG|(apply wR;simp -dsimp)|refine aI ?_)
 rw[hk]
 refine cF (by simp) ?_
 repeat(first|apply wG|(apply wR;simp -dsimp)|refine aI ?_)
 refine cF (by simp) ?_
 repeat(first|apply wG|(apply wR;simp -dsimp)|refine aI ?_)
 refine cF (by simp) ?_
 repeat(first|apply wG|(apply wR;simp -dsimp)|refine aI ?_)
 refine cF (by simp) ?_
 repeat(first|apply wG|(apply wR;simp -dsimp)|refine aI ?_)
 refine cF (by simp) ?_
 repeat(first|apply wG|(apply wR;simp -dsimp)|refine aI ?_)
 refine cF (by simp) ?_
 repeat(first|apply wG|(apply wR;simp -dsimp)|refine aI ?_)
 refine cT (by simp) ?_
 repeat(first|apply wG|(apply wR;simp -dsimp)|refine aI ?_)
 refine ad_ a4_ (gD_ (f 37)) rfl rfl (by simp) ?_
 simp -dsimp
 repeat refine aI ?_
 refine ah_ a4_ (fun _=>gD_ (f 38)) rfl (fun _=>rfl) (fun _=>by simp) ?_
 simp -dsimp
 repeat refine aI ?_
 repeat(first|apply wG|(apply wR;simp -dsimp)|refine aI ?_)
 refine WP.ret (ab_ ?_)
 simp -dsimp
theorem tW_ (f:Nat→Int) (hk:f 3=8):Fn0 Tryz.prog 95 [fD f] (.v (.bool (inB (f 39) 1 1048576&&inB (f 40) 1 9999&&inB (f 41) 0 31&&inB (f 42) 0 255))):=by
 refine ac_ (pn:=ao_) aa_ Tryz.func95 rfl fun β0=>?_
 simp only[Tryz.f95]
 rw[fD]
 repeat(first|apply wG|(apply wR;simp -dsimp)|refine aI ?_)
 rw[hk]
 refine cF (by simp) ?_
 repeat(first|apply wG|(apply wR;simp -dsimp)|refine aI ?_)
 refine cF (by simp) ?_
 repeat(first|apply wG|(apply wR;simp -dsimp)|refine aI ?_)
 refine cF (by simp) ?_
 repeat(first|apply wG|(apply wR;simp -dsimp)|refine aI ?_)
 refine cF (by simp) ?_
 repeat(first|apply wG|(apply wR;simp -dsimp)|refine aI ?_)
 refine cF (by simp) ?_
 repeat(first|apply wG|(apply wR;simp -dsimp)|refine aI ?_)
 refine cF (by simp) ?_
 repeat(first|apply wG|(apply wR;simp -dsimp)|refine aI ?_)
 refine cF (by simp) ?_
 repeat(first|apply wG|(apply wR;simp -dsimp)|refine aI ?_)
 refine cT (by simp) ?_
 repeat(first|apply wG|(apply wR;simp -dsimp)|refine aI ?_)
 refine ad_ cR_ (la_ (f 39)) rfl rfl (by simp) ?_
 simp -dsimp
 repeat refine aI ?_
 refine ah_ a4_ (fun _=>gD_ (f 40)) rfl (fun _=>rfl) (fun _=>by simp) ?_
 simp -dsimp
 repeat refine aI ?_
 refine ah_ ar_ (fun _=>ct_ (f 41) (0) (31)) rfl (fun _=>rfl) (fun _=>by simp) ?_
 simp -dsimp
 repeat refine aI ?_
 refine ah_ bU_ (fun _=>l6_ (f 42)) rfl (fun _=>rfl) (fun _=>by simp) ?_
 simp -dsimp
 repeat refine aI ?_
 repeat(first|apply wG|(apply wR;simp -dsimp)|refine aI ?_)
 refine WP.ret (ab_ ?_)
 simp -dsimp
theorem tV_ (f:Nat→Int) (hk:f 3=9):Fn0 Tryz.prog 95 [fD f] (.v (.bool (inB (f 43) 1 1048576&&inB (f 44) 0 9999&&inB (f 45) 0 1125899906842624&&inB (f 46) 0 1))):=by
 refine ac_ (pn:=ao_) aa_ Tryz.func95 rfl fun β0=>?_
 simp only[Tryz.f95]
 rw[fD]
 repeat(first|apply wG|(apply wR;simp -dsimp)|refine aI ?_)
 rw[hk]
 refine cF (by simp) ?_
 repeat(first|apply wG|(apply wR;simp -dsimp)|refine aI ?_)
 refine cF (by simp) ?_
 repeat(first|apply wG|(apply wR;simp -dsimp)|refine aI ?_)
 refine cF (by simp) ?_
 repeat(first|apply wG|(apply wR;simp -dsimp)|refine aI ?_)
 refine cF (by simp) ?_
 repeat(first|apply wG|(apply wR;simp -dsimp)|refine aI ?_)
 refine cF (by simp) ?_
 repeat(first|apply wG|(apply wR;simp -dsimp)|refine aI ?_)
 refine cF (by simp) ?_
 repeat(first|apply wG|(apply wR;simp -dsimp)|refine aI ?_)
 refine cF (by simp) ?_
 repeat(first|apply wG|(apply wR;simp -dsimp)|refine aI ?_)
 refine cF (by simp) ?_
 repeat(first|apply wG|(apply wR;simp -dsimp)|refine aI ?_)
 refine cT (by simp) ?_
 repeat(first|apply wG|(apply wR;simp -dsimp)|refine aI ?_)
 refine ad_ cR_ (la_ (f 43)) rfl rfl (by simp) ?_
 simp -dsimp
 repeat refine aI ?_
 refine ah_ ar_ (fun _=>ct_ (f 44) (0) (9999)) rfl (fun _=>rfl) (fun _=>by simp) ?_
 simp -dsimp
 repeat refine aI ?_
 refine ah_ ar_ (fun _=>ct_ (f 45) (0) (1125899906842624)) rfl (fun _=>rfl) (fun _=>by simp) ?_
 simp -dsimp
 repeat refine aI ?_
 refine ah_ ar_ (fun _=>ct_ (f 46) (0) (1)) rfl (fun _=>rfl) (fun _=>by simp) ?_
 simp -dsimp
 repeat refine aI ?_
 repeat(first|apply wG|(apply wR;simp -dsimp)|refine aI ?_)
 refine WP.ret (ab_ ?_)
 simp -dsimp
theorem rK_ (f:Nat→Int) (hk:f 3=10):Fn0 Tryz.prog 95 [fD f] (.v (.bool (sB_ f))):=by
 refine ac_ (pn:=ao_) aa_ Tryz.func95 rfl fun β0=>?_
 simp only[Tryz.f95]
 rw[fD]
 repeat(first|apply wG|(apply wR;simp -dsimp)|refine aI ?_)
 rw[hk]
 refine cF (by simp) ?_
 repeat(first|apply wG|(apply wR;simp -dsimp)|refine aI ?_)
 refine cF (by simp) ?_
 repeat(first|apply wG|(apply wR;simp -dsimp)|refine aI ?_)
 refine cF (by simp) ?_
 repeat(first|apply wG|(apply wR;simp -dsimp)|refine aI ?_)
 refine cF (by simp) ?_
 repeat(first|apply wG|(apply wR;simp -dsimp)|refine aI ?_)
 refine cF (by simp) ?_
 repeat(first|apply wG|(apply wR;simp -dsimp)|refine aI ?_)
 refine cF (by simp) ?_
 repeat(first|apply wG|(apply wR;simp -dsimp)|refine aI ?_)
 refine cF (by simp) ?_
 repeat(first|apply wG|(apply wR;simp -dsimp)|refine aI ?_)
 refine cF (by simp) ?_
 repeat(first|apply wG|(apply wR;simp -dsimp)|refine aI ?_)
 refine cF (by simp) ?_
 repeat(first|apply wG|(apply wR;simp -dsimp)|refine aI ?_)
 refine cT (by simp) ?_
 repeat(first|apply wG|(apply wR;simp -dsimp)|refine aI ?_)
 refine ad_ m8_ (sA_ f) rfl rfl (by simp) ?_
 simp -dsimp
 repeat refine aI ?_
 repeat(first|apply wG|(apply wR;simp -dsimp)|refine aI ?_)
 refine WP.ret (ab_ ?_)
 simp -dsimp
theorem rJ_ (f:Nat→Int) (hk:f 3=11):Fn0 Tryz.prog 95 [fD f] (.v (.bool (inB (f 53) 1 1048576))):=by
 refine ac_ (pn:=ao_) aa_ Tryz.func95 rfl fun β0=>?_
 simp only[Tryz.f95]
 rw[fD]
 repeat(first|apply wG|(apply wR;simp -dsimp)|refine aI ?_)
 rw[hk]
 refine cF (by simp) ?_
 repeat(first|apply wG|(apply wR;simp -dsimp)|refine aI ?_)
 refine cF (by simp) ?_
 repeat(first|apply wG|(apply wR;simp -dsimp)|refine aI ?_)
 refine cF (by simp) ?_
 repeat(first|apply wG|(apply wR;simp -dsimp)|refine aI ?_)
 refine cF (by simp) ?_
 repeat(first|apply wG|(apply wR;simp -dsimp)|refine aI ?_)
 refine cF (by simp) ?_
 repeat(first|apply wG|(apply wR;simp -dsimp)|refine aI ?_)
 refine cF (by simp) ?_
 repeat(first|apply wG|(apply wR;simp -dsimp)|refine aI ?_)
 refine cF (by simp) ?_
 repeat(first|apply wG|(apply wR;simp -dsimp)|refine aI ?_)
 refine cF (by simp) ?_
 repeat(first|apply wG|(apply wR;simp -dsimp)|refine aI ?_)
 refine cF (by simp) ?_
 repeat(first|apply wG|(apply wR;simp -dsimp)|refine aI ?_)
 refine cF (by simp) ?_
 repeat(first|apply wG|(apply wR;simp -dsimp)|refine aI ?_)
 refine cT (by simp) ?_
 repeat(first|apply wG|(apply wR;simp -dsimp)|refine aI ?_)
 refine ad_ cR_ (la_ (f 53)) rfl rfl (by simp) ?_
 simp -dsimp
 repeat refine aI ?_
 repeat(first|apply wG|(apply wR;simp -dsimp)|refine aI ?_)
 refine WP.ret (ab_ ?_)
 simp -dsimp
theorem rI_ (f:Nat→Int) (hk:f 3=12):Fn0 Tryz.prog 95 [fD f] (.v (.bool (true))):=by
 refine ac_ (pn:=ao_) aa_ Tryz.func95 rfl fun β0=>?_
 simp only[Tryz.f95]
 rw[fD]
 repeat(first|apply wG|(apply wR;simp -dsimp)|refine aI ?_)
 rw[hk]
 refine cF (by simp) ?_
 repeat(first|apply wG|(apply wR;simp -dsimp)|refine aI ?_)
 refine cF (by simp) ?_
 repeat(first|apply wG|(apply wR;simp -dsimp)|refine aI ?_)
 refine cF (by simp) ?_
 repeat(first|apply wG|(apply wR;simp -dsimp)|refine aI ?_)
 refine cF (by simp) ?_
 repeat(first|apply wG|(apply wR;simp -dsimp)|refine aI ?_)
 refine cF (by simp) ?_
 repeat(first|apply wG|(apply wR;simp -dsimp)|refine aI ?_)
 refine cF (by simp) ?_
 repeat(first|apply wG|(apply wR;simp -dsimp)|refine aI ?_)
 refine cF (by simp) ?_
 repeat(first|apply wG|(apply wR;simp -dsimp)|refine aI ?_)
 refine cF (by simp) ?_
 repeat(first|apply wG|(apply wR;simp -dsimp)|refine aI ?_)
 refine cF (by simp) ?_
 repeat(first|apply wG|(apply wR;simp -dsimp)|refine aI ?_)
 refine cF (by simp) ?_
 repeat(first|apply wG|(apply wR;simp -dsimp)|refine aI ?_)
 refine cF (by simp) ?_
 repeat(first|apply wG|(apply wR;simp -dsimp)|refine aI ?_)
 refine cT (by simp) ?_
 repeat(first|apply wG|(apply wR;simp -dsimp)|refine aI ?_)
 refine WP.ret (ab_ ?_)
 simp -dsimp
theorem rH_ (f:Nat→Int) (hk:f 3=13):Fn0 Tryz.prog 95 [fD f] (.v (.bool (inB (f 55) 0 31&&inB (f 56) 1 1048576))):=by
 refine ac_ (pn:=ao_) aa_ Tryz.func95 rfl fun β0=>?_
 simp only[Tryz.f95]
 rw[fD]
 repeat(first|apply wG|(apply wR;simp -dsimp)|refine aI ?_)
 rw[hk]
 refine cF (by simp) ?_
 repeat(first|apply wG|(apply wR;simp -dsimp)|refine aI ?_)
 refine cF (by simp) ?_
 repeat(first|apply wG|(apply wR;simp -dsimp)|refine aI ?_)
 refine cF (by simp) ?_
 repeat(first|apply wG|(apply wR;simp -dsimp)|refine aI ?_)
 refine cF (by simp) ?_
 repeat(first|apply wG|(apply wR;simp -dsimp)|refine aI ?_)
 refine cF (by simp) ?_
 repeat(first|apply wG|(apply wR;simp -dsimp)|refine aI ?_)
 refine cF (by simp) ?_
 repeat(first|apply wG|(apply wR;simp -dsimp)|refine aI ?_)
 refine cF (by simp) ?_
 repeat(first|apply wG|(apply wR;simp -dsimp)|refine aI ?_)
 refine cF (by simp) ?_
 repeat(first|apply wG|(apply wR;simp -dsimp)|refine aI ?_)
 refine cF (by simp) ?_
 repeat(first|apply wG|(apply wR;simp -dsimp)|refine aI ?_)
 refine cF (by simp) ?_
 repeat(first|apply wG|(apply wR;simp -dsimp)|refine aI ?_)
 refine cF (by simp) ?_
 repeat(first|apply wG|(apply wR;simp -dsimp)|refine aI ?_)
 refine cF (by simp) ?_
 repeat(first|apply wG|(apply wR;simp -dsimp)|refine aI ?_)
 refine cT (by simp) ?_
 repeat(first|apply wG|(apply wR;simp -dsimp)|refine aI ?_)
 refine ad_ iC_ (tT_ (f 55)) rfl rfl (by simp) ?_
 simp -dsimp
 repeat refine aI ?_
 refine ah_ iB_ (fun _=>mc_ (f 56)) rfl (fun _=>rfl) (fun _=>by simp) ?_
 simp -dsimp
 repeat refine aI ?_
 repeat(first|apply wG|(apply wR;simp -dsimp)|refine aI ?_)
 refine WP.ret (ab_ ?_)
 simp -dsimp
theorem rG_ (f:Nat→Int) (hk:f 3<1∨13<f 3):Fn0 Tryz.prog 95 [fD f] (.v (.bool false)):=by
 refine ac_ (pn:=ao_) aa_ Tryz.func95 rfl fun β0=>?_
 simp only[Tryz.f95]
 rw[fD]
 repeat(first|apply wG|(apply wR;simp -dsimp)|refine aI ?_)
 refine cF (by simp;omega) ?_
 repeat(first|apply wG|(apply wR;simp -dsimp)|refine aI ?_)
 refine cF (by simp;omega) ?_
 repeat(first|apply wG|(apply wR;simp -dsimp)|refine aI ?_)
 refine cF (by simp;omega) ?_
 repeat(first|apply wG|(apply wR;simp -dsimp)|refine aI ?_)
 refine cF (by simp;omega) ?_
 repeat(first|apply wG|(apply wR;simp -dsimp)|refine aI ?_)
 refine cF (by simp;omega) ?_
 repeat(first|apply wG|(apply wR;simp -dsimp)|refine aI ?_)
 refine cF (by simp;omega) ?_
 repeat(first|apply wG|(apply wR;simp -dsimp)|refine aI ?_)
 refine cF (by simp;omega) ?_
 repeat(first|apply wG|(apply wR;simp -dsimp)|refine aI ?_)
 refine cF (by simp;omega) ?_
 repeat(first|apply wG|(apply wR;simp -dsimp)|refine aI ?_)
 refine cF (by simp;omega) ?_
 repeat(first|apply wG|(apply wR;simp -dsimp)|refine aI ?_)
 refine cF (by simp;omega) ?_
 repeat(first|apply wG|(apply wR;simp -dsimp)|refine aI ?_)
 refine cF (by simp;omega) ?_
 repeat(first|apply wG|(apply wR;simp -dsimp)|refine aI ?_)
 refine cF (by simp;omega) ?_
 repeat(first|apply wG|(apply wR;simp -dsimp)|refine aI ?_)
 refine cF (by simp;omega) ?_
 refine WP.skip ?_
 simp -dsimp
 repeat(first|apply wG|(apply wR;simp -dsimp)|refine aI ?_)
 refine WP.ret (ab_ ?_)
 simp -dsimp
theorem rF_ (f:Nat→Int):Fn0 Tryz.prog 95 [fD f] (.v (.bool (conF f))):=by
 have h:(f 3<1∨13<f 3)∨f 3=1∨f 3=2∨f 3=3∨f 3=4∨f 3=5∨f 3=6∨f 3=7∨f 3=8∨f 3=9∨f 3=10∨f 3=11∨f 3=12∨f 3=13:=by omega
 rcases h with h|h|h|h|h|h|h|h|h|h|h|h|h|h
 ·have:conF f=false:=by
   unfold conF
   rw[if_neg (by omega)]
   rw[if_neg (by omega)]
   rw[if_neg (by omega)]
   rw[if_neg (by omega)]
   rw[if_neg (by omega)]
   rw[if_neg (by omega)]
   rw[if_neg (by omega)]
   rw[if_neg (by omega)]
   rw[if_neg (by omega)]
   rw[if_neg (by omega)]
   rw[if_neg (by omega)]
   rw[if_neg (by omega)]
   rw[if_neg (by omega)]
  rw[this];exact rG_ f h
 ·have:=t3_ f h;simpa only[conF,h,Int.reduceEq,if_true,if_false] using this
 ·have:=t2_ f h;simpa only[conF,h,Int.reduceEq,if_true,if_false] using this
 ·have:=t1_ f h;simpa only[conF,h,Int.reduceEq,if_true,if_false] using this
 ·have:=t0_ f h;simpa only[conF,h,Int.reduceEq,if_true,if_false] using this
 ·have:=tZ_ f h;simpa only[conF,h,Int.reduceEq,if_true,if_false] using this
 ·have:=tY_ f h;simpa only[conF,h,Int.reduceEq,if_true,if_false] using this
 ·have:=tX_ f h;simpa only[conF,h,Int.reduceEq,if_true,if_false] using this
 ·have:=tW_ f h;simpa only[conF,h,Int.reduceEq,if_true,if_false] using this
 ·have:=tV_ f h;simpa only[conF,h,Int.reduceEq,if_true,if_false] using this
 ·have:=rK_ f h;simpa only[conF,h,Int.reduceEq,if_true,if_false] using this
 ·have:=rJ_ f h;simpa only[conF,h,Int.reduceEq,if_true,if_false] using this
 ·have:=rI_ f h;simpa only[conF,h,Int.reduceEq,if_true,if_false] using this
 ·have:=rH_ f h;simpa only[conF,h,Int.reduceEq,if_true,if_false] using this
def partF (k:Int):Nat×Nat :=
 if k=1 then (4,8) else if k=2 then (12,4) else if k=3 then (16,5) else if k=4 then (21,8) else if k=5 then (29,4) else if k=6 then (33,4) else if k=7 then (37,2)
 else if k=8 then (39,4) else if k=9 then (43,4) else if k=10 then (47,6) else if k=11 then (53,2) else if k=13 then (55,2) else (0,0)
def cW_ (f:Nat→Int):Nat→Int:=fup (fup (fup (fup f0 0 (f 0)) 1 (f 1)) 2 (f 2)) 3 (f 3)
def bc_ (f:Nat→Int):Nat→Int:=fcp (cW_ f) f (partF (f 3)).1 (partF (f 3)).2
theorem vi_ {f:Nat→Int} (hf:fOk f):fOk (bc_ f):=by
 have hb:fOk (cW_ f):=by
  refine⟨fJ_ (fJ_ (fJ_ (fJ_ (fun _=>vy_) (hf.1 0)) (hf.1 1)) (hf.1 2)) (hf.1 3),.inl rfl,fun i hi=>?_⟩
  have h0:i≠0:=by omega
  have h1:i≠1:=by omega
  have h2:i≠2:=by omega
  have h3:i≠3:=by omega
  simp[cW_,fup,f0,h0,h1,h2,h3]
 refine⟨fun i=>?_,?_,fun i hi=>?_⟩
 ·unfold bc_ fcp;split;exact hf.1 i;exact hb.1 i
 ·unfold bc_ fcp;split;exact hf.2.1;exact hb.2.1
 ·unfold bc_ fcp;split;exact hf.2.2 i hi;exact hb.2.2 i hi
@[simp] theorem Cx_ (g f:Nat→Int):fcp g f 0 0=g:=by funext i;simp only[fcp];rw[if_neg (by omega)]
theorem zX_ (f:Nat→Int) (hk:f 3=1):Fn0 Tryz.prog 96 [fD f] (fD (bc_ f)):=by
 refine ac_ (pn:=ao_) aa_ Tryz.func96 rfl fun β0=>?_
 simp only[Tryz.f96]
 unfold fD
 repeat(first|apply wG|(apply wR;simp -dsimp[bp_])|refine aI ?_)
 rw[hk]
 refine cT (by simp) ?_
 repeat(first|apply wG|(apply wR;simp -dsimp)|refine aI ?_)
 refine WP.ret (ab_ ?_)
 simp -dsimp[bc_,partF,hk,cW_]
 all_goals exact ag_ _
theorem zW_ (f:Nat→Int) (hk:f 3=2):Fn0 Tryz.prog 96 [fD f] (fD (bc_ f)):=by
 refine ac_ (pn:=ao_) aa_ Tryz.func96 rfl fun β0=>?_
 simp only[Tryz.f96]
 unfold fD
 repeat(first|apply wG|(apply wR;simp -dsimp[bp_])|refine aI ?_)
 rw[hk]
 refine cF (by simp) ?_
 repeat(first|apply wG|(apply wR;simp -dsimp)|refine aI ?_)
 refine cT (by simp) ?_
 repeat(first|apply wG|(apply wR;simp -dsimp)|refine aI ?_)
 refine WP.ret (ab_ ?_)
 simp -dsimp[bc_,partF,hk,cW_]
 all_goals exact ag_ _
theorem zV_ (f:Nat→Int) (hk:f 3=3):Fn0 Tryz.prog 96 [fD f] (fD (bc_ f)):=by
 refine ac_ (pn:=ao_) aa_ Tryz.func96 rfl fun β0=>?_
 simp only[Tryz.f96]
 unfold fD
 repeat(first|apply wG|(apply wR;simp -dsimp[bp_])|refine aI ?_)
 rw[hk]
 refine cF (by simp) ?_
 repeat(first|apply wG|(apply wR;simp -dsimp)|refine aI ?_)
 refine cF (by simp) ?_
 repeat(first|apply wG|(apply wR;simp -dsimp)|refine aI ?_)
 refine cT (by simp) ?_
 repeat(first|apply wG|(apply wR;simp -dsimp)|refine aI ?_)
 refine WP.ret (ab_ ?_)
 simp -dsimp[bc_,partF,hk,cW_]
 all_goals exact ag_ _
theorem zU_ (f:Nat→Int) (hk:f 3=4):Fn0 Tryz.prog 96 [fD f] (fD (bc_ f)):=by
 refine ac_ (pn:=ao_) aa_ Tryz.func96 rfl fun β0=>?_
 simp only[Tryz.f96]
 unfold fD
 repeat(first|apply wG|(apply wR;simp -dsimp[bp_])|refine aI ?_)
 rw[hk]
 refine cF (by simp) ?_
 repeat(first|apply wG|(apply wR;simp -dsimp)|refine aI ?_)
 refine cF (by simp) ?_
 repeat(first|apply wG|(apply wR;simp -dsimp)|refine aI ?_)
 refine cF (by simp) ?_
 repeat(first|apply wG|(apply wR;simp -dsimp)|refine aI ?_)
 refine cT (by simp) ?_
 repeat(first|apply wG|(apply wR;simp -dsimp)|refine aI ?_)
 refine WP.ret (ab_ ?_)
 simp -dsimp[bc_,partF,hk,cW_]
 all_goals exact ag_ _
theorem zT_ (f:Nat→Int) (hk:f 3=5):Fn0 Tryz.prog 96 [fD f] (fD (bc_ f)):=by
 refine ac_ (pn:=ao_) aa_ Tryz.func96 rfl fun β0=>?_
 simp only[Tryz.f96]
 unfold fD
 repeat(first|apply wG|(apply wR;simp -dsimp[bp_])|refine aI ?_)
 rw[hk]
 refine cF (by simp) ?_
 repeat(first|apply wG|(apply wR;simp -dsimp)|refine aI ?_)
 refine cF (by simp) ?_
 repeat(first|apply wG|(apply wR;simp -dsimp)|refine aI ?_)
 refine cF (by simp) ?_
 repeat(first|apply wG|(apply wR;simp -dsimp)|refine aI ?_)
 refine cF (by simp) ?_
 repeat(first|apply wG|(apply wR;simp -dsimp)|refine aI ?_)
 refine cT (by simp) ?_
 repeat(first|apply wG|(apply wR;simp -dsimp)|refine aI ?_)
 refine WP.ret (ab_ ?_)
 simp -dsimp[bc_,partF,hk,cW_]
 all_goals exact ag_ _
theorem zS_ (f:Nat→Int) (hk:f 3=6):Fn0 Tryz.prog 96 [fD f] (fD (bc_ f)):=by
 refine ac_ (pn:=ao_) aa_ Tryz.func96 rfl fun β0=>?_
 simp only[Tryz.f96]
 unfold fD
 repeat(first|apply wG|(apply wR;simp -dsimp[bp_])|refine aI ?_)
 rw[hk]
 refine cF (by simp) ?_
 repeat(first|apply wG|(apply wR;simp -dsimp)|refine aI ?_)
 refine cF (by simp) ?_
 repeat(first|apply wG|(apply wR;simp -dsimp)|refine aI ?_)
 refine cF (by simp) ?_
 repeat(first|apply wG|(apply wR;simp -dsimp)|refine aI ?_)
 refine cF (by simp) ?_
 repeat(first|apply wG|(apply wR;simp -dsimp)|refine aI ?_)
 refine cF (by simp) ?_
 repeat(first|apply wG|(apply wR;simp -dsimp)|refine aI ?_)
 refine cT (by simp) ?_
 repeat(first|apply wG|(apply wR;simp -dsimp)|refine aI ?_)
 refine WP.ret (ab_ ?_)
 simp -dsimp[bc_,partF,hk,cW_]
 all_goals exact ag_ _
theorem zR_ (f:Nat→Int) (hk:f 3=7):Fn0 Tryz.prog 96 [fD f] (fD (bc_ f)):=by
 refine ac_ (pn:=ao_) aa_ Tryz.func96 rfl fun β0=>?_
 simp only[Tryz.f96]
 unfold fD
 repeat(first|apply wG|(apply wR;simp -dsimp[bp_])|refine aI ?_)
 rw[hk]
 refine cF (by simp) ?_
 repeat(first|apply wG|(apply wR;simp -dsimp)|refine aI ?_)
 refine cF (by simp) ?_
 repeat(first|apply wG|(apply wR;simp -dsimp)|refine aI ?_)
 refine cF (by simp) ?_
 repeat(first|apply wG|(apply wR;simp -dsimp)|refine aI ?_)
 refine cF (by simp) ?_
 repeat(first|apply wG|(apply wR;simp -dsimp)|refine aI ?_)
 refine cF (by simp) ?_
 repeat(first|apply wG|(apply wR;simp -dsimp)|refine aI ?_)
 refine cF (by simp) ?_
 repeat(first|apply wG|(apply wR;simp -dsimp)|refine aI ?_)
 refine cT (by simp) ?_
 repeat(first|apply wG|(apply wR;simp -dsimp)|refine aI ?_)
 refine WP.ret (ab_ ?_)
 simp -dsimp[bc_,partF,hk,cW_]
 all_goals exact ag_ _
theorem zQ_ (f:Nat→Int) (hk:f 3=8):Fn0 Tryz.prog 96 [fD f] (fD (bc_ f)):=by
 refine ac_ (pn:=ao_) aa_ Tryz.func96 rfl fun β0=>?_
 simp only[Tryz.f96]
 unfold fD
 repeat(first|apply wG|(apply wR;simp -dsimp[bp_])|refine aI ?_)
 rw[hk]
 refine cF (by simp) ?_
 repeat(first|apply wG|(apply wR;simp -dsimp)|refine aI ?_)
 refine cF (by simp) ?_
 repeat(first|apply wG|(apply wR;simp -dsimp)|refine aI ?_)
 refine cF (by simp) ?_
 repeat(first|apply wG|(apply wR;simp -dsimp)|refine aI ?_)
 refine cF (by simp) ?_
 repeat(first|apply wG|(apply wR;simp -dsimp)|refine aI ?_)
 refine cF (by simp) ?_
 repeat(first|apply wG|(apply wR;simp -dsimp)|refine aI ?_)
 refine cF (by simp) ?_
 repeat(first|apply wG|(apply wR;simp -dsimp)|refine aI ?_)
 refine cF (by simp) ?_
 repeat(first|apply wG|(apply wR;simp -dsimp)|refine aI ?_)
 refine cT (by simp) ?_
 repeat(first|apply wG|(apply wR;simp -dsimp)|refine aI ?_)
 refine WP.ret (ab_ ?_)
 simp -dsimp[bc_,partF,hk,cW_]
 all_goals exact ag_ _
theorem zP_ (f:Nat→Int) (hk:f 3=9):Fn0 Tryz.prog 96 [fD f] (fD (bc_ f)):=by
 refine ac_ (pn:=ao_) aa_ Tryz.func96 rfl fun β0=>?_
 simp only[Tryz.f96]
 unfold fD
 repeat(first|apply wG|(apply wR;simp -dsimp[bp_])|refine aI ?_)
 rw[hk]
 refine cF (by simp) ?_
 repeat(first|apply wG|(apply wR;simp -dsimp)|refine aI ?_)
 refine cF (by simp) ?_
 repeat(first|apply wG|(apply wR;simp -dsimp)|refine aI ?_)
 refine cF (by simp) ?_
 repeat(first|apply wG|(apply wR;simp -dsimp)|refine aI ?_)
 refine cF (by simp) ?_
 repeat(first|apply wG|(apply wR;simp -dsimp)|refine aI ?_)
 refine cF (by simp) ?_
 repeat(first|apply wG|(apply wR;simp -dsimp)|refine aI ?_)
 refine cF (by simp) ?_
 repeat(first|apply wG|(apply wR;simp -dsimp)|refine aI ?_)
 refine cF (by simp) ?_
 repeat(first|apply wG|(apply wR;simp -dsimp)|refine aI ?_)
 refine cF (by simp) ?_
 repeat(first|apply wG|(apply wR;simp -dsimp)|refine aI ?_)
 refine cT (by simp) ?_
 repeat(first|apply wG|(apply wR;simp -dsimp)|refine aI ?_)
 refine WP.ret (ab_ ?_)
 simp -dsimp[bc_,partF,hk,cW_]
 all_goals exact ag_ _
theorem xY_ (f:Nat→Int) (hk:f 3=10):Fn0 Tryz.prog 96 [fD f] (fD (bc_ f)):=by
 refine ac_ (pn:=ao_) aa_ Tryz.func96 rfl fun β0=>?_
 simp only[Tryz.f96]
 unfold fD
 repeat(first|apply wG|(apply wR;simp -dsimp[bp_])|refine aI ?_)
 rw[hk]
 refine cF (by simp) ?_
 repeat(first|apply wG|(apply wR;simp -dsimp)|refine aI ?_)
 refine cF (by simp) ?_
 repeat(first|apply wG|(apply wR;simp -dsimp)|refine aI ?_)
 refine cF (by simp) ?_
 repeat(first|apply wG|(apply wR;simp -dsimp)|refine aI ?_)
 refine cF (by simp) ?_
 repeat(first|apply wG|(apply wR;simp -dsimp)|refine aI ?_)
 refine cF (by simp) ?_
 repeat(first|apply wG|(apply wR;simp -dsimp)|refine aI ?_)
 refine cF (by simp) ?_
 repeat(first|apply wG|(apply wR;simp -dsimp)|refine aI ?_)
 refine cF (by simp) ?_
 repeat(first|apply wG|(apply wR;simp -dsimp)|refine aI ?_)
 refine cF (by simp) ?_
 repeat(first|apply wG|(apply wR;simp -dsimp)|refine aI ?_)
 refine cF (by simp) ?_
 repeat(first|apply wG|(apply wR;simp -dsimp)|refine aI ?_)
 refine cT (by simp) ?_
 repeat(first|apply wG|(apply wR;simp -dsimp)|refine aI ?_)
 refine WP.ret (ab_ ?_)
 simp -dsimp[bc_,partF,hk,cW_]
 all_goals exact ag_ _
theorem xX_ (f:Nat→Int) (hk:f 3=11):Fn0 Tryz.prog 96 [fD f] (fD (bc_ f)):=by
 refine ac_ (pn:=ao_) aa_ Tryz.func96 rfl fun β0=>?_
 simp only[Tryz.f96]
 unfold fD
 repeat(first|apply wG|(apply wR;simp -dsimp[bp_])|refine aI ?_)
 rw[hk]
 refine cF (by simp) ?_
 repeat(first|apply wG|(apply wR;simp -dsimp)|refine aI ?_)
 refine cF (by simp) ?_
 repeat(first|apply wG|(apply wR;simp -dsimp)|refine aI ?_)
 refine cF (by simp) ?_
 repeat(first|apply wG|(apply wR;simp -dsimp)|refine aI ?_)
 refine cF (by simp) ?_
 repeat(first|apply wG|(apply wR;simp -dsimp)|refine aI ?_)
 refine cF (by simp) ?_
 repeat(first|apply wG|(apply wR;simp -dsimp)|refine aI ?_)
 refine cF (by simp) ?_
 repeat(first|apply wG|(apply wR;simp -dsimp)|refine aI ?_)
 refine cF (by simp) ?_
 repeat(first|apply wG|(apply wR;simp -dsimp)|refine aI ?_)
 refine cF (by simp) ?_
 repeat(first|apply wG|(apply wR;simp -dsimp)|refine aI ?_)
 refine cF (by simp) ?_
 repeat(first|apply wG|(apply wR;simp -dsimp)|refine aI ?_)
 refine cF (by simp) ?_
 repeat(first|apply wG|(apply wR;simp -dsimp)|refine aI ?_)
 refine cT (by simp) ?_
 repeat(first|apply wG|(apply wR;simp -dsimp)|refine aI ?_)
 refine WP.ret (ab_ ?_)
 simp -dsimp[bc_,partF,hk,cW_]
 all_goals exact ag_ _
theorem xW_ (f:Nat→Int) (hk:f 3=13):Fn0 Tryz.prog 96 [fD f] (fD (bc_ f)):=by
 refine ac_ (pn:=ao_) aa_ Tryz.func96 rfl fun β0=>?_
 simp only[Tryz.f96]
 unfold fD
 repeat(first|apply wG|(apply wR;simp -dsimp[bp_])|refine aI ?_)
 rw[hk]
 refine cF (by simp) ?_
 repeat(first|apply wG|(apply wR;simp -dsimp)|refine aI ?_)
 refine cF (by simp) ?_
 repeat(first|apply wG|(apply wR;simp -dsimp)|refine aI ?_)
 refine cF (by simp) ?_
 repeat(first|apply wG|(apply wR;simp -dsimp)|refine aI ?_)
 refine cF (by simp) ?_
 repeat(first|apply wG|(apply wR;simp -dsimp)|refine aI ?_)
 refine cF (by simp) ?_
 repeat(first|apply wG|(apply wR;simp -dsimp)|refine aI ?_)
 refine cF (by simp) ?_
 repeat(first|apply wG|(apply wR;simp -dsimp)|refine aI ?_)
 refine cF (by simp) ?_
 repeat(first|apply wG|(apply wR;simp -dsimp)|refine aI ?_)
 refine cF (by simp) ?_
 repeat(first|apply wG|(apply wR;simp -dsimp)|refine aI ?_)
 refine cF (by simp) ?_
 repeat(first|apply wG|(apply wR;simp -dsimp)|refine aI ?_)
 refine cF (by simp) ?_
 repeat(first|apply wG|(apply wR;simp -dsimp)|refine aI ?_)
 refine cF (by simp) ?_
 repeat(first|apply wG|(apply wR;simp -dsimp)|refine aI ?_)
 refine cT (by simp) ?_
 repeat(first|apply wG|(apply wR;simp -dsimp)|refine aI ?_)
 refine WP.ret (ab_ ?_)
 simp -dsimp[bc_,partF,hk,cW_]
 all_goals exact ag_ _
theorem xV_ (f:Nat→Int) (hk:f 3<1∨13<f 3∨f 3=12):Fn0 Tryz.prog 96 [fD f] (fD (bc_ f)):=by
 have hp:partF (f 3)=(0,0):=by
  unfold partF
  rw[if_neg (by omega)]
  rw[if_neg (by omega)]
  rw[if_neg (by omega)]
  rw[if_neg (by omega)]
  rw[if_neg (by omega)]
  rw[if_neg (by omega)]
  rw[if_neg (by omega)]
  rw[if_neg (by omega)]
  rw[if_neg (by omega)]
  rw[if_neg (by omega)]
  rw[if_neg (by omega)]
  rw[if_neg (by omega)]
 refine ac_ (pn:=ao_) aa_ Tryz.func96 rfl fun β0=>?_
 simp only[Tryz.f96]
 unfold fD
 repeat(first|apply wG|(apply wR;simp -dsimp[bp_])|refine aI ?_)
 refine cF (by simp;omega) ?_
 repeat(first|apply wG|(apply wR;simp -dsimp)|refine aI ?_)
 refine cF (by simp;omega) ?_
 repeat(first|apply wG|(apply wR;simp -dsimp)|refine aI ?_)
 refine cF (by simp;omega) ?_
 repeat(first|apply wG|(apply wR;simp -dsimp)|refine aI ?_)
 refine cF (by simp;omega) ?_
 repeat(first|apply wG|(apply wR;simp -dsimp)|refine aI ?_)
 refine cF (by simp;omega) ?_
 repeat(first|apply wG|(apply wR;simp -dsimp)|refine aI ?_)
 refine cF (by simp;omega) ?_
 repeat(first|apply wG|(apply wR;simp -dsimp)|refine aI ?_)
 refine cF (by simp;omega) ?_
 repeat(first|apply wG|(apply wR;simp -dsimp)|refine aI ?_)
 refine cF (by simp;omega) ?_
 repeat(first|apply wG|(apply wR;simp -dsimp)|refine aI ?_)
 refine cF (by simp;omega) ?_
 repeat(first|apply wG|(apply wR;simp -dsimp)|refine aI ?_)
 refine cF (by simp;omega) ?_
 repeat(first|apply wG|(apply wR;simp -dsimp)|refine aI ?_)
 refine cF (by simp;omega) ?_
 repeat(first|apply wG|(apply wR;simp -dsimp)|refine aI ?_)
 refine cF (by simp;omega) ?_
 refine WP.skip ?_
 simp -dsimp
 repeat(first|apply wG|(apply wR;simp -dsimp)|refine aI ?_)
 refine WP.ret (ab_ ?_)
 simp -dsimp[bc_,hp,cW_]
 all_goals exact ag_ _
theorem xU_ (f:Nat→Int):Fn0 Tryz.prog 96 [fD f] (fD (bc_ f)):=by
 have h:(f 3<1∨13<f 3∨f 3=12)∨f 3=1∨f 3=2∨f 3=3∨f 3=4∨f 3=5∨f 3=6∨f 3=7∨f 3=8∨f 3=9∨f 3=10∨f 3=11∨f 3=13:=by omega
 rcases h with h|h|h|h|h|h|h|h|h|h|h|h|h
 ·exact xV_ f h
 ·exact zX_ f h
 ·exact zW_ f h
 ·exact zV_ f h
 ·exact zU_ f h
 ·exact zT_ f h
 ·exact zS_ f h
 ·exact zR_ f h
 ·exact zQ_ f h
 ·exact zP_ f h
 ·exact xY_ f h
 ·exact xX_ f h
 ·exact xW_ f h
def da_ (f:Nat→Int):Bool:=inB (f 0) 0 31&&inB (f 1) 1 1048576&&inB (f 2) 0 1099511627776&&conF f&&eqF f (bc_ f)
theorem dj_ (f:Nat→Int) (hf:fOk f):Fn0 Tryz.prog 64 [fD f] (.v (.int .i64 (if da_ f=true then 0 else 120))):=by
 have h28:=rF_ f
 have h29:=xU_ f
 have ho:=vi_ hf
 refine ac_ (pn:=ao_) aa_ Tryz.func64 rfl fun β0=>?_
 simp only[Tryz.f64]
 rw[fD]
 repeat(first|apply wG|(apply wR;simp -dsimp)|refine aI ?_)
 refine ad_ iC_ (tT_ (f 0)) rfl rfl (by simp) ?_
 simp -dsimp
 repeat refine aI ?_
 refine ah_ iB_ (fun _=>mc_ (f 1)) rfl (fun _=>rfl) (fun _=>by simp) ?_
 simp -dsimp
 repeat refine aI ?_
 refine ah_ ar_ (fun _=>ct_ (f 2) 0 1099511627776) rfl (fun _=>rfl) (fun _=>by simp) ?_
 simp -dsimp
 repeat refine aI ?_
 refine ah_ oC_ (fun _=>h28) rfl (fun _=>rfl) (fun _=>by simp[fD]) ?_
 simp -dsimp
 repeat refine aI ?_
 refine ah_ oB_ (fun _=>h29) rfl (fun _=>rfl) (fun _=>by simp[fD]) ?_
 simp -dsimp[fD]
 repeat refine aI ?_
 refine dd_ aa_ qd_ cH_ rfl (.inr rfl) (m:=5) (by omega) cf_ (by decide) d7_ zr_ (cs:=fcs f 0 57) (es:=fcs (bc_ f) 0 57) (fun _=>by simp) (fun _=>by simp) (okF hf.1) (okF ho.1) (fE_ hf ho) ?_
 simp -dsimp[eqRes]
 repeat(first|apply wG|(apply wR;simp -dsimp)|refine aI ?_)
 refine WP.cond (b := !da_ f) (by simp[da_]) (fun hb=>?_) (fun hb=>?_)
 ·have hb:da_ f=false:=by simpa using hb
  repeat(first|apply wG|(apply wR;simp -dsimp)|refine aI ?_)
  refine WP.ret (ab_ ?_)
  simp -dsimp[hb]
 ·have hb:da_ f=true:=by simpa using hb
  refine WP.skip ?_
  simp -dsimp
  repeat(first|apply wG|(apply wR;simp -dsimp)|refine aI ?_)
  refine WP.ret (ab_ ?_)
  simp -dsimp[hb]
def cK_ (x y:Int):Int:=if x<y then -1 else if y<x then 1 else 0
theorem kO_ (x:Int):Fn0 Tryz.prog 83 [.v (.int .i64 x)] (.v (.bool false)):=by
 refine ac_ (pn:=ao_) aa_ Tryz.func83 rfl fun β0=>?_
 simp only[Tryz.f83]
 repeat(first|apply wG|(apply wR;simp -dsimp)|refine aI ?_)
 refine WP.ret (ab_ ?_)
 simp -dsimp
theorem bM_ (x y:Int):Fn0 Tryz.prog 57 [.v (.int .i64 x),.v (.int .i64 y)] (.v (.int .i64 (cK_ x y))):=by
 refine ac_ (pn:=ao_) aa_ Tryz.func57 rfl fun β0=>?_
 simp only[Tryz.f57]
 repeat(first|apply wG|(apply wR;simp -dsimp)|refine aI ?_)
 refine ad_ e0_ (kO_ x) rfl rfl (by simp) ?_
 simp -dsimp
 repeat(first|apply wG|(apply wR;simp -dsimp)|refine aI ?_)
 refine ad_ e0_ (kO_ y) rfl rfl (by simp) ?_
 simp -dsimp
 repeat(first|apply wG|(apply wR;simp -dsimp)|refine aI ?_)
 refine cF (by simp) ?_
 refine WP.skip ?_
 simp -dsimp
 repeat(first|apply wG|(apply wR;simp -dsimp)|refine aI ?_)
 refine cF (by simp) ?_
 refine WP.skip ?_
 simp -dsimp
 repeat(first|apply wG|(apply wR;simp -dsimp)|refine aI ?_)
 refine WP.cond (b:=decide (x<y)) (by simp) (fun hb=>?_) (fun hb=>?_)
 ·have hb:=of_decide_eq_true hb
  repeat(first|apply wG|(apply wR;simp -dsimp)|refine aI ?_)
  refine WP.ret (ab_ ?_)
  simp -dsimp[cK_,hb]
 have h1:=of_decide_eq_false hb
 refine WP.skip ?_
 simp -dsimp
 repeat(first|apply wG|(apply wR;simp -dsimp)|refine aI ?_)
 refine WP.cond (b:=decide (y<x)) (by simp) (fun hb=>?_) (fun hb=>?_)
 ·have hb:=of_decide_eq_true hb
  have e:cK_ x y=1:=by rw[cK_,if_neg h1,if_pos hb]
  repeat(first|apply wG|(apply wR;simp -dsimp)|refine aI ?_)
  refine WP.ret (ab_ ?_)
  simp -dsimp[e]
 have h2:=of_decide_eq_false hb
 have e:cK_ x y=0:=by rw[cK_,if_neg h1,if_neg h2]
 refine WP.skip ?_
 simp -dsimp
 repeat(first|apply wG|(apply wR;simp -dsimp)|refine aI ?_)
 refine WP.ret (ab_ ?_)
 simp -dsimp[e]
def orL:List Int→Int
 | []=>0
 | x::l=>if x=0 then orL l else x
theorem vb_ (l:List Int) (hl:l.length≤1000):Fn0 Tryz.prog 56 [slI l] (.v (.int .i64 (orL l))):=by
 refine ac_ (pn:=ao_) aa_ Tryz.func56 rfl fun β0=>?_
 simp only[Tryz.f56]
 repeat(first|apply wG|(apply wR;simp -dsimp)|refine aI ?_)
 refine ak_ (fun m S=>∃ l1 l2,l=l1++l2∧m=l2.length∧orL l=orL l2∧S=mkS 18 [(3,.d (.v (.int .i64 0))),(6,.d (slI l)),(7,.d (.v (.int .i64 l.length))),(8,.d (.v (.int .i64 l1.length)))] []) l.length
  (S0:=mkS 18 [(3,.d (.v (.int .i64 0))),(6,.d (slI l)),(7,.d (.v (.int .i64 l.length))),(8,.d (.v (.int .i64 0)))] []) (ae_ [] (by simp) (by simp)) ⟨[],l,rfl,rfl,rfl,rfl⟩ ?_
 rintro _ _ ⟨l1,l2,hl12,rfl,ho,rfl⟩
 simp -dsimp
 repeat(first|apply wG|(apply wR;simp -dsimp)|refine aI ?_)
 cases l2 with
 | nil =>
  simp only[List.append_nil] at hl12
  subst hl12
  refine cF (by simp) ?_
  refine WP.exit ?_
  simp -dsimp
  repeat(first|apply wG|(apply wR;simp -dsimp)|refine aI ?_)
  refine WP.ret (ab_ ?_)
  simp -dsimp[ho,orL]
 | cons x l2 =>
  have hll:l.length=l1.length+(l2.length+1):=by rw[hl12];simp
  have e1:IntKind.i64.wrap ((l1.length:Int)+1)=(l1.length:Int)+1:=IntWalk.i64_in _ (by omega)
  have h1:=yi_ l1 x l2
  rw[← hl12] at h1
  refine cT (by simp;omega) ?_
  refine WP.skip ?_
  simp -dsimp
  refine WP.seq (WP.block ?_)
  repeat(first|apply wG|(apply wR;simp -dsimp[h1])|refine aI ?_)
  refine WP.cond (b := !decide (x=0)) (by simp) (fun hb=>?_) (fun hb=>?_)
  ·have hb:¬ x=0:=by simpa using hb
   repeat(first|apply wG|(apply wR;simp -dsimp)|refine aI ?_)
   refine WP.ret (ab_ ?_)
   simp -dsimp[ho,orL,hb]
  ·have hb:x=0:=by simpa using hb
   refine WP.skip ?_
   simp -dsimp
   repeat(first|apply wG|(apply wR;simp -dsimp)|refine aI ?_)
   refine loopW.next (mkS 18 [(3,.d (.v (.int .i64 0))),(6,.d (slI l)),(7,.d (.v (.int .i64 l.length))),(8,.d (.v (.int .i64 (l1++[x]).length)))] []) (ae_ [] (by simp[e1]) (by simp)) l2.length (by simp) ⟨l1++[x],l2,by simp[hl12],rfl,by rw[ho,orL,if_pos hb],rfl⟩
theorem f8_ (f g:Nat→Int) (hf:fOk f) (hg:fOk g):Fn0 Tryz.prog 98 [fD f,fD g] (.v (.bool (eqF f g))):=by
 refine ac_ (pn:=ao_) aa_ Tryz.func98 rfl fun β0=>?_
 simp only[Tryz.f98]
 simp only[fD]
 repeat(first|apply wG|(apply wR;simp -dsimp)|refine aI ?_)
 refine bq_ aa_ qd_ cH_ rfl (.inl rfl) (m:=5) (by omega) cf_ (by decide) d7_ zr_ (cs:=fcs f 0 57) (es:=fcs g 0 57) (by simp) (by simp) (okF hf.1) (okF hg.1) (fE_ hf hg) ?_
 simp -dsimp[eqRes]
 repeat(first|apply wG|(apply wR;simp -dsimp)|refine aI ?_)
 refine WP.ret (ab_ ?_)
 simp -dsimp
@[simp] theorem Ck_ (cs xs:List AV) (h:cs.length=xs.length):setL cs 0 xs=xs:=by
 refine List.ext_getElem? fun i=>?_
 rw[kd_ _ _ _ _ (by omega)]
 split
 ·simp
 ·rw[List.getElem?_eq_none (by omega),List.getElem?_eq_none (by omega)]
def aI_ (f:Nat→Int):List Int:=[f 3,f 0,f 1,f 2] ++
 (
 if f 3=1 then [f 4,f 5,f 6,f 7,f 8,f 9,f 10,f 11]
 else if f 3=2 then [f 12,f 13,f 14,f 15]
 else if f 3=3 then [f 16,f 17,f 18,f 19,f 20]
 else if f 3=4 then [f 21,f 22,f 23,f 24,f 25,f 26,f 27,f 28]
 else if f 3=5 then [f 29,f 30,f 31,f 32]
 else if f 3=6 then [f 33,f 34,f 35,f 36]
 else if f 3=7 then [f 37,f 38]
 else if f 3=8 then [f 39,f 40,f 41,f 42]
 else if f 3=9 then [f 43,f 44,f 45,f 46]
 else if f 3=10 then [f 47,f 48,f 49,f 50,f 51,f 52]
 else if f 3=11 then [f 53,if f 54=1 then 1 else 0]
 else if f 3=13 then [f 55,f 56]
 else [])
theorem l0_ (f:Nat→Int) (hk:f 3=1):Fn0 Tryz.prog 133 [fD f] (slI (aI_ f)):=by
 refine ac_ (pn:=ao_) aa_ Tryz.func133 rfl fun β0=>?_
 simp only[Tryz.f133]
 rw[fD]
 repeat(first|apply wG|(apply wR;simp -dsimp)|refine aI ?_)
 rw[hk]
 refine cT (by simp) ?_
 repeat(first|apply wG|(apply wR;simp -dsimp)|refine aI ?_)
 refine WP.ret (am_ (Wk.freeze (k:=46) (T:=3) (sz:=1) (n:=12) (ds:=iD (aI_ f)) (by simp[aI_,hk,iD])) ?_)
 simp[aI_,hk,iD]
theorem lZ_ (f:Nat→Int) (hk:f 3=2):Fn0 Tryz.prog 133 [fD f] (slI (aI_ f)):=by
 refine ac_ (pn:=ao_) aa_ Tryz.func133 rfl fun β0=>?_
 simp only[Tryz.f133]
 rw[fD]
 repeat(first|apply wG|(apply wR;simp -dsimp)|refine aI ?_)
 rw[hk]
 refine cF (by simp) ?_
 repeat(first|apply wG|(apply wR;simp -dsimp)|refine aI ?_)
 refine cT (by simp) ?_
 repeat(first|apply wG|(apply wR;simp -dsimp)|refine aI ?_)
 refine WP.ret (am_ (Wk.freeze (k:=61) (T:=3) (sz:=1) (n:=8) (ds:=iD (aI_ f)) (by simp[aI_,hk,iD])) ?_)
 simp[aI_,hk,iD]
theorem lY_ (f:Nat→Int) (hk:f 3=3):Fn0 Tryz.prog 133 [fD f] (slI (aI_ f)):=by
 refine ac_ (pn:=ao_) aa_ Tryz.func133 rfl fun β0=>?_
 simp only[Tryz.f133]
 rw[fD]
 repeat(first|apply wG|(apply wR;simp -dsimp)|refine aI ?_)
 rw[hk]
 refine cF (by simp) ?_
 repeat(first|apply wG|(apply wR;simp -dsimp)|refine aI ?_)
 refine cF (by simp) ?_
 repeat(first|apply wG|(apply wR;simp -dsimp)|refine aI ?_)
 refine cT (by simp) ?_
 repeat(first|apply wG|(apply wR;simp -dsimp)|refine aI ?_)
 refine WP.ret (am_ (Wk.freeze (k:=78) (T:=3) (sz:=1) (n:=9) (ds:=iD (aI_ f)) (by simp[aI_,hk,iD])) ?_)
 simp[aI_,hk,iD]
theorem lX_ (f:Nat→Int) (hk:f 3=4):Fn0 Tryz.prog 133 [fD f] (slI (aI_ f)):=by
 refine ac_ (pn:=ao_) aa_ Tryz.func133 rfl fun β0=>?_
 simp only[Tryz.f133]
 rw[fD]
 repeat(first|apply wG|(apply wR;simp -dsimp)|refine aI ?_)
 rw[hk]
 refine cF (by simp) ?_
 repeat(first|apply wG|(apply wR;simp -dsimp)|refine aI ?_)
 refine cF (by simp) ?_
 repeat(first|apply wG|(apply wR;simp -dsimp)|refine aI ?_)
 refine cF (by simp) ?_
 repeat(first|apply wG|(apply wR;simp -dsimp)|refine aI ?_)
 refine cT (by simp) ?_
 repeat(first|apply wG|(apply wR;simp -dsimp)|refine aI ?_)
 refine WP.ret (am_ (Wk.freeze (k:=101) (T:=3) (sz:=1) (n:=12) (ds:=iD (aI_ f)) (by simp[aI_,hk,iD])) ?_)
 simp[aI_,hk,iD]
theorem lW_ (f:Nat→Int) (hk:f 3=5):Fn0 Tryz.prog 133 [fD f] (slI (aI_ f)):=by
 refine ac_ (pn:=ao_) aa_ Tryz.func133 rfl fun β0=>?_
 simp only[Tryz.f133]
 rw[fD]
 repeat(first|apply wG|(apply wR;simp -dsimp)|refine aI ?_)
 rw[hk]
 refine cF (by simp) ?_
 repeat(first|apply wG|(apply wR;simp -dsimp)|refine aI ?_)
 refine cF (by simp) ?_
 repeat(first|apply wG|(apply wR;simp -dsimp)|refine aI ?_)
 refine cF (by simp) ?_
 repeat(first|apply wG|(apply wR;simp -dsimp)|refine aI ?_)
 refine cF (by simp) ?_
 repeat(first|apply wG|(apply wR;simp -dsimp)|refine aI ?_)
 refine cT (by simp) ?_
 repeat(first|apply wG|(apply wR;simp -dsimp)|refine aI ?_)
 refine WP.ret (am_ (Wk.freeze (k:=116) (T:=3) (sz:=1) (n:=8) (ds:=iD (aI_ f)) (by simp[aI_,hk,iD])) ?_)
 simp[aI_,hk,iD]
theorem lV_ (f:Nat→Int) (hk:f 3=6):Fn0 Tryz.prog 133 [fD f] (slI (aI_ f)):=by
 refine ac_ (pn:=ao_) aa_ Tryz.func133 rfl fun β0=>?_
 simp only[Tryz.f133]
 rw[fD]
 repeat(first|apply wG|(apply wR;simp -dsimp)|refine aI ?_)
 rw[hk]
 refine cF (by simp) ?_
 repeat(first|apply wG|(apply wR;simp -dsimp)|refine aI ?_)
 refine cF (by simp) ?_
 repeat(first|apply wG|(apply wR;simp -dsimp)|refine aI ?_)
 refine cF (by simp) ?_
 repeat(first|apply wG|(apply wR;simp -dsimp)|refine aI ?_)
 refine cF (by simp) ?_
 repeat(first|apply wG|(apply wR;simp -dsimp)|refine aI ?_)
 refine cF (by simp) ?_
 repeat(first|apply wG|(apply wR;simp -dsimp)|refine aI ?_)
 refine cT (by simp) ?_
 repeat(first|apply wG|(apply wR;simp -dsimp)|refine aI ?_)
 refine WP.ret (am_ (Wk.freeze (k:=131) (T:=3) (sz:=1) (n:=8) (ds:=iD (aI_ f)) (by simp[aI_,hk,iD])) ?_)
 simp[aI_,hk,iD]
theorem lU_ (f:Nat→Int) (hk:f 3=7):Fn0 Tryz.prog 133 [fD f] (slI (aI_ f)):=by
 refine ac_ (pn:=ao_) aa_ Tryz.func133 rfl fun β0=>?_
 simp only[Tryz.f133]
 rw[fD]
 repeat(first|apply wG|(apply wR;simp -dsimp)|refine aI ?_)
 rw[hk]
 refine cF (by simp) ?_
 repeat(first|apply wG|(apply wR;simp -dsimp)|refine aI ?_)
 refine cF (by simp) ?_
 repeat(first|apply wG|(apply wR;simp -dsimp)|refine aI ?_)
 refine cF (by simp) ?_
 repeat(first|apply wG|(apply wR;simp -dsimp)|refine aI ?_)
 refine cF (by simp) ?_
 repeat(first|apply wG|(apply wR;simp -dsimp)|refine aI ?_)
 refine cF (by simp) ?_
 repeat(first|apply wG|(apply wR;simp -dsimp)|refine aI ?_)
 refine cF (by simp) ?_
 repeat(first|apply wG|(apply wR;simp -dsimp)|refine aI ?_)
 refine cT (by simp) ?_
 repeat(first|apply wG|(apply wR;simp -dsimp)|refine aI ?_)
 refine WP.ret (am_ (Wk.freeze (k:=142) (T:=3) (sz:=1) (n:=6) (ds:=iD (aI_ f)) (by simp[aI_,hk,iD])) ?_)
 simp[aI_,hk,iD]
theorem lT_ (f:Nat→Int) (hk:f 3=8):Fn0 Tryz.prog 133 [fD f] (slI (aI_ f)):=by
 refine ac_ (pn:=ao_) aa_ Tryz.func133 rfl fun β0=>?_
 simp only[Tryz.f133]
 rw[fD]
 repeat(first|apply wG|(apply wR;simp -dsimp)|refine aI ?_)
 rw[hk]
 refine cF (by simp) ?_
 repeat(first|apply wG|(apply wR;simp -dsimp)|refine aI ?_)
 refine cF (by simp) ?_
 repeat(first|apply wG|(apply wR;simp -dsimp)|refine aI ?_)
 refine cF (by simp) ?_
 repeat(first|apply wG|(apply wR;simp -dsimp)|refine aI ?_)
 refine cF (by simp) ?_
 repeat(first|apply wG|(apply wR;simp -dsimp)|refine aI ?_)
 refine cF (by simp) ?_
 repeat(first|apply wG|(apply wR;simp -dsimp)|refine aI ?_)
 refine cF (by simp) ?_
 repeat(first|apply wG|(apply wR;simp -dsimp)|refine aI ?_)
 refine cF (by simp) ?_
 repeat(first|apply wG|(apply wR;simp -dsimp)|refine aI ?_)
 refine cT (by simp) ?_
 repeat(first|apply wG|(apply wR;simp -dsimp)|refine aI ?_)
 refine WP.ret (am_ (Wk.freeze (k:=157) (T:=3) (sz:=1) (n:=8) (ds:=iD (aI_ f)) (by simp[aI_,hk,iD])) ?_)
 simp[aI_,hk,iD]
theorem lS_ (f:Nat→Int) (hk:f 3=9):Fn0 Tryz.prog 133 [fD f] (slI (aI_ f)):=by
 refine ac_ (pn:=ao_) aa_ Tryz.func133 rfl fun β0=>?_
 simp only[Tryz.f133]
 rw[fD]
 repeat(first|apply wG|(apply wR;simp -dsimp)|refine aI ?_)
 rw[hk]
 refine cF (by simp) ?_
 repeat(first|apply wG|(apply wR;simp -dsimp)|refine aI ?_)
 refine cF (by simp) ?_
 repeat(first|apply wG|(apply wR;simp -dsimp)|refine aI ?_)
 refine cF (by simp) ?_
 repeat(first|apply wG|(apply wR;simp -dsimp)|refine aI ?_)
 refine cF (by simp) ?_
 repeat(first|apply wG|(apply wR;simp -dsimp)|refine aI ?_)
 refine cF (by simp) ?_
 repeat(first|apply wG|(apply wR;simp -dsimp)|refine aI ?_)
 refine cF (by simp) ?_
 repeat(first|apply wG|(apply wR;simp -dsimp)|refine aI ?_)
 refine cF (by simp) ?_
 repeat(first|apply wG|(apply wR;simp -dsimp)|refine aI ?_)
 refine cF (by simp) ?_
 repeat(first|apply wG|(apply wR;simp -dsimp)|refine aI ?_)
 refine cT (by simp) ?_
 repeat(first|apply wG|(apply wR;simp -dsimp)|refine aI ?_)
 refine WP.ret (am_ (Wk.freeze (k:=172) (T:=3) (sz:=1) (n:=8) (ds:=iD (aI_ f)) (by simp[aI_,hk,iD])) ?_)
 simp[aI_,hk,iD]
theorem kt_ (f:Nat→Int) (hk:f 3=10):Fn0 Tryz.prog 133 [fD f] (slI (aI_ f)):=by
 refine ac_ (pn:=ao_) aa_ Tryz.func133 rfl fun β0=>?_
 simp only[Tryz.f133]
 rw[fD]
 repeat(first|apply wG|(apply wR;simp -dsimp)|refine aI ?_)
 rw[hk]
 refine cF (by simp) ?_
 repeat(first|apply wG|(apply wR;simp -dsimp)|refine aI ?_)
 refine cF (by simp) ?_
 repeat(first|apply wG|(apply wR;simp -dsimp)|refine aI ?_)
 refine cF (by simp) ?_
 repeat(first|apply wG|(apply wR;simp -dsimp)|refine aI ?_)
 refine cF (by simp) ?_
 repeat(first|apply wG|(apply wR;simp -dsimp)|refine aI ?_)
 refine cF (by simp) ?_
 repeat(first|apply wG|(apply wR;simp -dsimp)|refine aI ?_)
 refine cF (by simp) ?_
 repeat(first|apply wG|(apply wR;simp -dsimp)|refine aI ?_)
 refine cF (by simp) ?_
 repeat(first|apply wG|(apply wR;simp -dsimp)|refine aI ?_)
 refine cF (by simp) ?_
 repeat(first|apply wG|(apply wR;simp -dsimp)|refine aI ?_)
 refine cF (by simp) ?_
 repeat(first|apply wG|(apply wR;simp -dsimp)|refine aI ?_)
 refine cT (by simp) ?_
 repeat(first|apply wG|(apply wR;simp -dsimp)|refine aI ?_)
 refine WP.ret (am_ (Wk.freeze (k:=191) (T:=3) (sz:=1) (n:=10) (ds:=iD (aI_ f)) (by simp[aI_,hk,iD])) ?_)
 simp[aI_,hk,iD]
theorem ks_ (f:Nat→Int) (hk:f 3=11):Fn0 Tryz.prog 133 [fD f] (slI (aI_ f)):=by
 refine ac_ (pn:=ao_) aa_ Tryz.func133 rfl fun β0=>?_
 simp only[Tryz.f133]
 rw[fD]
 repeat(first|apply wG|(apply wR;simp -dsimp)|refine aI ?_)
 rw[hk]
 refine cF (by simp) ?_
 repeat(first|apply wG|(apply wR;simp -dsimp)|refine aI ?_)
 refine cF (by simp) ?_
 repeat(first|apply wG|(apply wR;simp -dsimp)|refine aI ?_)
 refine cF (by simp) ?_
 repeat(first|apply wG|(apply wR;simp -dsimp)|refine aI ?_)
 refine cF (by simp) ?_
 repeat(first|apply wG|(apply wR;simp -dsimp)|refine aI ?_)
 refine cF (by simp) ?_
 repeat(first|apply wG|(apply wR;simp -dsimp)|refine aI ?_)
 refine cF (by simp) ?_
 repeat(first|apply wG|(apply wR;simp -dsimp)|refine aI ?_)
 refine cF (by simp) ?_
 repeat(first|apply wG|(apply wR;simp -dsimp)|refine aI ?_)
 refine cF (by simp) ?_
 repeat(first|apply wG|(apply wR;simp -dsimp)|refine aI ?_)
 refine cF (by simp) ?_
 repeat(first|apply wG|(apply wR;simp -dsimp)|refine aI ?_)
 refine cF (by simp) ?_
 repeat(first|apply wG|(apply wR;simp -dsimp)|refine aI ?_)
 refine cT (by simp) ?_
 repeat(first|apply wG|(apply wR;simp -dsimp)|refine aI ?_)
 refine WP.cond (b:=decide (f 54=1)) (by simp) (fun hb=>?_) (fun hb=>?_)
 ·have hb:=of_decide_eq_true hb
  repeat(first|apply wG|(apply wR;simp -dsimp)|refine aI ?_)
  refine WP.ret (am_ (Wk.freeze (k:=202) (T:=3) (sz:=1) (n:=6) (ds:=iD (aI_ f)) (by simp[aI_,hk,hb,iD])) ?_)
  simp[aI_,hk,hb,iD]
 ·have hb:=of_decide_eq_false hb
  refine WP.skip ?_
  simp -dsimp
  repeat(first|apply wG|(apply wR;simp -dsimp)|refine aI ?_)
  refine WP.ret (am_ (Wk.freeze (k:=208) (T:=3) (sz:=1) (n:=6) (ds:=iD (aI_ f)) (by simp[aI_,hk,hb,iD])) ?_)
  simp[aI_,hk,hb,iD]
theorem kr_ (f:Nat→Int) (hk:f 3=13):Fn0 Tryz.prog 133 [fD f] (slI (aI_ f)):=by
 refine ac_ (pn:=ao_) aa_ Tryz.func133 rfl fun β0=>?_
 simp only[Tryz.f133]
 rw[fD]
 repeat(first|apply wG|(apply wR;simp -dsimp)|refine aI ?_)
 rw[hk]
 refine cF (by simp) ?_
 repeat(first|apply wG|(apply wR;simp -dsimp)|refine aI ?_)
 refine cF (by simp) ?_
 repeat(first|apply wG|(apply wR;simp -dsimp)|refine aI ?_)
 refine cF (by simp) ?_
 repeat(first|apply wG|(apply wR;simp -dsimp)|refine aI ?_)
 refine cF (by simp) ?_
 repeat(first|apply wG|(apply wR;simp -dsimp)|refine aI ?_)
 refine cF (by simp) ?_
 repeat(first|apply wG|(apply wR;simp -dsimp)|refine aI ?_)
 refine cF (by simp) ?_
 repeat(first|apply wG|(apply wR;simp -dsimp)|refine aI ?_)
 refine cF (by simp) ?_
 repeat(first|apply wG|(apply wR;simp -dsimp)|refine aI ?_)
 refine cF (by simp) ?_
 repeat(first|apply wG|(apply wR;simp -dsimp)|refine aI ?_)
 refine cF (by simp) ?_
 repeat(first|apply wG|(apply wR;simp -dsimp)|refine aI ?_)
 refine cF (by simp) ?_
 repeat(first|apply wG|(apply wR;simp -dsimp)|refine aI ?_)
 refine cF (by simp) ?_
 repeat(first|apply wG|(apply wR;simp -dsimp)|refine aI ?_)
 refine cT (by simp) ?_
 repeat(first|apply wG|(apply wR;simp -dsimp)|refine aI ?_)
 refine WP.ret (am_ (Wk.freeze (k:=219) (T:=3) (sz:=1) (n:=6) (ds:=iD (aI_ f)) (by simp[aI_,hk,iD])) ?_)
 simp[aI_,hk,iD]
theorem kq_ (f:Nat→Int) (hk:f 3<1∨13<f 3∨f 3=12):Fn0 Tryz.prog 133 [fD f] (slI (aI_ f)):=by
 have hr:aI_ f=[f 3,f 0,f 1,f 2]:=by
  unfold aI_
  rw[if_neg (by omega)]
  rw[if_neg (by omega)]
  rw[if_neg (by omega)]
  rw[if_neg (by omega)]
  rw[if_neg (by omega)]
  rw[if_neg (by omega)]
  rw[if_neg (by omega)]
  rw[if_neg (by omega)]
  rw[if_neg (by omega)]
  rw[if_neg (by omega)]
  rw[if_neg (by omega)]
  rw[if_neg (by omega)]
  rfl
 refine ac_ (pn:=ao_) aa_ Tryz.func133 rfl fun β0=>?_
 simp only[Tryz.f133]
 rw[fD]
 repeat(first|apply wG|(apply wR;simp -dsimp)|refine aI ?_)
 refine cF (by simp;omega) ?_
 repeat(first|apply wG|(apply wR;simp -dsimp)|refine aI ?_)
 refine cF (by simp;omega) ?_
 repeat(first|apply wG|(apply wR;simp -dsimp)|refine aI ?_)
 refine cF (by simp;omega) ?_
 repeat(first|apply wG|(apply wR;simp -dsimp)|refine aI ?_)
 refine cF (by simp;omega) ?_
 repeat(first|apply wG|(apply wR;simp -dsimp)|refine aI ?_)
 refine cF (by simp;omega) ?_
 repeat(first|apply wG|(apply wR;simp -dsimp)|refine aI ?_)
 refine cF (by simp;omega) ?_
 repeat(first|apply wG|(apply wR;simp -dsimp)|refine aI ?_)
 refine cF (by simp;omega) ?_
 repeat(first|apply wG|(apply wR;simp -dsimp)|refine aI ?_)
 refine cF (by simp;omega) ?_
 repeat(first|apply wG|(apply wR;simp -dsimp)|refine aI ?_)
 refine cF (by simp;omega) ?_
 repeat(first|apply wG|(apply wR;simp -dsimp)|refine aI ?_)
 refine cF (by simp;omega) ?_
 repeat(first|apply wG|(apply wR;simp -dsimp)|refine aI ?_)
 refine cF (by simp;omega) ?_
 repeat(first|apply wG|(apply wR;simp -dsimp)|refine aI ?_)
 refine cF (by simp;omega) ?_
 refine WP.skip ?_
 simp -dsimp
 repeat(first|apply wG|(apply wR;simp -dsimp)|refine aI ?_)
 refine WP.ret (am_ (Wk.freeze (k:=21) (T:=3) (sz:=1) (n:=4) (ds:=iD (aI_ f)) (by simp[hr,iD])) ?_)
 simp[hr,iD]
theorem kp_ (f:Nat→Int):Fn0 Tryz.prog 133 [fD f] (slI (aI_ f)):=by
 have h:(f 3<1∨13<f 3∨f 3=12)∨f 3=1∨f 3=2∨f 3=3∨f 3=4∨f 3=5∨f 3=6∨f 3=7∨f 3=8∨f 3=9∨f 3=10∨f 3=11∨f 3=13:=by omega
 rcases h with h|h|h|h|h|h|h|h|h|h|h|h|h
 ·exact kq_ f h
 ·exact l0_ f h
 ·exact lZ_ f h
 ·exact lY_ f h
 ·exact lX_ f h
 ·exact lW_ f h
 ·exact lV_ f h
 ·exact lU_ f h
 ·exact lT_ f h
 ·exact lS_ f h
 ·exact kt_ f h
 ·exact ks_ f h
 ·exact kr_ f h
def sI (l l1:List Int):St :=
 mkS 23 [(0,.d (slI l)),(2,.ptr 2 0),(3,.ptr 3 0),(4,.d (.v (.int .i64 l1.length)))]
  [(2,.cells 205 [.d (.v (.int .i64 0)),.d (.v (.int .i64 0)),.d (.v (.string ⟨#[]⟩)),.d (.v (.slice none 0 0))]),(3,.cells 205 [.d (.v (.int .i64 3)),.d (.v (.int .i64 0)),.d (.v (.string ⟨#[]⟩)),.row 500]),(500,.row 205 4 l1.length ((aE_ (l1.map p0_)).map .d))]
theorem intV_d (x:Int):(p0_ x).cells=[.v (.int .i64 1),.v (.int .i64 x),.v (.string ⟨#[]⟩),.sl 4 [] 0 false]:=by simp[p0_,V.cells,aE_]
theorem yg_ (l:List Int) (hl:l.length≤1000):Fn0 Tryz.prog 132 [slI l] (bJ_ l).d:=by
 refine ac_ (pn:=ao_) aa_ Tryz.func132 rfl fun β0=>?_
 simp only[Tryz.f132]
 repeat(first|apply wG|(apply wR;simp -dsimp)|refine aI ?_)
 refine ak_ (fun m S=>∃ l1 l2,l=l1++l2∧m=l2.length∧S=sI l l1) l.length (S0:=sI l [])
  ((gs_ 3 3 500 205 4 (by simp;exact⟨rfl,rfl⟩) rfl (by simp)).trans (ae_ [] (by simp[sI]) (by simp[sI,aE_]))) ⟨[],l,rfl,rfl,rfl⟩ ?_
 rintro _ _ ⟨l1,l2,hl12,rfl,rfl⟩
 simp -dsimp[sI]
 repeat(first|apply wG|(apply wR;simp -dsimp)|refine aI ?_)
 cases l2 with
 | nil =>
  simp only[List.append_nil] at hl12
  subst hl12
  refine cF (by simp) ?_
  refine WP.exit ?_
  simp -dsimp
  repeat(first|apply wG|(apply wR;simp -dsimp)|refine aI ?_)
  refine WP.ret (am_ (Wk.freeze (k:=500) (T:=205) (sz:=4) (n:=l.length) (ds:=aE_ (l.map p0_)) (by simp)) ?_)
  simp[bJ_,V.d,V.cells]
 | cons x l2 =>
  have hll:l.length=l1.length+(l2.length+1):=by rw[hl12];simp
  have e1:IntKind.i64.wrap ((l1.length:Int)+1)=(l1.length:Int)+1:=IntWalk.i64_in _ (by omega)
  have h1:=yi_ l1 x l2
  rw[← hl12] at h1
  refine cT (by simp;omega) ?_
  refine WP.skip ?_
  simp -dsimp
  refine WP.seq (WP.block ?_)
  repeat(first|apply wG|(apply wR;simp -dsimp[h1])|refine aI ?_)
  refine ad_ mW_ (AC_ x) rfl rfl (by simp) ?_
  simp -dsimp[V.d,V.cells,aE_]
  repeat(first|apply wG|(apply wR;simp -dsimp)|refine aI ?_)
  refine loopW.next (sI l (l1++[x])) (Wk.go [19] 20 500 (by decide) (by simp[sI]) (by simp[sI,e1]) (by simp[sI,cy_,aE_,intV_d])) l2.length (by simp) ⟨l1++[x],l2,by simp[hl12],rfl,rfl⟩
theorem xK_ {f:Nat→Int} (hf:fOk f):(∀ x∈aI_ f,isI x)∧(aI_ f).length≤12:=by
 have h:=hf.1
 have key:∀ L:List Nat,L.length≤12→aI_ f=L.map f→(∀ x∈aI_ f,isI x)∧(aI_ f).length≤12:=fun L h1 h2=>by
  rw[h2]
  refine⟨fun x hx=>?_,by simpa using h1⟩
  obtain⟨i,_,rfl⟩:=List.mem_map.1 hx
  exact h i
 have hk:(f 3<1∨13<f 3∨f 3=12)∨f 3=1∨f 3=2∨f 3=3∨f 3=4∨f 3=5∨f 3=6∨f 3=7∨f 3=8∨f 3=9∨f 3=10∨f 3=11∨f 3=13:=by omega
 rcases hk with hk|hk|hk|hk|hk|hk|hk|hk|hk|hk|hk|hk|hk
 ·refine key [3,0,1,2] (by decide) ?_
  unfold aI_
  rw[if_neg (by omega)]
  rw[if_neg (by omega)]
  rw[if_neg (by omega)]
  rw[if_neg (by omega)]
  rw[if_neg (by omega)]
  rw[if_neg (by omega)]
  rw[if_neg (by omega)]
  rw[if_neg (by omega)]
  rw[if_neg (by omega)]
  rw[if_neg (by omega)]
  rw[if_neg (by omega)]
  rw[if_neg (by omega)]
  rfl
 ·exact key [3,0,1,2,4,5,6,7,8,9,10,11] (by decide) (by simp[aI_,hk])
 ·exact key [3,0,1,2,12,13,14,15] (by decide) (by simp[aI_,hk])
 ·exact key [3,0,1,2,16,17,18,19,20] (by decide) (by simp[aI_,hk])
 ·exact key [3,0,1,2,21,22,23,24,25,26,27,28] (by decide) (by simp[aI_,hk])
 ·exact key [3,0,1,2,29,30,31,32] (by decide) (by simp[aI_,hk])
 ·exact key [3,0,1,2,33,34,35,36] (by decide) (by simp[aI_,hk])
 ·exact key [3,0,1,2,37,38] (by decide) (by simp[aI_,hk])
 ·exact key [3,0,1,2,39,40,41,42] (by decide) (by simp[aI_,hk])
 ·exact key [3,0,1,2,43,44,45,46] (by decide) (by simp[aI_,hk])
 ·exact key [3,0,1,2,47,48,49,50,51,52] (by decide) (by simp[aI_,hk])
 ·have e:aI_ f=[f 3,f 0,f 1,f 2,f 53,if f 54=1 then 1 else 0]:=by simp[aI_,hk]
  rw[e]
  refine⟨fun x hx=>?_,by simp⟩
  simp only[List.mem_cons,List.not_mem_nil,or_false] at hx
  rcases hx with rfl|rfl|rfl|rfl|rfl|rfl<;>first|exact h _|(split<;>simp[isI])
 ·exact key [3,0,1,2,55,56] (by decide) (by simp[aI_,hk])
def refR (f:Nat→Int):List UInt8×Int:=if da_ f=true then (V.enc (bJ_ (aI_ f)),0) else ([],120)
theorem dU_ (f:Nat→Int) (hf:fOk f):Fn0 Tryz.prog 91 [fD f] (.tup [slB (refR f).1,.v (.int .i64 (refR f).2)]):=by
 have h12:=dj_ f hf
 have h35:=kp_ f
 obtain⟨hin,hlen⟩:=xK_ hf
 have h34:=yg_ (aI_ f) (by omega)
 obtain⟨c1,c2,c3,c4⟩:=do_ hin (by omega)
 have h33:=AF_ (bJ_ (aI_ f)) (by omega) c2 (by omega)
 rw[show V.encB (bJ_ (aI_ f))=V.enc (bJ_ (aI_ f)) from if_pos c1,c1] at h33
 refine ac_ (pn:=ao_) aa_ Tryz.func91 rfl fun β0=>?_
 simp only[Tryz.f91]
 rw[fD]
 repeat(first|apply wG|(apply wR;simp -dsimp)|refine aI ?_)
 refine ad_ dA_ h12 rfl rfl (by simp[fD]) ?_
 simp -dsimp
 repeat(first|apply wG|(apply wR;simp -dsimp)|refine aI ?_)
 cases hc:da_ f with
 | false =>
  refine cT (by simp) ?_
  repeat(first|apply wG|(apply wR;simp -dsimp)|refine aI ?_)
  refine WP.ret (ab_ ?_)
  simp -dsimp[refR,hc]
 | true =>
  refine cF (by simp) ?_
  refine WP.skip ?_
  simp -dsimp
  repeat(first|apply wG|(apply wR;simp -dsimp)|refine aI ?_)
  refine ad_ nb_ h35 rfl rfl (by simp[fD]) ?_
  simp -dsimp
  repeat refine aI ?_
  refine ad_ nc_ h34 rfl rfl (by simp) ?_
  simp -dsimp
  repeat refine aI ?_
  refine ad_ nd_ h33 rfl rfl (by simp[bJ_,V.d,V.cells]) ?_
  simp -dsimp
  repeat(first|apply wG|(apply wR;simp -dsimp)|refine aI ?_)
  refine WP.ret (ab_ ?_)
  simp -dsimp[refR,hc]
theorem iv_ (a b:List UInt8):Fn0 Tryz.prog 88 [slB a,slB b] (.v (.int .i64 (Lib.compareBytes a b))):=by
 refine ac_ (pn:=ao_) aa_ Tryz.func88 rfl fun β0=>?_
 simp only[Tryz.f88]
 repeat(first|apply wG|(apply wR;simp -dsimp)|refine aI ?_)
 refine hF_ Tryz.func125 (by kernel_rfl) rfl (by kernel_rfl) (by kernel_rfl) rfl (l:=a) (m:=b) rfl rfl ?_
 simp -dsimp
 repeat(first|apply wG|(apply wR;simp -dsimp)|refine aI ?_)
 refine WP.ret (ab_ ?_)
 simp -dsimp
theorem zC_ (a b c:Int):Fun Tryz.prog 56 [.row 1000] [(1000,.row 3 1 3 [.d (.v (.int .i64 a)),.d (.v (.int .i64 b)),.d (.v (.int .i64 c))])] (.d (.v (.int .i64 (orL [a,b,c])))) [] fun _=>False :=
 aW_ 1000 (T:=3) (cs:=iD [a,b,c]) (vb_ [a,b,c] (by simp)) rfl rfl trivial
def b2_ (f g:Nat→Int):Int:=orL [cK_ (f 2) (g 2),cK_ (f 0) (g 0),cK_ (f 1) (g 1)]
def cx_ (f g:Nat→Int):Int:=if b2_ f g=0 then Lib.compareBytes (encR f).1 (encR g).1 else b2_ f g
theorem d1_ (f g:Nat→Int) (hf:fOk f) (hg:fOk g):Fn0 Tryz.prog 61 [fD f,fD g] (.v (.int .i64 (cx_ f g))):=by
 have ef:=iq_ f hf
 have eg:=iq_ g hg
 unfold CA_ at ef eg
 refine ac_ (pn:=ao_) aa_ Tryz.func61 rfl fun β0=>?_
 simp only[Tryz.f61]
 simp only[fD]
 repeat(first|apply wG|(apply wR;simp -dsimp)|refine aI ?_)
 refine ad_ bo_ (bM_ (f 2) (g 2)) rfl rfl (by simp) ?_
 simp -dsimp
 repeat refine aI ?_
 refine ad_ bo_ (bM_ (f 0) (g 0)) rfl rfl (by simp) ?_
 simp -dsimp
 repeat refine aI ?_
 refine ad_ bo_ (bM_ (f 1) (g 1)) rfl rfl (by simp) ?_
 simp -dsimp
 repeat refine aI ?_
 refine vcStop.call e1_ (zC_ (cK_ (f 2) (g 2)) (cK_ (f 0) (g 0)) (cK_ (f 1) (g 1))) (rl [(1000,25)]) rfl rfl (by simp[BoxLeq]) (ai_ (by simp[BoxLeq]) rfl (by first|rfl|(simp[BoxLeq];done)) (by simp[BoxLeq]) (by simp[BoxLeq])) (fun _ h=>h.elim) (fun ⟨_,h⟩=>h.elim) (fun ⟨_,h⟩=>h.elim) (by simp[BoxLeq]) ?_
 simp -dsimp
 repeat(first|apply wG|(apply wR;simp -dsimp)|refine aI ?_)
 refine WP.cond (b := !decide (b2_ f g=0)) (by simp[b2_];rfl) (fun hb=>?_) (fun hb=>?_)
 ·have hb:¬ b2_ f g=0:=by simpa using hb
  repeat(first|apply wG|(apply wR;simp -dsimp)|refine aI ?_)
  have e:cx_ f g=b2_ f g:=if_neg hb
  refine WP.ret (ab_ ?_)
  simp -dsimp[e,b2_]
 have hb:b2_ f g=0:=by simpa using hb
 refine WP.skip ?_
 simp -dsimp
 repeat(first|apply wG|(apply wR;simp -dsimp)|refine aI ?_)
 refine ad_ eZ_ ef rfl rfl (by simp[fD]) ?_
 simp -dsimp
 repeat(first|apply wG|(apply wR;simp -dsimp)|refine aI ?_)
 refine ad_ eZ_ eg rfl rfl (by simp[fD]) ?_
 simp -dsimp
 repeat(first|apply wG|(apply wR;simp -dsimp)|refine aI ?_)
 refine ad_ oF_ (iv_ (encR f).1 (encR g).1) rfl rfl (by simp) ?_
 simp -dsimp
 repeat(first|apply wG|(apply wR;simp -dsimp)|refine aI ?_)
 refine WP.ret (ab_ ?_)
 simp -dsimp[cx_,hb]
end Go.Proofs.YtdjkbdhdejlakaaGreatDoor
