/-
  Joined texts.
-/
import Derived.Test.YtfgcgagcpnbgmaaGreatDoorW9
import Derived.Test.YtfgcgagcpnbgmaaGreatDoorWG
import Derived.Test.YtfgcgagcpnbgmaaGreatDoorWJd
set_option maxRecDepth 10000
set_option maxHeartbeats 4000000
set_option linter.unusedVariables false
set_option linter.unusedSimpArgs false
set_option linter.unusedSectionVars false
namespace Go.Proofs.YtfgcgagcpnbgmaaGreatDoor
open Go.Xe Go.RowKit
def keyD (seed:List UInt8) (m u:Int):D:=.agg [slB seed,.v (.int .i64 m),.v (.int .i64 u)]
def keyV (seed:List UInt8) (m u:Int):Bool:=decide (1≤seed.length∧seed.length≤64∧1≤m∧m≤4096∧0≤u∧u≤m)
theorem Ed_ {a b:Bool} (h:a=b):Leq (.d (.v (.bool a))) (.d (.v (.bool b))):=by subst h;exact .refl _
theorem hu_ (seed:List UInt8) (m u:Int):Fn0 Tryz.prog 70 [keyD seed m u] (.v (.bool (keyV seed m u))):=by
 refine ad_ (pn:=ap_) aa_ Tryz.func70 rfl fun β0=>?_
 simp only[Tryz.f70]
 repeat(first|apply wG|(apply wR;simp -dsimp[keyD,slB])|refine aI ?_)
 refine WP.ret (ac_ ?_)
 simp -dsimp
 refine Ed_ ?_
 rw[Bool.eq_iff_iff,keyV,decide_eq_true_iff]
 simp
 omega
theorem Leq.fn {f:Fn} {a a' b b':List AV} (ha:LeqL a a') (hb:LeqL b b'):Leq (.fn f a b) (.fn f a' b'):=fun w I β v hv=>by
 obtain⟨v1,v2,e,h1,h2⟩:=hv
 exact⟨v1,v2,e,ha.ok h1,hb.ok h2⟩
theorem qr_ (seed:List UInt8) (i:Nat):pubsB seed (i+1)=pubsB seed i++[pubB (keyH seed i)]:=by simp[pubsB,List.range_succ]
theorem j1_ (seed:List UInt8) (n:Nat):aY_ (pubsB seed n):=fun d hd=>by
 obtain⟨i,_,rfl⟩:=List.mem_map.1 hd
 exact gY_ _
theorem dgL_snoc (l:List Dg) (d:Dg):dgL (l++[d])=dgL l++bys d:=by rw[jw_,dgL,dgL,List.append_nil]
abbrev psS (seed:List UInt8) (m:Nat) (u:Int) (i:Nat):St :=
 mkS 20 [(1,.ptr 1 0),(2,.row 500),(5,.d (.v (.int .i64 m))),(6,.d (.v (.int .i64 i)))] [(1,.cells 24 [.d (slB seed),.d (.v (.int .i64 m)),.d (.v (.int .i64 u))]),(500,.row 87 32 i ((dgL (pubsB seed i)).map .d))]
theorem i7_ (seed:List UInt8) (hs:seed.length≤1000) (m:Nat) (hm:m≤4096) (u:Int):Fn0 Tryz.prog 72 [keyD seed m u] (slG (pubsB seed m)):=by
 refine ad_ (pn:=ap_) aa_ Tryz.func72 rfl fun β0=>?_
 simp only[Tryz.f72]
 repeat(first|apply wG|(apply wR;simp -dsimp[keyD,slB])|refine aI ?_)
 refine ai_ (fun q S=>∃ i:Nat,q=m-i∧i≤m∧S=psS seed m u i) m (S0:=psS seed m u 0) ((bF_ 2 500 87 32 (by simp) (by simp)).trans (ae_ [] (by simp) (by simp[slB,pubsB,dgL]))) ⟨0,rfl,by omega,rfl⟩ ?_
 rintro _ _ ⟨i,rfl,hi,rfl⟩
 simp -dsimp
 repeat(first|apply wG|(apply wR;simp -dsimp)|refine aI ?_)
 by_cases him:i<m
 ·refine cT (by simp;omega) ?_
  refine WP.skip ?_
  have e1:IntKind.i64.wrap ((i:Int)+1)=((i+1:Nat):Int):=by rw[IntWalk.i64_in _ (by omega)];omega
  have hpu:=lp_ 125 gq_ [onD seed i] [] (keyH seed i) (fun j hj b=>sM_ seed hs i (by omega) j hj b) (fun j b=>aT_ _ _)
  have lp:=gY_ (keyH seed i)
  have hsu:=qr_ seed i
  have hdl:=bq_ (j1_ seed i)
  have hpl:=bs_ seed i
  generalize pubB (keyH seed i)=r at *
  simp -dsimp[slB]
  repeat(first|apply wG|(apply wR;simp -dsimp[slB])|refine aI ?_)
  refine vcStop.call gr_ hpu (rl []) rfl rfl (And.intro (Leq.fn (And.intro (by simp[onD,slB]) trivial) trivial) trivial) (af_ (by simp) rfl (by first|rfl|(simp;done)) (by simp) (by simp)) (fun _ h=>h.elim) (fun ⟨_,h⟩=>h.elim) (fun ⟨_,h⟩=>h.elim) (by simp) ?_
  simp -dsimp[dD,setL_whole,bys_len,lp]
  refine And.intro (fun a h=>ao_ h) ?_
  repeat(first|apply wG|(apply wR;simp -dsimp[setL_whole,bys_len,lp])|refine aI ?_)
  refine loopW.next (psS seed m u (i+1)) (Wk.go [16] 17 500 (by decide) (by simp) (by simp[slB,e1]) (by simp[slB,hsu,dgL_snoc])) (m-(i+1)) (by omega) ⟨i+1,rfl,by omega,rfl⟩
 ·refine cF (by simp;omega) ?_
  refine WP.exit ?_
  obtain rfl:i=m:=by omega
  simp -dsimp
  repeat(first|apply wG|(apply wR;simp -dsimp)|refine aI ?_)
  refine WP.ret (ak_ (Wk.freeze (k:=500) (T:=87) (sz:=32) (n:=i) (ds:=dgL (pubsB seed i)) (by simp)) ?_)
  simp -dsimp[slG,bs_]
def oX_ (seed:List UInt8) (m u:Int):Dg×Int:=if keyV seed m u=true then (treeB (pubsB seed m.toNat),0) else (z32,40)
theorem dK_ (seed:List UInt8) (hs:seed.length≤1000) (m u:Int):Fn0 Tryz.prog 29 [keyD seed m u] (.tup [dD (oX_ seed m u).1,.v (.int .i64 (oX_ seed m u).2)]):=by
 have h18:=hu_ seed m u
 unfold oX_
 refine ad_ (pn:=ap_) aa_ Tryz.func29 rfl fun β0=>?_
 simp only[Tryz.f29]
 repeat(first|apply wG|(apply wR;simp -dsimp[keyD,slB])|refine aI ?_)
 refine ab_ ey_ h18 rfl rfl (by simp[keyD,slB]) ?_
 simp -dsimp
 repeat(first|apply wG|(apply wR;simp -dsimp)|refine aI ?_)
 by_cases hv:keyV seed m u=true
 ·rw[if_pos hv]
  simp only[keyV,decide_eq_true_eq] at hv
  obtain⟨M,rfl⟩:∃ M:Nat,m=M:=⟨m.toNat,by omega⟩
  rw[Int.toNat_natCast]
  have h20:=i7_ seed hs M (by omega) u
  have h19:=jI_ (pubsB seed M) (by rw[bs_];omega) (j1_ seed M)
  have hl:=aX_ (pubsB seed M)
  have hpl:=bs_ seed M
  generalize treeB (pubsB seed M)=r at *
  refine cF (by simp[keyV];omega) ?_
  refine WP.skip ?_
  simp -dsimp
  repeat(first|apply wG|(apply wR;simp -dsimp)|refine aI ?_)
  refine ab_ ir_ h20 rfl rfl (by simp[keyD,slB]) ?_
  simp -dsimp
  repeat(first|apply wG|(apply wR;simp -dsimp)|refine aI ?_)
  refine ab_ bO_ h19 rfl rfl (by simp[slG]) ?_
  simp -dsimp[dD]
  refine And.intro ⟨hl,fun a h=>ao_ h⟩ ?_
  repeat(first|apply wG|(apply wR;simp -dsimp)|refine aI ?_)
  refine WP.ret (ac_ ?_)
  simp -dsimp[setL_whole,bys_len,hl,bysA_take]
  exact vX_ _ _
 ·rw[if_neg hv]
  refine cT (by simp[hv]) ?_
  repeat(first|apply wG|(apply wR;simp -dsimp)|refine aI ?_)
  refine WP.ret (ac_ ?_)
  simp -dsimp
  exact vX_ (bys z32) _
abbrev paS (l p:List Dg) (i:Nat):St :=
 mkS 50 [(0,.d (slG l)),(1,.d (.v (.int .i64 i))),(4,.row 500),(5,.d (.v (.int .i64 0)))] [(500,.row 87 32 p.length ((dgL p).map .d))]
theorem w6_ (l:List Dg) (h32:aY_ l) (hn:l.length≤65536) (i:Nat) (hi:i<l.length):Fn0 Tryz.prog 159 [slG l,.v (.int .i64 i)] (.tup [slG (pathB l i),.v (.int .i64 0)]):=by
 refine ad_ (pn:=ap_) aa_ Tryz.func159 rfl fun β0=>?_
 simp only[Tryz.f159]
 repeat(first|apply wG|(apply wR;simp -dsimp[slG])|refine aI ?_)
 refine cF (by simp;omega) ?_
 refine WP.skip ?_
 simp -dsimp
 repeat(first|apply wG|(apply wR;simp -dsimp)|refine aI ?_)
 refine ai_ (fun q S=>∃ (l':List Dg) (i':Nat) (p:List Dg),q=l'.length∧aY_ l'∧aY_ p∧l'.length+p.length≤l.length∧i'<l'.length∧pathB l i=pathB l' i'++p.reverse∧S=paS l' p i') l.length (S0:=paS l [] i) ((bF_ 4 500 87 32 (by simp) (by simp)).trans (ae_ [] (by simp[slG]) (by simp[dgL]))) ⟨l,i,[],rfl,h32,fun _ h=>by simp at h,by simp,hi,by simp,rfl⟩ ?_
 rintro q _ ⟨l',i',p,hq,hl32,hp32,hlen,hi',hpath,rfl⟩
 simp -dsimp
 repeat(first|apply wG|(apply wR;simp -dsimp[slG])|refine aI ?_)
 by_cases h1:1<l'.length
 ·refine cT (by simp;omega) ?_
  refine WP.skip ?_
  have h34:=nI_ l'.length (by omega) (by omega)
  have hk:=b5_ l'.length (by omega)
  have hp0:=a5_ l'.length
  have hp2:=nx_ l' i' (by omega)
  generalize halfN l'.length=k at *
  have t1:=jI_ (l'.take k) (by rw[List.length_take];omega) (all32_take hl32 k)
  have t2:=jI_ (l'.drop k) (by rw[List.length_drop];omega) (all32_drop hl32 k)
  have e1:=ha_ k hl32
  have e2:=hb_ k hl32
  have e3:(l'.take k).length=k:=by rw[List.length_take];omega
  have e4:(l'.drop k).length=l'.length-k:=List.length_drop
  have e5:((l'.length:Int)-(k:Int)).toNat=l'.length-k:=by omega
  have e6:List.take ((l'.length-k)*32) (dgL (l'.drop k))=dgL (l'.drop k):=List.take_of_length_le (by rw[bq_ (all32_drop hl32 k),e4];omega)
  have lr1:=aX_ (l'.take k)
  have lr2:=aX_ (l'.drop k)
  simp -dsimp
  repeat(first|apply wG|(apply wR;simp -dsimp[slG])|refine aI ?_)
  refine ab_ dC_ h34 rfl rfl (by simp) ?_
  simp -dsimp
  repeat(first|apply wG|(apply wR;simp -dsimp)|refine aI ?_)
  by_cases hik:i'<k
  ·rw[if_pos hik] at hp2
   generalize treeB (l'.drop k)=r at *
   refine cT (by simp;omega) ?_
   repeat(first|apply wG|(apply wR;simp -dsimp[slG])|refine aI ?_)
   refine ab_ bO_ t2 rfl rfl (by simp[slG,e2,e4,e5,e6]) ?_
   simp -dsimp[dD,setL_whole,bys_len,lr2]
   refine And.intro (fun a h=>ao_ h) ?_
   repeat(first|apply wG|(apply wR;simp -dsimp[setL_whole,bys_len,lr2])|refine aI ?_)
   refine loopW.next (paS (l'.take k) (p++[r]) i') (Wk.go [29] 30 500 (by decide) (by simp[slG]) (by simp[slG,e1,e3]) (by simp[dgL_snoc])) k (by omega) ⟨l'.take k,i',p++[r],e3.symm,all32_take hl32 k,?_,by rw[e3];simp;omega,by omega,by rw[hpath,hp2];simp,rfl⟩
   intro d hd
   rcases List.mem_append.1 hd with hd|hd
   ·exact hp32 d hd
   ·rw[List.mem_singleton] at hd;subst hd;exact lr2
  ·rw[if_neg hik] at hp2
   have e7:IntKind.i64.wrap ((i':Int)-(k:Int))=((i'-k:Nat):Int):=by rw[IntWalk.i64_in _ (by omega)];omega
   generalize treeB (l'.take k)=r at *
   refine cF (by simp;omega) ?_
   repeat(first|apply wG|(apply wR;simp -dsimp[slG])|refine aI ?_)
   refine ab_ bO_ t1 rfl rfl (by simp[slG,e1,e3]) ?_
   simp -dsimp[dD,setL_whole,bys_len,lr1]
   refine And.intro (fun a h=>ao_ h) ?_
   repeat(first|apply wG|(apply wR;simp -dsimp[setL_whole,bys_len,lr1])|refine aI ?_)
   refine loopW.next (paS (l'.drop k) (p++[r]) (i'-k)) (Wk.go [39] 40 500 (by decide) (by simp[slG]) (by simp[slG,e2,e4,e5,e6,e7]) (by simp[dgL_snoc])) (l'.length-k) (by omega) ⟨l'.drop k,i'-k,p++[r],e4.symm,all32_drop hl32 k,?_,by rw[e4];simp;omega,by omega,by rw[hpath,hp2];simp,rfl⟩
   intro d hd
   rcases List.mem_append.1 hd with hd|hd
   ·exact hp32 d hd
   ·rw[List.mem_singleton] at hd;subst hd;exact lr1
 ·refine cF (by simp;omega) ?_
  refine WP.exit ?_
  rw[j6_ l' i' (by omega),List.nil_append] at hpath
  have hrv:=ql_ p hp32 (by omega)
  rw[← hpath] at hrv
  have hpl:p.length=(pathB l i).length:=by rw[hpath,List.length_reverse]
  generalize pathB l i=P at *
  simp -dsimp
  repeat(first|apply wG|(apply wR;simp -dsimp)|refine aI ?_)
  refine vcStop.call md_ (hrv) (rl [(1000,500)]) rfl rfl (by simp[BoxLeq]) (af_ (by simp[BoxLeq]) rfl (by first|rfl|(simp[BoxLeq];done)) (by simp[BoxLeq]) (by simp[BoxLeq])) (fun _ h=>h.elim) (fun ⟨_,h⟩=>h.elim) (fun ⟨_,h⟩=>h.elim) (by simp[BoxLeq]) ?_
  simp -dsimp
  repeat(first|apply wG|(apply wR;simp -dsimp)|refine aI ?_)
  refine WP.ret (ak_ (Wk.freeze (k:=500) (T:=87) (sz:=32) (n:=p.length) (ds:=dgL P) (by simp)) ?_)
  simp -dsimp[slG,hpl]
theorem vi_ {f:Nat→Int} (hf:fOk f):(encR f).1.length≤1000:=by
 obtain⟨hin,hlen⟩:=fy_ hf
 unfold encR
 split
 ·obtain⟨_,_,h3,_⟩:=cV_ hin
  have h10:=bM_ (u:=(numF f).1.length) (by unfold isU;omega)
  show (V.enc (cj_ _)).length≤1000
  rw[cj_,V.enc]
  simp
  omega
 ·simp
def msgB (f : Nat → Int) : List UInt8 := tagB (tB "fact") (encR f).1
theorem g3_ (f:Nat→Int):(msgB f).length=32:=aT_ _ _
theorem jf_ (f:Nat→Int) (hf:fOk f):Fn0 Tryz.prog 76 [fD f] (slB (msgB f)):=by
 have h41:=dt_ f hf
 have hle:=vi_ hf
 have hm:=g3_ f
 have ht:=fV_ ⟨#[102,97,99,116]⟩ (by decide) (encR f).1 (by omega)
 rw [show (⟨#[102, 97, 99, 116]⟩ : ByteArray).data.toList = tB "fact" by decide +kernel, show tagB (tB "fact") (encR f).1 = msgB f from rfl] at ht
 rw[yv_] at h41
 generalize msgB f=r at *
 generalize encR f=R at *
 obtain⟨l,e⟩:=R
 refine ad_ (pn:=ap_) aa_ Tryz.func76 rfl fun β0=>?_
 simp only[Tryz.f76]
 rw[fD]
 repeat(first|apply wG|(apply wR;simp -dsimp)|refine aI ?_)
 refine ab_ cn_ h41 rfl rfl (by simp[fD]) ?_
 simp -dsimp
 repeat(first|apply wG|(apply wR;simp -dsimp)|refine aI ?_)
 refine ab_ a1_ ht rfl rfl (by simp[slB]) ?_
 simp -dsimp[dD]
 refine And.intro ⟨hm,fun a h=>ao_ h⟩ ?_
 refine an_ (aZ_ (k:=5) (T:=87) (ds:=bys r) (by simp[setL_whole,bys_len,hm])) ?_
 simp -dsimp[gM_,fzc,d1_,re_]
 repeat(first|apply wG|(apply wR;simp -dsimp)|refine aI ?_)
 refine aP_ aa_ rfl rfl rfl rfl (by simp[bys_len,hm]) (by decide) rfl ?_
 simp -dsimp[bN_,hm]
 repeat(first|apply wG|(apply wR;simp -dsimp)|refine aI ?_)
 refine WP.ret (ac_ ?_)
 simp -dsimp[slB,hm]
theorem so_ {f:Nat→Int} (h:(numF f).2=true):(0≤f 0∧f 0≤31)∧(1≤f 1∧f 1≤1048576):=by
 have h1:headE.all (inE f (susp f))=true:=by
  unfold numF at h
  split at h
  ·cases h
  ·split at h
   ·rename_i hc
    rw[Bool.and_eq_true,List.all_append,Bool.and_eq_true] at hc
    exact hc.2.1
   ·cases h
 simp[headE,inE,valE] at h1
 obtain⟨_,⟨h1,h2⟩,⟨h3,h4⟩,_⟩:=h1
 exact⟨⟨of_decide_eq_true h1,of_decide_eq_true h2⟩,of_decide_eq_true h3,of_decide_eq_true h4⟩
def yp_ (l:List Crw) (f:Nat→Int) (k:Int) (op cl pa:List Dg):Int :=
 if crB l=true then
  if (numF f).2=true then
   if (l.length:Int)≤f 0 then 130
   else if k=f 1-1∧sealB (l.getD (f 0).toNat (z32,0)).1 (l.getD (f 0).toNat (z32,0)).2 (msgB f) k op cl pa=true then 0 else 131
  else 120
 else 130
theorem xY_ {l:List Crw} (h:∀ x∈l,pD_ x) (i:Nat) (hi:i<l.length):List.take 33 ((crC l).drop (i*33))=crX (l.getD i (z32,0))∧pD_ (l.getD i (z32,0)):=by
 have e:l.getD i (z32,0)=l[i]:=by simp[List.getD_eq_getElem?_getD,hi]
 have h1:l.take i++l[i]::l.drop (i+1)=l:=by rw[← List.drop_eq_getElem_cons hi,List.take_append_drop]
 have h2:=wo_ (l1:=l.take i) (c:=l[i]) (l2:=l.drop (i+1)) (by rw[h1];exact h)
 rw[h1,List.length_take,Nat.min_eq_left (by omega)] at h2
 rw[e]
 exact⟨h2,h _ (List.getElem_mem hi)⟩
structure sigG (k:Int) (op cl pa:List Dg):Prop where
 isk:isI k
 ho:aY_ op
 hc:aY_ cl
 hp:aY_ pa
 no:op.length≤10000000000000
 nc:cl.length≤10000000000000
 np:pa.length≤10000000000000
theorem cP_ {k:Int} {op cl pa:List Dg} {d:D} (h:d∈cz_ k op cl pa):oneD d=true:=by
 simp only[cz_,slG,List.mem_cons,List.not_mem_nil,or_false] at h
 rcases h with rfl|rfl|rfl|rfl<;>rfl
theorem lQ_ (l:List Crw) (hl:∀ c∈l,pD_ c) (hn:l.length≤1000000000000) (f:Nat→Int) (hf:fOk f) (k:Int) (op cl pa:List Dg) (hs:sigG k op cl pa) :
  Fn0 Tryz.prog 30 [crwD l,.agg (fcs f 0 57++cz_ k op cl pa)] (.v (.int .i64 (yp_ l f k op cl pa))):=by
 have h16:=kF_ l hl hn
 have h10:=kI_ f hf
 refine ad_ (pn:=ap_) aa_ Tryz.func30 rfl fun β0=>?_
 simp only[Tryz.f30]
 have h57:List.take 57 (List.map AV.d (fcs f 0 57)++List.map AV.d (cz_ k op cl pa))=(fcs f 0 57).map .d:=by
  rw[List.take_append,List.length_map,ar_,List.take_of_length_le (by rw[List.length_map,ar_];omega)]
  simp
 have hone:∀ c∈fcs f 0 57++cz_ k op cl pa,oneD c=true:=fun c h=>by
  rcases List.mem_append.1 h with hd|hd
  ·exact fcs_side hd
  ·exact cP_ hd
 have hsl:(cz_ k op cl pa).length=4:=rfl
 repeat(first|apply wG|(apply wR;simp -dsimp[hsl,crwD])|refine aI ?_)
 refine And.intro (fun c h=>?_) ?_
 ·rcases h with⟨a,ha,rfl⟩|⟨a,ha,rfl⟩
  ·exact fcs_side ha
  ·exact cP_ ha
 repeat(first|apply wG|(apply wR;simp -dsimp[crwD])|refine aI ?_)
 refine ab_ n8_ h16 rfl rfl (by simp[crwD]) ?_
 simp -dsimp
 repeat(first|apply wG|(apply wR;simp -dsimp)|refine aI ?_)
 unfold yp_
 by_cases hcr:crB l=true
 ·rw[if_pos hcr]
  refine cF (by simp[hcr]) ?_
  refine WP.skip ?_
  simp -dsimp
  repeat(first|apply wG|(apply wR;simp -dsimp[h57,hsl])|refine aI ?_)
  refine al_ ex_ h10 rfl rfl (And.intro (by simp;try exact am_ _) trivial) ?_
  simp -dsimp
  repeat(first|apply wG|(apply wR;simp -dsimp)|refine aI ?_)
  by_cases hv:(numF f).2=true
  ·rw[if_pos hv]
   obtain⟨⟨hf0,_⟩,hf1,hf1'⟩:=so_ hv
   refine cF (by simp[hv]) ?_
   refine WP.skip ?_
   simp -dsimp
   repeat(first|apply wG|(apply wR;simp -dsimp)|refine aI ?_)
   by_cases h0:(l.length:Int)≤f 0
   ·rw[if_pos h0]
    refine cT (by simp;omega) ?_
    repeat(first|apply wG|(apply wR;simp -dsimp)|refine aI ?_)
    refine WP.ret (ac_ ?_)
    simp -dsimp
   ·rw[if_neg h0]
    refine cF (by simp;omega) ?_
    refine WP.skip ?_
    obtain⟨i,hi⟩:∃ i:Nat,f 0=i:=⟨(f 0).toNat,by omega⟩
    rw[hi,Int.toNat_natCast]
    have hil:i<l.length:=by omega
    obtain⟨hcat,hco⟩:=xY_ hl i hil
    have hcl:=fK_ hco
    have hcc:=kG_ hl
    have hcm:=tn_ hco
    have hc32:List.take 32 ((crX (l.getD i (z32,0))).map AV.d)=(bys (l.getD i (z32,0)).1).map .d:=by
     rw[crX,List.map_append,List.take_left' (by rw[List.length_map,bys_len,hco.1])]
    have ht33:List.take 33 (crX (l.getD i (z32,0)))=crX (l.getD i (z32,0)):=List.take_of_length_le (by omega)
    have hk57:atL (List.map AV.d (fcs f 0 57)++List.map AV.d (cz_ k op cl pa)) 57=.d (.v (.int .i64 k)):=by
     rw[← cM_,List.getElem?_append_right (by rw[List.length_map,ar_];exact Nat.le_refl _),List.length_map,ar_];rfl
    have hs4:List.take 4 (List.drop 57 (List.map AV.d (fcs f 0 57)++List.map AV.d (cz_ k op cl pa)))=(cz_ k op cl pa).map .d:=by
     rw[List.drop_left' (by rw[List.length_map,ar_])];rfl
    have h4:List.take 4 ((cz_ k op cl pa).map AV.d)=(cz_ k op cl pa).map .d:=rfl
    have e1:IntKind.i64.wrap (f 1-1)=f 1-1:=IntWalk.i64_in _ (by omega)
    have hmsg:=jf_ f hf
    have hml:=g3_ f
    have hver:=rn_ (l.getD i (z32,0)).1 hco.1 (l.getD i (z32,0)).2 (msgB f) (by omega) k op cl pa hs.ho hs.hc hs.hp hs.no hs.nc hs.np
    generalize l.getD i (z32,0)=c at *
    generalize msgB f=m at *
    generalize sealB c.1 c.2 m k op cl pa=r at *
    simp -dsimp
    repeat(first|apply wG|(apply wR;simp -dsimp[hi,hcat,hcl,hil,hcc,ht33])|refine aI ?_)
    refine And.intro (fun a h=>nO_ h) ?_
    by_cases hk:k=f 1-1
    ·have hkd:decide (k=f 1-1)=true:=decide_eq_true hk
     repeat(first|apply wG|(apply wR;simp -dsimp[hk57,hs4,h57,hcm,hc32,e1,hkd,hcl,hsl])|refine aI ?_)
     refine br_ iq_ (fun _=>hmsg) rfl (fun _=>rfl) (fun _=>And.intro (by simp;try exact am_ _) trivial) ?_
     simp -dsimp
     repeat(first|apply wG|(apply wR;simp -dsimp[hs4,hsl])|refine aI ?_)
     refine br_ n7_ (fun _=>hver) rfl (fun _=>rfl) (fun _=>And.intro (by simp;try exact am_ _) (And.intro (by simp) (And.intro (by simp) (And.intro (by simp[h4];try exact am_ _) trivial)))) ?_
     simp -dsimp
     repeat(first|apply wG|(apply wR;simp -dsimp)|refine aI ?_)
     cases r with
     | true =>
      rw[if_pos ⟨hk,rfl⟩]
      refine cF (by simp) ?_
      refine WP.skip ?_
      simp -dsimp
      repeat(first|apply wG|(apply wR;simp -dsimp)|refine aI ?_)
      refine WP.ret (ac_ ?_)
      simp -dsimp
     | false =>
      rw[if_neg fun h=>by cases h.2]
      refine cT (by simp) ?_
      repeat(first|apply wG|(apply wR;simp -dsimp)|refine aI ?_)
      refine WP.ret (ac_ ?_)
      simp -dsimp
    ·have hkd:decide (k=f 1-1)=false:=decide_eq_false hk
     repeat(first|apply wG|(apply wR;simp -dsimp[hk57,hs4,h57,hcm,hc32,e1,hkd,hcl,hsl])|refine aI ?_)
     refine vcStopG.skip (.d (.v (.bool false))) ?_
     simp -dsimp
     repeat(first|apply wG|(apply wR;simp -dsimp[hs4,hsl])|refine aI ?_)
     refine vcStopG.skip (.d (.v (.bool false))) ?_
     simp -dsimp
     repeat(first|apply wG|(apply wR;simp -dsimp)|refine aI ?_)
     rw[if_neg fun h=>hk h.1]
     refine cT (by simp) ?_
     repeat(first|apply wG|(apply wR;simp -dsimp)|refine aI ?_)
     refine WP.ret (ac_ ?_)
     simp -dsimp
  ·rw[if_neg hv]
   refine cT (by simp[hv]) ?_
   repeat(first|apply wG|(apply wR;simp -dsimp)|refine aI ?_)
   refine WP.ret (ac_ ?_)
   simp -dsimp[hv]
 ·rw[if_neg hcr]
  refine cT (by simp[hcr]) ?_
  repeat(first|apply wG|(apply wR;simp -dsimp)|refine aI ?_)
  refine WP.ret (ac_ ?_)
  simp -dsimp[hcr]
end Go.Proofs.YtfgcgagcpnbgmaaGreatDoor
set_option linter.unusedVariables false
set_option linter.unusedSimpArgs false
set_option linter.unusedSectionVars false
namespace Go.Proofs.YtfgcgagcpnbgmaaGreatDoor
open Go.Xe Go.RowKit
theorem fx_ (seed:List UInt8) (i:Nat) (x:Nat→Bool):∀ n,aY_ (openedB seed i x n)
 | 0=>fun d hd=>by cases hd
 | n+1=>fun d hd=>by
  rcases List.mem_append.1 hd with hd|hd
  ·exact fx_ seed i x n d hd
  ·rw[List.mem_singleton] at hd;subst hd;exact aT_ _ _
theorem fL_ (seed:List UInt8) (i:Nat) (x:Nat→Bool):∀ n,aY_ (closedB seed i x n)
 | 0=>fun d hd=>by cases hd
 | n+1=>fun d hd=>by
  rcases List.mem_append.1 hd with hd|hd
  ·exact fL_ seed i x n d hd
  ·rw[List.mem_singleton] at hd;subst hd;exact aT_ _ _
theorem nw_:∀ (N:Nat) (l:List Dg) (i:Nat),l.length≤N→aY_ (pathB l i)
 | 0,l,i,h=>by rw[j6_ l i (by omega)];exact fun _ h=>by cases h
 | N+1,l,i,h=>by
  by_cases h1:l.length≤1
  ·rw[j6_ l i h1];exact fun _ h=>by cases h
  ·have hk:=dp_ h1
   have hp:=a5_ l.length
   rw[nx_ l i (by omega)]
   split
   ·intro d hd
    rcases List.mem_append.1 hd with hd|hd
    ·exact nw_ N _ _ (by rw[List.length_take];omega) d hd
    ·rw[List.mem_singleton] at hd;subst hd;exact aX_ _
   ·intro d hd
    rcases List.mem_append.1 hd with hd|hd
    ·exact nw_ N _ _ (by rw[List.length_drop];omega) d hd
    ·rw[List.mem_singleton] at hd;subst hd;exact aX_ _
theorem Ae_ (f:List Bool) (i:Nat) (h:i<f.length):((boD f)[i]?).getD D.any=.v (.bool (f.getD i false)):=by
 simp[boD,List.getD_eq_getElem?_getD,h]
def kbB (seed:List UInt8) (m:Nat) (i:Nat) (msg:List UInt8):Nat→Bool:=bitB (treeB (pubsB seed m)) i msg
def wN_ (seed:List UInt8) (m:Nat) (i:Nat) (msg:List UInt8):List D:=cz_ i (openedB seed i (kbB seed m i msg) 64) (closedB seed i (kbB seed m i msg) 64) (pathB (pubsB seed m) i)
abbrev zsC:List D:=[.v (.int .i64 0),.v (.slice none 0 0),.v (.slice none 0 0),.v (.slice none 0 0)]
abbrev siS (seed:List UInt8) (m:Nat) (u:Int) (i:Nat) (f:Nat→Bool) (x:List Bool) (pa:List Dg) (j:Nat):St :=
 mkS 77 [(6,.ptr 6 0),(9,.ptr 9 0),(51,.d (bitsD x)),(52,.d (.v (.int .i64 j)))]
  [(6,.cells 80 [.d (.v (.int .i64 i)),.row 500,.row 501,.d (slG pa)]),(9,.cells 190 [.d (slB seed),.d (.v (.int .i64 i))]),(500,.row 87 32 j ((dgL (openedB seed i f j)).map .d)),(501,.row 87 32 j ((dgL (closedB seed i f j)).map .d))]
set_option maxRecDepth 10000 in
set_option maxHeartbeats 4000000 in
theorem wH_ (seed:List UInt8) (hs:seed.length≤1000) (m:Nat) (u:Int) (i:Nat) (him:i<m) (hv:keyV seed m u=true) (msg:List UInt8) (hm:msg.length≤65536) :
  Fn0 Tryz.prog 92 [keyD seed m u,.v (.int .i64 i),slB msg] (.tup [.agg (wN_ seed m i msg),.v (.int .i64 0)]):=by
 have h18:=hu_ seed m u
 rw[hv] at h18
 have hm4:m≤4096:=by simp only[keyV,decide_eq_true_eq] at hv;omega
 have h20:=i7_ seed hs m hm4 u
 have hpl:=bs_ seed m
 have h32:=j1_ seed m
 have h38:=w6_ (pubsB seed m) h32 (by omega) i (by omega)
 have h19:=jI_ (pubsB seed m) (by omega) h32
 have lT:=aX_ (pubsB seed m)
 have h39:=la_ (treeB (pubsB seed m)) lT i (by omega) msg hm
 have lx:=oJ_ (treeB (pubsB seed m)) i msg
 have hxj:∀ j,j<64→(sgnB (treeB (pubsB seed m)) i msg).getD j false=kbB seed m i msg j:=fun j hj=>by
  rw[sgnB,List.getD_eq_getElem?_getD,List.getElem?_map,List.getElem?_range hj];rfl
 unfold wN_
 generalize kbB seed m i msg=f at *
 generalize sgnB (treeB (pubsB seed m)) i msg=x at *
 generalize treeB (pubsB seed m)=T at *
 generalize pathB (pubsB seed m) i=pa at *
 generalize pubsB seed m=pb at *
 refine ad_ (pn:=ap_) aa_ Tryz.func92 rfl fun β0=>?_
 simp only[Tryz.f92]
 repeat(first|apply wG|(apply wR;simp -dsimp[keyD,slB])|refine aI ?_)
 refine ab_ ey_ h18 rfl rfl (by simp[keyD,slB]) ?_
 simp -dsimp
 repeat(first|apply wG|(apply wR;simp -dsimp)|refine aI ?_)
 refine cF (by simp) ?_
 repeat(first|apply wG|(apply wR;simp -dsimp[slB])|refine aI ?_)
 refine cF (by simp;omega) ?_
 repeat(first|apply wG|(apply wR;simp -dsimp)|refine aI ?_)
 refine cF (by simp;omega) ?_
 refine WP.skip ?_
 simp -dsimp
 repeat(first|apply wG|(apply wR;simp -dsimp)|refine aI ?_)
 refine ab_ ir_ h20 rfl rfl (by simp[keyD,slB]) ?_
 simp -dsimp
 repeat(first|apply wG|(apply wR;simp -dsimp)|refine aI ?_)
 refine ab_ mo_ h38 rfl rfl (by simp[slG]) ?_
 simp -dsimp[slG]
 repeat(first|apply wG|(apply wR;simp -dsimp[slG])|refine aI ?_)
 refine ab_ bO_ h19 rfl rfl (by simp[slG]) ?_
 simp -dsimp
 repeat(first|apply wG|(apply wR;simp -dsimp)|refine aI ?_)
 refine ab_ gp_ h39 rfl rfl (by simp[dD,slB]) ?_
 simp -dsimp
 repeat(first|apply wG|(apply wR;simp -dsimp)|refine aI ?_)
 have hlo:∀ j,j≤64→(dgL (openedB seed i f j)).length=j*32:=fun j _=>by rw[bq_ (fx_ seed i f j),bx_]
 have hlc:∀ j,j≤64→(dgL (closedB seed i f j)).length=j*32:=fun j _=>by rw[bq_ (fL_ seed i f j),by_]
 refine ai_ (fun q S=>∃ j:Nat,q=64-j∧j≤64∧S=siS seed m u i f x pa j) 64 (S0:=siS seed m u i f x pa 0) ((cc_ 6 1 500 87 32 (by simp;exact⟨rfl,rfl⟩) rfl (by simp)).trans ((cc_ 6 2 501 87 32 (by simp;exact⟨rfl,rfl⟩) rfl (by simp)).trans (ae_ [] (by simp) (by simp[slB,slG,openedB,closedB,dgL])))) ⟨0,rfl,by omega,rfl⟩ ?_
 rintro _ _ ⟨j,rfl,hj,rfl⟩
 simp -dsimp
 repeat(first|apply wG|(apply wR;simp -dsimp)|refine aI ?_)
 by_cases hj64:j<64
 ·refine cT (by simp;omega) ?_
  refine WP.skip ?_
  have e1:IntKind.i64.wrap ((j:Int)+1)=((j+1:Nat):Int):=by rw[IntWalk.i64_in _ (by omega)];omega
  have ha:=wq_ x j (by omega)
  have hg:=Ae_ x j (by omega)
  rw[hxj j hj64] at ha hg
  have h40:=lj_ seed hs i (by omega) j hj64 (f j)
  have h37:=sM_ seed hs i (by omega) j hj64 (!f j)
  have l40:(secretB seed i j (f j)).length=32:=aT_ _ _
  have l37:(keyH seed i j (!f j)).length=32:=aT_ _ _
  have ho1:openedB seed i f (j+1)=openedB seed i f j++[secretB seed i j (f j)]:=rfl
  have hc1:closedB seed i f (j+1)=closedB seed i f j++[keyH seed i j (!f j)]:=rfl
  have hlo1:=hlo j hj
  have hlc1:=hlc j hj
  generalize secretB seed i j (f j)=sc at *
  generalize keyH seed i j (!f j)=hc at *
  generalize f j=b at *
  simp -dsimp[slB,slG]
  repeat(first|apply wG|(apply wR;simp -dsimp[bitsD,ha,hg,boD_len,lx,slB,slG])|refine aI ?_)
  refine ab_ gj_ h40 rfl rfl (by simp[onD,slB,hg]) ?_
  simp -dsimp[dD,setL_whole,bys_len,l40]
  refine And.intro (fun a h=>ao_ h) ?_
  repeat(first|apply wG|(apply wR;simp -dsimp[setL_whole,bys_len,l40,hg])|refine aI ?_)
  refine ab_ gq_ h37 rfl rfl (by simp[onD,slB,hg]) ?_
  simp -dsimp[dD,setL_whole,bys_len,l37]
  refine And.intro (fun a h=>ao_ h) ?_
  repeat(first|apply wG|(apply wR;simp -dsimp[setL_whole,bys_len,l37,hg])|refine aI ?_)
  refine loopW.next (siS seed m u i f x pa (j+1)) (Al_ [62,72] 63 500 73 501 (by decide) (by decide) (by simp[bitsD]) (by simp[bitsD]) (by simp[bitsD,e1]) (by simp[slB,slG,ho1,hc1,dgL_snoc])) (64-(j+1)) (by omega) ⟨j+1,rfl,by omega,rfl⟩
 ·refine cF (by simp;omega) ?_
  refine WP.exit ?_
  obtain rfl:j=64:=by omega
  simp -dsimp[slG]
  repeat(first|apply wG|(apply wR;simp -dsimp[slG])|refine aI ?_)
  have lo:=bx_ seed i f 64
  have lc:=by_ seed i f 64
  generalize openedB seed i f 64=op at *
  generalize closedB seed i f 64=cl at *
  refine WP.ret (ak_ ((Wk.freeze (k:=500) (T:=87) (sz:=32) (n:=64) (ds:=dgL op) (by simp)).trans (Wk.freeze (k:=501) (T:=87) (sz:=32) (n:=64) (ds:=dgL cl) (by simp))) ?_)
  simp -dsimp
  rw[cz_,slG,slG,slG,lo,lc]
  exact vX_ [.v (.int .i64 i),.sl 32 (dgL op) 64 false,.sl 32 (dgL cl) 64 false,.sl 32 (dgL pa) pa.length false] _
end Go.Proofs.YtfgcgagcpnbgmaaGreatDoor
set_option maxRecDepth 10000
set_option maxHeartbeats 4000000
set_option linter.unusedVariables false
set_option linter.unusedSimpArgs false
set_option linter.unusedSectionVars false
namespace Go.Proofs.YtfgcgagcpnbgmaaGreatDoor
open Go.Xe Go.RowKit
theorem ui_ (seed:List UInt8) (m u:Int) (i:Int) (hi:0≤i) (hno:keyV seed m u=true→m≤i) (msg:List UInt8) (hm:msg.length≤65536) :
  Fn0 Tryz.prog 92 [keyD seed m u,.v (.int .i64 i),slB msg] (.tup [.agg zsC,.v (.int .i64 40)]):=by
 have h18:=hu_ seed m u
 refine ad_ (pn:=ap_) aa_ Tryz.func92 rfl fun β0=>?_
 simp only[Tryz.f92]
 repeat(first|apply wG|(apply wR;simp -dsimp[keyD,slB])|refine aI ?_)
 refine ab_ ey_ h18 rfl rfl (by simp[keyD,slB]) ?_
 simp -dsimp
 repeat(first|apply wG|(apply wR;simp -dsimp)|refine aI ?_)
 by_cases hv:keyV seed m u=true
 ·have hmi:=hno hv
  refine cF (by simp[hv]) ?_
  repeat(first|apply wG|(apply wR;simp -dsimp[slB])|refine aI ?_)
  refine cF (by simp;omega) ?_
  repeat(first|apply wG|(apply wR;simp -dsimp)|refine aI ?_)
  refine cT (by simp;omega) ?_
  repeat(first|apply wG|(apply wR;simp -dsimp)|refine aI ?_)
  refine WP.ret (ac_ ?_)
  simp -dsimp
 ·refine cT (by simp[hv]) ?_
  repeat(first|apply wG|(apply wR;simp -dsimp)|refine aI ?_)
  refine WP.ret (ac_ ?_)
  simp -dsimp
theorem CY_ (Z A:List AV) (hZ:Z.length=61) (hA:A.length=57) (a b c d:AV):((((setL Z 0 A).set 57 a).set 58 b).set 59 c).set 60 d=A++[a,b,c,d]:=by
 rw[eN_ _ _ _ (by omega),hA]
 obtain⟨w,x,y,z,e⟩:∃ w x y z,Z.drop (0+57)=[w,x,y,z]:=by
  have h:(Z.drop (0+57)).length=4:=by rw[List.length_drop];omega
  match Z.drop (0+57),h with
  | [w,x,y,z],_=>exact⟨w,x,y,z,rfl⟩
 rw[e,List.take_zero,List.nil_append]
 simp[List.set_append,hA]
def sgnR (seed:List UInt8) (m u:Int) (f:Nat→Int):List D×Int :=
 if (numF f).2=true then
  if keyV seed m u=true∧f 1-1<m then (fcs f 0 57++wN_ seed m.toNat (f 1-1).toNat (msgB f),0) else (fcs f0 0 57++zsC,40)
 else (fcs f0 0 57++zsC,120)
theorem dT_ (seed:List UInt8) (hs:seed.length≤1000) (m u:Int) (f:Nat→Int) (hf:fOk f) :
  Fn0 Tryz.prog 54 [keyD seed m u,fD f] (.tup [.agg (sgnR seed m u f).1,.v (.int .i64 (sgnR seed m u f).2)]):=by
 have h10:=kI_ f hf
 have hl57:=ar_ f
 refine ad_ (pn:=ap_) aa_ Tryz.func54 rfl fun β0=>?_
 simp only[Tryz.f54]
 repeat(first|apply wG|(apply wR;simp -dsimp[keyD,slB,fD])|refine aI ?_)
 refine al_ ex_ h10 rfl rfl (And.intro (by simp[fD];try exact am_ _) trivial) ?_
 simp -dsimp
 repeat(first|apply wG|(apply wR;simp -dsimp)|refine aI ?_)
 unfold sgnR
 by_cases hv:(numF f).2=true
 ·rw[if_pos hv]
  obtain⟨_,hf1,hf1'⟩:=so_ hv
  refine cF (by simp[hv]) ?_
  refine WP.skip ?_
  have e1:IntKind.i64.wrap (f 1-1)=f 1-1:=IntWalk.i64_in _ (by omega)
  have hmsg:=jf_ f hf
  have hml:=g3_ f
  simp -dsimp
  repeat(first|apply wG|(apply wR;simp -dsimp[e1])|refine aI ?_)
  refine al_ iq_ hmsg rfl rfl (And.intro (by simp[fD];try exact am_ _) trivial) ?_
  simp -dsimp
  repeat(first|apply wG|(apply wR;simp -dsimp[e1])|refine aI ?_)
  by_cases hk:keyV seed m u=true∧f 1-1<m
  ·rw[if_pos hk]
   obtain⟨hk1,hk2⟩:=hk
   obtain⟨M,rfl⟩:∃ M:Nat,m=M:=⟨m.toNat,by omega⟩
   obtain⟨N,hN⟩:∃ N:Nat,f 1-1=N:=⟨(f 1-1).toNat,by omega⟩
   rw[hN,Int.toNat_natCast,Int.toNat_natCast]
   have h21:=wH_ seed hs M u N (by omega) hk1 (msgB f) (by omega)
   refine al_ io_ h21 rfl rfl (And.intro (by simp[keyD,slB];try exact am_ [.sl 1 (bys seed) seed.length false,.v (.int .i64 M),.v (.int .i64 u)]) (And.intro (by simp[hN]) (And.intro (by simp[slB]) trivial))) ?_
   simp -dsimp[wN_,cz_,slG]
   repeat(first|apply wG|(apply wR;simp -dsimp[wN_,cz_,slG])|refine aI ?_)
   refine cF (by simp) ?_
   refine WP.skip ?_
   have lo:=bx_ seed N (kbB seed M N (msgB f)) 64
   have lc:=by_ seed N (kbB seed M N (msgB f)) 64
   unfold wN_
   generalize openedB seed N (kbB seed M N (msgB f)) 64=op at *
   generalize closedB seed N (kbB seed M N (msgB f)) 64=cl at *
   generalize pathB (pubsB seed M) N=pa at *
   simp -dsimp
   repeat(first|apply wG|(apply wR;simp -dsimp[setL_length,CY_,hl57])|refine aI ?_)
   refine And.intro (fun c h=>?_) ?_
   ·rcases h with⟨a,ha,rfl⟩|rfl|rfl|rfl|rfl
    ·exact fcs_side ha
    all_goals rfl
   refine WP.ret (ac_ ?_)
   have ht:=vX_ (fcs f 0 57++cz_ N op cl pa) (.v (.int .i64 0))
   rw[List.map_append] at ht
   have h61:List.take 61 ((fcs f 0 57).map AV.d++[AV.d (D.v (Value.int IntKind.i64 ↑N)),AV.d (D.sl 32 (dgL op) op.length false),AV.d (D.sl 32 (dgL cl) cl.length false),AV.d (D.sl 32 (dgL pa) pa.length false)])=(fcs f 0 57).map AV.d++[AV.d (D.v (Value.int IntKind.i64 ↑N)),AV.d (D.sl 32 (dgL op) op.length false),AV.d (D.sl 32 (dgL cl) cl.length false),AV.d (D.sl 32 (dgL pa) pa.length false)]:=List.take_of_length_le (by simp[hl57])
   simp -dsimp[h61]
   exact ht
  ·rw[if_neg hk]
   have h21:=ui_ seed m u (f 1-1) (by omega) (fun h=>by
    by_cases hlt:f 1-1<m
    ·exact absurd ⟨h,hlt⟩ hk
    ·omega) (msgB f) (by omega)
   refine al_ io_ h21 rfl rfl (And.intro (by simp[keyD,slB];try exact am_ [.sl 1 (bys seed) seed.length false,.v (.int .i64 m),.v (.int .i64 u)]) (And.intro (by simp) (And.intro (by simp[slB]) trivial))) ?_
   simp -dsimp
   repeat(first|apply wG|(apply wR;simp -dsimp)|refine aI ?_)
   refine cT (by simp) ?_
   repeat(first|apply wG|(apply wR;simp -dsimp)|refine aI ?_)
   refine WP.ret (ac_ ?_)
   simp -dsimp
   exact vX_ (fcs f0 0 57++zsC) _
 ·rw[if_neg hv]
  refine cT (by simp[hv]) ?_
  repeat(first|apply wG|(apply wR;simp -dsimp)|refine aI ?_)
  refine WP.ret (ac_ ?_)
  simp -dsimp[hv]
  exact vX_ (fcs f0 0 57++zsC) _
end Go.Proofs.YtfgcgagcpnbgmaaGreatDoor
