/-
  Joined texts.
-/
import Derived.Test.YtfgcgagcpnbgmaaGreatDoorGTo
import Derived.Test.YtfgcgagcpnbgmaaGreatDoorGG
import Derived.Test.YtfgcgagcpnbgmaaGreatDoorGJd
set_option linter.all false
set_option maxRecDepth 10000
set_option maxHeartbeats 4000000
namespace Go.Proofs.YtfgcgagcpnbgmaaGreatDoor
open Go.Xe Go.RowKit
def keyD (seed:List UInt8) (m u:Int):D:=.agg [slB seed,.v (.int .i64 m),.v (.int .i64 u)]
def keyV (seed:List UInt8) (m u:Int):Bool:=decide (1≤seed.length∧seed.length≤64∧1≤m∧m≤4096∧0≤u∧u≤m)
theorem FF_ {a b:Bool} (h:a=b):Leq (.d (.v (.bool a))) (.d (.v (.bool b))):=by subst h;exact .refl _
theorem ic_ (seed:List UInt8) (m u:Int):Fn0 Tryz.prog 70 [keyD seed m u] (.v (.bool (keyV seed m u))):=by
 refine ad_ (pn:=an_) ac_ Tryz.func70 rfl fun β0=>?_
 simp only[Tryz.f70]
 repeat(first|apply wG|(apply wR;simp -dsimp[keyD,slB])|refine aI ?_)
 refine WP.ret (ab_ ?_)
 simp -dsimp
 refine FF_ ?_
 rw[Bool.eq_iff_iff,keyV,decide_eq_true_iff]
 simp
 omega
theorem Leq.fn {f:Fn} {a a' b b':List AV} (ha:LeqL a a') (hb:LeqL b b'):Leq (.fn f a b) (.fn f a' b'):=fun w I β v hv=>by
 obtain⟨v1,v2,e,h1,h2⟩:=hv
 exact⟨v1,v2,e,ha.ok h1,hb.ok h2⟩
theorem j5_ (seed:List UInt8) (i:Nat):pubsB seed (i+1)=pubsB seed i++[pubB (keyH seed i)]:=by simp[pubsB,List.range_succ]
theorem ex_ (seed:List UInt8) (n:Nat):a9_ (pubsB seed n):=fun d hd=>by
 obtain⟨i,_,rfl⟩:=List.mem_map.1 hd
 exact hT_ _
theorem dgL_snoc (l:List Dg) (d:Dg):dgL (l++[d])=dgL l++bys d:=by rw[gG_,dgL,dgL,List.append_nil]
abbrev psS (seed:List UInt8) (m:Nat) (u:Int) (i:Nat):St :=
 mkS 20 [(1,.ptr 1 0),(2,.row 500),(5,.d (.v (.int .i64 m))),(6,.d (.v (.int .i64 i)))] [(1,.cells 24 [.d (slB seed),.d (.v (.int .i64 m)),.d (.v (.int .i64 u))]),(500,.row 87 32 i ((dgL (pubsB seed i)).map .d))]
theorem j6_ (seed:List UInt8) (hs:seed.length≤1000) (m:Nat) (hm:m≤4096) (u:Int):Fn0 Tryz.prog 72 [keyD seed m u] (slG (pubsB seed m)):=by
 refine ad_ (pn:=an_) ac_ Tryz.func72 rfl fun β0=>?_
 simp only[Tryz.f72]
 repeat(first|apply wG|(apply wR;simp -dsimp[keyD,slB])|refine aI ?_)
 refine ai_ (fun q S=>∃ i:Nat,q=m-i∧i≤m∧S=psS seed m u i) m (S0:=psS seed m u 0) ((ct_ 2 500 87 32 (by simp) (by simp)).trans (af_ [] (by simp) (by simp[slB,pubsB,dgL]))) ⟨0,rfl,by omega,rfl⟩ ?_
 rintro _ _ ⟨i,rfl,hi,rfl⟩
 simp -dsimp
 refine sG ?_
 by_cases him:i<m
 ·refine cT (by simp;omega) ?_
  refine WP.skip ?_
  have e1:IntKind.i64.wrap ((i:Int)+1)=((i+1:Nat):Int):=by rw[IntWalk.i64_in _ (by omega)];omega
  have hpu:=tA_ 125 ht_ [onD seed i] [] (keyH seed i) (fun j hj b=>uc_ seed hs i (by omega) j hj b) (fun j b=>aH_ _ _)
  have lp:=hT_ (keyH seed i)
  have hsu:=j5_ seed i
  have hdl:=aT_ (ex_ seed i)
  have hpl:=bw_ seed i
  generalize pubB (keyH seed i)=r at *
  simp -dsimp[slB]
  repeat(first|apply wG|(apply wR;simp -dsimp[slB])|refine aI ?_)
  refine vcStop.call n4_ hpu (rl []) rfl rfl (And.intro (Leq.fn (And.intro (by simp[onD,slB]) trivial) trivial) trivial) (ag_ (by simp) rfl (by first|rfl|(simp;done)) (by simp) (by simp)) (fun _ h=>h.elim) (fun ⟨_,h⟩=>h.elim) (fun ⟨_,h⟩=>h.elim) (by simp) ?_
  simp -dsimp[dD,setL_whole,ah_,lp]
  refine And.intro (fun a h=>ap_ h) ?_
  repeat(first|apply wG|(apply wR;simp -dsimp[setL_whole,ah_,lp])|refine aI ?_)
  refine loopW.next (psS seed m u (i+1)) (Wk.go [16] 17 500 (by decide) (by simp) (by simp[slB,e1]) (by simp[slB,hsu,dgL_snoc])) (m-(i+1)) (by omega) ⟨i+1,rfl,by omega,rfl⟩
 ·refine cF (by simp;omega) ?_
  refine WP.exit ?_
  obtain rfl:i=m:=by omega
  simp -dsimp
  refine sG ?_
  refine WP.ret (aj_ (Wk.freeze (k:=500) (T:=87) (sz:=32) (n:=i) (ds:=dgL (pubsB seed i)) (by simp)) ?_)
  simp -dsimp[slG,bw_]
def o6_ (seed:List UInt8) (m u:Int):Dg×Int:=if keyV seed m u=true then (treeB (pubsB seed m.toNat),0) else (z32,40)
theorem gl_ (seed:List UInt8) (hs:seed.length≤1000) (m u:Int):Fn0 Tryz.prog 29 [keyD seed m u] (.tup [dD (o6_ seed m u).1,.v (.int .i64 (o6_ seed m u).2)]):=by
 have h18:=ic_ seed m u
 unfold o6_
 refine ad_ (pn:=an_) ac_ Tryz.func29 rfl fun β0=>?_
 simp only[Tryz.f29]
 repeat(first|apply wG|(apply wR;simp -dsimp[keyD,slB])|refine aI ?_)
 refine aa_ fb_ h18 rfl rfl (by simp[keyD,slB]) ?_
 simp -dsimp
 refine sG ?_
 by_cases hv:keyV seed m u=true
 ·rw[if_pos hv]
  simp only[keyV,decide_eq_true_eq] at hv
  obtain⟨M,rfl⟩:∃ M:Nat,m=M:=⟨m.toNat,by omega⟩
  rw[Int.toNat_natCast]
  have h20:=j6_ seed hs M (by omega) u
  have h19:=kv_ (pubsB seed M) (by rw[bw_];omega) (ex_ seed M)
  have hl:=aO_ (pubsB seed M)
  have hpl:=bw_ seed M
  generalize treeB (pubsB seed M)=r at *
  refine cF (by simp[keyV];omega) ?_
  refine WP.skip ?_
  simp -dsimp
  refine sG ?_
  refine aa_ jg_ h20 rfl rfl (by simp[keyD,slB]) ?_
  simp -dsimp
  refine sG ?_
  refine aa_ b9_ h19 rfl rfl (by simp[slG]) ?_
  simp -dsimp[dD]
  refine And.intro ⟨hl,fun a h=>ap_ h⟩ ?_
  refine sG ?_
  refine WP.ret (ab_ ?_)
  simp -dsimp[setL_whole,ah_,hl,aF_]
  exact st_ _ _
 ·rw[if_neg hv]
  refine cT (by simp[hv]) ?_
  refine sG ?_
  refine WP.ret (ab_ ?_)
  simp -dsimp
  exact st_ (bys z32) _
abbrev paS (l p:List Dg) (i:Nat):St :=
 mkS 50 [(0,.d (slG l)),(1,.d (.v (.int .i64 i))),(4,.row 500),(5,.d (.v (.int .i64 0)))] [(500,.row 87 32 p.length ((dgL p).map .d))]
theorem yQ_ (l:List Dg) (h32:a9_ l) (hn:l.length≤65536) (i:Nat) (hi:i<l.length):Fn0 Tryz.prog 159 [slG l,.v (.int .i64 i)] (.tup [slG (pathB l i),.v (.int .i64 0)]):=by
 refine ad_ (pn:=an_) ac_ Tryz.func159 rfl fun β0=>?_
 simp only[Tryz.f159]
 repeat(first|apply wG|(apply wR;simp -dsimp[slG])|refine aI ?_)
 refine cF (by simp;omega) ?_
 refine WP.skip ?_
 simp -dsimp
 refine sG ?_
 refine ai_ (fun q S=>∃ (l':List Dg) (i':Nat) (p:List Dg),q=l'.length∧a9_ l'∧a9_ p∧l'.length+p.length≤l.length∧i'<l'.length∧pathB l i=pathB l' i'++p.reverse∧S=paS l' p i') l.length (S0:=paS l [] i) ((ct_ 4 500 87 32 (by simp) (by simp)).trans (af_ [] (by simp[slG]) (by simp[dgL]))) ⟨l,i,[],rfl,h32,fun _ h=>by simp at h,by simp,hi,by simp,rfl⟩ ?_
 rintro q _ ⟨l',i',p,hq,hl32,hp32,hlen,hi',hpath,rfl⟩
 simp -dsimp
 repeat(first|apply wG|(apply wR;simp -dsimp[slG])|refine aI ?_)
 by_cases h1:1<l'.length
 ·refine cT (by simp;omega) ?_
  refine WP.skip ?_
  have h34:=ue_ l'.length (by omega) (by omega)
  have hk:=ca_ l'.length (by omega)
  have hp0:=bc_ l'.length
  have hp2:=k0_ l' i' (by omega)
  generalize halfN l'.length=k at *
  have t1:=kv_ (l'.take k) (by rw[List.length_take];omega) (all32_take hl32 k)
  have t2:=kv_ (l'.drop k) (by rw[List.length_drop];omega) (all32_drop hl32 k)
  have e1:=eD_ k hl32
  have e2:=eE_ k hl32
  have e3:(l'.take k).length=k:=by rw[List.length_take];omega
  have e4:(l'.drop k).length=l'.length-k:=List.length_drop
  have e5:((l'.length:Int)-(k:Int)).toNat=l'.length-k:=by omega
  have e6:List.take ((l'.length-k)*32) (dgL (l'.drop k))=dgL (l'.drop k):=List.take_of_length_le (by rw[aT_ (all32_drop hl32 k),e4];omega)
  have lr1:=aO_ (l'.take k)
  have lr2:=aO_ (l'.drop k)
  simp -dsimp
  repeat(first|apply wG|(apply wR;simp -dsimp[slG])|refine aI ?_)
  refine aa_ hu_ h34 rfl rfl (by simp) ?_
  simp -dsimp
  refine sG ?_
  by_cases hik:i'<k
  ·rw[if_pos hik] at hp2
   generalize treeB (l'.drop k)=r at *
   refine cT (by simp;omega) ?_
   repeat(first|apply wG|(apply wR;simp -dsimp[slG])|refine aI ?_)
   refine aa_ b9_ t2 rfl rfl (by simp[slG,e2,e4,e5,e6]) ?_
   simp -dsimp[dD,setL_whole,ah_,lr2]
   refine And.intro (fun a h=>ap_ h) ?_
   repeat(first|apply wG|(apply wR;simp -dsimp[setL_whole,ah_,lr2])|refine aI ?_)
   refine loopW.next (paS (l'.take k) (p++[r]) i') (Wk.go [29] 30 500 (by decide) (by simp[slG]) (by simp[slG,e1,e3]) (by simp[dgL_snoc])) k (by omega) ⟨l'.take k,i',p++[r],e3.symm,all32_take hl32 k,?_,by rw[e3];simp;omega,by omega,by rw[hpath,hp2];simp,rfl⟩
   intro d hd
   rcases List.mem_append.1 hd with hd|hd
   ·exact hp32 d hd
   ·rw[List.mem_singleton] at hd;subst hd;exact lr2
  ·rw[if_neg hik] at hp2
   have e7:IntKind.i64.wrap ((i':Int)-(k:Int))=((i'-k:Nat):Int):=by rw[IntWalk.i64_in _ (by omega)];omega
   generalize treeB (l'.take k)=r at *
   refine cF (by simp;omega) ?_
   repeat(first|apply wG|(apply wR;simp -dsimp[slG])|refine aI ?_)
   refine aa_ b9_ t1 rfl rfl (by simp[slG,e1,e3]) ?_
   simp -dsimp[dD,setL_whole,ah_,lr1]
   refine And.intro (fun a h=>ap_ h) ?_
   repeat(first|apply wG|(apply wR;simp -dsimp[setL_whole,ah_,lr1])|refine aI ?_)
   refine loopW.next (paS (l'.drop k) (p++[r]) (i'-k)) (Wk.go [39] 40 500 (by decide) (by simp[slG]) (by simp[slG,e2,e4,e5,e6,e7]) (by simp[dgL_snoc])) (l'.length-k) (by omega) ⟨l'.drop k,i'-k,p++[r],e4.symm,all32_drop hl32 k,?_,by rw[e4];simp;omega,by omega,by rw[hpath,hp2];simp,rfl⟩
   intro d hd
   rcases List.mem_append.1 hd with hd|hd
   ·exact hp32 d hd
   ·rw[List.mem_singleton] at hd;subst hd;exact lr1
 ·refine cF (by simp;omega) ?_
  refine WP.exit ?_
  rw[ix_ l' i' (by omega),List.nil_append] at hpath
  have hrv:=rD_ p hp32 (by omega)
  rw[← hpath] at hrv
  have hpl:p.length=(pathB l i).length:=by rw[hpath,List.length_reverse]
  generalize pathB l i=P at *
  simp -dsimp
  refine sG ?_
  refine vcStop.call nC_ (hrv) (rl [(1000,500)]) rfl rfl (by simp[BoxLeq]) aGq (fun _ h=>h.elim) (fun ⟨_,h⟩=>h.elim) (fun ⟨_,h⟩=>h.elim) (by simp[BoxLeq]) ?_
  simp -dsimp
  refine sG ?_
  refine WP.ret (aj_ (Wk.freeze (k:=500) (T:=87) (sz:=32) (n:=p.length) (ds:=dgL P) (by simp)) ?_)
  simp -dsimp[slG,hpl]
theorem qT_ {f:Nat→Int} (hf:fOk f):(encR f).1.length≤1000:=by
 obtain⟨hin,hlen⟩:=ld_ hf
 unfold encR
 split
 ·obtain⟨_,_,h3,_⟩:=dt_ hin
  have h10:=bd_ (u:=(numF f).1.length) (by unfold isU;omega)
  show (V.enc (b3_ _)).length≤1000
  rw[b3_,V.enc]
  simp
  omega
 ·simp
def msgB (f : Nat → Int) : List UInt8 := tagB (tB "fact") (encR f).1
theorem h0_ (f:Nat→Int):(msgB f).length=32:=aH_ _ _
theorem rV_ (f:Nat→Int) (hf:fOk f):Fn0 Tryz.prog 76 [fD f] (slB (msgB f)):=by
 have h41:=iY_ f hf
 have hle:=qT_ hf
 have hm:=h0_ f
 have ht:=gQ_ ⟨#[102,97,99,116]⟩ (by decide) (encR f).1 (by omega)
 rw [show (⟨#[102, 97, 99, 116]⟩ : ByteArray).data.toList = tB "fact" by decide +kernel, show tagB (tB "fact") (encR f).1 = msgB f from rfl] at ht
 rw[Ce_] at h41
 generalize msgB f=r at *
 generalize encR f=R at *
 obtain⟨l,e⟩:=R
 refine ad_ (pn:=an_) ac_ Tryz.func76 rfl fun β0=>?_
 simp only[Tryz.f76]
 rw[fD]
 refine sG ?_
 refine aa_ fc_ h41 rfl rfl (by simp[fD]) ?_
 simp -dsimp
 refine sG ?_
 refine aa_ bi_ ht rfl rfl (by simp[slB]) ?_
 simp -dsimp[dD]
 refine And.intro ⟨hm,fun a h=>ap_ h⟩ ?_
 refine ar_ (aR_ (k:=5) (T:=87) (ds:=bys r) (by simp[setL_whole,ah_,hm])) ?_
 simp -dsimp[fS_,fzc,de_,op_]
 refine sG ?_
 refine aw_ ac_ rfl rfl rfl rfl (by simp[ah_,hm]) (by decide) rfl ?_
 simp -dsimp[bM_,hm]
 refine sG ?_
 refine WP.ret (ab_ ?_)
 simp -dsimp[slB,hm]
theorem xG_ {f:Nat→Int} (h:(numF f).2=true):(0≤f 0∧f 0≤31)∧(1≤f 1∧f 1≤1048576):=by
 have h1:headE.all (inE f (susp f))=true:=by
  unfold numF at h
  split at h
  ·cases h
  ·split at h
   ·rename_i hc
    rw[Bool.and_eq_true,List.all_append,Bool.and_eq_true] at hc
    exact hc.2.1
   ·cases h
 simp[headE,inE,valE] at h1
 obtain⟨_,⟨h1,h2⟩,⟨h3,h4⟩,_⟩:=h1
 exact⟨⟨of_decide_eq_true h1,of_decide_eq_true h2⟩,of_decide_eq_true h3,of_decide_eq_true h4⟩
structure sigG (k:Int) (op cl pa:List Dg):Prop where
 isk:isI k
 ho:a9_ op
 hc:a9_ cl
 hp:a9_ pa
 no:op.length≤10000000000000
 nc:cl.length≤10000000000000
 np:pa.length≤10000000000000
theorem dm_ {k:Int} {op cl pa:List Dg} {d:D} (h:d∈f3_ k op cl pa):oneD d=true:=by
 simp only[f3_,slG,List.mem_cons,List.not_mem_nil,or_false] at h
 rcases h with rfl|rfl|rfl|rfl<;>rfl
theorem ez_ (seed:List UInt8) (i:Nat) (x:Nat→Bool):∀ n,a9_ (openedB seed i x n)
 | 0=>fun d hd=>by cases hd
 | n+1=>fun d hd=>by
  rcases List.mem_append.1 hd with hd|hd
  ·exact ez_ seed i x n d hd
  ·rw[List.mem_singleton] at hd;subst hd;exact aH_ _ _
theorem eH_ (seed:List UInt8) (i:Nat) (x:Nat→Bool):∀ n,a9_ (closedB seed i x n)
 | 0=>fun d hd=>by cases hd
 | n+1=>fun d hd=>by
  rcases List.mem_append.1 hd with hd|hd
  ·exact eH_ seed i x n d hd
  ·rw[List.mem_singleton] at hd;subst hd;exact aH_ _ _
theorem gn_:∀ (N:Nat) (l:List Dg) (i:Nat),l.length≤N→a9_ (pathB l i)
 | 0,l,i,h=>by rw[ix_ l i (by omega)];exact fun _ h=>by cases h
 | N+1,l,i,h=>by
  by_cases h1:l.length≤1
  ·rw[ix_ l i h1];exact fun _ h=>by cases h
  ·have hk:=d5_ h1
   have hp:=bc_ l.length
   rw[k0_ l i (by omega)]
   split
   ·intro d hd
    rcases List.mem_append.1 hd with hd|hd
    ·exact gn_ N _ _ (by rw[List.length_take];omega) d hd
    ·rw[List.mem_singleton] at hd;subst hd;exact aO_ _
   ·intro d hd
    rcases List.mem_append.1 hd with hd|hd
    ·exact gn_ N _ _ (by rw[List.length_drop];omega) d hd
    ·rw[List.mem_singleton] at hd;subst hd;exact aO_ _
theorem x6_ (f:List Bool) (i:Nat) (h:i<f.length):((boD f)[i]?).getD D.any=.v (.bool (f.getD i false)):=by
 simp[boD,List.getD_eq_getElem?_getD,h]
def kbB (seed:List UInt8) (m:Nat) (i:Nat) (msg:List UInt8):Nat→Bool:=bitB (treeB (pubsB seed m)) i msg
def su_ (seed:List UInt8) (m:Nat) (i:Nat) (msg:List UInt8):List D:=f3_ i (openedB seed i (kbB seed m i msg) 64) (closedB seed i (kbB seed m i msg) 64) (pathB (pubsB seed m) i)
abbrev zsC:List D:=[.v (.int .i64 0),.v (.slice none 0 0),.v (.slice none 0 0),.v (.slice none 0 0)]
abbrev siS (seed:List UInt8) (m:Nat) (u:Int) (i:Nat) (f:Nat→Bool) (x:List Bool) (pa:List Dg) (j:Nat):St :=
 mkS 77 [(6,.ptr 6 0),(9,.ptr 9 0),(51,.d (bitsD x)),(52,.d (.v (.int .i64 j)))]
  [(6,.cells 80 [.d (.v (.int .i64 i)),.row 500,.row 501,.d (slG pa)]),(9,.cells 190 [.d (slB seed),.d (.v (.int .i64 i))]),(500,.row 87 32 j ((dgL (openedB seed i f j)).map .d)),(501,.row 87 32 j ((dgL (closedB seed i f j)).map .d))]
set_option maxRecDepth 10000 in
set_option maxHeartbeats 4000000 in
theorem yq_ (seed:List UInt8) (hs:seed.length≤1000) (m:Nat) (u:Int) (i:Nat) (him:i<m) (hv:keyV seed m u=true) (msg:List UInt8) (hm:msg.length≤65536) :
  Fn0 Tryz.prog 92 [keyD seed m u,.v (.int .i64 i),slB msg] (.tup [.agg (su_ seed m i msg),.v (.int .i64 0)]):=by
 have h18:=ic_ seed m u
 rw[hv] at h18
 have hm4:m≤4096:=by simp only[keyV,decide_eq_true_eq] at hv;omega
 have h20:=j6_ seed hs m hm4 u
 have hpl:=bw_ seed m
 have h32:=ex_ seed m
 have h38:=yQ_ (pubsB seed m) h32 (by omega) i (by omega)
 have h19:=kv_ (pubsB seed m) (by omega) h32
 have lT:=aO_ (pubsB seed m)
 have h39:=sP_ (treeB (pubsB seed m)) lT i (by omega) msg hm
 have lx:=p8_ (treeB (pubsB seed m)) i msg
 have hxj:∀ j,j<64→(sgnB (treeB (pubsB seed m)) i msg).getD j false=kbB seed m i msg j:=fun j hj=>by
  rw[sgnB,List.getD_eq_getElem?_getD,List.getElem?_map,List.getElem?_range hj];rfl
 unfold su_
 generalize kbB seed m i msg=f at *
 generalize sgnB (treeB (pubsB seed m)) i msg=x at *
 generalize treeB (pubsB seed m)=T at *
 generalize pathB (pubsB seed m) i=pa at *
 generalize pubsB seed m=pb at *
 refine ad_ (pn:=an_) ac_ Tryz.func92 rfl fun β0=>?_
 simp only[Tryz.f92]
 repeat(first|apply wG|(apply wR;simp -dsimp[keyD,slB])|refine aI ?_)
 refine aa_ fb_ h18 rfl rfl (by simp[keyD,slB]) ?_
 simp -dsimp
 refine sG ?_
 refine cF (by simp) ?_
 repeat(first|apply wG|(apply wR;simp -dsimp[slB])|refine aI ?_)
 refine cF (by simp;omega) ?_
 refine sG ?_
 refine cF (by simp;omega) ?_
 refine WP.skip ?_
 simp -dsimp
 refine sG ?_
 refine aa_ jg_ h20 rfl rfl (by simp[keyD,slB]) ?_
 simp -dsimp
 refine sG ?_
 refine aa_ nS_ h38 rfl rfl (by simp[slG]) ?_
 simp -dsimp[slG]
 repeat(first|apply wG|(apply wR;simp -dsimp[slG])|refine aI ?_)
 refine aa_ b9_ h19 rfl rfl (by simp[slG]) ?_
 simp -dsimp
 refine sG ?_
 refine aa_ n3_ h39 rfl rfl (by simp[dD,slB]) ?_
 simp -dsimp
 refine sG ?_
 have hlo:∀ j,j≤64→(dgL (openedB seed i f j)).length=j*32:=fun j _=>by rw[aT_ (ez_ seed i f j),bx_]
 have hlc:∀ j,j≤64→(dgL (closedB seed i f j)).length=j*32:=fun j _=>by rw[aT_ (eH_ seed i f j),bA_]
 refine ai_ (fun q S=>∃ j:Nat,q=64-j∧j≤64∧S=siS seed m u i f x pa j) 64 (S0:=siS seed m u i f x pa 0) ((bf_ 6 1 500 87 32 (by simp;exact⟨rfl,rfl⟩) rfl (by simp)).trans ((bf_ 6 2 501 87 32 (by simp;exact⟨rfl,rfl⟩) rfl (by simp)).trans (af_ [] (by simp) (by simp[slB,slG,openedB,closedB,dgL])))) ⟨0,rfl,by omega,rfl⟩ ?_
 rintro _ _ ⟨j,rfl,hj,rfl⟩
 simp -dsimp
 refine sG ?_
 by_cases hj64:j<64
 ·refine cT (by simp;omega) ?_
  refine WP.skip ?_
  have e1:IntKind.i64.wrap ((j:Int)+1)=((j+1:Nat):Int):=by rw[IntWalk.i64_in _ (by omega)];omega
  have ha:=x7_ x j (by omega)
  have hg:=x6_ x j (by omega)
  rw[hxj j hj64] at ha hg
  have h40:=mf_ seed hs i (by omega) j hj64 (f j)
  have h37:=uc_ seed hs i (by omega) j hj64 (!f j)
  have l40:(secretB seed i j (f j)).length=32:=aH_ _ _
  have l37:(keyH seed i j (!f j)).length=32:=aH_ _ _
  have ho1:openedB seed i f (j+1)=openedB seed i f j++[secretB seed i j (f j)]:=rfl
  have hc1:closedB seed i f (j+1)=closedB seed i f j++[keyH seed i j (!f j)]:=rfl
  have hlo1:=hlo j hj
  have hlc1:=hlc j hj
  generalize secretB seed i j (f j)=sc at *
  generalize keyH seed i j (!f j)=hc at *
  generalize f j=b at *
  simp -dsimp[slB,slG]
  repeat(first|apply wG|(apply wR;simp -dsimp[bitsD,ha,hg,gI_,lx,slB,slG])|refine aI ?_)
  refine aa_ hq_ h40 rfl rfl (by simp[onD,slB,hg]) ?_
  simp -dsimp[dD,setL_whole,ah_,l40]
  refine And.intro (fun a h=>ap_ h) ?_
  repeat(first|apply wG|(apply wR;simp -dsimp[setL_whole,ah_,l40,hg])|refine aI ?_)
  refine aa_ ht_ h37 rfl rfl (by simp[onD,slB,hg]) ?_
  simp -dsimp[dD,setL_whole,ah_,l37]
  refine And.intro (fun a h=>ap_ h) ?_
  repeat(first|apply wG|(apply wR;simp -dsimp[setL_whole,ah_,l37,hg])|refine aI ?_)
  refine loopW.next (siS seed m u i f x pa (j+1)) (vb_ [62,72] 63 500 73 501 (by decide) (by decide) (by simp[bitsD]) (by simp[bitsD]) (by simp[bitsD,e1]) (by simp[slB,slG,ho1,hc1,dgL_snoc])) (64-(j+1)) (by omega) ⟨j+1,rfl,by omega,rfl⟩
 ·refine cF (by simp;omega) ?_
  refine WP.exit ?_
  obtain rfl:j=64:=by omega
  simp -dsimp[slG]
  repeat(first|apply wG|(apply wR;simp -dsimp[slG])|refine aI ?_)
  have lo:=bx_ seed i f 64
  have lc:=bA_ seed i f 64
  generalize openedB seed i f 64=op at *
  generalize closedB seed i f 64=cl at *
  refine WP.ret (aj_ ((Wk.freeze (k:=500) (T:=87) (sz:=32) (n:=64) (ds:=dgL op) (by simp)).trans (Wk.freeze (k:=501) (T:=87) (sz:=32) (n:=64) (ds:=dgL cl) (by simp))) ?_)
  simp -dsimp
  rw[f3_,slG,slG,slG,lo,lc]
  exact st_ [.v (.int .i64 i),.sl 32 (dgL op) 64 false,.sl 32 (dgL cl) 64 false,.sl 32 (dgL pa) pa.length false] _
end Go.Proofs.YtfgcgagcpnbgmaaGreatDoor
set_option maxRecDepth 10000
set_option maxHeartbeats 4000000
namespace Go.Proofs.YtfgcgagcpnbgmaaGreatDoor
open Go.Xe Go.RowKit
theorem vN_ (seed:List UInt8) (m u:Int) (i:Int) (hi:0≤i) (hno:keyV seed m u=true→m≤i) (msg:List UInt8) (hm:msg.length≤65536) :
  Fn0 Tryz.prog 92 [keyD seed m u,.v (.int .i64 i),slB msg] (.tup [.agg zsC,.v (.int .i64 40)]):=by
 have h18:=ic_ seed m u
 refine ad_ (pn:=an_) ac_ Tryz.func92 rfl fun β0=>?_
 simp only[Tryz.f92]
 repeat(first|apply wG|(apply wR;simp -dsimp[keyD,slB])|refine aI ?_)
 refine aa_ fb_ h18 rfl rfl (by simp[keyD,slB]) ?_
 simp -dsimp
 refine sG ?_
 by_cases hv:keyV seed m u=true
 ·have hmi:=hno hv
  refine cF (by simp[hv]) ?_
  repeat(first|apply wG|(apply wR;simp -dsimp[slB])|refine aI ?_)
  refine cF (by simp;omega) ?_
  refine sG ?_
  refine cT (by simp;omega) ?_
  refine sG ?_
  refine WP.ret (ab_ ?_)
  simp -dsimp
 ·refine cT (by simp[hv]) ?_
  refine sG ?_
  refine WP.ret (ab_ ?_)
  simp -dsimp
theorem AK_ (Z A:List AV) (hZ:Z.length=61) (hA:A.length=57) (a b c d:AV):((((setL Z 0 A).set 57 a).set 58 b).set 59 c).set 60 d=A++[a,b,c,d]:=by
 rw[kz_ _ _ _ (by omega),hA]
 obtain⟨w,x,y,z,e⟩:∃ w x y z,Z.drop (0+57)=[w,x,y,z]:=by
  have h:(Z.drop (0+57)).length=4:=by rw[List.length_drop];omega
  match Z.drop (0+57),h with
  | [w,x,y,z],_=>exact⟨w,x,y,z,rfl⟩
 rw[e,List.take_zero,List.nil_append]
 simp[List.set_append,hA]
def sgnR (seed:List UInt8) (m u:Int) (f:Nat→Int):List D×Int :=
 if (numF f).2=true then
  if keyV seed m u=true∧f 1-1<m then (fcs f 0 57++su_ seed m.toNat (f 1-1).toNat (msgB f),0) else (fcs f0 0 57++zsC,40)
 else (fcs f0 0 57++zsC,120)
theorem eF_ (seed:List UInt8) (hs:seed.length≤1000) (m u:Int) (f:Nat→Int) (hf:fOk f) :
  Fn0 Tryz.prog 54 [keyD seed m u,fD f] (.tup [.agg (sgnR seed m u f).1,.v (.int .i64 (sgnR seed m u f).2)]):=by
 have h10:=wV_ f hf
 have hl57:=a4_ f
 refine ad_ (pn:=an_) ac_ Tryz.func54 rfl fun β0=>?_
 simp only[Tryz.f54]
 repeat(first|apply wG|(apply wR;simp -dsimp[keyD,slB,fD])|refine aI ?_)
 refine ao_ pF_ h10 rfl rfl (And.intro (by simp[fD];try exact al_ _) trivial) ?_
 simp -dsimp
 refine sG ?_
 unfold sgnR
 by_cases hv:(numF f).2=true
 ·rw[if_pos hv]
  obtain⟨_,hf1,hf1'⟩:=xG_ hv
  refine cF (by simp[hv]) ?_
  refine WP.skip ?_
  have e1:IntKind.i64.wrap (f 1-1)=f 1-1:=IntWalk.i64_in _ (by omega)
  have hmsg:=rV_ f hf
  have hml:=h0_ f
  simp -dsimp
  repeat(first|apply wG|(apply wR;simp -dsimp[e1])|refine aI ?_)
  refine ao_ pE_ hmsg rfl rfl (And.intro (by simp[fD];try exact al_ _) trivial) ?_
  simp -dsimp
  repeat(first|apply wG|(apply wR;simp -dsimp[e1])|refine aI ?_)
  by_cases hk:keyV seed m u=true∧f 1-1<m
  ·rw[if_pos hk]
   obtain⟨hk1,hk2⟩:=hk
   obtain⟨M,rfl⟩:∃ M:Nat,m=M:=⟨m.toNat,by omega⟩
   obtain⟨N,hN⟩:∃ N:Nat,f 1-1=N:=⟨(f 1-1).toNat,by omega⟩
   rw[hN,Int.toNat_natCast,Int.toNat_natCast]
   have h21:=yq_ seed hs M u N (by omega) hk1 (msgB f) (by omega)
   refine ao_ jc_ h21 rfl rfl (And.intro (by simp[keyD,slB];try exact al_ [.sl 1 (bys seed) seed.length false,.v (.int .i64 M),.v (.int .i64 u)]) (And.intro (by simp[hN]) (And.intro (by simp[slB]) trivial))) ?_
   simp -dsimp[su_,f3_,slG]
   repeat(first|apply wG|(apply wR;simp -dsimp[su_,f3_,slG])|refine aI ?_)
   refine cF (by simp) ?_
   refine WP.skip ?_
   have lo:=bx_ seed N (kbB seed M N (msgB f)) 64
   have lc:=bA_ seed N (kbB seed M N (msgB f)) 64
   unfold su_
   generalize openedB seed N (kbB seed M N (msgB f)) 64=op at *
   generalize closedB seed N (kbB seed M N (msgB f)) 64=cl at *
   generalize pathB (pubsB seed M) N=pa at *
   simp -dsimp
   repeat(first|apply wG|(apply wR;simp -dsimp[dp_,AK_,hl57])|refine aI ?_)
   refine And.intro (fun c h=>?_) ?_
   ·rcases h with⟨a,ha,rfl⟩|rfl|rfl|rfl|rfl
    ·exact fcs_side ha
    all_goals rfl
   refine WP.ret (ab_ ?_)
   have ht:=st_ (fcs f 0 57++f3_ N op cl pa) (.v (.int .i64 0))
   rw[List.map_append] at ht
   have h61:List.take 61 ((fcs f 0 57).map AV.d++[AV.d (D.v (Value.int IntKind.i64 ↑N)),AV.d (D.sl 32 (dgL op) op.length false),AV.d (D.sl 32 (dgL cl) cl.length false),AV.d (D.sl 32 (dgL pa) pa.length false)])=(fcs f 0 57).map AV.d++[AV.d (D.v (Value.int IntKind.i64 ↑N)),AV.d (D.sl 32 (dgL op) op.length false),AV.d (D.sl 32 (dgL cl) cl.length false),AV.d (D.sl 32 (dgL pa) pa.length false)]:=List.take_of_length_le (by simp[hl57])
   simp -dsimp[h61]
   exact ht
  ·rw[if_neg hk]
   have h21:=vN_ seed m u (f 1-1) (by omega) (fun h=>by
    by_cases hlt:f 1-1<m
    ·exact absurd ⟨h,hlt⟩ hk
    ·omega) (msgB f) (by omega)
   refine ao_ jc_ h21 rfl rfl (And.intro (by simp[keyD,slB];try exact al_ [.sl 1 (bys seed) seed.length false,.v (.int .i64 m),.v (.int .i64 u)]) (And.intro (by simp) (And.intro (by simp[slB]) trivial))) ?_
   simp -dsimp
   refine sG ?_
   refine cT (by simp) ?_
   refine sG ?_
   refine WP.ret (ab_ ?_)
   simp -dsimp
   exact st_ (fcs f0 0 57++zsC) _
 ·rw[if_neg hv]
  refine cT (by simp[hv]) ?_
  refine sG ?_
  refine WP.ret (ab_ ?_)
  simp -dsimp[hv]
  exact st_ (fcs f0 0 57++zsC) _
end Go.Proofs.YtfgcgagcpnbgmaaGreatDoor
