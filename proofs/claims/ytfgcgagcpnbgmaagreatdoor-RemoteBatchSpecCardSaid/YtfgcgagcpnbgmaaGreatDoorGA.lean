/-
  Joined texts.
-/
import Derived.Test.YtfgcgagcpnbgmaaGreatDoorGTd
import Derived.Test.YtfgcgagcpnbgmaaGreatDoorG8
import Derived.Test.YtfgcgagcpnbgmaaGreatDoorGT
set_option linter.all false
set_option maxRecDepth 10000
set_option maxHeartbeats 4000000
namespace Go.Proofs.YtfgcgagcpnbgmaaGreatDoor
open Go.Xe Go.RowKit
theorem mW_ (k n:Nat):am_ k (List.replicate n (.d .any))=false:=by
 induction n with
 | zero=>rfl
 | succ n ih=>rw[List.replicate_succ,am_,ih];rfl
theorem ws_ (n:Nat) (hn:n≤1000000):Fun Tryz.prog 238 [.d (.v (.slice none 0 0)),.d (.v (.int .i64 n))] [] (.row 0) [(0,.row 5 1 0 [])] fun _=>False:=by
 have e0:IntKind.i64.wrap 0=0:=by decide
 have e1:IntKind.i64.wrap (n:Int)=n:=IntWalk.i64_in _ (by omega)
 refine ad_ (pn:=an_) ac_ Tryz.func238 rfl fun β0=>?_
 simp only[Tryz.f238]
 refine sG ?_
 refine cF (by simp) ?_
 refine WP.skip ?_
 simp -dsimp
 refine sG ?_
 refine fq_ ac_ rfl rfl rfl ?_
 simp -dsimp[e0,e1]
 repeat(first|apply wG|(apply wR;simp -dsimp[e0,e1])|refine aI ?_)
 refine WP.cond (b:=decide (0<n)) (by simp) (fun hb=>?_) (fun hb=>?_)
 ·have hb:0<n:=of_decide_eq_true hb
  refine sG ?_
  refine fq_ ac_ rfl rfl rfl ?_
  simp -dsimp
  repeat refine aI ?_
  refine h9_ ac_ rfl rfl rfl rfl rfl ?_
  simp -dsimp
  repeat refine aI ?_
  refine f9_ ac_ (k:=500) rfl rfl rfl rfl (by decide) rfl hb rfl (by simp;omega) (by simp[mW_]) ?_
  simp -dsimp
  repeat refine aI ?_
  refine h8_ ac_ (j:=500) (k:=501) (m:=0) rfl rfl rfl rfl rfl hb (Nat.zero_le _) rfl (by simp[mW_]) ?_
  simp -dsimp
  refine sG ?_
  refine WP.ret (aj_ (S':=mkS 27 [(4,.row 0)] [(0,.row 5 1 0 [])]) (Wk.go [] 501 0 (by decide) (by simp) (by simp) (by simp)) ?_)
  simp -dsimp
 ·refine WP.skip ?_
  simp -dsimp
  refine sG ?_
  refine WP.ret (aj_ (S':=mkS 27 [(4,.row 0)] [(0,.row 5 1 0 [])]) ((ct_ 4 0 5 1 (by simp) (by simp)).trans (af_ [] (by simp) (by simp))) ?_)
  simp -dsimp
def catB:List (List UInt8)→List UInt8
 | []=>[]
 | l::r=>l++catB r
theorem dx_:∀ a b:List (List UInt8),catB (a++b)=catB a++catB b
 | [],_=>rfl
 | l::a,b=>by rw[List.cons_append,catB,catB,dx_ a b,List.append_assoc]
theorem nc_ (a:List (List UInt8)) (l:List UInt8):catB (a++[l])=catB a++l:=by rw[dx_];simp[catB]
def lsB (ls:List (List UInt8)):List D:=ls.map slB
theorem kb_ (a:List (List UInt8)) (l:List UInt8) (b:List (List UInt8)):(lsB (a++l::b)).drop a.length=slB l::lsB b:=by
 rw[lsB,List.map_append,List.drop_left' (by simp)]
 rfl
@[simp] def slLB (ls:List (List UInt8)):D:=.sl 1 (lsB ls) ls.length false
theorem sk_ (ls:List (List UInt8)) (hl:ls.length≤1000) (hf:(catB ls).length≤100000):Fn0 Tryz.prog 188 [slLB ls] (slB (catB ls)):=by
 refine ad_ (pn:=an_) ac_ Tryz.func188 rfl fun β0=>?_
 simp only[Tryz.f188]
 refine sG ?_
 refine ai_ (fun m S=>∃ l1 l2,ls=l1++l2∧m=l2.length∧S=mkS 36 [(0,.d (slLB ls)),(3,.d (.v (.int .i64 (catB l1).length))),(9,.d (slLB ls)),(10,.d (.v (.int .i64 ls.length))),(11,.d (.v (.int .i64 l1.length)))] []) ls.length
  (S0:=mkS 36 [(0,.d (slLB ls)),(3,.d (.v (.int .i64 0))),(9,.d (slLB ls)),(10,.d (.v (.int .i64 ls.length))),(11,.d (.v (.int .i64 0)))] []) (af_ [] (by simp) (by simp)) ⟨[],ls,rfl,rfl,rfl⟩ ?_
 rintro _ _ ⟨l1,l2,hl12,rfl,rfl⟩
 simp -dsimp
 refine sG ?_
 cases l2 with
 | cons l l2 =>
  have hll:ls.length=l1.length+(l2.length+1):=by rw[hl12];simp
  have hff:(catB ls).length=(catB l1).length+(l.length+(catB l2).length):=by rw[hl12,dx_,List.length_append,catB,List.length_append]
  have e1:IntKind.i64.wrap ((l1.length:Int)+1)=(l1.length:Int)+1:=IntWalk.i64_in _ (by omega)
  have e2:IntKind.i64.wrap (((catB l1).length:Int)+l.length)=((catB l1).length:Int)+l.length:=IntWalk.i64_in _ (by omega)
  have e3:(catB (l1++[l])).length=(catB l1).length+l.length:=by rw[nc_,List.length_append]
  have h1:=kb_ l1 l l2
  rw[← hl12] at h1
  refine cT (by simp;omega) ?_
  refine WP.skip ?_
  simp -dsimp
  refine WP.seq (WP.block ?_)
  repeat(first|apply wG|(apply wR;simp -dsimp[h1,e2])|refine aI ?_)
  refine cF (by simp[e2];omega) ?_
  refine WP.skip ?_
  simp -dsimp
  refine sG ?_
  refine loopW.next (mkS 36 [(0,.d (slLB ls)),(3,.d (.v (.int .i64 (catB (l1++[l])).length))),(9,.d (slLB ls)),(10,.d (.v (.int .i64 ls.length))),(11,.d (.v (.int .i64 (l1++[l]).length)))] []) (af_ [] (by simp[e1,e2,e3]) (by simp)) l2.length (by simp) ⟨l1++[l],l2,by simp[hl12],rfl,rfl⟩
 | nil =>
  simp only[List.append_nil] at hl12
  subst hl12
  refine cF (by simp) ?_
  refine WP.exit ?_
  simp -dsimp
  refine sG ?_
  refine vcStop.call nq_ (ws_ (catB ls).length (by omega)) (rl [(0,600)]) rfl rfl (by simp[BoxLeq]) aGq (fun _ h=>h.elim) (fun ⟨_,h⟩=>h.elim) (fun ⟨_,h⟩=>h.elim) (by simp[BoxLeq]) ?_
  simp -dsimp
  refine sG ?_
  refine ai_ (fun m S=>∃ l1 l2,ls=l1++l2∧m=l2.length∧S=mkS 36 [(6,.row 500),(25,.d (slLB ls)),(26,.d (.v (.int .i64 ls.length))),(27,.d (.v (.int .i64 l1.length)))] [(500,.row 5 1 (catB l1).length ((bys (catB l1)).map .d))]) ls.length
   (S0:=mkS 36 [(6,.row 500),(25,.d (slLB ls)),(26,.d (.v (.int .i64 ls.length))),(27,.d (.v (.int .i64 0)))] [(500,.row 5 1 0 [])]) (Wk.go [] 600 500 (by decide) (by simp) (by simp) (by simp)) ⟨[],ls,rfl,rfl,rfl⟩ ?_
  rintro _ _ ⟨l1,l2,hl12,rfl,rfl⟩
  simp -dsimp
  refine sG ?_
  cases l2 with
  | cons l l2 =>
   have hll:ls.length=l1.length+(l2.length+1):=by rw[hl12];simp
   have hff:(catB ls).length=(catB l1).length+(l.length+(catB l2).length):=by rw[hl12,dx_,List.length_append,catB,List.length_append]
   have e1:IntKind.i64.wrap ((l1.length:Int)+1)=(l1.length:Int)+1:=IntWalk.i64_in _ (by omega)
   have e3:(catB (l1++[l]))=(catB l1)++l:=nc_ l1 l
   have lc:=ah_ l
   have e4:bys (catB l1++l)=bys (catB l1)++bys l:=bys_append _ _
   have h1:=kb_ l1 l l2
   rw[← hl12] at h1
   refine cT (by simp;omega) ?_
   refine WP.skip ?_
   simp -dsimp
   refine WP.seq (WP.block ?_)
   repeat(first|apply wG|(apply wR;simp -dsimp[h1,lc])|refine aI ?_)
   refine loopW.next (mkS 36 [(6,.row 500),(25,.d (slLB ls)),(26,.d (.v (.int .i64 ls.length))),(27,.d (.v (.int .i64 (l1++[l]).length)))] [(500,.row 5 1 (catB (l1++[l])).length ((bys (catB (l1++[l]))).map .d))]) (Wk.go [] 33 500 (by decide) (by simp) (by simp[e1]) (by simp[e3,e4])) l2.length (by simp) ⟨l1++[l],l2,by simp[hl12],rfl,rfl⟩
  | nil =>
   simp only[List.append_nil] at hl12
   subst hl12
   refine cF (by simp) ?_
   refine WP.exit ?_
   simp -dsimp
   refine sG ?_
   refine WP.ret (aj_ (Wk.freeze (k:=500) (T:=5) (sz:=1) (n:=(catB ls).length) (ds:=bys (catB ls)) (by simp)) ?_)
   simp -dsimp[slB]
theorem eG_ (ls:List (List UInt8)) (hl:ls.length≤1000) (hf:(catB ls).length≤100000):Fun Tryz.prog 188 [.row 1000] [(1000,.row 22 1 ls.length ((lsB ls).map .d))] (.d (slB (catB ls))) [] fun _=>False :=
 bo_ 1000 (T:=22) (cs:=lsB ls) (args':=[.row 1000]) (bi':=[(1000,.row 22 1 ls.length ((lsB ls).map .d))]) (sk_ ls hl hf) rfl rfl trivial
@[simp] theorem FI_ (k:Nat) (ds:List D) (l:List D):fS_ k ds (l.map .d)=l.map .d:=by
 induction l with
 | nil=>rfl
 | cons c l ih=>rw[List.map_cons,fS_,ih,fzc]
theorem bM_ {l:List UInt8} (h:l.length=32):List.take 32 (bys l)=bys l:=List.take_of_length_le (by simp[bys,h])
theorem gQ_ (s:ByteArray) (hs:s.size≤1000) (b:List UInt8) (hb:b.length≤90000):Fn0 Tryz.prog 120 [.v (.string s),slB b] (dD (tagB s.data.toList b)):=by
 have hsl:s.size=s.data.toList.length:=rfl
 obtain⟨t,ht⟩:∃ t,s.data.toList=t:=⟨_,rfl⟩
 rw[ht] at hsl
 obtain⟨T,hT⟩:∃ T,gb_ t=T:=⟨_,rfl⟩
 have lT:T.length=32:=by rw[← hT,sumB_len]
 have h59:=xt_ t (by omega)
 have h60:=eG_ [T,b] (by simp) (by simp[catB];omega)
 have h59':=xt_ (T++b) (by simp;omega)
 have eT:tagB t b=gb_ (T++b):=by rw[tagB,hT]
 rw[hT] at h59
 rw[ht,eT]
 refine ad_ (pn:=an_) ac_ Tryz.func120 rfl fun β0=>?_
 simp only[Tryz.f120]
 repeat(first|apply wG|(apply wR;simp -dsimp[ht])|refine aI ?_)
 refine aa_ hh_ h59 rfl rfl (by simp[slB,bys,hsl]) ?_
 simp -dsimp[dD]
 refine And.intro ⟨lT,fun a h=>ap_ h⟩ ?_
 refine ar_ (aR_ (k:=5) (T:=87) (ds:=bys T) (by simp[setL_whole,lT,ah_])) ?_
 simp -dsimp[fS_,fzc,de_,op_]
 refine sG ?_
 refine aw_ ac_ rfl rfl rfl rfl (by simp[ah_,lT]) (by decide) rfl ?_
 simp -dsimp[bM_,lT,slB]
 repeat(first|apply wG|(apply wR;simp -dsimp[slB])|refine aI ?_)
 refine vcStop.call cX_ (h60) (rl [(1000,11)]) rfl rfl (by simp[lsB,slB,lT,BoxLeq]) (ag_ (by simp[lsB,slB,lT,BoxLeq]) rfl (by first|rfl|(simp[lsB,slB,lT,BoxLeq];done)) (by simp[lsB,slB,lT,BoxLeq]) (by simp[lsB,slB,lT,BoxLeq])) (fun _ h=>h.elim) (fun ⟨_,h⟩=>h.elim) (fun ⟨_,h⟩=>h.elim) (by simp[lsB,slB,lT,BoxLeq]) ?_
 simp -dsimp[slB]
 refine sG ?_
 refine aa_ hh_ h59' rfl rfl (by simp[slB,catB]) ?_
 simp -dsimp[dD]
 refine And.intro ⟨sumB_len _,fun a h=>ap_ h⟩ ?_
 repeat(first|apply wG|(apply wR;simp -dsimp[ah_,sumB_len])|refine aI ?_)
 refine WP.ret (ab_ ?_)
 simp -dsimp[setL_whole,ah_,sumB_len,aF_]
 exact al_ _
theorem zk_ (d:Dg) (hd:d.length=32):Fn0 Tryz.prog 121 [dD d] (dD (leafB d)):=by
 have ht:=gQ_ ⟨#[108,101,97,102]⟩ (by decide) d (by omega)
 rw [show (⟨#[108, 101, 97, 102]⟩ : ByteArray).data.toList = tB "leaf" by decide +kernel, show tagB (tB "leaf") d = leafB d from rfl] at ht
 have hl:=mO_ d
 generalize leafB d=r at *
 refine ad_ (pn:=an_) ac_ Tryz.func121 rfl fun β0=>?_
 simp only[Tryz.f121]
 refine WP.seq ?_
 refine WP.region ac_ ?_
 simp -dsimp[dD,ah_,hd]
 repeat refine aI ?_
 refine And.intro (fun a h=>ap_ h) ?_
 repeat refine aI ?_
 refine ar_ (aR_ (k:=1) (T:=87) (ds:=bys d) (by simp)) ?_
 simp -dsimp[fS_,fzc,de_,op_]
 refine sG ?_
 refine aw_ ac_ rfl rfl rfl rfl (by simp[ah_,hd]) (by decide) rfl ?_
 simp -dsimp[bM_,hd]
 refine sG ?_
 refine aa_ bi_ ht rfl rfl (by simp[slB,hd]) ?_
 simp -dsimp[dD]
 refine And.intro ⟨hl,fun a h=>ap_ h⟩ ?_
 repeat(first|apply wG|(apply wR;simp -dsimp[ah_,hl])|refine aI ?_)
 refine WP.ret (ab_ ?_)
 simp -dsimp[setL_whole,ah_,hl,aF_]
 exact al_ _
theorem za_ (a b:Dg) (ha:a.length=32) (hb:b.length=32):Fn0 Tryz.prog 123 [dD a,dD b] (dD (nodeB a b)):=by
 have ht:=gQ_ ⟨#[110,111,100,101]⟩ (by decide) (a++b) (by simp;omega)
 rw [show (⟨#[110, 111, 100, 101]⟩ : ByteArray).data.toList = tB "node" by decide +kernel, show tagB (tB "node") (a ++ b) = nodeB a b from rfl] at ht
 have h60:=eG_ [a,b] (by simp) (by simp[catB];omega)
 have hl:=iE_ a b
 generalize nodeB a b=r at *
 refine ad_ (pn:=an_) ac_ Tryz.func123 rfl fun β0=>?_
 simp only[Tryz.f123]
 refine WP.seq ?_
 refine WP.region ac_ ?_
 simp -dsimp[dD,ah_,ha,hb]
 repeat refine aI ?_
 refine And.intro (fun a h=>ap_ h) ?_
 repeat refine aI ?_
 refine And.intro (fun a h=>ap_ h) ?_
 repeat refine aI ?_
 refine ar_ (aR_ (k:=2) (T:=87) (ds:=bys a) (by simp)) ?_
 simp -dsimp[fS_,fzc,de_,op_]
 refine ar_ (aR_ (k:=3) (T:=87) (ds:=bys b) (by simp)) ?_
 simp -dsimp[fS_,fzc,de_,op_]
 refine sG ?_
 refine aw_ ac_ rfl rfl rfl rfl (by simp[ah_,ha]) (by decide) rfl ?_
 simp -dsimp[bM_,ha]
 refine sG ?_
 refine aw_ ac_ rfl rfl rfl rfl (by simp[ah_,hb]) (by decide) rfl ?_
 simp -dsimp[bM_,hb]
 refine sG ?_
 refine vcStop.call cX_ (h60) (rl [(1000,7)]) rfl rfl (by simp[lsB,slB,ha,hb,BoxLeq]) (ag_ (by simp[lsB,slB,ha,hb,BoxLeq]) rfl (by first|rfl|(simp[lsB,slB,ha,hb,BoxLeq];done)) (by simp[lsB,slB,ha,hb,BoxLeq]) (by simp[lsB,slB,ha,hb,BoxLeq])) (fun _ h=>h.elim) (fun ⟨_,h⟩=>h.elim) (fun ⟨_,h⟩=>h.elim) (by simp[lsB,slB,ha,hb,BoxLeq]) ?_
 simp -dsimp[slB]
 refine sG ?_
 refine aa_ bi_ ht rfl rfl (by simp[slB,catB]) ?_
 simp -dsimp[dD]
 refine And.intro ⟨hl,fun a h=>ap_ h⟩ ?_
 repeat(first|apply wG|(apply wR;simp -dsimp[ah_,hl])|refine aI ?_)
 refine WP.ret (ab_ ?_)
 simp -dsimp[setL_whole,ah_,hl,aF_]
 exact al_ _
def dgL:List Dg→List D
 | []=>[]
 | d::l=>bys d++dgL l
def slG (l:List Dg):D:=.sl 32 (dgL l) l.length false
abbrev a9_ (l:List Dg):Prop:=∀ d∈l,d.length=32
theorem all32_take {l:List Dg} (h:a9_ l) (k:Nat):a9_ (l.take k):=fun d hd=>h d (List.mem_of_mem_take hd)
theorem all32_drop {l:List Dg} (h:a9_ l) (k:Nat):a9_ (l.drop k):=fun d hd=>h d (List.mem_of_mem_drop hd)
theorem aT_:∀ {l:List Dg},a9_ l→(dgL l).length=l.length*32
 | [],_=>rfl
 | d::l,h=>by
  rw[dgL,List.length_append,ah_,h d (by simp),aT_ fun x hx=>h x (by simp[hx]),List.length_cons]
  omega
theorem gG_:∀ (a b:List Dg),dgL (a++b)=dgL a++dgL b
 | [],_=>rfl
 | d::a,b=>by rw[List.cons_append,dgL,dgL,gG_ a b,List.append_assoc]
theorem eD_:∀ {l:List Dg} (k:Nat),a9_ l→(dgL l).take (k*32)=dgL (l.take k)
 | [],k,_=>by simp[dgL]
 | d::l,0,_=>by simp[dgL]
 | d::l,k+1,h=>by
  rw[dgL,List.take_succ_cons,dgL,List.take_append,ah_,h d (by simp),List.take_of_length_le (by rw[ah_,h d (by simp)];omega),show (k+1)*32-32=k*32 by omega,eD_ k fun x hx=>h x (by simp[hx])]
theorem eE_:∀ {l:List Dg} (k:Nat),a9_ l→(dgL l).drop (k*32)=dgL (l.drop k)
 | [],k,_=>by simp[dgL]
 | d::l,0,_=>by simp[dgL]
 | d::l,k+1,h=>by
  rw[dgL,List.drop_succ_cons,List.drop_append,ah_,h d (by simp),List.drop_of_length_le (by rw[ah_,h d (by simp)];omega),show (k+1)*32-32=k*32 by omega,eE_ k fun x hx=>h x (by simp[hx]),List.nil_append]
theorem gY_ {l:List Dg} (h:a9_ l) (i:Nat) (hi:i<l.length):((dgL l).drop (i*32)).take 32=bys (digA l i):=by
 have e:l.drop i=l[i]::l.drop (i+1):=List.drop_eq_getElem_cons hi
 have h1:=eD_ 1 (all32_drop h i)
 rw[Nat.one_mul,e,List.take_succ_cons,List.take_zero,dgL,dgL,show dgL []=[] from rfl,List.append_nil] at h1
 rw[eE_ i h,e,dgL,h1]
 simp[digA,List.getD_eq_getElem?_getD,hi]
theorem ea_ {l:List Dg} (h:a9_ l) (i:Nat) (hi:i<l.length):(digA l i).length=32:=by
 rw[digA,List.getD_eq_getElem?_getD,List.getElem?_eq_getElem hi]
 exact h _ (List.getElem_mem hi)
theorem AE_:∀ (N:Nat) (l:List Dg),l.length<N→l.length≤65536→a9_ l→Fn0 Tryz.prog 71 [slG l] (dD (treeB l)):=by
 intro N
 induction N with
 | zero=>intro l hN;omega
 | succ N ih =>
  intro l hN hn h32
  have hl:=aO_ l
  by_cases h0:l.length=0
  ·have:l=[]:=List.length_eq_zero_iff.1 h0
   subst this
   have ht:=gQ_ ⟨#[101,109,112,116,121]⟩ (by decide) [] (by simp)
   rw [show (⟨#[101, 109, 112, 116, 121]⟩ : ByteArray).data.toList = tB "empty" by decide +kernel, ← yl_] at ht
   generalize treeB []=r at *
   refine ad_ (pn:=an_) ac_ Tryz.func71 rfl fun β0=>?_
   simp only[Tryz.f71]
   repeat(first|apply wG|(apply wR;simp -dsimp[slG,dgL])|refine aI ?_)
   refine cT (by simp) ?_
   refine sG ?_
   refine ao_ bi_ ht rfl rfl (And.intro (.refl _) (And.intro (.nil 1) trivial)) ?_
   simp -dsimp[dD]
   refine And.intro ⟨hl,fun a h=>ap_ h⟩ ?_
   repeat(first|apply wG|(apply wR;simp -dsimp[ah_,hl])|refine aI ?_)
   refine WP.ret (ab_ ?_)
   simp -dsimp[setL_whole,ah_,hl,aF_]
   exact al_ _
  ·by_cases h1:l.length=1
   ·have hd:=ea_ h32 0 (by omega)
    have hlf:=zk_ (digA l 0) hd
    have e:leafB (digA l 0)=treeB l:=by
     obtain⟨d,rfl⟩:=List.length_eq_one_iff.1 h1
     rfl
    rw[e] at hlf
    have ha:=gY_ h32 0 (by omega)
    rw[Nat.zero_mul,List.drop_zero] at ha
    have hlen:=aT_ h32
    generalize treeB l=r at *
    refine ad_ (pn:=an_) ac_ Tryz.func71 rfl fun β0=>?_
    simp only[Tryz.f71]
    repeat(first|apply wG|(apply wR;simp -dsimp[slG])|refine aI ?_)
    refine cF (by simp;rintro rfl;simp at h1) ?_
    refine sG ?_
    refine cT (by simp[h1]) ?_
    repeat(first|apply wG|(apply wR;simp -dsimp[ha])|refine aI ?_)
    refine aa_ n6_ hlf rfl rfl (by simp[dD,ha,bM_,hd]) ?_
    simp -dsimp[dD]
    refine And.intro ⟨hl,fun a h=>ap_ h⟩ ?_
    repeat(first|apply wG|(apply wR;simp -dsimp[ah_,hl])|refine aI ?_)
    refine WP.ret (ab_ ?_)
    simp -dsimp[setL_whole,ah_,hl,aF_]
    exact al_ _
   ·have hk:=ca_ l.length (by omega)
    have hp:=bc_ l.length
    have h34:=ue_ l.length (by omega) hn
    rw[oF_ l (by omega)] at hl ⊢
    generalize halfN l.length=k at *
    have t1:=ih (l.take k) (by rw[List.length_take];omega) (by rw[List.length_take];omega) (all32_take h32 k)
    have t2:=ih (l.drop k) (by rw[List.length_drop];omega) (by rw[List.length_drop];omega) (all32_drop h32 k)
    have hnd:=za_ (treeB (l.take k)) (treeB (l.drop k)) (aO_ _) (aO_ _)
    have e1:=eD_ k h32
    have e2:=eE_ k h32
    have e3:(l.take k).length=k:=by rw[List.length_take];omega
    have e4:(l.drop k).length=l.length-k:=List.length_drop
    have e5:((l.length:Int)-(k:Int)).toNat=l.length-k:=by omega
    have e6:List.take ((l.length-k)*32) (dgL (l.drop k))=dgL (l.drop k):=List.take_of_length_le (by rw[aT_ (all32_drop h32 k),e4];omega)
    refine ad_ (pn:=an_) ac_ Tryz.func71 rfl fun β0=>?_
    simp only[Tryz.f71]
    repeat(first|apply wG|(apply wR;simp -dsimp[slG])|refine aI ?_)
    refine cF (by simp;rintro rfl;simp at h0) ?_
    refine sG ?_
    refine cF (by simp;omega) ?_
    refine WP.skip ?_
    simp -dsimp
    refine sG ?_
    refine aa_ hu_ h34 rfl rfl (by simp) ?_
    simp -dsimp
    refine sG ?_
    refine aa_ b9_ t1 rfl rfl (by simp[slG,e1,e3]) ?_
    simp -dsimp
    refine sG ?_
    refine aa_ b9_ t2 rfl rfl (by simp[slG,e2,e4,e5,e6]) ?_
    simp -dsimp
    refine sG ?_
    refine aa_ n5_ hnd rfl rfl (by simp[dD]) ?_
    generalize nodeB (treeB (l.take k)) (treeB (l.drop k))=r at *
    simp -dsimp[dD]
    refine And.intro ⟨hl,fun a h=>ap_ h⟩ ?_
    repeat(first|apply wG|(apply wR;simp -dsimp[ah_,hl])|refine aI ?_)
    refine WP.ret (ab_ ?_)
    simp -dsimp[setL_whole,ah_,hl,aF_]
    exact al_ _
theorem kv_ (l:List Dg) (hn:l.length≤65536) (h:a9_ l):Fn0 Tryz.prog 71 [slG l] (dD (treeB l)):=AE_ (l.length+1) l (Nat.lt_succ_self _) hn h
def z32:Dg:=List.replicate 32 0
theorem z32_len:z32.length=32:=rfl
def boD (f:List Bool):List D:=f.map fun b=>.v (.bool b)
theorem st_ (l:List D) (x:D):Leq (.tup [.agg (l.map .d),.d x]) (.d (.tup [.agg l,x])) :=
 Leq.trans (Leq.tup (l:=[.agg (l.map .d),.d x]) (l':=[.d (.agg l),.d x]) (And.intro (al_ l) (And.intro (Leq.refl _) trivial))) (f2_ [.agg l,x])
theorem gI_ (f:List Bool):(boD f).length=f.length:=by simp[boD]
theorem yS_ (d:Dg) (hd:d.length=32):Fn0 Tryz.prog 130 [dD d] (dD (openB d)):=by
 have ht:=gQ_ ⟨#[111,112,101,110]⟩ (by decide) d (by omega)
 rw [show (⟨#[111, 112, 101, 110]⟩ : ByteArray).data.toList = tB "open" by decide +kernel, show tagB (tB "open") d = openB d from rfl] at ht
 have hl:(openB d).length=32:=aH_ _ _
 generalize openB d=r at *
 refine ad_ (pn:=an_) ac_ Tryz.func130 rfl fun β0=>?_
 simp only[Tryz.f130]
 refine WP.seq ?_
 refine WP.region ac_ ?_
 simp -dsimp[dD,ah_,hd]
 repeat refine aI ?_
 refine And.intro (fun a h=>ap_ h) ?_
 repeat refine aI ?_
 refine ar_ (aR_ (k:=1) (T:=87) (ds:=bys d) (by simp)) ?_
 simp -dsimp[fS_,fzc,de_,op_]
 refine sG ?_
 refine aw_ ac_ rfl rfl rfl rfl (by simp[ah_,hd]) (by decide) rfl ?_
 simp -dsimp[bM_,hd]
 refine sG ?_
 refine aa_ bi_ ht rfl rfl (by simp[slB,hd]) ?_
 simp -dsimp[dD]
 refine And.intro ⟨hl,fun a h=>ap_ h⟩ ?_
 repeat(first|apply wG|(apply wR;simp -dsimp[ah_,hl])|refine aI ?_)
 refine WP.ret (ab_ ?_)
 simp -dsimp[setL_whole,ah_,hl,aF_]
 exact al_ _
theorem sG_ (n:Nat) (hn:n≤65535):bys (twoB n)=[.v (.int .u8 ((n/256:Nat):Int)),.v (.int .u8 (IntKind.u8.wrap (n:Int)))]:=by
 simp only[bys,twoB,List.map_cons,List.map_nil,a8_,UInt8.toNat_ofNat',IntKind.wrap_u8]
 congr 3
 ·congr 1
  omega
theorem sH_ (n:Nat) (hn:n≤65535):Fn0 Tryz.prog 191 [.v (.int .i64 n)] (slB (twoB n)):=by
 have hb:=sG_ n hn
 have e1:IntKind.u8.wrap ((n/256:Nat):Int)=((n/256:Nat):Int):=by rw[IntKind.wrap_u8];omega
 have e2:(n:Int).fdiv (2^shN .i64 8)=((n/256:Nat):Int):=by
  rw[show shN .i64 8=8 from rfl,Int.fdiv_eq_ediv_of_nonneg _ (by decide)];omega
 obtain⟨q,hq⟩:∃ q,n/256=q:=⟨_,rfl⟩
 rw[hq] at e1 e2 hb
 refine ad_ (pn:=an_) ac_ Tryz.func191 rfl fun β0=>?_
 simp only[Tryz.f191]
 repeat(first|apply wG|(apply wR;simp -dsimp[e2,e1])|refine aI ?_)
 refine WP.ret (aj_ (Wk.freeze (k:=8) (T:=5) (sz:=1) (n:=2) (ds:=bys (twoB n)) (by simp[hb])) ?_)
 simp -dsimp[slB]
 exact .refl _
theorem pm_ (l:List UInt8) (i:Nat) (h:i<l.length):atL ((bys l).map .d) i=.d (.v (.int .u8 ((byA l i).toNat:Int))):=by
 rw[← df_,List.getElem?_map,bys,List.getElem?_map,byA,List.getD_eq_getElem?_getD,List.getElem?_eq_getElem h];rfl
def telO (f:Nat→Bool) (n i:Nat):List Bool:=(List.range i).map f++List.replicate (n-i) false
theorem p3_ (f:Nat→Bool) (n i:Nat) (h:i≤n):(telO f n i).length=n:=by simp[telO];omega
theorem sI_ (f:Nat→Bool) (n i:Nat) (h:i<n):(telO f n i).set i (f i)=telO f n (i+1):=by
 unfold telO
 rw[List.set_append_right _ _ (by simp)]
 rw[show n-i=(n-(i+1))+1 by omega,List.replicate_succ]
 simp[List.range_succ]
theorem z1_ (l:List Bool) (i:Nat) (b:Bool):((boD l).map AV.d).set i (.d (.v (.bool b)))=(boD (l.set i b)).map AV.d:=by
 rw[show AV.d (.v (.bool b))=AV.d ((fun b=>D.v (.bool b)) b) from rfl,boD,boD,← List.map_set,← List.map_set]
theorem z2_ {l:List Bool} {d:D} (h:d∈boD l):oneD d=true:=by
 obtain⟨b,_,rfl⟩:=List.mem_map.1 h
 rfl
theorem u7_:∀ x:Nat,x<256→bits .and .u8 (x:Int) 1=((x%2:Nat):Int):=by decide +kernel
def sgnB (root:Dg) (index:Nat) (msg:List UInt8):List Bool:=(List.range 64).map (bitB root index msg)
theorem p8_ (root:Dg) (index:Nat) (msg:List UInt8):(sgnB root index msg).length=64:=by simp[sgnB]
def bitsD (l:List Bool):D:=.agg (boD l)
abbrev sgS (g:List UInt8) (f:Nat→Bool) (i:Nat):St:=mkS 33 [(6,.ptr 6 0),(7,.ptr 7 0),(16,.d (.v (.int .i64 i)))] [(6,.cells 194 ((boD (telO f 64 i)).map .d)),(7,.cells 87 ((bys g).map .d))]
theorem sP_ (root:Dg) (hr:root.length=32) (index:Nat) (hi:index≤65535) (msg:List UInt8) (hm:msg.length≤65536) :
  Fn0 Tryz.prog 128 [dD root,.v (.int .i64 index),slB msg] (bitsD (sgnB root index msg)):=by
 have h63:=sH_ index hi
 have l2:(twoB index).length=2:=rfl
 obtain⟨tw,htw⟩:∃ t,twoB index=t:=⟨_,rfl⟩
 rw[htw] at h63 l2
 have h60:=eG_ [root,tw,msg] (by simp) (by simp[catB];omega)
 have ht:=gQ_ ⟨#[109,101,115,115,97,103,101]⟩ (by decide) (root++(tw++msg)) (by simp;omega)
 rw [show (⟨#[109, 101, 115, 115, 97, 103, 101]⟩ : ByteArray).data.toList = tB "message" by decide +kernel] at ht
 have hl : (tagB (tB "message") (root ++ (tw ++ msg))).length = 32 := aH_ _ _
 have hf : ∀ j, bitB root index msg j = (((byA (tagB (tB "message") (root ++ (tw ++ msg))) (j / 8)).toNat / 2 ^ (7 - j % 8)) % 2 == 1) := fun j => by rw [bitB, htw]
 have hs:telO (bitB root index msg) 64 64=sgnB root index msg:=by simp[telO,sgnB]
 generalize tagB (tB "message") (root ++ (tw ++ msg)) = g at *
 generalize bitB root index msg=f at *
 rw[← hs]
 refine ad_ (pn:=an_) ac_ Tryz.func128 rfl fun β0=>?_
 simp only[Tryz.f128]
 refine WP.seq ?_
 refine WP.region ac_ ?_
 simp -dsimp[dD,ah_,hr]
 repeat refine aI ?_
 refine And.intro (fun a h=>ap_ h) ?_
 repeat refine aI ?_
 refine ar_ (aR_ (k:=3) (T:=87) (ds:=bys root) (by simp)) ?_
 simp -dsimp[fS_,fzc,de_,op_]
 refine sG ?_
 refine aw_ ac_ rfl rfl rfl rfl (by simp[ah_,hr]) (by decide) rfl ?_
 simp -dsimp[bM_,hr,slB]
 repeat(first|apply wG|(apply wR;simp -dsimp[slB])|refine aI ?_)
 refine aa_ hg_ h63 rfl rfl (by simp) ?_
 simp -dsimp[slB]
 repeat(first|apply wG|(apply wR;simp -dsimp[slB])|refine aI ?_)
 refine vcStop.call cX_ (h60) (rl [(1000,13)]) rfl rfl (by simp[lsB,slB,hr,l2,BoxLeq]) (ag_ (by simp[lsB,slB,hr,l2,BoxLeq]) rfl (by first|rfl|(simp[lsB,slB,hr,l2,BoxLeq];done)) (by simp[lsB,slB,hr,l2,BoxLeq]) (by simp[lsB,slB,hr,l2,BoxLeq])) (fun _ h=>h.elim) (fun ⟨_,h⟩=>h.elim) (fun ⟨_,h⟩=>h.elim) (by simp[lsB,slB,hr,l2,BoxLeq]) ?_
 simp -dsimp[slB]
 refine sG ?_
 refine aa_ bi_ ht rfl rfl (by simp[slB,catB]) ?_
 simp -dsimp[dD]
 refine And.intro ⟨hl,fun a h=>ap_ h⟩ ?_
 refine sG ?_
 refine ai_ (fun q S=>∃ i:Nat,q=64-i∧i≤64∧S=sgS g f i) 64 (S0:=sgS g f 0) (af_ [] (by simp) (by simp[setL_whole,ah_,hl,telO,boD])) ⟨0,rfl,by omega,rfl⟩ ?_
 rintro _ _ ⟨i,rfl,hi6,rfl⟩
 simp -dsimp
 refine sG ?_
 by_cases hi64:i<64
 ·refine cT (by simp;omega) ?_
  refine WP.skip ?_
  obtain⟨q,hq⟩:∃ q,i/8=q:=⟨_,rfl⟩
  obtain⟨m,hm8⟩:∃ m,i%8=m:=⟨_,rfl⟩
  have k0:(i:Int).tmod 8=(m:Int):=by rw[Int.tmod_eq_emod_of_nonneg (by omega)];omega
  have k1:IntKind.i64.wrap ((i:Int)/8)=(q:Int):=by rw[IntWalk.i64_in _ (by omega)];omega
  have k2:IntKind.i64.wrap (m:Int)=(m:Int):=by rw[IntWalk.i64_in _ (by omega)]
  have k3:IntKind.i64.wrap (7-(m:Int))=((7-m:Nat):Int):=by rw[IntWalk.i64_in _ (by omega)];omega
  have k5:IntKind.i64.wrap ((i:Int)+1)=((i+1:Nat):Int):=by rw[IntWalk.i64_in _ (by omega)];omega
  have h2:q<32:=by omega
  have hat:=pm_ g q (by omega)
  have hfi:=hf i
  rw[hq,hm8] at hfi
  obtain⟨s,hs7⟩:∃ s,7-m=s:=⟨_,rfl⟩
  rw[hs7] at k3 hfi
  have k4:shN .u8 (s:Int)=s:=by simp[shN,IntKind.bits];omega
  have hx:=(byA g q).toNat_lt
  have k6:((byA g q).toNat:Int).fdiv (2^s)=(((byA g q).toNat/2^s:Nat):Int):=by
   rw[show ((2:Int)^s)=((2^s:Nat):Int) by simp,Int.fdiv_eq_ediv_of_nonneg _ (Int.natCast_nonneg _)];exact (Int.natCast_ediv _ _).symm
  have hy:(byA g q).toNat/2^s<256:=Nat.lt_of_le_of_lt (Nat.div_le_self _ _) hx
  obtain⟨y,hye⟩:∃ y,(byA g q).toNat/2^s=y:=⟨_,rfl⟩
  rw[hye] at k6 hy hfi
  have k7:=u7_ y hy
  obtain⟨z,hz⟩:∃ z,y%2=z:=⟨_,rfl⟩
  rw[hz] at k7 hfi
  have hbe:decide ((z:Int)=1)=f i:=by
   rw[hfi,Bool.eq_iff_iff];simp;omega
  have hn:=sI_ f 64 i hi64
  have hlo:=p3_ f 64 i hi6
  generalize f i=b at *
  generalize telO f 64 i=l at *
  simp -dsimp
  repeat(first|apply wG|(apply wR;simp -dsimp[k0,k1,k2,k3,k4,k6,k7,hat,h2,hl,ah_,gI_,hlo,hbe,z1_,hi64])|refine aI ?_)
  refine loopW.next (sgS g f (i+1)) (af_ [] (by simp[k5]) (by simp[hn])) (64-(i+1)) (by omega) ⟨i+1,rfl,by omega,rfl⟩
 ·refine cF (by simp;omega) ?_
  refine WP.exit ?_
  obtain rfl:i=64:=by omega
  have hlo:=p3_ f 64 64 (Nat.le_refl _)
  generalize telO f 64 64=l at *
  have ht64:List.take 64 ((boD l).map AV.d)=(boD l).map AV.d:=List.take_of_length_le (by simp[boD,hlo])
  simp -dsimp
  repeat(first|apply wG|(apply wR;simp -dsimp[gI_,hlo,ht64])|refine aI ?_)
  refine And.intro (fun c h=>z2_ h) ?_
  refine WP.ret (ab_ ?_)
  simp -dsimp[setL_whole,gI_,hlo,ht64]
  exact al_ _
end Go.Proofs.YtfgcgagcpnbgmaaGreatDoor
