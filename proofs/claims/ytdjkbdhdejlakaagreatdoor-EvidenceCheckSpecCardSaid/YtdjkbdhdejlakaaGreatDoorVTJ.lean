/-
  Joined texts.
-/
import Derived.Test.YtdjkbdhdejlakaaGreatDoorVTA
import Derived.Test.YtdjkbdhdejlakaaGreatDoorVT
import Derived.Test.YtdjkbdhdejlakaaGreatDoorVTE
import Derived.Test.YtdjkbdhdejlakaaGreatDoorVO
import Derived.Test.YtdjkbdhdejlakaaGreatDoorVG
set_option maxRecDepth 10000
set_option maxHeartbeats 4000000
set_option linter.unusedVariables false
set_option linter.unusedSimpArgs false
set_option linter.unusedSectionVars false
namespace Go.Proofs.YtdjkbdhdejlakaaGreatDoor
open Go.Xe Go.RowKit
theorem nS_:∀ (N n i:Nat),n≤N→1≤n→i<n→n≤65536→Fn0 Tryz.prog 180 [.v (.int .i64 i),.v (.int .i64 n)] (.v (.int .i64 (fR_ i n).length)):=by
 intro N
 induction N with
 | zero=>intro n i h1 h2;omega
 | succ N ih =>
  intro n i hf h1 hi hn
  by_cases hn1:n≤1
  ·obtain rfl:n=1:=by omega
   rw[mA_ i 1 (by omega)]
   refine ac_ (pn:=ao_) aa_ Tryz.func180 rfl fun β0=>?_
   simp only[Tryz.f180]
   repeat(first|apply wG|(apply wR;simp -dsimp)|refine aI ?_)
   refine cT (by simp) ?_
   repeat(first|apply wG|(apply wR;simp -dsimp)|refine aI ?_)
   refine WP.ret (ab_ ?_)
   simp -dsimp
  ·have k1:=cu_ n
   have k2:=ej_ n (by omega)
   have hh:=jF_ n h1 hn
   have hd:=mz_ i n (by omega)
   have hl1:=em_ (halfN n) i (halfN n) (Nat.le_refl _)
   have hl2:=em_ (n-halfN n) (i-halfN n) (n-halfN n) (Nat.le_refl _)
   generalize halfN n=k at *
   rw[hd]
   refine ac_ (pn:=ao_) aa_ Tryz.func180 rfl fun β0=>?_
   simp only[Tryz.f180]
   repeat(first|apply wG|(apply wR;simp -dsimp)|refine aI ?_)
   refine cF (by simp;omega) ?_
   refine WP.skip ?_
   simp -dsimp
   repeat(first|apply wG|(apply wR;simp -dsimp)|refine aI ?_)
   refine ad_ d8_ hh rfl rfl (by simp) ?_
   simp -dsimp
   repeat(first|apply wG|(apply wR;simp -dsimp)|refine aI ?_)
   by_cases hik:i<k
   ·rw[if_pos hik]
    have hr:=ih k i (by omega) (by omega) hik (by omega)
    have e1:IntKind.i64.wrap (1+((fR_ i k).length:Int))=(((true::fR_ i k).length:Nat):Int):=by rw[IntWalk.i64_in _ (by omega),List.length_cons];omega
    refine cT (by simp;omega) ?_
    repeat(first|apply wG|(apply wR;simp -dsimp)|refine aI ?_)
    refine ad_ cQ_ hr rfl rfl (by simp) ?_
    simp -dsimp[e1]
    repeat(first|apply wG|(apply wR;simp -dsimp[e1])|refine aI ?_)
    refine WP.ret (ab_ ?_)
    simp -dsimp[e1]
   ·rw[if_neg hik]
    have hr:=ih (n-k) (i-k) (by omega) (by omega) (by omega) (by omega)
    have e1:IntKind.i64.wrap (1+((fR_ (i-k) (n-k)).length:Int))=(((false::fR_ (i-k) (n-k)).length:Nat):Int):=by rw[IntWalk.i64_in _ (by omega),List.length_cons];omega
    have e2:IntKind.i64.wrap ((i:Int)-k)=((i-k:Nat):Int):=by rw[IntWalk.i64_in _ (by omega)];omega
    have e3:IntKind.i64.wrap ((n:Int)-k)=((n-k:Nat):Int):=by rw[IntWalk.i64_in _ (by omega)];omega
    refine cF (by simp;omega) ?_
    refine WP.skip ?_
    simp -dsimp
    repeat(first|apply wG|(apply wR;simp -dsimp[e2,e3])|refine aI ?_)
    refine ad_ cQ_ hr rfl rfl (by simp) ?_
    simp -dsimp[e1]
    repeat(first|apply wG|(apply wR;simp -dsimp[e1])|refine aI ?_)
    refine WP.ret (ab_ ?_)
    simp -dsimp[e1]
theorem l1_ (n i:Nat) (h1:1≤n) (hi:i<n) (hn:n≤65536):Fn0 Tryz.prog 180 [.v (.int .i64 i),.v (.int .i64 n)] (.v (.int .i64 (fR_ i n).length)):=nS_ n n i (Nat.le_refl _) h1 hi hn
theorem jE_ (hsum:∀ b:List UInt8,b.length≤100000→Fn0 Tryz.prog 182 [slB b] (dD (hL_ b))) (a b:Dg) (ha:a.length=32) (hb:b.length=32):Fn0 Tryz.prog 203 [dD a,dD b] (dD (nodeB a b)):=by
 have ht:=c1_ hsum ⟨#[110,111,100,101]⟩ (by decide) (a++b) (by simp;omega)
 rw [show (⟨#[110, 111, 100, 101]⟩ : ByteArray).data.toList = tB "node" by decide +kernel, show tagB (tB "node") (a ++ b) = nodeB a b from rfl] at ht
 have ho:(nodeB a b).length=32:=bR_ _ _
 have hlen:(a++b).length=64:=by simp;omega
 have eb:bys (a++b)=bys a++bys b:=by rw[bys,bys,bys,List.map_append]
 rw[slB,hlen] at ht
 generalize nodeB a b=r at *
 have htr:Fun Tryz.prog 130 [.d (.v (.string ⟨#[110,111,100,101]⟩)),.row 1000] [(1000,.row 5 1 64 ((bys (a++b)).map .d))] (.d (dD r)) [] fun _=>False:=aW_ 1000 (T:=5) (cs:=bys (a++b)) (args':=[.d (.v (.string ⟨#[110,111,100,101]⟩)),.row 1000]) (bi':=[(1000,.row 5 1 64 ((bys (a++b)).map .d))]) ht rfl rfl trivial
 refine ac_ (pn:=ao_) aa_ Tryz.func203 rfl fun β0=>?_
 simp only[Tryz.f203]
 refine WP.seq ?_
 refine WP.region aa_ ?_
 simp -dsimp[dD,bys_len,ha,hb]
 refine And.intro (fun a h=>an_ h) ?_
 refine And.intro (fun a h=>an_ h) ?_
 refine aw_ (aF_ (k:=2) (T:=74) (ds:=bys a) (by simp[bys_len,ha])) ?_
 simp -dsimp[ff_,fzc,cw_,kY_]
 refine aw_ (aF_ (k:=3) (T:=74) (ds:=bys b) (by simp[bys_len,hb])) ?_
 simp -dsimp[ff_,fzc,cw_,kY_]
 repeat(first|apply wG|(apply wR;simp -dsimp)|refine aI ?_)
 refine as_ aa_ rfl rfl rfl rfl (by simp[bys_len,ha]) (by decide) rfl ?_
 simp -dsimp[bys_t32,ha]
 repeat(first|apply wG|(apply wR;simp -dsimp[bys_len,ha])|refine aI ?_)
 refine as_ aa_ rfl rfl rfl rfl (by simp[bys_len,hb]) (by decide) rfl ?_
 simp -dsimp[bys_t32,ha,hb]
 repeat(first|apply wG|(apply wR;simp -dsimp[bys_len,ha,hb])|refine aI ?_)
 refine vcStop.call bw_ (htr) (rl [(1000,9)]) rfl rfl (by simp[eb,BoxLeq]) (ai_ (by simp[eb,BoxLeq]) rfl (by first|rfl|(simp[eb,BoxLeq];done)) (by simp[eb,BoxLeq]) (by simp[eb,BoxLeq])) (fun _ h=>h.elim) (fun ⟨_,h⟩=>h.elim) (fun ⟨_,h⟩=>h.elim) (by simp[eb,BoxLeq]) ?_
 simp -dsimp[dD]
 refine And.intro ⟨ho,fun a h=>an_ h⟩ ?_
 repeat(first|apply wG|(apply wR;simp -dsimp[bys_len,ho])|refine aI ?_)
 refine WP.ret (ab_ ?_)
 simp -dsimp[setL_whole,bys_len,ho,bysA_take]
 exact ag_ _
theorem bys_t32L {x:Dg} (h:x.length=32):List.take 32 (bys x)=bys x:=List.take_of_length_le (by rw[bys_len];omega)
theorem v7_ {p:List Dg} (h:bf_ p) (h0:0<p.length):List.take ((p.length-1)*32) ((dgL p).map AV.d)=(dgL p.dropLast).map .d:=by
 rw[← List.map_take,hu_ _ h,List.dropLast_eq_take]
theorem rf_ (hsum:∀ b:List UInt8,b.length≤100000→Fn0 Tryz.prog 182 [slB b] (dD (hL_ b))) (d:Dg) (hd:d.length=32):∀ (N n i:Nat) (p:List Dg),n≤N→1≤n→i<n→n≤65536→bf_ p→p.length=(fR_ i n).length →
  Fn0 Tryz.prog 181 [dD d,.v (.int .i64 i),.v (.int .i64 n),slG p] (dD (climbF N d i n p))∧(climbF N d i n p).length=32:=by
 intro N
 induction N with
 | zero=>intro n i p h1 h2;omega
 | succ N ih =>
  intro n i p hf h1 hi hn hp hpl
  have ht:=c1_ hsum ⟨#[108,101,97,102]⟩ (by decide) d (by omega)
  rw [show (⟨#[108, 101, 97, 102]⟩ : ByteArray).data.toList = tB "leaf" by decide +kernel, show tagB (tB "leaf") d = leafB d from rfl] at ht
  have hlf:=dY_ d
  by_cases hn1:n≤1
  ·obtain rfl:n=1:=by omega
   rw[climbF,if_pos (by omega)]
   refine⟨?_,hlf⟩
   generalize leafB d=r at *
   refine ac_ (pn:=ao_) aa_ Tryz.func181 rfl fun β0=>?_
   simp only[Tryz.f181]
   refine WP.seq ?_
   refine WP.region aa_ ?_
   simp -dsimp[dD,bys_len,hd]
   refine And.intro (fun a h=>an_ h) ?_
   refine aw_ (aF_ (k:=4) (T:=74) (ds:=bys d) (by simp[bys_len,hd])) ?_
   simp -dsimp[ff_,fzc,cw_,kY_]
   repeat(first|apply wG|(apply wR;simp -dsimp[slG])|refine aI ?_)
   refine cT (by simp) ?_
   repeat(first|apply wG|(apply wR;simp -dsimp)|refine aI ?_)
   refine as_ aa_ rfl rfl rfl rfl (by simp[bys_len,hd]) (by decide) rfl ?_
   simp -dsimp[bys_t32,hd]
   repeat(first|apply wG|(apply wR;simp -dsimp[bys_len,hd])|refine aI ?_)
   refine ad_ bw_ ht rfl rfl (by simp[slB,hd]) ?_
   simp -dsimp[dD]
   refine And.intro ⟨hlf,fun a h=>an_ h⟩ ?_
   repeat(first|apply wG|(apply wR;simp -dsimp[bys_len,hlf])|refine aI ?_)
   refine WP.ret (ab_ ?_)
   simp -dsimp[setL_whole,bys_len,hlf,bysA_take]
   exact ag_ _
  ·have k1:=cu_ n
   have k2:=ej_ n (by omega)
   have hh:=jF_ n h1 hn
   have hd2:=mz_ i n (by omega)
   have hdl0:=em_ n i n (Nat.le_refl _)
   have h0:0<p.length:=by rw[hpl,hd2];split<;>simp
   have hat:=gB_ hp (p.length-1) (by omega)
   have hx:=ds_ hp (p.length-1) (by omega)
   have hdl:bf_ p.dropLast:=fun x hx=>hp x ((List.dropLast_sublist p).subset hx)
   have hdn:p.dropLast.length=p.length-1:=List.length_dropLast
   have tk:=v7_ hp h0
   have tkD:List.take ((p.length-1)*32) (dgL p)=dgL p.dropLast:=by rw[hu_ _ hp,List.dropLast_eq_take]
   have lC:=dt_ hp
   have hp1:p.length-1<p.length:=by omega
   have e0:IntKind.i64.wrap ((p.length:Int)-1)=((p.length-1:Nat):Int):=by rw[IntWalk.i64_in _ (by omega)];omega
   rw[climbF,if_neg hn1]
   generalize halfN n=k at *
   by_cases hik:i<k
   ·simp only[if_pos hik] at hd2 ⊢
    obtain⟨hr,hrl⟩:=ih k i p.dropLast (by omega) (by omega) hik (by omega) hdl (by rw[hdn,hpl,hd2];simp)
    have hnode:=jE_ hsum (climbF N d i k p.dropLast) (digA p (p.length-1)) hrl hx
    have hno:(nodeB (climbF N d i k p.dropLast) (digA p (p.length-1))).length=32:=bR_ _ _
    refine⟨?_,hno⟩
    generalize nodeB (climbF N d i k p.dropLast) (digA p (p.length-1))=r at *
    generalize climbF N d i k p.dropLast=c at *
    generalize digA p (p.length-1)=x at *
    have tx:=bys_t32L hx
    refine ac_ (pn:=ao_) aa_ Tryz.func181 rfl fun β0=>?_
    simp only[Tryz.f181]
    refine WP.seq ?_
    refine WP.region aa_ ?_
    simp -dsimp[dD,bys_len,hd]
    refine And.intro (fun a h=>an_ h) ?_
    repeat(first|apply wG|(apply wR;simp -dsimp[slG])|refine aI ?_)
    refine cF (by simp;omega) ?_
    refine WP.skip ?_
    simp -dsimp
    repeat(first|apply wG|(apply wR;simp -dsimp)|refine aI ?_)
    refine ad_ d8_ hh rfl rfl (by simp) ?_
    simp -dsimp
    repeat(first|apply wG|(apply wR;simp -dsimp[e0,hat,tx,lC,hp1,bys_len,hx,slG])|refine aI ?_)
    refine And.intro (fun a h=>an_ h) ?_
    repeat(first|apply wG|(apply wR;simp -dsimp[bys_len,hx])|refine aI ?_)
    refine cT (by simp;omega) ?_
    repeat(first|apply wG|(apply wR;simp -dsimp[e0,tk,lC,bysA_take,hd,hx,hdn])|refine aI ?_)
    refine af_ ea_ hr rfl rfl (And.intro (by simp[dD,bysA_take,hd];try exact ag_ _) (And.intro (by simp) (And.intro (by simp) (And.intro (by simp[slG,hdn,tkD]) trivial)))) ?_
    simp -dsimp[dD]
    repeat(first|apply wG|(apply wR;simp -dsimp[bysA_take,hd,hx])|refine aI ?_)
    refine af_ gK_ hnode rfl rfl (And.intro (by simp[dD]) (And.intro (by simp[dD,bysA_take,hx];try exact ag_ _) trivial)) ?_
    simp -dsimp[dD]
    refine And.intro ⟨hno,fun a h=>an_ h⟩ ?_
    repeat(first|apply wG|(apply wR;simp -dsimp[bys_len,hno])|refine aI ?_)
    refine WP.ret (ab_ ?_)
    simp -dsimp[setL_whole,bys_len,hno,bysA_take]
    exact ag_ _
   ·simp only[if_neg hik] at hd2 ⊢
    obtain⟨hr,hrl⟩:=ih (n-k) (i-k) p.dropLast (by omega) (by omega) (by omega) (by omega) hdl (by rw[hdn,hpl,hd2];simp)
    have hnode:=jE_ hsum (digA p (p.length-1)) (climbF N d (i-k) (n-k) p.dropLast) hx hrl
    have hno:(nodeB (digA p (p.length-1)) (climbF N d (i-k) (n-k) p.dropLast)).length=32:=bR_ _ _
    refine⟨?_,hno⟩
    generalize nodeB (digA p (p.length-1)) (climbF N d (i-k) (n-k) p.dropLast)=r at *
    generalize climbF N d (i-k) (n-k) p.dropLast=c at *
    generalize digA p (p.length-1)=x at *
    have tx:=bys_t32L hx
    have e2:IntKind.i64.wrap ((i:Int)-k)=((i-k:Nat):Int):=by rw[IntWalk.i64_in _ (by omega)];omega
    have e3:IntKind.i64.wrap ((n:Int)-k)=((n-k:Nat):Int):=by rw[IntWalk.i64_in _ (by omega)];omega
    refine ac_ (pn:=ao_) aa_ Tryz.func181 rfl fun β0=>?_
    simp only[Tryz.f181]
    refine WP.seq ?_
    refine WP.region aa_ ?_
    simp -dsimp[dD,bys_len,hd]
    refine And.intro (fun a h=>an_ h) ?_
    repeat(first|apply wG|(apply wR;simp -dsimp[slG])|refine aI ?_)
    refine cF (by simp;omega) ?_
    refine WP.skip ?_
    simp -dsimp
    repeat(first|apply wG|(apply wR;simp -dsimp)|refine aI ?_)
    refine ad_ d8_ hh rfl rfl (by simp) ?_
    simp -dsimp
    repeat(first|apply wG|(apply wR;simp -dsimp[e0,hat,tx,lC,hp1,bys_len,hx,slG])|refine aI ?_)
    refine And.intro (fun a h=>an_ h) ?_
    repeat(first|apply wG|(apply wR;simp -dsimp[bys_len,hx])|refine aI ?_)
    refine cF (by simp;omega) ?_
    refine WP.skip ?_
    simp -dsimp
    repeat(first|apply wG|(apply wR;simp -dsimp[e0,e2,e3,tk,lC,bysA_take,hd,hx,hdn])|refine aI ?_)
    refine af_ ea_ hr rfl rfl (And.intro (by simp[dD,bysA_take,hd];try exact ag_ _) (And.intro (by simp) (And.intro (by simp) (And.intro (by simp[slG,hdn,tkD]) trivial)))) ?_
    simp -dsimp[dD]
    repeat(first|apply wG|(apply wR;simp -dsimp[bysA_take,hd,hx])|refine aI ?_)
    refine af_ gK_ hnode rfl rfl (And.intro (by simp[dD,bysA_take,hx];try exact ag_ _) (And.intro (by simp[dD]) trivial)) ?_
    simp -dsimp[dD]
    refine And.intro ⟨hno,fun a h=>an_ h⟩ ?_
    repeat(first|apply wG|(apply wR;simp -dsimp[bys_len,hno])|refine aI ?_)
    refine WP.ret (ab_ ?_)
    simp -dsimp[setL_whole,bys_len,hno,bysA_take]
    exact ag_ _
def y7_ (d:Dg) (i n:Nat) (p:List Dg):Dg×Int:=if p.length=(fR_ i n).length then (climbF n d i n p,0) else (z32,1)
theorem nT_ (hsum:∀ b:List UInt8,b.length≤100000→Fn0 Tryz.prog 182 [slB b] (dD (hL_ b))) (d:Dg) (hd:d.length=32) (n i:Nat) (p:List Dg) (h1:1≤n) (hi:i<n) (hn:n≤65536) (hp:bf_ p) (hpn:p.length≤10000000000000) :
  Fn0 Tryz.prog 128 [dD d,.v (.int .i64 i),.v (.int .i64 n),slG p] (.tup [dD (y7_ d i n p).1,.v (.int .i64 (y7_ d i n p).2)]):=by
 have hlen:=l1_ n i h1 hi hn
 have d1:decide ((n:Int)<1)=false:=by rw[decide_eq_false_iff_not];omega
 have d2:decide ((1099511627776:Int)<(n:Int))=false:=by rw[decide_eq_false_iff_not];omega
 have d3:decide ((i:Int)<0)=false:=by rw[decide_eq_false_iff_not];omega
 have d4:decide ((n:Int)≤(i:Int))=false:=by rw[decide_eq_false_iff_not];omega
 have d1':decide (n<1)=false:=by rw[decide_eq_false_iff_not];omega
 have d4':decide (n≤i)=false:=by rw[decide_eq_false_iff_not];omega
 have d2':decide (1099511627776<n)=false:=by rw[decide_eq_false_iff_not];omega
 have lz:z32.length=32:=rfl
 by_cases hpl:p.length=(fR_ i n).length
 ·rw[y7_,if_pos hpl]
  obtain⟨hc,hcl⟩:=rf_ hsum d hd n n i p (Nat.le_refl _) h1 hi hn hp hpl
  generalize climbF n d i n p=r at *
  refine ac_ (pn:=ao_) aa_ Tryz.func128 rfl fun β0=>?_
  simp only[Tryz.f128]
  refine WP.seq ?_
  refine WP.region aa_ ?_
  simp -dsimp[dD,bys_len,hd]
  refine And.intro (fun a h=>an_ h) ?_
  repeat(first|apply wG|(apply wR;simp -dsimp[slG,d1,d2,d3,d4,d1',d2',d4'])|refine aI ?_)
  refine ah_ cQ_ (fun _=>hlen) rfl (fun _=>rfl) (fun _=>by simp) ?_
  simp -dsimp[d1,d2,d3,d4,d1',d2',d4']
  repeat(first|apply wG|(apply wR;simp -dsimp[d1,d2,d3,d4,d1',d2',d4'])|refine aI ?_)
  refine cF (by simp[hpl]) ?_
  refine WP.skip ?_
  simp -dsimp
  repeat(first|apply wG|(apply wR;simp -dsimp[bysA_take,hd])|refine aI ?_)
  refine af_ ea_ hc rfl rfl (And.intro (by simp[dD,bysA_take,hd];try exact ag_ _) (And.intro (by simp) (And.intro (by simp) (And.intro (by simp[slG]) trivial)))) ?_
  simp -dsimp[dD]
  refine And.intro ⟨hcl,fun a h=>an_ h⟩ ?_
  repeat(first|apply wG|(apply wR;simp -dsimp[bys_len,hcl])|refine aI ?_)
  refine WP.ret (ab_ ?_)
  simp -dsimp[setL_whole,bys_len,hcl,bysA_take]
  exact (Leq.tup (l:=[.agg ((bys r).map .d),.d (.v (.int .i64 0))]) (l':=[.d (.agg (bys r)),.d (.v (.int .i64 0))]) ⟨ag_ (bys r),.refl _,trivial⟩).trans (cd_ [.agg (bys r),.v (.int .i64 0)])
 ·rw[y7_,if_neg hpl]
  refine ac_ (pn:=ao_) aa_ Tryz.func128 rfl fun β0=>?_
  simp only[Tryz.f128]
  refine WP.seq ?_
  refine WP.region aa_ ?_
  simp -dsimp[dD,bys_len,hd]
  refine And.intro (fun a h=>an_ h) ?_
  repeat(first|apply wG|(apply wR;simp -dsimp[slG,d1,d2,d3,d4,d1',d2',d4'])|refine aI ?_)
  refine ah_ cQ_ (fun _=>hlen) rfl (fun _=>rfl) (fun _=>by simp) ?_
  simp -dsimp[d1,d2,d3,d4,d1',d2',d4']
  repeat(first|apply wG|(apply wR;simp -dsimp[d1,d2,d3,d4,d1',d2',d4'])|refine aI ?_)
  refine cT (by simp;omega) ?_
  repeat(first|apply wG|(apply wR;simp -dsimp)|refine aI ?_)
  refine WP.ret (ab_ ?_)
  simp -dsimp
  exact (Leq.tup (l:=[.agg ((bys z32).map .d),.d (.v (.int .i64 1))]) (l':=[.d (.agg (bys z32)),.d (.v (.int .i64 1))]) ⟨ag_ (bys z32),.refl _,trivial⟩).trans (cd_ [.agg (bys z32),.v (.int .i64 1)])
end Go.Proofs.YtdjkbdhdejlakaaGreatDoor
