/-
  Joined texts.
-/
import Derived.Test.YtdjkbdhdejlakaaGreatDoorVJ
import Derived.Test.YtdjkbdhdejlakaaGreatDoorVE
import Derived.Test.YtdjkbdhdejlakaaGreatDoorVX
set_option maxRecDepth 10000
set_option linter.unusedVariables false
set_option linter.unusedSimpArgs false
set_option linter.unusedSectionVars false
namespace Go.Proofs.YtdjkbdhdejlakaaGreatDoor
open Go.Xe Go.RowKit
def sgc (p:Sg):List D:=fcs p.1 0 57++p.2
def sgV (p:Sg):D:=.agg (sgc p)
theorem az_ {p:Sg} (h:aL_ p):(sgc p).length=61:=by rw[sgc,List.length_append,ax_,h.2.1]
theorem b4_ (p:Sg):List.take 57 ((sgc p).map AV.d)=(fcs p.1 0 57).map .d:=by
 rw[sgc,← List.map_take,List.take_append,ax_,List.take_of_length_le (by rw[ax_];omega)]
 simp
theorem dh_ (p:Sg):List.take 57 (sgc p)=fcs p.1 0 57:=by
 rw[sgc,List.take_append,ax_,List.take_of_length_le (by rw[ax_];omega)]
 simp
@[simp] theorem En_ (p:Sg):Leq (.agg ((sgc p).map .d)) (.d (sgV p))↔True:=⟨fun _=>trivial,fun _=>ag_ _⟩
@[simp] theorem Dq_ (p:Sg):Leq (.agg ((sgc p).map .d)) (.d (.agg (sgc p)))↔True:=⟨fun _=>trivial,fun _=>ag_ _⟩
theorem er_ {p:Sg} (h:aL_ p):List.take 61 (sgc p)=sgc p:=List.take_of_length_le (by rw[az_ h];omega)
theorem dQ_ {p:Sg} (h:aL_ p):List.take 61 ((sgc p).map AV.d)=(sgc p).map .d:=List.take_of_length_le (by rw[List.length_map,az_ h];omega)
theorem bl_ {x:List Sg} {i:Nat} (hi:i<x.length) (h:∀ q∈x,aL_ q):((sgC x).drop (i*61)).take 61=sgc x[i]:=by
 have e:x=x.take i++x[i]::x.drop (i+1):=by
  rw[← List.drop_eq_getElem_cons hi,List.take_append_drop]
 have:=wF_ (l1:=x.take i) (p:=x[i]) (l2:=x.drop (i+1)) (by rw[← e];exact h)
 rw[← e,List.length_take,Nat.min_eq_left (by omega)] at this
 exact this
theorem sgc_oneD {p:Sg} (hp:aL_ p):∀ d∈sgc p,oneD d=true:=fun d hd=>by
 rcases List.mem_append.1 hd with hd|hd
 ·exact fcs_side hd
 ·exact hp.2.2 d hd
def posS (s:Sg) (x:List Sg):Nat:=(x.takeWhile fun t=>decide (cx_ t.1 s.1<0)).length
def isS (s:Sg) (x:List Sg):Bool:=match x[posS s x]? with
 | some t=>decide (cx_ t.1 s.1=0)
 | none=>false
theorem sP_ (s:Sg) (x:List Sg):posS s x≤x.length:=(List.takeWhile_sublist _).length_le
theorem dW_ (s t:Sg) (x:List Sg):posS s (t::x)=if cx_ t.1 s.1<0 then posS s x+1 else 0:=by
 rw[posS,List.takeWhile_cons]
 by_cases h:cx_ t.1 s.1<0
 ·rw[if_pos h,if_pos (by simp[h])];rfl
 ·rw[if_neg h,if_neg (by simp[h])];rfl
theorem sO_ (s:Sg):∀ (x:List Sg) (i:Nat) (hi:i<x.length),i<posS s x→cx_ x[i].1 s.1<0
 | t::x,i,hi,h=>by
  rw[dW_] at h
  split at h
  ·rename_i hlt
   cases i with
   | zero=>exact hlt
   | succ i=>exact sO_ s x i (by simpa using hi) (by omega)
  ·omega
theorem sQ_ (s:Sg):∀ {x:List Sg},Cd_ x→∀ (i:Nat) (hi:i<x.length),posS s x≤i→¬ cx_ x[i].1 s.1<0
 | t::x,ha,i,hi,h=>by
  obtain⟨h1,h2⟩:=List.pairwise_cons.1 ha
  rw[dW_] at h
  split at h
  ·rename_i hlt
   cases i with
   | zero=>omega
   | succ i=>exact sQ_ s h2 i (by simpa using hi) (by omega)
  ·rename_i hnl
   cases i with
   | zero=>exact hnl
   | succ i=>exact fun k=>hnl (d4_ (h1 _ (List.getElem_mem (by simpa using hi))) k)
theorem p1_ (s:Sg):∀ x:List Sg,lt_ s x=if isS s x=true then x else x.take (posS s x)++s::x.drop (posS s x)
 | []=>rfl
 | t::x=>by
  have ih:=p1_ s x
  by_cases hlt:cx_ t.1 s.1<0
  ·have e1:isS s (t::x)=isS s x:=by
    unfold isS
    rw[dW_,if_pos hlt,List.getElem?_cons_succ]
   rw[lt_,if_pos hlt,ih,e1,dW_,if_pos hlt]
   split<;>simp
  ·have e0:posS s (t::x)=0:=by rw[dW_,if_neg hlt]
   rw[lt_,if_neg hlt,e0]
   by_cases hz:cx_ t.1 s.1=0
   ·rw[if_pos hz,if_pos (by unfold isS;rw[e0];simp[hz])]
   ·rw[if_neg hz,if_neg (by unfold isS;rw[e0];simp[hz])]
    rfl
theorem t4_ (p q:Sg) (hp:aL_ p) (hq:aL_ q):Fn0 Tryz.prog 70 [sgV p,sgV q] (.v (.int .i64 (cx_ p.1 q.1))):=by
 have h1:=b4_ p
 have h2:=b4_ q
 have l1:=az_ hp
 have l2:=az_ hq
 have hc:=d1_ p.1 q.1 hp.1 hq.1
 refine ac_ (pn:=ao_) aa_ Tryz.func70 rfl fun β0=>?_
 simp only[Tryz.f70]
 simp only[sgV]
 repeat(first|apply wG|(apply wR;simp -dsimp[h1,h2,l1,l2])|refine aI ?_)
 refine And.intro (sgc_oneD hp) ?_
 refine And.intro (sgc_oneD hq) ?_
 repeat(first|apply wG|(apply wR;simp -dsimp[h1,h2,l1,l2])|refine aI ?_)
 refine ad_ iM_ hc rfl rfl (by simp[fD]) ?_
 simp -dsimp
 repeat(first|apply wG|(apply wR;simp -dsimp)|refine aI ?_)
 refine WP.ret (ab_ ?_)
 simp -dsimp
theorem yE_ (x:List Sg) (b:Bool) (h0:0<x.length) (hl:x.length≤1000) (hx:∀ p∈x,aL_ p):Fun Tryz.prog 72 [.d (sgD x b)] [] (.row 0) [(0,.row 63 61 x.length ((sgC x).map .d))] fun _=>False:=by
 refine ac_ (pn:=ao_) aa_ Tryz.func72 rfl fun β0=>?_
 simp only[Tryz.f72]
 repeat(first|apply wG|(apply wR;simp -dsimp)|refine aI ?_)
 refine i4_ aa_ rfl rfl rfl rfl h0 ?_
 simp -dsimp
 repeat(first|apply wG|(apply wR;simp -dsimp)|refine aI ?_)
 refine cF (by simp) ?_
 refine WP.skip ?_
 simp -dsimp
 repeat(first|apply wG|(apply wR;simp -dsimp)|refine aI ?_)
 refine And.intro ⟨sgC_len hx,by omega⟩ ?_
 refine WP.ret (am_ (S':=mkS 8 [(2,.row 0)] [(0,.row 63 61 x.length ((sgC x).map .d))]) (Wk.go [] 7 0 (by decide) (by simp) (by simp) (by simp)) ?_)
 simp -dsimp
theorem yF_:Fn0 Tryz.prog 72 [.v (.slice none 0 0)] (.v (.slice none 0 0)):=by
 refine ac_ (pn:=ao_) aa_ Tryz.func72 rfl fun β0=>?_
 simp only[Tryz.f72]
 repeat(first|apply wG|(apply wR;simp -dsimp)|refine aI ?_)
 refine hE_ aa_ rfl rfl rfl rfl ?_
 simp -dsimp
 repeat(first|apply wG|(apply wR;simp -dsimp)|refine aI ?_)
 refine cT (by simp) ?_
 repeat(first|apply wG|(apply wR;simp -dsimp)|refine aI ?_)
 refine WP.ret (ab_ ?_)
 simp -dsimp
abbrev AM_:D:=.v (.func (.func 70) #[] #[])
abbrev bsS (x:List Sg) (b:Bool) (s:Sg) (i j:Nat):St:=mkS 49 [(0,.d (sgD x b)),(2,.d AM_),(4,.ptr 4 0),(8,.d (.v (.int .i64 x.length))),(9,.d (.v (.int .i64 i))),(10,.d (.v (.int .i64 j)))] [(4,.cells 63 ((sgc s).map .d))]
theorem lN_ (x:List Sg) (b:Bool) (s:Sg) (hl:x.length≤1000) (hx:∀ p∈x,aL_ p) (hs:aL_ s) (ha:Cd_ x):Fn0 Tryz.prog 69 [sgD x b,sgV s,AM_] (.tup [.v (.int .i64 (posS s x)),.v (.bool (isS s x))]):=by
 have l2:=az_ hs
 have hp:=sP_ s x
 refine ac_ (pn:=ao_) aa_ Tryz.func69 rfl fun β0=>?_
 simp only[Tryz.f69]
 simp only[sgV]
 repeat(first|apply wG|(apply wR;simp -dsimp[l2])|refine aI ?_)
 refine And.intro (sgc_oneD hs) ?_
 repeat(first|apply wG|(apply wR;simp -dsimp[l2])|refine aI ?_)
 refine ak_ (fun n S=>∃ i j,n=j-i∧i≤posS s x∧posS s x≤j∧j≤x.length∧S=bsS x b s i j) x.length (S0:=bsS x b s 0 x.length) (ae_ [] (by simp) (by simp)) ⟨0,x.length,rfl,by omega,hp,by omega,rfl⟩ ?_
 rintro _ _ ⟨i,j,rfl,hi,hj,hjl,rfl⟩
 simp -dsimp
 repeat(first|apply wG|(apply wR;simp -dsimp)|refine aI ?_)
 by_cases hij:i<j
 ·refine cT (by simp;omega) ?_
  refine WP.skip ?_
  obtain⟨h,hh⟩:∃ h,h=(i+j)/2:=⟨_,rfl⟩
  have hhx:h<x.length:=by omega
  have e0:IntKind.i64.wrap ((IntKind.u64.wrap (IntKind.i64.wrap ((i:Int)+j))).fdiv (2^shN IntKind.u64 1))=(h:Int):=by
   rw[IntWalk.i64_in ((i:Int)+j) (by omega),IntWalk.u64_in _ (by omega),show shN IntKind.u64 1=1 from rfl,Int.fdiv_eq_ediv_of_nonneg _ (by decide),IntWalk.i64_in _ (by omega)]
   omega
  have e1:IntKind.i64.wrap ((h:Int)+1)=((h+1:Nat):Int):=by rw[IntWalk.i64_in _ (by omega)];omega
  have hat:=bl_ hhx hx
  have hok:=hx x[h] (List.getElem_mem hhx)
  have lx:=az_ hok
  have lc:=sgC_len hx
  have hmin:61≤(sgC x).length-h*61:=by omega
  simp -dsimp
  have ht:=er_ hok
  have hts:=dQ_ hs
  repeat(first|apply wG|(apply wR;simp -dsimp[e0,hat,l2,ht,hts])|refine aI ?_)
  refine af_ iI_ (t4_ x[h] s hok hs) rfl rfl (by simp[sgV]) ?_
  simp -dsimp
  repeat(first|apply wG|(apply wR;simp -dsimp)|refine aI ?_)
  by_cases hlt:cx_ x[h].1 s.1<0
  ·have hps:h<posS s x:=by
    rcases Nat.lt_or_ge h (posS s x) with k|k
    ·exact k
    ·exact absurd hlt (sQ_ s ha h hhx k)
   refine cT (by simp[hlt]) ?_
   repeat(first|apply wG|(apply wR;simp -dsimp)|refine aI ?_)
   refine loopW.next (bsS x b s (h+1) j) (ae_ [] (by simp[e1]) (by simp)) (j-(h+1)) (by omega) ⟨h+1,j,rfl,by omega,by omega,by omega,rfl⟩
  ·have hps:posS s x≤h:=by
    rcases Nat.lt_or_ge h (posS s x) with k|k
    ·exact absurd (sO_ s x h hhx k) hlt
    ·exact k
   refine cF (by simp[hlt]) ?_
   repeat(first|apply wG|(apply wR;simp -dsimp)|refine aI ?_)
   refine loopW.next (bsS x b s i h) (ae_ [] (by simp) (by simp)) (h-i) (by omega) ⟨i,h,rfl,by omega,by omega,by omega,rfl⟩
 ·have hie:i=posS s x:=by omega
  have lc:=sgC_len hx
  refine cF (by simp;omega) ?_
  refine WP.exit ?_
  simp -dsimp
  by_cases hil:i<x.length
  ·have hat:=bl_ hil hx
   have hok:=hx x[i] (List.getElem_mem hil)
   have lx:=az_ hok
   have ht:=er_ hok
   have hts:=dQ_ hs
   have hiS:isS s x=decide (cx_ x[i].1 s.1=0):=by
    unfold isS
    rw[← hie,List.getElem?_eq_getElem hil]
   repeat(first|apply wG|(apply wR;simp -dsimp[hat,l2,hil,ht,hts])|refine aI ?_)
   refine av_ iI_ (fun _=>t4_ x[i] s hok hs) rfl (fun _=>rfl) (fun _=>by simp[sgV]) ?_
   simp -dsimp
   repeat(first|apply wG|(apply wR;simp -dsimp)|refine aI ?_)
   refine WP.ret (ab_ ?_)
   simp -dsimp[hiS,hie]
  ·have hiS:isS s x=false:=by
    unfold isS
    rw[← hie,List.getElem?_eq_none (by omega)]
   repeat(first|apply wG|(apply wR;simp -dsimp[hil])|refine aI ?_)
   refine vcStopG.skip (.d (.v (.int .i64 0))) ?_
   simp -dsimp
   repeat(first|apply wG|(apply wR;simp -dsimp)|refine aI ?_)
   refine WP.ret (ab_ ?_)
   simp -dsimp[hiS,hie]
/-! ### places as keys -/
def FP:List TypeId:=[3,136]
theorem EP_:gOk aj_ FP=true:=by decide
theorem z4_:FP.all (fun t=>g8_ (aj_ t))=true:=by decide
theorem Ak_:ry_ aj_ 3 136 55=true:=by decide
theorem oA_:Tryz.prog.keyTypeAt 5 136=true:=by kernel_rfl
theorem n0_ {r:Int×Int} (h1:isI r.1) (h2:isI r.2):∃ l,keyOf Tryz.prog 136 (cC_ r)=some l:=by
 have h:∀ i,isI ((fun i=>if i=55 then r.1 else if i=56 then r.2 else 0:Nat→Int) i):=fun i=>by
  dsimp only
  split
  ·exact h1
  ·split
   ·exact h2
   ·exact vy_
 obtain⟨n,hn,h3⟩:∃ n,n=Tryz.prog.types.size+1∧3≤n:=⟨_,rfl,by rw[nty];decide⟩
 have ok:OkD aj_ n 136 [.v (.int .i64 r.1),.v (.int .i64 r.2)]:=pU_ 3 n 136 _ h3 (qn_ h 3 136 55 Ak_)
 have hl:=bI_ (w:=(default:World)) (I:=fun _=>False) aa_ EP_ z4_ n 136 5 _ [.int .i64 r.1,.int .i64 r.2] oA_ (by decide) ok ⟨_,_,rfl,rfl,_,_,rfl,rfl,rfl⟩
 rw[hn] at hl
 have hk:Tryz.prog.keyType 136=true:=by kernel_rfl
 have hf:(cC_ r).formed Tryz.prog 136=true:=by
  unfold cC_ Value.formed
  rw[Tryz.underlying136]
  have:Tryz.prog.cellsOf 136=2:=by kernel_rfl
  simp[this]
 have hc:(cC_ r).cells.toList=[.int .i64 r.1,.int .i64 r.2]:=rfl
 simp only[keyOf,Tryz.underlying136,hk,hf,Bool.and_self,if_true,hc,hl,Option.map_some]
 exact⟨_,rfl⟩
theorem bP_:Maps.Keyed Tryz.prog 136:=Maps.Keyed.of_law (deep_law_gate laidOut (by rw[nty];decide) (Nat.lt_of_lt_of_eq (by decide) nty.symm) (by kernel_rfl) (by rw[Tryz.underlying136]))
/-! ### the shelf -/
def g7_ (l:List Sg):List R2:=(nA_ l).foldl a0_ []
theorem hY_ (l:List Sg) (s:Sg) (hv:vS2 s=true):g7_ (l++[s])=a0_ (g7_ l) (refS s):=by
 rw[g7_,nA_,List.filter_append,List.map_append,List.foldl_append]
 simp[hv]
 rfl
theorem kz_:∀ (q a:List R2),a.Nodup→(q.foldl a0_ a).Nodup∧∀ r,r∈q.foldl a0_ a↔r∈a∨r∈q
 | [],a,h=>⟨h,fun r=>by simp⟩
 | x::q,a,h=>by
  obtain⟨h1,h2⟩:=kz_ q (a0_ a x) (gE_ h)
  refine⟨h1,fun r=>?_⟩
  rw[List.foldl_cons,h2,addRef_in,List.mem_cons]
  constructor
  ·rintro ((h|h)|h)
   ·exact .inl h
   ·exact .inr (.inl h)
   ·exact .inr (.inr h)
  ·rintro (h|h|h)
   ·exact .inl (.inl h)
   ·exact .inl (.inr h)
   ·exact .inr h
theorem hZ_ {l:List Sg} {r:R2}:r∈g7_ l↔∃ s∈l,vS2 s=true∧refS s=r:=by
 rw[g7_,(kz_ (nA_ l) [] List.nodup_nil).2,nA_,List.mem_map]
 simp only[List.mem_filter]
 constructor
 ·rintro (h|⟨s,⟨h1,h2⟩,h3⟩)
  ·cases h
  ·exact⟨s,h1,h2,h3⟩
 ·rintro⟨s,h1,h2,h3⟩;exact .inr ⟨s,⟨h1,h2⟩,h3⟩
theorem jI_ (l:List Sg):(g7_ l).Nodup:=(kz_ (nA_ l) [] List.nodup_nil).1
def shE (l:List Sg) (r:R2):Value×D:=(cC_ r,.sl 61 (sgC (shlf r l)) (shlf r l).length false)
def shM (l:List Sg):List (Value×D):=(g7_ l).map (shE l)
theorem st_ {l:List Sg} {p:Value×D} (h:p∈shM l):∃ r∈g7_ l,p=shE l r:=by
 obtain⟨r,hr,e⟩:=List.mem_map.1 h
 exact⟨r,hr,e.symm⟩
theorem jz_ {l:List Sg} {s:Sg} {r:R2} (h:refS s≠r):shlf r (l++[s])=shlf r l:=by rw[fl_,nY_,if_neg fun k=>h k.2]
theorem hN_ {l:List Sg} {s:Sg} (hv:vS2 s=true):shlf (refS s) (l++[s])=lt_ s (shlf (refS s) l):=by rw[fl_,nY_,if_pos ⟨hv,rfl⟩]
theorem pA_ {l:List Sg} (hl:∀ s∈l,fOk s.1):c8_ Tryz.prog 136 (shM l):=fun p hp=>by
 obtain⟨r,hr,rfl⟩:=st_ hp
 obtain⟨s,hs,_,rfl⟩:=hZ_.1 hr
 exact n0_ ((hl s hs).1 0) ((hl s hs).1 1)
theorem hO_ {l:List Sg} {s:Sg} {a:List R2} (h:refS s∉a):a.map (shE (l++[s]))=a.map (shE l) :=
 List.map_congr_left fun r hr=>by rw[shE,shE,jz_ fun e=>h (e▸hr)]
theorem xA_ {l:List Sg} {s:Sg} (hv:vS2 s=true) (hr:refS s∉g7_ l):shlf (refS s) l=[]∧jt_ (shM l) (cC_ (refS s)) (.v (.slice none 0 0)) (.v (.slice none 0 0))∧iU_ (shM l) (cC_ (refS s)) (.sl 61 (sgC [s]) 1 false) (shM (l++[s])):=by
 have he:shlf (refS s) l=[]:=by
  unfold shlf
  have:∀ (m a:List Sg),(∀ t∈m,vS2 t=true→refS t≠refS s)→m.foldl (nY_ (refS s)) a=a:=by
   intro m
   induction m with
   | nil=>intro a _;rfl
   | cons t m ih =>
    intro a h
    rw[List.foldl_cons,nY_,if_neg fun k=>h t (by simp) k.1 k.2]
    exact ih a fun u hu=>h u (by simp[hu])
  exact this l [] fun t ht h1 h2=>hr (hZ_.2 ⟨t,ht,h1,h2⟩)
 have hno:∀ p∈shM l,p.1≠cC_ (refS s):=fun p hp e=>by
  obtain⟨r,hr2,rfl⟩:=st_ hp
  exact hr (km_ (show cC_ r=cC_ (refS s) from e)▸hr2)
 refine⟨he,.inr ⟨hno,rfl⟩,.inr ⟨hno,?_⟩⟩
 rw[shM,hY_ l s hv,a0_,if_neg hr,List.map_append,hO_ hr]
 rw[List.map_cons,List.map_nil,shE,hN_ hv,he]
 rfl
theorem xz_ {l:List Sg} {s:Sg} (hv:vS2 s=true) (hr:refS s∈g7_ l):jt_ (shM l) (cC_ (refS s)) (.v (.slice none 0 0)) (.sl 61 (sgC (shlf (refS s) l)) (shlf (refS s) l).length false) ∧
  iU_ (shM l) (cC_ (refS s)) (.sl 61 (sgC (lt_ s (shlf (refS s) l))) (lt_ s (shlf (refS s) l)).length false) (shM (l++[s])):=by
 obtain⟨a,b,e⟩:=List.append_of_mem hr
 have hnd:=jI_ l
 rw[e] at hnd
 have ha:refS s∉a:=fun h=>(List.nodup_append.1 hnd).2.2 _ h _ (by simp) rfl
 have hb:refS s∉b:=(List.nodup_cons.1 (List.nodup_append.1 hnd).2.1).1
 have e1:shM l=a.map (shE l)++shE l (refS s)::b.map (shE l):=by rw[shM,e];simp
 refine⟨.inl ⟨_,_,e1⟩,.inl ⟨a.map (shE l),(shE l (refS s)).2,b.map (shE l),e1,?_⟩⟩
 rw[shM,hY_ l s hv,a0_,if_pos hr,e,List.map_append,List.map_cons,hO_ ha,hO_ hb]
 rw[shE,hN_ hv]
theorem u0_ {l:List Sg} {s:Sg} (hv:vS2 s=true) (hr:refS s∈g7_ l) (hi:lt_ s (shlf (refS s) l)=shlf (refS s) l):shM (l++[s])=shM l:=by
 rw[shM,hY_ l s hv,a0_,if_pos hr,shM]
 refine List.map_congr_left fun r hr2=>?_
 rw[shE,shE]
 by_cases h:refS s=r
 ·subst h;rw[hN_ hv,hi]
 ·rw[jz_ h]
/-! ### put -/
theorem rh_ (f:F):Fn0 Tryz.prog 68 [fD f] (.agg [.v (.int .i64 (f 0)),.v (.int .i64 (f 1))]):=by
 refine ac_ (pn:=ao_) aa_ Tryz.func68 rfl fun β0=>?_
 simp only[Tryz.f68]
 rw[fD]
 repeat(first|apply wG|(apply wR;simp -dsimp)|refine aI ?_)
 refine WP.ret (ab_ ?_)
 simp -dsimp
theorem p2_ (s:Sg):∀ l:List Sg,(lt_ s l).length≤l.length+1
 | []=>Nat.le_refl _
 | t::l=>by
  have:=p2_ s l
  rw[lt_]
  split
  ·simp;omega
  ·split<;>simp
theorem uY_ (r:R2) (l:List Sg):(shlf r l).length≤l.length:=by
 have key:∀ (l a:List Sg),(l.foldl (nY_ r) a).length≤a.length+l.length:=by
  intro l
  induction l with
  | nil=>intro a;simp
  | cons s l ih =>
   intro a
   have h1:=ih (nY_ r a s)
   have h2:(nY_ r a s).length≤a.length+1:=by
    unfold nY_
    split
    ·exact p2_ s a
    ·omega
   rw[List.foldl_cons,List.length_cons];omega
 have:=key l []
 simpa [shlf] using this
theorem he_ {x:List Sg} (h:∀ q∈x,aL_ q) {i:Nat} (hi:i≤x.length):(sgC x).take (i*61)=sgC (x.take i)∧(sgC x).drop (i*61)=sgC (x.drop i):=by
 have e:sgC x=sgC (x.take i)++sgC (x.drop i):=by rw[← a2_,List.take_append_drop]
 have hl:(sgC (x.take i)).length=i*61:=by rw[sgC_len fun q hq=>h q (List.mem_of_mem_take hq),List.length_take,Nat.min_eq_left hi]
 rw[e,← hl]
 exact⟨List.take_left,List.drop_left⟩
theorem xE_ {x:List Sg} {s:Sg} (h:∀ q∈x,aL_ q) {i:Nat} (hi:i≤x.length):sgC (x.take i++s::x.drop i)=p5_ i (sgC x) (sgc s):=by
 obtain⟨h1,h2⟩:=he_ h hi
 rw[p5_,h1,h2,a2_,List.append_assoc]
 rfl
theorem uX_ (l:List Sg) (s:Sg) (hl:∀ p∈l,aL_ p) (hs:aL_ s) (hv:vS2 s=true) (hn:l.length≤900) :
  Fun Tryz.prog 45 [.row 1000,.d (sgV s)] [(1000,.mp (shM l))] (.d .any) [(1000,.mp (shM (l++[s])))] fun _=>False:=by
 have hfo:∀ p∈l,fOk p.1:=fun p hp=>(hl p hp).1
 obtain⟨hasc,hin⟩:=dP_ (refS s) l hfo
 have hks:=pA_ hfo
 obtain⟨lk,hlk⟩:=n0_ (r:=refS s) (hs.1.1 0) (hs.1.1 1)
 have l2:=az_ hs
 have h57:=b4_ s
 have hts:=dQ_ hs
 refine ac_ (pn:=ao_) aa_ Tryz.func45 rfl fun β0=>?_
 simp only[Tryz.f45]
 simp only[sgV]
 repeat(first|apply wG|(apply wR;simp -dsimp[l2,hts])|refine aI ?_)
 refine And.intro (sgc_oneD hs) ?_
 repeat(first|apply wG|(apply wR;simp -dsimp[l2,h57,hts])|refine aI ?_)
 refine ad_ oQ_ (rh_ s.1) rfl rfl (by simp[fD]) ?_
 simp -dsimp
 repeat(first|apply wG|(apply wR;simp -dsimp)|refine aI ?_)
 by_cases hr:refS s∈g7_ l
 ·obtain⟨hget,hput⟩:=xz_ hv hr
  have hst:=u0_ (l:=l) hv hr
  have hpo:=p1_ s (shlf (refS s) l)
  have hxk:∀ p∈shlf (refS s) l,aL_ p:=fun p hp=>hl p (bd_ ((hin p).1 hp).1)
  have hx0:0<(shlf (refS s) l).length:=by
   obtain⟨t,ht,h1,h2⟩:=hZ_.1 hr
   obtain⟨u,hu,hu2⟩:=kZ_ ht h1
   exact List.length_pos_of_mem ((hin u).2 ⟨hu,by rw[refS,hu2];exact h2⟩)
  have hxl:(shlf (refS s) l).length≤900:=Nat.le_trans (uY_ _ _) hn
  generalize shlf (refS s) l=x at hasc hget hput hst hpo hxk hx0 hxl
  refine aK_ aa_ rfl rfl bP_ Tryz.zeroValue23 (j:=1000) rfl (kvs:=shM l) rfl (key:=cC_ (refS s)) (b1_ _ _) (.sl 61 (sgC x) x.length false) hlk hks hget ?_
  simp -dsimp
  repeat(first|apply wG|(apply wR;simp -dsimp[l2,hts])|refine aI ?_)
  refine af_ iJ_ (lN_ x false s (by omega) hxk hs hasc) rfl rfl (by simp[sgV,hts]) ?_
  simp -dsimp
  repeat(first|apply wG|(apply wR;simp -dsimp)|refine aI ?_)
  have hpl:=sP_ s x
  cases hi:isS s x with
  | true =>
   rw[if_pos hi] at hpo
   rw[hst hpo]
   refine cF (by simp[hi]) ?_
   refine WP.skip ?_
   refine be_ ?_
   simp -dsimp
  | false =>
   rw[if_neg (by simp[hi])] at hpo
   have hput2:iU_ (shM l) (cC_ (refS s)) (.sl 61 (p5_ (posS s x) (sgC x) (sgc s)) (x.length+1) false) (shM (l++[s])):=by
    have e1:sgC (lt_ s x)=p5_ (posS s x) (sgC x) (sgc s):=by rw[hpo,xE_ hxk hpl]
    have e2:(lt_ s x).length=x.length+1:=by rw[hpo];simp;omega
    rw[e1,e2] at hput
    exact hput
   refine cT (by simp[hi]) ?_
   repeat(first|apply wG|(apply wR;simp -dsimp)|refine aI ?_)
   refine aK_ aa_ rfl rfl bP_ Tryz.zeroValue23 (j:=1000) rfl (kvs:=shM l) rfl (key:=cC_ (refS s)) (b1_ _ _) (.sl 61 (sgC x) x.length false) hlk hks hget ?_
   simp -dsimp[l2,hts]
   refine vcStop.call iG_ (yE_ x false hx0 (by omega) hxk) (rl [(0,600)]) rfl rfl (by simp[BoxLeq]) (ai_ (by simp[BoxLeq]) rfl (by first|rfl|(simp[BoxLeq];done)) (by simp[BoxLeq]) (by simp[BoxLeq])) (fun _ h=>h.elim) (fun ⟨_,h⟩=>h.elim) (fun ⟨_,h⟩=>h.elim) (by simp[BoxLeq]) ?_
   simp -dsimp[l2,hts]
   repeat(first|apply wG|(apply wR;simp -dsimp[l2,hts])|refine aI ?_)
   refine And.intro (sgc_oneD hs) ?_
   refine vcStop.call iH_ (jM_ x.length (posS s x) (sgC x) (sgc s) (sgC_len hxk) l2 hpl (by omega)) (rl [(1000,600),(1001,28),(0,700)]) rfl rfl (by simp[BoxLeq]) (ai_ (by simp[BoxLeq]) rfl (by first|rfl|(simp[BoxLeq];done)) (by simp[BoxLeq]) (by simp[BoxLeq])) (fun _ h=>h.elim) (fun ⟨_,h⟩=>h.elim) (fun ⟨_,h⟩=>h.elim) (by simp[BoxLeq]) ?_
   simp -dsimp
   refine dG_ aa_ rfl rfl bP_ (j:=1000) rfl (kvs:=shM l) (shM (l++[s])) rfl (key:=cC_ (refS s)) (b1_ _ _) (k:=700) (by decide) rfl rfl hlk hks hput2 ?_
   simp -dsimp
   repeat(first|apply wG|(apply wR;simp -dsimp)|refine aI ?_)
   refine be_ ?_
   simp -dsimp
 ·obtain⟨he,hget,hput⟩:=xA_ hv hr
  refine aK_ aa_ rfl rfl bP_ Tryz.zeroValue23 (j:=1000) rfl (kvs:=shM l) rfl (key:=cC_ (refS s)) (b1_ _ _) (.v (.slice none 0 0)) hlk hks hget ?_
  simp -dsimp
  repeat(first|apply wG|(apply wR;simp -dsimp[l2,hts])|refine aI ?_)
  refine af_ iJ_ (lN_ [] false s (by simp) (by simp) hs List.Pairwise.nil) rfl rfl (by simp[sgV,sgC,hts]) ?_
  simp -dsimp
  repeat(first|apply wG|(apply wR;simp -dsimp)|refine aI ?_)
  refine cT (by rfl) ?_
  repeat(first|apply wG|(apply wR;simp -dsimp)|refine aI ?_)
  refine aK_ aa_ rfl rfl bP_ Tryz.zeroValue23 (j:=1000) rfl (kvs:=shM l) rfl (key:=cC_ (refS s)) (b1_ _ _) (.v (.slice none 0 0)) hlk hks hget ?_
  simp -dsimp
  refine ad_ iG_ yF_ rfl rfl (by simp) ?_
  simp -dsimp[l2,hts]
  have hp0:posS s []=0:=rfl
  refine And.intro (sgc_oneD hs) ?_
  rw[hp0]
  have hins:=eq_ (jM_ 0 0 [] (sgc s) rfl l2 (by omega) (by omega)) rfl (by simp) (by simp) rfl
  refine vcStop.call iH_ (hins) (rl [(1001,28),(0,700)]) rfl rfl (by simp[BoxLeq]) (ai_ (by simp[BoxLeq]) rfl (by first|rfl|(simp[BoxLeq];done)) (by simp[BoxLeq]) (by simp[BoxLeq])) (fun _ h=>h.elim) (fun ⟨_,h⟩=>h.elim) (fun ⟨_,h⟩=>h.elim) (by simp[BoxLeq]) ?_
  simp -dsimp
  refine dG_ aa_ rfl rfl bP_ (j:=1000) rfl (kvs:=shM l) (shM (l++[s])) rfl (key:=cC_ (refS s)) (b1_ _ _) (k:=700) (by decide) rfl rfl hlk hks hput ?_
  simp -dsimp
  repeat(first|apply wG|(apply wR;simp -dsimp)|refine aI ?_)
  refine be_ ?_
  simp -dsimp
end Go.Proofs.YtdjkbdhdejlakaaGreatDoor
