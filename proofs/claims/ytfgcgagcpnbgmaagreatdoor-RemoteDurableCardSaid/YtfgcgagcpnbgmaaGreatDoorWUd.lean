/-
  Joined texts.
-/
import Derived.Test.YtfgcgagcpnbgmaaGreatDoorWJx
import Derived.Test.YtfgcgagcpnbgmaaGreatDoorWJk
set_option linter.unusedVariables false
set_option linter.unusedSimpArgs false
set_option linter.unusedSectionVars false
namespace Go.Proofs.YtfgcgagcpnbgmaaGreatDoor
open Go.Xe Go.RowKit
/-! ### places as keys -/
def FP:List TypeId:=[3,198]
theorem Ee_:gOk ag_ FP=true:=by decide
theorem zy_:FP.all (fun t=>gK_ (ag_ t))=true:=by decide
theorem zS_:rf_ ag_ 3 198 55=true:=by decide
theorem nY_:Tryz.prog.keyTypeAt 5 198=true:=by kernel_rfl
theorem nu_ {r:Int×Int} (h1:isI r.1) (h2:isI r.2):∃ l,keyOf Tryz.prog 198 (eO_ r)=some l:=by
 have h:∀ i,isI ((fun i=>if i=55 then r.1 else if i=56 then r.2 else 0:Nat→Int) i):=fun i=>by
  dsimp only
  split
  ·exact h1
  ·split
   ·exact h2
   ·exact sG_
 obtain⟨n,hn,h3⟩:∃ n,n=Tryz.prog.types.size+1∧3≤n:=⟨_,rfl,by rw[nty];decide⟩
 have ok:OkD ag_ n 198 [.v (.int .i64 r.1),.v (.int .i64 r.2)]:=v7_ 3 n 198 _ h3 (wc_ h 3 198 55 zS_)
 have hl:=cT_ (w:=(default:World)) (I:=fun _=>False) aa_ Ee_ zy_ n 198 5 _ [.int .i64 r.1,.int .i64 r.2] nY_ (by decide) ok ⟨_,_,rfl,rfl,_,_,rfl,rfl,rfl⟩
 rw[hn] at hl
 have hk:Tryz.prog.keyType 198=true:=by kernel_rfl
 have hf:(eO_ r).formed Tryz.prog 198=true:=by
  unfold eO_ Value.formed
  rw[Tryz.underlying198]
  have:Tryz.prog.cellsOf 198=2:=by kernel_rfl
  simp[this]
 have hc:(eO_ r).cells.toList=[.int .i64 r.1,.int .i64 r.2]:=rfl
 simp only[keyOf,Tryz.underlying198,hk,hf,Bool.and_self,if_true,hc,hl,Option.map_some]
 exact⟨_,rfl⟩
theorem bT_:Maps.Keyed Tryz.prog 198:=Maps.Keyed.of_law (deep_law_gate laidOut (by rw[nty];decide) (Nat.lt_of_lt_of_eq (by decide) nty.symm) (by kernel_rfl) (by rw[Tryz.underlying198]))
/-! ### the shelf -/
def gJ_ (l:List Sg):List R2:=(rc_ l).foldl b4_ []
theorem hN_ (l:List Sg) (s:Sg) (hv:vS2 s=true):gJ_ (l++[s])=b4_ (gJ_ l) (refS s):=by
 rw[gJ_,rc_,List.filter_append,List.map_append,List.foldl_append]
 simp[hv]
 rfl
theorem nt_:∀ (q a:List R2),a.Nodup→(q.foldl b4_ a).Nodup∧∀ r,r∈q.foldl b4_ a↔r∈a∨r∈q
 | [],a,h=>⟨h,fun r=>by simp⟩
 | x::q,a,h=>by
  obtain⟨h1,h2⟩:=nt_ q (b4_ a x) (lZ_ h)
  refine⟨h1,fun r=>?_⟩
  rw[List.foldl_cons,h2,tD_,List.mem_cons]
  constructor
  ·rintro ((h|h)|h)
   ·exact .inl h
   ·exact .inr (.inl h)
   ·exact .inr (.inr h)
  ·rintro (h|h|h)
   ·exact .inl (.inl h)
   ·exact .inl (.inr h)
   ·exact .inr h
theorem hO_ {l:List Sg} {r:R2}:r∈gJ_ l↔∃ s∈l,vS2 s=true∧refS s=r:=by
 rw[gJ_,(nt_ (rc_ l) [] List.nodup_nil).2,rc_,List.mem_map]
 simp only[List.mem_filter]
 constructor
 ·rintro (h|⟨s,⟨h1,h2⟩,h3⟩)
  ·cases h
  ·exact⟨s,h1,h2,h3⟩
 ·rintro⟨s,h1,h2,h3⟩;exact .inr ⟨s,⟨h1,h2⟩,h3⟩
theorem ja_ (l:List Sg):(gJ_ l).Nodup:=(nt_ (rc_ l) [] List.nodup_nil).1
def shE (l:List Sg) (r:R2):Value×D:=(eO_ r,.sl 61 (sgC (shlf r l)) (shlf r l).length false)
def shM (l:List Sg):List (Value×D):=(gJ_ l).map (shE l)
theorem rE_ {l:List Sg} {p:Value×D} (h:p∈shM l):∃ r∈gJ_ l,p=shE l r:=by
 obtain⟨r,hr,e⟩:=List.mem_map.1 h
 exact⟨r,hr,e.symm⟩
theorem i3_ {l:List Sg} {s:Sg} {r:R2} (h:refS s≠r):shlf r (l++[s])=shlf r l:=by rw[eL_,ra_,if_neg fun k=>h k.2]
theorem hC_ {l:List Sg} {s:Sg} (hv:vS2 s=true):shlf (refS s) (l++[s])=k1_ s (shlf (refS s) l):=by rw[eL_,ra_,if_pos ⟨hv,rfl⟩]
theorem oH_ {l:List Sg} (hl:∀ s∈l,fOk s.1):iD_ Tryz.prog 198 (shM l):=fun p hp=>by
 obtain⟨r,hr,rfl⟩:=rE_ hp
 obtain⟨s,hs,_,rfl⟩:=hO_.1 hr
 exact nu_ ((hl s hs).1 0) ((hl s hs).1 1)
theorem hD_ {l:List Sg} {s:Sg} {a:List R2} (h:refS s∉a):a.map (shE (l++[s]))=a.map (shE l) :=
 List.map_congr_left fun r hr=>by rw[shE,shE,i3_ fun e=>h (e▸hr)]
theorem wK_ {l:List Sg} {s:Sg} (hv:vS2 s=true) (hr:refS s∉gJ_ l):shlf (refS s) l=[]∧q9_ (shM l) (eO_ (refS s)) (.v (.slice none 0 0)) (.v (.slice none 0 0))∧q6_ (shM l) (eO_ (refS s)) (.sl 61 (sgC [s]) 1 false) (shM (l++[s])):=by
 have he:shlf (refS s) l=[]:=by
  unfold shlf
  have:∀ (m a:List Sg),(∀ t∈m,vS2 t=true→refS t≠refS s)→m.foldl (ra_ (refS s)) a=a:=by
   intro m
   induction m with
   | nil=>intro a _;rfl
   | cons t m ih =>
    intro a h
    rw[List.foldl_cons,ra_,if_neg fun k=>h t (by simp) k.1 k.2]
    exact ih a fun u hu=>h u (by simp[hu])
  exact this l [] fun t ht h1 h2=>hr (hO_.2 ⟨t,ht,h1,h2⟩)
 have hno:∀ p∈shM l,p.1≠eO_ (refS s):=fun p hp e=>by
  obtain⟨r,hr2,rfl⟩:=rE_ hp
  exact hr (uw_ (show eO_ r=eO_ (refS s) from e)▸hr2)
 refine⟨he,.inr ⟨hno,rfl⟩,.inr ⟨hno,?_⟩⟩
 rw[shM,hN_ l s hv,b4_,if_neg hr,List.map_append,hD_ hr]
 rw[List.map_cons,List.map_nil,shE,hC_ hv,he]
 rfl
theorem wJ_ {l:List Sg} {s:Sg} (hv:vS2 s=true) (hr:refS s∈gJ_ l):q9_ (shM l) (eO_ (refS s)) (.v (.slice none 0 0)) (.sl 61 (sgC (shlf (refS s) l)) (shlf (refS s) l).length false) ∧
  q6_ (shM l) (eO_ (refS s)) (.sl 61 (sgC (k1_ s (shlf (refS s) l))) (k1_ s (shlf (refS s) l)).length false) (shM (l++[s])):=by
 obtain⟨a,b,e⟩:=List.append_of_mem hr
 have hnd:=ja_ l
 rw[e] at hnd
 have ha:refS s∉a:=fun h=>(List.nodup_append.1 hnd).2.2 _ h _ (by simp) rfl
 have hb:refS s∉b:=(List.nodup_cons.1 (List.nodup_append.1 hnd).2.1).1
 have e1:shM l=a.map (shE l)++shE l (refS s)::b.map (shE l):=by rw[shM,e];simp
 refine⟨.inl ⟨_,_,e1⟩,.inl ⟨a.map (shE l),(shE l (refS s)).2,b.map (shE l),e1,?_⟩⟩
 rw[shM,hN_ l s hv,b4_,if_pos hr,e,List.map_append,List.map_cons,hD_ ha,hD_ hb]
 rw[shE,hC_ hv]
theorem um_ {l:List Sg} {s:Sg} (hv:vS2 s=true) (hr:refS s∈gJ_ l) (hi:k1_ s (shlf (refS s) l)=shlf (refS s) l):shM (l++[s])=shM l:=by
 rw[shM,hN_ l s hv,b4_,if_pos hr,shM]
 refine List.map_congr_left fun r hr2=>?_
 rw[shE,shE]
 by_cases h:refS s=r
 ·subst h;rw[hC_ hv,hi]
 ·rw[i3_ h]
/-! ### put -/
theorem qs_ (f:F):Fn0 Tryz.prog 132 [fD f] (.agg [.v (.int .i64 (f 0)),.v (.int .i64 (f 1))]):=by
 refine ad_ (pn:=ap_) aa_ Tryz.func132 rfl fun β0=>?_
 simp only[Tryz.f132]
 rw[fD]
 repeat(first|apply wG|(apply wR;simp -dsimp)|refine aI ?_)
 refine WP.ret (ac_ ?_)
 simp -dsimp
end Go.Proofs.YtfgcgagcpnbgmaaGreatDoor
set_option linter.unusedVariables false
set_option linter.unusedSimpArgs false
set_option linter.unusedSectionVars false
namespace Go.Proofs.YtfgcgagcpnbgmaaGreatDoor
open Go.Xe Go.RowKit
theorem pj_ (s:Sg):∀ l:List Sg,(k1_ s l).length≤l.length+1
 | []=>Nat.le_refl _
 | t::l=>by
  have:=pj_ s l
  rw[k1_]
  split
  ·simp;omega
  ·split<;>simp
theorem uk_ (r:R2) (l:List Sg):(shlf r l).length≤l.length:=by
 have key:∀ (l a:List Sg),(l.foldl (ra_ r) a).length≤a.length+l.length:=by
  intro l
  induction l with
  | nil=>intro a;simp
  | cons s l ih =>
   intro a
   have h1:=ih (ra_ r a s)
   have h2:(ra_ r a s).length≤a.length+1:=by
    unfold ra_
    split
    ·exact pj_ s a
    ·omega
   rw[List.foldl_cons,List.length_cons];omega
 have:=key l []
 simpa [shlf] using this
theorem oL_ {x:List Sg} (h:∀ q∈x,b2_ q) {i:Nat} (hi:i≤x.length):(sgC x).take (i*61)=sgC (x.take i)∧(sgC x).drop (i*61)=sgC (x.drop i):=by
 have e:sgC x=sgC (x.take i)++sgC (x.drop i):=by rw[← sgC_append,List.take_append_drop]
 have hl:(sgC (x.take i)).length=i*61:=by rw[sgC_len fun q hq=>h q (List.mem_of_mem_take hq),List.length_take,Nat.min_eq_left hi]
 rw[e,← hl]
 exact⟨List.take_left,List.drop_left⟩
theorem wQ_ {x:List Sg} {s:Sg} (h:∀ q∈x,b2_ q) {i:Nat} (hi:i≤x.length):sgC (x.take i++s::x.drop i)=pm_ i (sgC x) (sgc s):=by
 obtain⟨h1,h2⟩:=oL_ h hi
 rw[pm_,h1,h2,sgC_append,List.append_assoc]
 rfl
set_option maxRecDepth 10000 in
theorem uj_ (l:List Sg) (s:Sg) (hl:∀ p∈l,b2_ p) (hs:b2_ s) (hv:vS2 s=true) (hn:l.length≤900) :
  Fun Tryz.prog 78 [.row 1000,.d (sgV s)] [(1000,.mp (shM l))] (.d .any) [(1000,.mp (shM (l++[s])))] fun _=>False:=by
 have hfo:∀ p∈l,fOk p.1:=fun p hp=>(hl p hp).1
 obtain⟨hasc,hin⟩:=m9_ (refS s) l hfo
 have hks:=oH_ hfo
 obtain⟨lk,hlk⟩:=nu_ (r:=refS s) (hs.1.1 0) (hs.1.1 1)
 have l2:=aO_ hs
 have h57:=fW_ s
 have hts:=d7_ hs
 refine ad_ (pn:=ap_) aa_ Tryz.func78 rfl fun β0=>?_
 simp only[Tryz.f78]
 simp only[sgV]
 repeat(first|apply wG|(apply wR;simp -dsimp[l2,hts])|refine aI ?_)
 refine And.intro (sgc_oneD hs) ?_
 repeat(first|apply wG|(apply wR;simp -dsimp[l2,h57,hts])|refine aI ?_)
 refine ab_ mz_ (qs_ s.1) rfl rfl (by simp[fD]) ?_
 simp -dsimp
 repeat(first|apply wG|(apply wR;simp -dsimp)|refine aI ?_)
 by_cases hr:refS s∈gJ_ l
 ·obtain⟨hget,hput⟩:=wJ_ hv hr
  have hst:=um_ (l:=l) hv hr
  have hpo:=pi_ s (shlf (refS s) l)
  have hxk:∀ p∈shlf (refS s) l,b2_ p:=fun p hp=>hl p (cB_ ((hin p).1 hp).1)
  have hx0:0<(shlf (refS s) l).length:=by
   obtain⟨t,ht,h1,h2⟩:=hO_.1 hr
   obtain⟨u,hu,hu2⟩:=nK_ ht h1
   exact List.length_pos_of_mem ((hin u).2 ⟨hu,by rw[refS,hu2];exact h2⟩)
  have hxl:(shlf (refS s) l).length≤900:=Nat.le_trans (uk_ _ _) hn
  generalize shlf (refS s) l=x at hasc hget hput hst hpo hxk hx0 hxl
  refine bh_ aa_ rfl rfl bT_ Tryz.zeroValue31 (j:=1000) rfl (kvs:=shM l) rfl (key:=eO_ (refS s)) (di_ _ _) (.sl 61 (sgC x) x.length false) hlk hks hget ?_
  simp -dsimp
  repeat(first|apply wG|(apply wR;simp -dsimp[l2,hts])|refine aI ?_)
  refine al_ gn_ (lk_ x false s (by omega) hxk hs hasc) rfl rfl (by simp[sgV,hts]) ?_
  simp -dsimp
  repeat(first|apply wG|(apply wR;simp -dsimp)|refine aI ?_)
  have hpl:=r6_ s x
  cases hi:isS s x with
  | true =>
   rw[if_pos hi] at hpo
   rw[hst hpo]
   refine cF (by simp[hi]) ?_
   refine WP.skip ?_
   refine be_ ?_
   simp -dsimp
  | false =>
   rw[if_neg (by simp[hi])] at hpo
   have hput2:q6_ (shM l) (eO_ (refS s)) (.sl 61 (pm_ (posS s x) (sgC x) (sgc s)) (x.length+1) false) (shM (l++[s])):=by
    have e1:sgC (k1_ s x)=pm_ (posS s x) (sgC x) (sgc s):=by rw[hpo,wQ_ hxk hpl]
    have e2:(k1_ s x).length=x.length+1:=by rw[hpo];simp;omega
    rw[e1,e2] at hput
    exact hput
   refine cT (by simp[hi]) ?_
   repeat(first|apply wG|(apply wR;simp -dsimp)|refine aI ?_)
   refine bh_ aa_ rfl rfl bT_ Tryz.zeroValue31 (j:=1000) rfl (kvs:=shM l) rfl (key:=eO_ (refS s)) (di_ _ _) (.sl 61 (sgC x) x.length false) hlk hks hget ?_
   simp -dsimp[l2,hts]
   refine vcStop.call c6_ (x1_ x false hx0 (by omega) hxk) (rl [(0,600)]) rfl rfl (by simp[BoxLeq]) (af_ (by simp[BoxLeq]) rfl (by first|rfl|(simp[BoxLeq];done)) (by simp[BoxLeq]) (by simp[BoxLeq])) (fun _ h=>h.elim) (fun ⟨_,h⟩=>h.elim) (fun ⟨_,h⟩=>h.elim) (by simp[BoxLeq]) ?_
   simp -dsimp[l2,hts]
   repeat(first|apply wG|(apply wR;simp -dsimp[l2,hts])|refine aI ?_)
   refine And.intro (sgc_oneD hs) ?_
   refine vcStop.call gl_ (jj_ x.length (posS s x) (sgC x) (sgc s) (sgC_len hxk) l2 hpl (by omega)) (rl [(1000,600),(1001,28),(0,700)]) rfl rfl (by simp[BoxLeq]) (af_ (by simp[BoxLeq]) rfl (by first|rfl|(simp[BoxLeq];done)) (by simp[BoxLeq]) (by simp[BoxLeq])) (fun _ h=>h.elim) (fun ⟨_,h⟩=>h.elim) (fun ⟨_,h⟩=>h.elim) (by simp[BoxLeq]) ?_
   simp -dsimp
   refine da_ aa_ rfl rfl bT_ (j:=1000) rfl (kvs:=shM l) (shM (l++[s])) rfl (key:=eO_ (refS s)) (di_ _ _) (k:=700) (by decide) rfl rfl hlk hks hput2 ?_
   simp -dsimp
   repeat(first|apply wG|(apply wR;simp -dsimp)|refine aI ?_)
   refine be_ ?_
   simp -dsimp
 ·obtain⟨he,hget,hput⟩:=wK_ hv hr
  refine bh_ aa_ rfl rfl bT_ Tryz.zeroValue31 (j:=1000) rfl (kvs:=shM l) rfl (key:=eO_ (refS s)) (di_ _ _) (.v (.slice none 0 0)) hlk hks hget ?_
  simp -dsimp
  repeat(first|apply wG|(apply wR;simp -dsimp[l2,hts])|refine aI ?_)
  refine al_ gn_ (lk_ [] false s (by simp) (by simp) hs List.Pairwise.nil) rfl rfl (by simp[sgV,sgC,hts]) ?_
  simp -dsimp
  repeat(first|apply wG|(apply wR;simp -dsimp)|refine aI ?_)
  refine cT (by rfl) ?_
  repeat(first|apply wG|(apply wR;simp -dsimp)|refine aI ?_)
  refine bh_ aa_ rfl rfl bT_ Tryz.zeroValue31 (j:=1000) rfl (kvs:=shM l) rfl (key:=eO_ (refS s)) (di_ _ _) (.v (.slice none 0 0)) hlk hks hget ?_
  simp -dsimp
  refine ab_ c6_ x2_ rfl rfl (by simp) ?_
  simp -dsimp[l2,hts]
  have hp0:posS s []=0:=rfl
  refine And.intro (sgc_oneD hs) ?_
  rw[hp0]
  have hins:=dY_ (jj_ 0 0 [] (sgc s) rfl l2 (by omega) (by omega)) rfl (by simp) (by simp) rfl
  refine vcStop.call gl_ (hins) (rl [(1001,28),(0,700)]) rfl rfl (by simp[BoxLeq]) (af_ (by simp[BoxLeq]) rfl (by first|rfl|(simp[BoxLeq];done)) (by simp[BoxLeq]) (by simp[BoxLeq])) (fun _ h=>h.elim) (fun ⟨_,h⟩=>h.elim) (fun ⟨_,h⟩=>h.elim) (by simp[BoxLeq]) ?_
  simp -dsimp
  refine da_ aa_ rfl rfl bT_ (j:=1000) rfl (kvs:=shM l) (shM (l++[s])) rfl (key:=eO_ (refS s)) (di_ _ _) (k:=700) (by decide) rfl rfl hlk hks hput ?_
  simp -dsimp
  repeat(first|apply wG|(apply wR;simp -dsimp)|refine aI ?_)
  refine be_ ?_
  simp -dsimp
end Go.Proofs.YtfgcgagcpnbgmaaGreatDoor
set_option maxRecDepth 10000
set_option linter.unusedVariables false
set_option linter.unusedSimpArgs false
set_option linter.unusedSectionVars false
namespace Go.Proofs.YtfgcgagcpnbgmaaGreatDoor
open Go.Xe Go.RowKit
def oV_:Go.Shelf.Ren:=⟨fun n=>match n with
 | 6=>138
 | 14=>197
 | 15=>189
 | 20=>244
 | 21=>245
 | 22=>246
 | 23=>247
 | 24=>248
 | 25=>249
 | 26=>250
 | 27=>251
 | 28=>239
 | 29=>240
 | 46=>262
 | 47=>263
 | 48=>264
 | 49=>265
 | 50=>266
 | 57=>270
 | n=>n,fun n=>match n with
 | 0=>0
 | 3=>3
 | 4=>4
 | 5=>5
 | 9=>9
 | 22=>206
 | 24=>198
 | 25=>208
 | 39=>77
 | 45=>314
 | 46=>315
 | 50=>200
 | 53=>249
 | 55=>172
 | 66=>332
 | 70=>232
 | 76=>344
 | 77=>345
 | n=>n,fun n=>n⟩
set_option maxRecDepth 100000 in
theorem nv_:Go.Proofs.SlLaysF0.n6 Tryz.prog oV_ where
 mixed:=dV_
 f6:=⟨(Tryz.f138).name,by kernel_rfl,by kernel_rfl⟩
 f14:=⟨(Tryz.f197).name,by kernel_rfl,by kernel_rfl⟩
 f15:=by kernel_rfl
 f20:=⟨(Tryz.f244).name,by kernel_rfl,by kernel_rfl⟩
 f21:=⟨(Tryz.f245).name,by kernel_rfl,by kernel_rfl⟩
 f22:=⟨(Tryz.f246).name,by kernel_rfl,by kernel_rfl⟩
 f23:=⟨(Tryz.f247).name,by kernel_rfl,by kernel_rfl⟩
 f24:=⟨(Tryz.f248).name,by kernel_rfl,by kernel_rfl⟩
 f25:=⟨(Tryz.f249).name,by kernel_rfl,by kernel_rfl⟩
 f26:=⟨(Tryz.f250).name,by kernel_rfl,by kernel_rfl⟩
 f27:=⟨(Tryz.f251).name,by kernel_rfl,by kernel_rfl⟩
 f28:=by kernel_rfl
 f29:=by kernel_rfl
 f46:=⟨(Tryz.f262).name,by kernel_rfl,by kernel_rfl⟩
 f47:=by kernel_rfl
 f48:=by kernel_rfl
 f49:=⟨(Tryz.f265).name,by kernel_rfl,by kernel_rfl⟩
 f50:=⟨(Tryz.f266).name,by kernel_rfl,by kernel_rfl⟩
 f57:=⟨(Tryz.f270).name,by kernel_rfl,by kernel_rfl⟩
 t0:=Tryz.underlying0
 a0:=Tryz.isAgg0
 z0:=Tryz.sizeOf0
 v0:=Tryz.zeroValue0
 t3:=Tryz.underlying3
 a3:=Tryz.isAgg3
 z3:=Tryz.sizeOf3
 v3:=Tryz.zeroValue3
 t4:=Tryz.underlying4
 a4:=Tryz.isAgg4
 z4:=Tryz.sizeOf4
 v4:=Tryz.zeroValue4
 t5:=Tryz.underlying5
 a5:=Tryz.isAgg5
 z5:=Tryz.sizeOf5
 v5:=Tryz.zeroValue5
 t9:=Tryz.underlying9
 a9:=Tryz.isAgg9
 z9:=Tryz.sizeOf9
 v9:=Tryz.zeroValue9
 t22:=Tryz.underlying206
 a22:=Tryz.isAgg206
 z22:=Tryz.sizeOf206
 v22:=Tryz.zeroValue206
 t25:=Tryz.underlying208
 a25:=Tryz.isAgg208
 z25:=Tryz.sizeOf208
 v25:=Tryz.zeroValue208
 t39:=Tryz.underlying77
 a39:=Tryz.isAgg77
 z39:=Tryz.sizeOf77
 v39:=Tryz.zeroValue77
 t45:=Tryz.underlying314
 a45:=Tryz.isAgg314
 z45:=Tryz.sizeOf314
 v45:=Tryz.zeroValue314
 t46:=Tryz.underlying315
 a46:=Tryz.isAgg315
 z46:=Tryz.sizeOf315
 v46:=Tryz.zeroValue315
 t50:=Tryz.underlying200
 a50:=Tryz.isAgg200
 z50:=Tryz.sizeOf200
 v50:=Tryz.zeroValue200
 t53:=Tryz.underlying249
 a53:=Tryz.isAgg249
 z53:=Tryz.sizeOf249
 v53:=Tryz.zeroValue249
 t55:=Tryz.underlying172
 a55:=Tryz.isAgg172
 z55:=Tryz.sizeOf172
 v55:=Tryz.zeroValue172
 t66:=Tryz.underlying332
 a66:=Tryz.isAgg332
 z66:=Tryz.sizeOf332
 v66:=Tryz.zeroValue332
 t70:=Tryz.underlying232
 a70:=Tryz.isAgg232
 z70:=Tryz.sizeOf232
 v70:=Tryz.zeroValue232
 t76:=Tryz.underlying344
 a76:=Tryz.isAgg344
 z76:=Tryz.sizeOf344
 v76:=Tryz.zeroValue344
 t77:=Tryz.underlying345
 a77:=Tryz.isAgg345
 z77:=Tryz.sizeOf345
 v77:=Tryz.zeroValue345
theorem kH_ (a b:R2):Fn0 Tryz.prog 139 [rfD a,rfD b] (.v (.int .i64 (cmpR a b))):=by
 have h1:=cL_ a.1 b.1
 have h2:=cL_ a.2 b.2
 have h3:=w9_ [d2_ a.1 b.1,d2_ a.2 b.2] (by simp)
 refine ad_ (pn:=ap_) aa_ Tryz.func139 rfl fun β0=>?_
 simp only[Tryz.f139]
 repeat(first|apply wG|(apply wR;simp -dsimp)|refine aI ?_)
 refine ab_ bX_ h1 rfl rfl (by simp) ?_
 simp -dsimp
 repeat(first|apply wG|(apply wR;simp -dsimp)|refine aI ?_)
 refine ab_ bX_ h2 rfl rfl (by simp) ?_
 simp -dsimp
 repeat(first|apply wG|(apply wR;simp -dsimp)|refine aI ?_)
 refine vcStop.call gb_ (w8_ (d2_ a.1 b.1) (d2_ a.2 b.2)) (rl [(1000,15)]) rfl rfl (by simp[BoxLeq]) (af_ (by simp[BoxLeq]) rfl (by first|rfl|(simp[BoxLeq];done)) (by simp[BoxLeq]) (by simp[BoxLeq])) (fun _ h=>h.elim) (fun ⟨_,h⟩=>h.elim) (fun ⟨_,h⟩=>h.elim) (by simp[BoxLeq]) ?_
 simp -dsimp
 repeat(first|apply wG|(apply wR;simp -dsimp)|refine aI ?_)
 refine WP.ret (ac_ ?_)
 simp -dsimp[cmpR]
abbrev pfB (o:List R2):Box:=.row 198 2 o.length ((rfC o).map .d)
theorem p4_ (l:List R2) (hl:l.length≤1000000):Fun Tryz.prog 138 [.row 1000,.d (.v (.func (.func 139) #[] #[]))] [(1000,pfB l)] (.d .any) [(1000,pfB (oG_ cmpR l))] fun _=>False:=by
 have h:=mP_ (ρ:=oV_) nv_ 2 Tryz.isAgg198 Tryz.sizeOf198 rfV (fun x=>rfl) (fun x v hv=>by
  simp only[rfV,List.mem_cons,List.not_mem_nil,or_false] at hv
  rcases hv with rfl|rfl<;>rfl) cmpR swo_R (g:=139) (run_enterFn mv_) (fun x y=>kH_ x y) l (by omega)
 rw[oM_,oM_] at h
 have hl2:=oF_ _ swo_R l
 simp only[pfB,hl2]
 exact h
end Go.Proofs.YtfgcgagcpnbgmaaGreatDoor
set_option linter.unusedVariables false
set_option linter.unusedSimpArgs false
set_option linter.unusedSectionVars false
namespace Go.Proofs.YtfgcgagcpnbgmaaGreatDoor
open Go.Xe Go.RowKit
theorem jH_ {x:List Sg} (h:1<x.length):∃ a b y,x=a::b::y∧two x=some (a,b):=by
 cases x with
 | nil=>simp at h
 | cons a x =>
  cases x with
  | nil=>simp at h
  | cons b y=>exact⟨a,b,y,rfl,rfl⟩
theorem t7_ {x:List Sg} (h:¬ 1<x.length):two x=none:=by
 cases x with
 | nil=>rfl
 | cons a x =>
  cases x with
  | nil=>rfl
  | cons b y=>simp at h
def big (l:List Sg) (r:R2):Bool:=decide (1<(shlf r l).length)
theorem cW_ (l:List Sg):∀ q:List R2,(q.filter (big l)).filterMap (fun r=>two (shlf r l))=q.filterMap fun r=>two (shlf r l)
 | []=>rfl
 | r::q=>by
  rw[List.filter_cons]
  by_cases h:1<(shlf r l).length
  ·rw[if_pos (by simp[big,h]),List.filterMap_cons,List.filterMap_cons,cW_ l q]
  ·rw[if_neg (by simp[big,h]),cW_ l q,List.filterMap_cons,t7_ h]
def bigL (l:List Sg):List R2:=(gJ_ l).filter (big l)
theorem qZ_ (l:List Sg):(bigL l).Nodup:=(ja_ l).filter _
theorem pt_ (l:List Sg):frkL l=(sortR (bigL l)).filterMap fun r=>two (shlf r l):=by
 rw[frkL,← cW_]
 congr 1
 refine r4_ ((hA_ _).filter _) (hA_ _) fun r=>?_
 rw[List.mem_filter,eJ_,eJ_,bigL,List.mem_filter,hO_,rc_,List.mem_map]
 simp only[List.mem_filter]
 constructor
 ·rintro⟨⟨s,⟨h1,h2⟩,h3⟩,h4⟩;exact⟨⟨s,h1,h2,h3⟩,h4⟩
 ·rintro⟨⟨s,h1,h2,h3⟩,h4⟩;exact⟨⟨s,⟨h1,h2⟩,h3⟩,h4⟩
def D0_ (q:Sg×Sg):D:=.agg (sgc q.1++sgc q.2)
def frkAt (w:List (Sg×Sg)) (i:Nat):Sg×Sg:=w.getD i ((f0,[]),(f0,[]))
theorem xx_ (l:List Sg) (z1 z2:List R2) (r:R2) {a b:Sg} (hz:sortR (bigL l)=z1++r::z2) (h2:two (shlf r l)=some (a,b)) (hb:∀ q∈z1,1<(shlf q l).length) :
  frkAt (frkL l) z1.length=(a,b)∧z1.length<(frkL l).length:=by
 have hl:(z1.filterMap fun r=>two (shlf r l)).length=z1.length:=by
  clear hz
  induction z1 with
  | nil=>rfl
  | cons q z1 ih =>
   obtain⟨c,d,y,_,h3⟩:=jH_ (hb q (by simp))
   rw[List.filterMap_cons,h3]
   simp only[List.length_cons]
   rw[ih fun q hq=>hb q (by simp[hq])]
 have e:frkL l=(z1.filterMap fun r=>two (shlf r l))++(a,b)::z2.filterMap fun r=>two (shlf r l):=by
  rw[pt_,hz,List.filterMap_append,List.filterMap_cons,h2]
 rw[e,← hl]
 exact⟨by simp[frkAt],by simp⟩
theorem sV_ (l:List Sg):(frkL l).length=(sortR (bigL l)).length:=by
 rw[pt_]
 have:∀ z:List R2,(∀ q∈z,1<(shlf q l).length)→(z.filterMap fun r=>two (shlf r l)).length=z.length:=by
  intro z
  induction z with
  | nil=>intro _;rfl
  | cons q z ih =>
   intro hb
   obtain⟨c,d,y,_,h3⟩:=jH_ (hb q (by simp))
   rw[List.filterMap_cons,h3]
   simp only[List.length_cons]
   rw[ih fun q hq=>hb q (by simp[hq])]
 refine this _ fun q hq=>?_
 rw[eJ_] at hq
 have:=(List.mem_filter.1 hq).2
 simpa [big] using this
end Go.Proofs.YtfgcgagcpnbgmaaGreatDoor
set_option linter.unusedVariables false
set_option linter.unusedSimpArgs false
set_option linter.unusedSectionVars false
namespace Go.Proofs.YtfgcgagcpnbgmaaGreatDoor
open Go.Xe Go.RowKit
theorem q3_ (l:List R2) (r:R2):(b4_ l r).length≤l.length+1:=by
 unfold b4_;split
 ·omega
 ·simp
theorem uC_ (l:List Sg):(gJ_ l).length≤l.length:=by
 have key:∀ (q a:List R2),(q.foldl b4_ a).length≤a.length+q.length:=by
  intro q
  induction q with
  | nil=>intro a;simp
  | cons r q ih =>
   intro a
   have h1:=ih (b4_ a r)
   have h2:=q3_ a r
   rw[List.foldl_cons,List.length_cons];omega
 have h1:=key (rc_ l) []
 have h2:(rc_ l).length≤l.length:=by rw[rc_,List.length_map];exact List.length_filter_le _ _
 simp only[List.length_nil] at h1
 rw[gJ_];omega
theorem pM_ (l:List Sg):(bigL l).length≤l.length:=Nat.le_trans (List.length_filter_le _ _) (uC_ l)
theorem wV_ (z1 z2:List R2) (r:R2):List.take 2 (List.drop (z1.length*2) ((rfC (z1++r::z2)).map AV.d))=[.d (.v (.int .i64 r.1)),.d (.v (.int .i64 r.2))]:=by
 have e:rfC (z1++r::z2)=rfC z1++([.v (.int .i64 r.1),.v (.int .i64 r.2)]++rfC z2):=by rw[qk_];rfl
 rw[e,List.map_append,List.drop_left' (by simp)]
 simp
theorem wL_ {l:List Sg} {r:R2} (hr:r∈gJ_ l):q9_ (shM l) (eO_ r) (.v (.slice none 0 0)) (.sl 61 (sgC (shlf r l)) (shlf r l).length false):=by
 obtain⟨a,b,e⟩:=List.append_of_mem hr
 exact .inl ⟨a.map (shE l),b.map (shE l),by rw[shM,e];simp[shE]⟩
theorem uo_ {A B cs:List AV} (ha:A.length=61) (hb:B.length=61) (hc:cs.length=122):setL (setL cs 0 A) 61 B=A++B:=by
 rw[nb_ _ _ _ (by rw[setL_length];omega),nb_ _ _ _ (by omega)]
 simp only[List.take_zero,List.nil_append,Nat.zero_add]
 rw[List.take_left' ha,List.drop_eq_nil_of_le (by rw[List.length_append,List.length_drop];omega),List.append_nil]
abbrev fkS1 (lp:Nat) (l:List Sg) (g:Nat) (L:List Ent3) (clock:Nat) (seen:Array Nat) (q:Value→World→(Nat→Prop)→Prop) (o:List R2):St :=
 mkS 45 [(0,.d (.v (.func (.yield lp) #[] #[]))),(1,.ptr 1000 0),(3,.row 510),(9,.ptr 600 0)] [(1000,.cells 139 [.row 1001]),(1001,MapAt g L clock),(600,ItAt g clock seen),(500,.opq q),(510,pfB o)]
abbrev fkS2 (lp:Nat) (l:List Sg) (q:Value→World→(Nat→Prop)→Prop) (Z:List R2) (i:Nat):St :=
 mkS 45 [(0,.d (.v (.func (.yield lp) #[] #[]))),(1,.ptr 1000 0),(24,.row 510),(25,.d (.v (.int .i64 Z.length))),(26,.d (.v (.int .i64 i)))] [(1000,.cells 139 [.row 1001]),(1001,.mp (shM l)),(500,.opq q),(510,pfB Z)]
set_option maxRecDepth 10000 in
set_option maxHeartbeats 4000000 in
theorem u6_ (l:List Sg) (hl:∀ p∈l,b2_ p) (hn:l.length≤900):mO_ Tryz.prog 137 [.ptr 1000 0] [(1000,.cells 139 [.row 1001]),(1001,.mp (shM l))] (fun i=>[D0_ (frkAt (frkL l) i)]) (fun _=>true) (frkL l).length:=by
 intro lp B hB
 have hfo:∀ p∈l,fOk p.1:=fun p hp=>(hl p hp).1
 have hks:=oH_ hfo
 have hbl:=pM_ l
 simp only[List.cons_append,List.nil_append]
 refine ad_ (pn:=ap_) aa_ Tryz.func137 rfl fun β0=>?_
 simp only[Tryz.f137]
 refine q4_ 1001 rfl fun g L clock hL hok=>?_
 have hLk:∀ e∈L,e.key=eO_ (qB_ e.key)∧qB_ e.key∈gJ_ l∧e.d=.sl 61 (sgC (shlf (qB_ e.key) l)) (shlf (qB_ e.key) l).length false:=fun e he=>by
  have h0:(e.key,e.d)∈shM l:=by rw[← hL];exact List.mem_map.2 ⟨e,he,rfl⟩
  obtain⟨r,hr,hx⟩:=rE_ h0
  have h2:=congrArg Prod.fst hx
  have h3:=congrArg Prod.snd hx
  simp only[shE] at h2 h3
  rw[h2,zF_]
  exact⟨rfl,hr,h3⟩
 have hLn:L.map (fun e=>qB_ e.key)=gJ_ l:=by
  have:=congrArg (List.map fun q:Value×D=>qB_ q.1) hL
  rw[List.map_map,shM,List.map_map] at this
  have h2:((gJ_ l).map ((fun q:Value×D=>qB_ q.1)∘shE l))=gJ_ l:=by
   have:((fun q:Value×D=>qB_ q.1)∘shE l)=id:=by funext r;rfl
   rw[this,List.map_id]
  rw[h2] at this
  exact this
 have hl0:left3 L #[]=L:=List.filter_eq_self.2 (by simp)
 simp -dsimp
 repeat(first|apply wG|(apply wR;simp -dsimp)|refine aI ?_)
 refine vcStop.range aa_ rfl rfl 600 rfl rfl (by simp[MapAt]) ?_
 simp -dsimp
 repeat(first|apply wG|(apply wR;simp -dsimp)|refine aI ?_)
 refine ai_ (fun m S=>∃ seen o,m=(left3 L seen).length∧(o++((left3 L seen).map fun e=>qB_ e.key).filter (big l)).Perm (bigL l)∧S=fkS1 lp l g L clock seen (B 0) o) L.length (S0:=fkS1 lp l g L clock #[] (B 0) [])
  ((Wk.go [] (S':=mkS 45 [(0,.d (.v (.func (.yield lp) #[] #[]))),(1,.ptr 1000 0),(3,.d ys_),(9,.ptr 600 0)] [(1000,.cells 139 [.row 1001]),(1001,MapAt g L clock),(600,ItAt g clock #[]),(500,.opq (B 0))]) 1999 500 (by decide) (by simp[MapAt,ItAt]) (by simp) (by simp[MapAt,ItAt])).trans ((bF_ 3 510 198 2 (by simp) (by simp[MapAt,ItAt])).trans (ae_ [] (by simp) (by simp[rfC,MapAt,ItAt])))) ⟨#[],[],by rw[hl0],by rw[hl0,hLn];exact List.Perm.refl _,rfl⟩ ?_
 rintro m _ ⟨seen,o,hm,hper,rfl⟩
 by_cases hne:left3 L seen=[]
 ·rw[hne] at hper
  have hoM:o.Perm (bigL l):=by simpa using hper
  simp -dsimp
  repeat(first|apply wG|(apply wR;simp -dsimp)|refine aI ?_)
  refine hp_ rfl rfl (j:=1001) rfl rfl hok hne ?_
  simp -dsimp
  repeat(first|apply wG|(apply wR;simp -dsimp)|refine aI ?_)
  refine cF (by simp) ?_
  refine WP.exit ?_
  simp -dsimp
  refine an_ (nU_ 1001 rfl hok) ?_
  rw[hL]
  have hso:=p4_ o (by have:=hoM.length_eq;omega)
  rw[ue_ (qZ_ l) hoM] at hso
  have hZ1:∀ r∈sortR (bigL l),1<(shlf r l).length∧r∈gJ_ l:=fun r hr=>by
   rw[eJ_] at hr
   obtain⟨h1,h2⟩:=List.mem_filter.1 hr
   exact⟨by simpa [big] using h2,h1⟩
  have hZl:(sortR (bigL l)).length≤900:=by
   have:=hz_ (bigL l) []
   simp only[List.length_nil] at this
   have e:sortR (bigL l)=(bigL l).foldl (fun a r=>k2_ r a) []:=rfl
   rw[e];omega
  have hmid:=xx_ l
  have hfl:=sV_ l
  generalize sortR (bigL l)=Z at hso hZ1 hZl hmid hfl
  simp -dsimp
  repeat(first|apply wG|(apply wR;simp -dsimp)|refine aI ?_)
  refine vcStop.call mw_ (hso) (rl [(1000,510)]) rfl rfl (by simp[BoxLeq]) (af_ (by simp[BoxLeq]) rfl (by first|rfl|(simp[BoxLeq];done)) (by simp[BoxLeq]) (by simp[BoxLeq])) (fun _ h=>h.elim) (fun ⟨_,h⟩=>h.elim) (fun ⟨_,h⟩=>h.elim) (by simp[BoxLeq]) ?_
  simp -dsimp
  repeat(first|apply wG|(apply wR;simp -dsimp)|refine aI ?_)
  refine ai_ (fun m S=>∃ z1 z2,Z=z1++z2∧m=z2.length∧S=fkS2 lp l (B z1.length) Z z1.length) Z.length (S0:=fkS2 lp l (B 0) Z 0) (ae_ [600] (by simp) (by simp)) ⟨[],Z,rfl,rfl,rfl⟩ ?_
  rintro _ _ ⟨z1,z2,hz,rfl,rfl⟩
  simp -dsimp
  repeat(first|apply wG|(apply wR;simp -dsimp)|refine aI ?_)
  cases z2 with
  | nil =>
   simp only[List.append_nil] at hz
   subst hz
   refine cF (by simp) ?_
   refine WP.exit ?_
   simp -dsimp
   refine e4_ (S':=mkS 45 [] [(1000,.cells 139 [.row 1001]),(1001,.mp (shM l)),(0,.opq (B (frkL l).length))]) (Wk.go [510] 500 0 (by decide) (by simp) (by simp) (by simp[hfl])) ?_
   simp -dsimp
  | cons r z2 =>
   have hzl:Z.length=z1.length+(z2.length+1):=by rw[hz];simp
   have hra:=wV_ z1 z2 r
   rw[← hz] at hra
   refine cT (by simp;omega) ?_
   refine WP.skip ?_
   simp -dsimp
   repeat(first|apply wG|(apply wR;simp -dsimp[hra])|refine aI ?_)
   obtain⟨hbig,hrp⟩:=hZ1 r (by rw[hz];simp)
   obtain⟨a,b,y,hx,htw⟩:=jH_ hbig
   have hxk:∀ p∈shlf r l,b2_ p:=fun p hp=>hl p (cB_ (((m9_ r l hfo).2 p).1 hp).1)
   have hget:=wL_ hrp
   obtain⟨hfa,hfl2⟩:=hmid z1 z2 r hz htw fun q hq=>(hZ1 q (by rw[hz];simp[hq])).1
   have hlen:z1.length<(frkL l).length:=hfl2
   have hy:=hB z1.length hlen
   simp only[hfa] at hy
   obtain⟨t,ht,ht1,ht2⟩:=hO_.1 hrp
   obtain⟨lk,hlk⟩:=nu_ (r:=r) (by rw[← ht2];exact (hfo t ht).1 0) (by rw[← ht2];exact (hfo t ht).1 1)
   rw[hx] at hget hxk
   have hat0:=d8_ (x:=a::b::y) (i:=0) (by simp) hxk
   have hat1:=d8_ (x:=a::b::y) (i:=1) (by simp) hxk
   have hka:=hxk a (by simp)
   have hkb:=hxk b (by simp)
   have la:=aO_ (hxk a (by simp))
   have lb:=aO_ (hxk b (by simp))
   have ta:=na_ (hxk a (by simp))
   have tb:=na_ (hxk b (by simp))
   have lc:=sgC_len hxk
   have hz0:0<(a::b::y).length:=by simp
   have hz1:1<(a::b::y).length:=by simp
   simp only[List.getElem_cons_zero,List.getElem_cons_succ,Nat.zero_mul,Nat.one_mul,List.drop_zero] at hat0 hat1
   generalize hX:a::b::y=X at hget hxk hat0 hat1 lc hz0 hz1
   generalize sgC X=W at hget hat0 hat1 lc
   generalize X.length=N at hget lc hz0 hz1
   refine bh_ aa_ rfl rfl bT_ Tryz.zeroValue31 (j:=1001) rfl (kvs:=shM l) rfl (key:=eO_ r) (di_ _ _) (.sl 61 W N false) hlk hks hget ?_
   simp -dsimp[hat0,la,ta]
   repeat(first|apply wG|(apply wR;simp -dsimp[hat0,la,ta])|refine aI ?_)
   refine bh_ aa_ rfl rfl bT_ Tryz.zeroValue31 (j:=1001) rfl (kvs:=shM l) rfl (key:=eO_ r) (di_ _ _) (.sl 61 W N false) hlk hks hget ?_
   simp -dsimp[hat1,la,ta,lb,tb]
   repeat(first|apply wG|(apply wR;simp -dsimp[hat1,la,ta,lb,tb])|refine aI ?_)
   refine And.intro ⟨sgc_oneD hka,by rw[setL_length];simp,sgc_oneD hkb⟩ ?_
   rw[uo_ (by rw[List.length_map,la]) (by rw[List.length_map,lb]) (by simp)]
   rw[← List.map_append]
   have e1:IntKind.i64.wrap ((z1.length:Int)+1)=(z1.length:Int)+1:=IntWalk.i64_in _ (by omega)
   refine jE_ hy 500 501 rfl rfl (And.intro (am_ _) trivial) rfl (by decide) (by simp[hasL_d]) ?_
   simp -dsimp
   repeat(first|apply wG|(apply wR;simp -dsimp)|refine aI ?_)
   refine cF (by simp) ?_
   refine WP.skip ?_
   simp -dsimp
   repeat(first|apply wG|(apply wR;simp -dsimp)|refine aI ?_)
   refine loopW.next (fkS2 lp l (B (z1++[r]).length) Z (z1++[r]).length) (Wk.go [7] 501 500 (by decide) (by simp) (by simp[e1]) (by simp)) z2.length (by simp) ⟨z1++[r],z2,by simp[hz],rfl,rfl⟩
 ·simp -dsimp
  repeat(first|apply wG|(apply wR;simp -dsimp)|refine aI ?_)
  refine hq_ rfl rfl (j:=1001) rfl rfl hok hne ?_
  simp -dsimp
  repeat(first|apply wG|(apply wR;simp -dsimp)|refine aI ?_)
  refine cT (by simp) ?_
  refine WP.skip ?_
  simp -dsimp
  refine yi_ 600 rfl fun e he=>?_
  have hel:e∈L:=(List.mem_filter.1 he).1
  have hpu:=qA_ hok.2.1 he
  obtain⟨hek,hem,hed⟩:=hLk e hel
  generalize hr:qB_ e.key=r at hek hem hed
  have hkA:Leq (.d (.v e.key)) (.agg [.d (.v (.int .i64 r.1)),.d (.v (.int .i64 r.2))]):=by rw[hek];exact uv_ r
  have hper2:(o++(r::(left3 L (seen.push e.born)).map fun e=>qB_ e.key).filter (big l)).Perm (bigL l):=by
   refine List.Perm.trans ?_ hper
   rw[← hr]
   exact ((hpu.map fun e:Ent3=>qB_ e.key).filter (big l)).append_left o
  have hol:o.length≤900:=by
   have:=hper2.length_eq
   rw[List.length_append] at this
   omega
  simp -dsimp
  repeat(first|apply wG|(apply wR;simp -dsimp)|refine aI ?_)
  refine jF_ rfl rfl (j:=1001) rfl rfl hok hel hkA ?_
  rw[hed]
  clear hLk hL hLn hek hr hkA hed
  simp -dsimp
  refine And.intro (by simp[MapAt,ItAt]) ?_
  repeat(first|apply wG|(apply wR;simp -dsimp)|refine aI ?_)
  by_cases hbg:1<(shlf r l).length
  ·rw[List.filter_cons,if_pos (by simp[big,hbg])] at hper2
   refine cT (by simp;omega) ?_
   repeat(first|apply wG|(apply wR;simp -dsimp)|refine aI ?_)
   refine And.intro (by simp[MapAt,ItAt]) ?_
   repeat(first|apply wG|(apply wR;simp -dsimp)|refine aI ?_)
   refine And.intro (by simp[MapAt,ItAt]<;>omega) ?_
   repeat(first|apply wG|(apply wR;simp -dsimp)|refine aI ?_)
   refine loopW.next (fkS1 lp l g L clock (seen.push e.born) (B 0) (o++[r])) (Wk.go [4] 21 510 (by decide) (by simp[MapAt,ItAt]) (by simp) (by simp[rfC,MapAt,ItAt])) (left3 L (seen.push e.born)).length (by rw[hm,← hpu.length_eq];exact Nat.lt_succ_self _) ⟨_,_,rfl,?_,rfl⟩
   rw[List.append_assoc]
   exact hper2
  ·rw[List.filter_cons,if_neg (by simp[big,hbg])] at hper2
   refine cF (by simp;omega) ?_
   refine WP.skip ?_
   simp -dsimp
   refine loopW.next (fkS1 lp l g L clock (seen.push e.born) (B 0) o) (ae_ [4] (by simp) (by simp[MapAt,ItAt])) (left3 L (seen.push e.born)).length (by rw[hm,← hpu.length_eq];exact Nat.lt_succ_self _) ⟨_,_,rfl,hper2,rfl⟩
end Go.Proofs.YtfgcgagcpnbgmaaGreatDoor
set_option linter.unusedVariables false
set_option linter.unusedSimpArgs false
set_option linter.unusedSectionVars false
namespace Go.Proofs.YtfgcgagcpnbgmaaGreatDoor
open Go.Xe Go.RowKit
theorem shM_inv {l:List Sg} {s:Sg} (h:vS2 s=false):shM (l++[s])=shM l:=by
 have e1:gJ_ (l++[s])=gJ_ l:=by
  rw[gJ_,rc_,List.filter_append]
  simp[h]
  rfl
 rw[shM,e1,shM]
 refine List.map_congr_left fun r _=>?_
 rw[shE,shE,eL_,ra_,if_neg fun k=>by rw[h] at k;cases k.1]
def fkc (q:Sg×Sg):List D:=sgc q.1++sgc q.2
def fkC (w:List (Sg×Sg)):List D:=w.flatMap fkc
theorem xB_ {q:Sg×Sg} (h1:b2_ q.1) (h2:b2_ q.2):(fkc q).length=122:=by rw[fkc,List.length_append,aO_ h1,aO_ h2]
theorem xA_ {q:Sg×Sg} (h1:b2_ q.1) (h2:b2_ q.2):∀ d∈fkc q,oneD d=true:=fun d hd=>by
 rcases List.mem_append.1 hd with h|h
 ·exact sgc_oneD h1 d h
 ·exact sgc_oneD h2 d h
theorem xy_ (q:Sg×Sg):D0_ q=.agg (fkc q):=rfl
theorem zN_ {l:List Sg} (hl:∀ p∈l,b2_ p) {q:Sg×Sg} (hq:q∈frkL l):b2_ q.1∧b2_ q.2:=by
 obtain⟨r,_,h⟩:=List.mem_filterMap.1 hq
 obtain⟨h1,h2,_⟩:=vW_ (fun s hs=>(hl s hs).1) h
 exact⟨hl _ (cB_ h1),hl _ (cB_ h2)⟩
theorem u7_ (w:List (Sg×Sg)) {i:Nat} (hi:i<w.length):fkC (w.take (i+1))=fkC (w.take i)++fkc (frkAt w i):=by
 have e:w.take (i+1)=w.take i++[frkAt w i]:=by
  rw[List.take_add_one,List.getElem?_eq_getElem hi]
  simp[frkAt,hi]
 rw[e,fkC,List.flatMap_append]
 simp[fkC]
theorem ul_ (kvs:List (Value×D)):Fun Tryz.prog 79 [.row 1000] [(1000,.mp kvs)] (.fn (.func 137) [] [.ptr 0 0]) [(1000,.mp kvs),(0,.cells 139 [.row 1000])] fun _=>False:=by
 refine ad_ (pn:=ap_) aa_ Tryz.func79 rfl fun β0=>?_
 simp only[Tryz.f79]
 repeat(first|apply wG|(apply wR;simp -dsimp)|refine aI ?_)
 refine WP.ret (ak_ (S':=mkS 4 [(2,.fn (.func 137) [] [.ptr 0 0])] [(1000,.mp kvs),(0,.cells 139 [.row 1000])]) (Wk.go [] 1 0 (by decide) (by simp) (by simp) (by simp)) ?_)
 simp -dsimp
def bF (w:List (Sg×Sg)):Nat→Bxs
 | 0=>[(1100,.cells 102 [.d ys_])]
 | i+1=>[(1100,.cells 102 [.row 505]),(505,.row 145 122 (i+1) ((fkC (w.take (i+1))).map .d))]
theorem q1_ (w:List (Sg×Sg)) (i:Nat):bw_ (bF w i):=by
 intro k b h
 cases i<;>simp only[bF,getB] at h<;>(repeat' split at h)<;>cases h<;>rfl
abbrev slK (w:List (Sg×Sg)):D:=.sl 122 (fkC w) w.length false
theorem bF_tags (w:List (Sg×Sg)) (m:Nat):∀ p∈bF w m,∀ t∈as_ p.2.cs,isIn (bF w m) t=true:=by
 cases m with
 | zero =>
  intro p hp t ht
  simp only[bF,List.mem_singleton] at hp
  subst hp
  simp[Box.cs,as_,aM_] at ht
 | succ m =>
  intro p hp t ht
  simp only[bF,List.mem_cons,List.not_mem_nil,or_false] at hp
  rcases hp with rfl|rfl
  ·simp[Box.cs,as_,aM_] at ht
   subst ht
   simp[bF,isIn,getB]
  ·simp[Box.cs,m7_] at ht
abbrev foS (l:List Sg) (b:Bool) (l1:List Sg):St:=mkS 33 [(2,.ptr 2 0),(3,.row 8),(4,.fn (.func 78) [.row 8] []),(11,.d (sgD l b)),(12,.d (.v (.int .i64 l.length))),(13,.d (.v (.int .i64 l1.length)))] [(2,.cells 102 [.d ys_]),(8,.mp (shM l1))]
set_option maxRecDepth 10000 in
set_option maxHeartbeats 4000000 in
theorem u5_ (l:List Sg) (b:Bool) (hl:∀ p∈l,b2_ p) (hn:l.length≤900):Fn0 Tryz.prog 34 [sgD l b] (slK (frkL l)):=by
 have itf:=u6_ l hl hn
 have hfo:∀ p∈l,fOk p.1:=fun p hp=>(hl p hp).1
 refine fR_ aa_ Tryz.func34 rfl fun β0=>?_
 simp only[Tryz.f34]
 repeat(first|apply wG|(apply wR;simp -dsimp)|refine aI ?_)
 refine vcStop.makeMap 8 rfl (by simp) ?_
 simp -dsimp
 repeat(first|apply wG|(apply wR;simp -dsimp)|refine aI ?_)
 refine ai_ (fun m S=>∃ l1 l2,l=l1++l2∧m=l2.length∧S=foS l b l1) l.length (S0:=foS l b []) (ae_ [] (by simp) (by simp[shM,gJ_,rc_])) ⟨[],l,rfl,rfl,rfl⟩ ?_
 rintro _ _ ⟨l1,l2,hl12,rfl,rfl⟩
 simp -dsimp
 repeat(first|apply wG|(apply wR;simp -dsimp)|refine aI ?_)
 cases l2 with
 | nil =>
  simp only[List.append_nil] at hl12
  subst hl12
  refine cF (by simp) ?_
  refine WP.exit ?_
  simp -dsimp
  repeat(first|apply wG|(apply wR;simp -dsimp)|refine aI ?_)
  refine vcStop.call n5_ (ul_ (shM l)) (rl [(1000,8),(0,600)]) rfl rfl (by simp[BoxLeq]) (af_ (by simp[BoxLeq]) rfl (by first|rfl|(simp[BoxLeq];done)) (by simp[BoxLeq]) (by simp[BoxLeq])) (fun _ h=>h.elim) (fun ⟨_,h⟩=>h.elim) (fun ⟨_,h⟩=>h.elim) (by simp[BoxLeq]) ?_
  simp -dsimp
  repeat(first|apply wG|(apply wR;simp -dsimp)|refine aI ?_)
  have hq:∀ i,i<(frkL l).length→b2_ (frkAt (frkL l) i).1∧b2_ (frkAt (frkL l) i).2:=fun i hi=>by
   refine zN_ hl ?_
   have:frkAt (frkL l) i=(frkL l)[i]:=by simp[frkAt,hi]
   rw[this]
   exact List.getElem_mem hi
  have hwl:(frkL l).length≤900:=by
   have h1:=hz_ (bigL l) []
   have h2:=pM_ l
   have e:sortR (bigL l)=(bigL l).foldl (fun a r=>k2_ r a) []:=rfl
   rw[sV_,e]
   simp only[List.length_nil] at h1
   omega
  generalize frkL l=w at itf hq hwl
  refine b8_ mx_ itf (jump:=fun _=>none) (bF w) (mkS 33 [(2,.ptr 1100 0)] []).sl 990 (rl [(1000,600),(1001,8),(1100,2),(505,510),(990,602)]) rfl rfl rfl (by simp) (by simp) (by simp) (fun i _=>q1_ _ i)
   (by cases w.length<;>simp[bF]) (by simp) (bF_tags w _) (by simp) (by decide) (by cases w.length<;>simp[bF]) (fun _ _=>rfl) (fun _ _=>rfl) ?_ (fun G=>af_ (by simp[bF,fkC]) (by cases w.length<;>simp[bF]) (by cases w.length<;>simp[bF]) (by cases w.length<;>simp[bF]) (by cases w.length<;>simp[bF])) (fun G=>by cases w.length<;>simp[bF]) ?_
  ·intro i hi lp β1
   obtain⟨hqa,hqb⟩:=hq i hi
   have hsn:=u7_ w hi
   have fl:=xB_ hqa hqb
   have fo:=xA_ hqa hqb
   have ft:List.take 122 ((fkc (frkAt w i)).map AV.d)=(fkc (frkAt w i)).map .d:=List.take_of_length_le (by rw[List.length_map,fl];omega)
   simp only[xy_]
   cases i with
   | zero =>
    simp -dsimp[bF]
    generalize fkc (frkAt w 0)=f at hsn fl fo ft ⊢
    rw[show fkC (w.take 0)=[] from rfl,List.nil_append,Nat.zero_add] at hsn
    repeat(first|apply wG|(apply wR;simp -dsimp[fl,ft])|refine aI ?_)
    exact⟨mkS 33 [] (bF w 1),Wk.go [7,30] 31 505 (by decide) (by simp) (by simp) (by simp[bF,hsn]),subB_ok (by simp[bF])⟩
   | succ i =>
    simp -dsimp[bF]
    generalize fkC (w.take (i+1))=W at hsn ⊢
    generalize fkc (frkAt w (i+1))=f at hsn fl fo ft ⊢
    repeat(first|apply wG|(apply wR;simp -dsimp[fl,ft])|refine aI ?_)
    exact⟨mkS 33 [] (bF w (i+1+1)),Wk.go [7,30] 31 505 (by decide) (by simp) (by simp) (by simp[bF,hsn]),subB_ok (by simp[bF])⟩
  ·intro G
   rw[ei_,ie_]
   cases hw:w.length with
   | zero =>
    have hw0:w=[]:=List.eq_nil_of_length_eq_zero hw
    subst hw0
    simp -dsimp[bF]
    repeat(first|apply wG|(apply wR;simp -dsimp)|refine aI ?_)
    refine WP.ret (dP_ ?_ G 602 rfl rfl rfl)
    simp -dsimp[fkC]
    exact Leq.nil 122
   | succ n =>
    simp -dsimp[bF]
    rw[← hw,List.take_length]
    repeat(first|apply wG|(apply wR;simp -dsimp)|refine aI ?_)
    refine WP.ret (dO_ ((ae_ [] (S':=mkS 33 [(2,.ptr 2 0)] [(2,.cells 102 [.row 510]),(602,.obj G (.deferred (some []))),(510,.row 145 122 w.length ((fkC w).map .d))] [G]) (by simp) (by simp)).trans (Wk.freeze (k:=510) (T:=145) (sz:=122) (n:=w.length) (ds:=fkC w) (by simp))) ?_ G 602 rfl rfl rfl)
    simp -dsimp
 | cons p l2 =>
  have hll:l.length=l1.length+(l2.length+1):=by rw[hl12];simp
  have hlt:l1.length<l.length:=by omega
  have hp:=hl p (by rw[hl12];simp)
  have hat:=d8_ hlt hl
  have hpe:l[l1.length]=p:=by simp[hl12]
  rw[hpe] at hat
  have l2':=aO_ hp
  have tp:=na_ hp
  have lc:=sgC_len hl
  have hc:=kI_ p.1 hp.1
  have e1:IntKind.i64.wrap ((l1.length:Int)+1)=(l1.length:Int)+1:=IntWalk.i64_in _ (by omega)
  refine cT (by simp;omega) ?_
  refine WP.skip ?_
  simp -dsimp
  repeat(first|apply wG|(apply wR;simp -dsimp[hat,l2',tp])|refine aI ?_)
  refine And.intro (sgc_oneD hp) ?_
  have h57:=fW_ p
  repeat(first|apply wG|(apply wR;simp -dsimp[h57,l2'])|refine aI ?_)
  refine ab_ ex_ hc rfl rfl (by simp[fD]) ?_
  simp -dsimp
  repeat(first|apply wG|(apply wR;simp -dsimp)|refine aI ?_)
  have hl1:∀ q∈l1,b2_ q:=fun q hq=>hl q (by rw[hl12];simp[hq])
  cases hv:vS2 p with
  | true =>
   have hv':(numF p.1).2=true:=hv
   refine cT (by simp[hv']) ?_
   have hts:=d7_ hp
   repeat(first|apply wG|(apply wR;simp -dsimp[hts,l2'])|refine aI ?_)
   refine vcStop.call n6_ (uj_ l1 p hl1 hp hv (by omega)) (rl [(1000,8)]) rfl rfl (by simp[sgV,BoxLeq]) (af_ (by simp[sgV,BoxLeq]) rfl (by first|rfl|(simp[sgV,BoxLeq];done)) (by simp[sgV,BoxLeq]) (by simp[sgV,BoxLeq])) (fun _ h=>h.elim) (fun ⟨_,h⟩=>h.elim) (fun ⟨_,h⟩=>h.elim) (by simp[sgV,BoxLeq]) ?_
   simp -dsimp
   repeat(first|apply wG|(apply wR;simp -dsimp)|refine aI ?_)
   refine loopW.next (foS l b (l1++[p])) (ae_ [6] (by simp[e1]) (by simp)) l2.length (by simp) ⟨l1++[p],l2,by simp[hl12],rfl,rfl⟩
  | false =>
   have hv':(numF p.1).2=false:=hv
   refine cF (by simp[hv']) ?_
   refine WP.skip ?_
   simp -dsimp
   repeat(first|apply wG|(apply wR;simp -dsimp)|refine aI ?_)
   refine loopW.next (foS l b (l1++[p])) (ae_ [6] (by simp[e1]) (by simp[shM_inv hv])) l2.length (by simp) ⟨l1++[p],l2,by simp[hl12],rfl,rfl⟩
end Go.Proofs.YtfgcgagcpnbgmaaGreatDoor
