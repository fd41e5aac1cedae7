/-
  Joined texts.
-/
import Derived.Test.YtdjkbdhdejlakaaGreatDoorVC
import Derived.Test.YtdjkbdhdejlakaaGreatDoorVZ
import Derived.Test.YtdjkbdhdejlakaaGreatDoorVF
set_option maxRecDepth 10000
set_option maxHeartbeats 4000000
set_option linter.unusedVariables false
set_option linter.unusedSimpArgs false
set_option linter.unusedSectionVars false
namespace Go.Proofs.YtdjkbdhdejlakaaGreatDoor
open Go.Xe Go.RowKit
theorem ko_ (f:F):Fn0 Tryz.prog 22 [fD f] (.agg [.v (.int .i64 (f 0)),.v (.int .i64 (f 1))]):=by
 refine ac_ (pn:=ao_) aa_ Tryz.func22 rfl fun β0=>?_
 simp only[Tryz.f22]
 rw[fD]
 repeat(first|apply wG|(apply wR;simp -dsimp)|refine aI ?_)
 refine WP.ret (ab_ ?_)
 simp -dsimp
theorem in_ (l:List Sg) (b:Bool):Fun Tryz.prog 26 [.d (lgD l b)] [] (.fn (.func 50) [] [.ptr 0 0]) [(0,.cells 25 [.d (sgD l b)])] fun _=>False:=by
 refine ac_ (pn:=ao_) aa_ Tryz.func26 rfl fun β0=>?_
 simp only[Tryz.f26]
 repeat(first|apply wG|(apply wR;simp -dsimp)|refine aI ?_)
 refine WP.ret (am_ (S':=mkS 4 [(2,.fn (.func 50) [] [.ptr 0 0])] [(0,.cells 25 [.d (sgD l b)])]) (Wk.go [] 1 0 (by decide) (by simp) (by simp) (by simp)) ?_)
 simp -dsimp
theorem EL_ (p:Sg):List.take 57 (List.take 61 (List.map AV.d (fcs p.1 0 57)++List.map AV.d p.2))=(fcs p.1 0 57).map .d:=by
 rw[List.take_take,← List.map_append,← List.map_take,List.take_append,ax_,List.take_of_length_le (by rw[ax_];omega)]
 simp
theorem sgL (p:Sg) (k:Nat):al_ k (List.take 61 (List.map AV.d (fcs p.1 0 57)++List.map AV.d p.2))=false:=n7_ fun c h=>by
 rw[← List.map_append] at h
 obtain⟨d,hd,rfl⟩:=List.mem_map.1 (List.mem_of_mem_take h)
 exact⟨d,rfl⟩
theorem Dz_ {p:Sg} (hp:aL_ p):∀ c∈List.take 61 (List.map AV.d (fcs p.1 0 57)++List.map AV.d p.2),oneA c=true:=fun c h=>by
 rw[← List.map_append] at h
 obtain⟨d,hd,rfl⟩:=List.mem_map.1 (List.mem_of_mem_take h)
 rcases List.mem_append.1 hd with hd|hd
 ·exact fcs_side hd
 ·exact hp.2.2 d hd
theorem sb_ (l:List Sg) (p:Sg):vF (l++[p])=vF l++if (numF p.1).2=true then [p.1] else []:=by
 rw[lB_];congr 1
 simp only[vF,List.map_cons,List.map_nil,List.filter_cons,List.filter_nil]
def viS (lp:Nat) (l:List Sg) (b:Bool) (i:Nat) (q:Value→World→(Nat→Prop)→Prop):St :=
 mkS 24 [(0,.d (.v (.func (.yield lp) #[] #[]))),(6,.d (sgD l b)),(7,.d (.v (.int .i64 l.length))),(8,.d (.v (.int .i64 (i:Nat))))] [(1000,.cells 25 [.d (sgD l b)]),(500,.opq q)]
theorem io_ (l:List Sg) (b:Bool) (hl:l.length≤30) (hv:∀ p∈l,aL_ p):qM_ Tryz.prog 50 [.ptr 1000 0] [(1000,.cells 25 [.d (sgD l b)])] (fun i=>[fD (fat (vF l) i)]) (fun _=>true) (vF l).length:=by
 intro lp B hB
 simp only[List.cons_append,List.nil_append]
 refine ac_ (pn:=ao_) aa_ Tryz.func50 rfl fun β0=>?_
 simp only[Tryz.f50]
 repeat(first|apply wG|(apply wR;simp -dsimp)|refine aI ?_)
 refine ak_ (fun m S=>∃ l1 l2,l=l1++l2∧m=l2.length∧S=viS lp l b l1.length (B (vF l1).length)) l.length
  (S0:=viS lp l b 0 (B 0)) (Wk.go [] 1999 500 (by decide) (by simp[viS]) (by simp[viS]) (by simp[viS])) ⟨[],l,rfl,rfl,rfl⟩ ?_
 rintro _ _ ⟨l1,l2,hl12,rfl,rfl⟩
 cases l2 with
 | nil =>
  simp only[List.append_nil] at hl12
  subst hl12
  rw[viS]
  simp -dsimp
  repeat(first|apply wG|(apply wR;simp -dsimp)|refine aI ?_)
  refine cF (by simp) ?_
  refine WP.exit ?_
  simp -dsimp
  refine ca_ (S':=mkS 24 [] [(1000,.cells 25 [.d (sgD l b)]),(0,.opq (B (vF l).length))]) (Wk.go [] 500 0 (by decide) (by simp) (by simp) (by simp)) ?_
  simp -dsimp
 | cons p l2 =>
  have hll:l.length=l1.length+(l2.length+1):=by rw[hl12];simp
  have e1:IntKind.i64.wrap ((l1.length:Int)+1)=((l1++[p]).length:Nat):=by rw[IntWalk.i64_in _ (by omega)];simp
  have hp:=hv p (by rw[hl12];simp)
  have h1:=wF_ (l1:=l1) (p:=p) (l2:=l2) (by rw[← hl12];exact hv)
  rw[← hl12] at h1
  have hc:=hx_ p.1 hp.1
  have h57:=EL_ p
  have hL:=sgL p
  have hone:=Dz_ hp
  have hsn:=sb_ l1 p
  have hy:(numF p.1).2=true→YieldOk Tryz.prog lp [fD p.1] (B (vF l1).length) (B ((vF l1).length+1)) true:=fun hq=>by
   have hvf:vF l=vF l1++p.1::vF l2:=by
    rw[hl12,show l1++p::l2=l1++[p]++l2 by simp,lB_,hsn,if_pos hq];simp
   have hy:=hB (vF l1).length (by rw[hvf];simp)
   have hx:fat (vF l) (vF l1).length=p.1:=by rw[hvf];simp[fat]
   simp only[hx] at hy
   exact hy
  generalize hk:(vF l1).length=k at hy
  rw[viS]
  simp -dsimp
  repeat(first|apply wG|(apply wR;simp -dsimp)|refine aI ?_)
  refine cT (by simp;omega) ?_
  refine WP.skip ?_
  simp -dsimp
  refine WP.seq (WP.block ?_)
  refine WP.seq ?_
  refine WP.region aa_ ?_
  simp -dsimp[h1,hp.2.1,h57]
  repeat refine aI ?_
  refine WP.seq ?_
  refine wl_ aa_ ?_
  simp -dsimp[h57,hp.2.1]
  repeat refine aI ?_
  refine ad_ dB_ hc rfl rfl (by simp[fD]) ?_
  simp -dsimp[h57,hp.2.1]
  repeat refine aI ?_
  refine vcXG.mk rfl (numF p.1).2 (by cases (numF p.1).2<;>simp[gL,g9_,St.at]) (fun hq=>?_) (fun hq=>?_)
  ·have hkk:(vF (l1++[p])).length=k+1:=by rw[hsn,if_pos hq,← hk];simp
   refine vcX.yield (hy hq) 500 501 rfl (by simp[dD_,unw,St.under,hq]) (by simp[dD_,unw,St.under,fD,hq]) rfl (by decide) (by simp[St.under,hq,hL]) ?_
   simp -dsimp[St.under,unw,hq]
   repeat refine aI ?_
   refine cF (by simp) ?_
   refine WP.skip ?_
   simp -dsimp
   repeat(first|apply wG|(apply wR;simp -dsimp)|refine aI ?_)
   refine loopW.next (viS lp l b (l1++[p]).length (B (vF (l1++[p])).length)) (Wk.go [4] 501 500 (by decide) (by simp[viS]) (by simp[viS,e1]) (by simp[viS,hkk])) l2.length (by simp) ⟨l1++[p],l2,by simp[hl12],rfl,rfl⟩
  ·have hkk:(vF (l1++[p])).length=k:=by rw[hsn,if_neg (by simp[hq]),List.append_nil,hk]
   refine⟨.d (.v (.bool false)),?_⟩
   simp -dsimp[hq]
   repeat refine aI ?_
   refine cF (by simp) ?_
   refine WP.skip ?_
   simp -dsimp
   repeat(first|apply wG|(apply wR;simp -dsimp)|refine aI ?_)
   refine loopW.next (viS lp l b (l1++[p]).length (B (vF (l1++[p])).length)) (ae_ [4] (by simp[viS,e1]) (by simp[viS,hkk])) l2.length (by simp) ⟨l1++[p],l2,by simp[hl12],rfl,rfl⟩
def cmpR (a b:R2):Int:=orL [cK_ a.1 b.1,cK_ a.2 b.2]
abbrev rfD (r:R2):D:=.agg [.v (.int .i64 r.1),.v (.int .i64 r.2)]
theorem sW_ (a b:Int):Fun Tryz.prog 56 [.row 1000] [(1000,.row 3 1 2 [.d (.v (.int .i64 a)),.d (.v (.int .i64 b))])] (.d (.v (.int .i64 (orL [a,b])))) [] fun _=>False :=
 aW_ 1000 (T:=3) (cs:=iD [a,b]) (vb_ [a,b] (by simp)) rfl rfl trivial
theorem jf_ (a b:R2):Fn0 Tryz.prog 30 [rfD a,rfD b] (.v (.int .i64 (cmpR a b))):=by
 have h1:=bM_ a.1 b.1
 have h2:=bM_ a.2 b.2
 have h3:=vb_ [cK_ a.1 b.1,cK_ a.2 b.2] (by simp)
 refine ac_ (pn:=ao_) aa_ Tryz.func30 rfl fun β0=>?_
 simp only[Tryz.f30]
 repeat(first|apply wG|(apply wR;simp -dsimp)|refine aI ?_)
 refine ad_ bo_ h1 rfl rfl (by simp) ?_
 simp -dsimp
 repeat(first|apply wG|(apply wR;simp -dsimp)|refine aI ?_)
 refine ad_ bo_ h2 rfl rfl (by simp) ?_
 simp -dsimp
 repeat(first|apply wG|(apply wR;simp -dsimp)|refine aI ?_)
 refine vcStop.call e1_ (sW_ (cK_ a.1 b.1) (cK_ a.2 b.2)) (rl [(1000,15)]) rfl rfl (by simp[BoxLeq]) (ai_ (by simp[BoxLeq]) rfl (by first|rfl|(simp[BoxLeq];done)) (by simp[BoxLeq]) (by simp[BoxLeq])) (fun _ h=>h.elim) (fun ⟨_,h⟩=>h.elim) (fun ⟨_,h⟩=>h.elim) (by simp[BoxLeq]) ?_
 simp -dsimp
 repeat(first|apply wG|(apply wR;simp -dsimp)|refine aI ?_)
 refine WP.ret (ab_ ?_)
 simp -dsimp[cmpR]
theorem vu_ (kvs:List (Value×D)):Fun Tryz.prog 55 [.row 1000] [(1000,.mp kvs)] (.fn (.func 82) [] [.ptr 0 0]) [(1000,.mp kvs),(0,.cells 80 [.row 1000])] fun _=>False:=by
 refine ac_ (pn:=ao_) aa_ Tryz.func55 rfl fun β0=>?_
 simp only[Tryz.f55]
 repeat(first|apply wG|(apply wR;simp -dsimp)|refine aI ?_)
 refine WP.ret (am_ (S':=mkS 4 [(2,.fn (.func 82) [] [.ptr 0 0])] [(1000,.mp kvs),(0,.cells 80 [.row 1000])]) (Wk.go [] 1 0 (by decide) (by simp) (by simp) (by simp)) ?_)
 simp -dsimp
theorem pI_ (r:R2):Leq (.d (.v (cC_ r))) (.agg [.d (.v (.int .i64 r.1)),.d (.v (.int .i64 r.2))]):=fun w I β v hv=>by
 rw[DenA_v] at hv
 subst hv
 exact⟨[.int .i64 r.1,.int .i64 r.2],rfl,_,_,rfl,DenA_v.2 rfl,_,_,rfl,DenA_v.2 rfl,rfl⟩
def kiS (lp g:Nat) (L:List Ent3) (clock:Nat) (seen:Array Nat) (q:Value→World→(Nat→Prop)→Prop):St :=
 mkS 14 [(0,.d (.v (.func (.yield lp) #[] #[]))),(5,.ptr 20 0)] [(1000,.cells 80 [.row 1001]),(1001,MapAt g L clock),(20,ItAt g clock seen),(500,.opq q)]
def EO_ (M:List R2) (o:List R2) (x:List D) (o':List R2):Prop:=∃ r∈M,r∉o∧o.length<M.length∧x=[rfD r]∧o'=o++[r]
def ia_:Value→R2
 | .agg #[.int _ a,.int _ b]=>(a,b)
 | _=>(0,0)
theorem wY_ (r:R2):ia_ (cC_ r)=r:=rfl
theorem vv_ (M:List R2) (hnd:M.Nodup):ww_ Tryz.prog 82 [.ptr 1000 0] [(1000,.cells 80 [.row 1001]),(1001,.mp (aP_ M))] ([]:List R2) (EO_ M) (fun o=>o.Perm M):=by
 intro lp B hB
 simp only[List.cons_append,List.nil_append]
 refine cg_ aa_ Tryz.func82 rfl fun β0=>?_
 simp only[Tryz.f82]
 refine gt_ 1001 rfl fun g L clock hL hok=>?_
 have hLk:∀ e∈L,e.key=cC_ (ia_ e.key)∧ia_ e.key∈M:=fun e he=>by
  have h0:(e.key,e.d)∈aP_ M:=by rw[← hL];exact List.mem_map.2 ⟨e,he,rfl⟩
  obtain⟨r,hr,hx⟩:=List.mem_map.1 h0
  have h2:=congrArg Prod.fst hx
  simp only at h2
  rw[← h2,wY_]
  exact⟨rfl,hr⟩
 have hLn:L.map (fun e=>ia_ e.key)=M:=by
  have:=congrArg (List.map fun q:Value×D=>ia_ q.1) hL
  rw[List.map_map,aP_,List.map_map] at this
  have h2:(M.map ((fun q:Value×D=>ia_ q.1)∘fun r=>(cC_ r,D.v (.bool true))))=M:=by
   have:((fun q:Value×D=>ia_ q.1)∘fun r=>(cC_ r,D.v (.bool true)))=id:=by funext r;rfl
   rw[this,List.map_id]
  rw[h2] at this
  exact this
 have hl0:left3 L #[]=L:=List.filter_eq_self.2 (by simp)
 simp -dsimp
 repeat(first|apply wG|(apply wR;simp -dsimp)|refine aI ?_)
 refine vcStop.range aa_ rfl rfl 20 rfl rfl (by simp[MapAt]) ?_
 simp -dsimp
 repeat(first|apply wG|(apply wR;simp -dsimp)|refine aI ?_)
 refine ak_ (fun m S=>∃ seen o,m=(left3 L seen).length∧(o++(left3 L seen).map fun e=>ia_ e.key).Perm M∧S=kiS lp g L clock seen (B o)) L.length (S0:=kiS lp g L clock #[] (B []))
  (Wk.go [] 1999 500 (by decide) (by simp[kiS,MapAt,ItAt]) (by simp[kiS]) (by simp[kiS,MapAt,ItAt])) ⟨#[],[],by rw[hl0],by rw[hl0,hLn];exact List.Perm.refl _,rfl⟩ ?_
 rintro m _ ⟨seen,o,hm,hper,rfl⟩
 by_cases hne:left3 L seen=[]
 ·rw[hne] at hper
  have hoM:o.Perm M:=by simpa using hper
  rw[kiS]
  simp -dsimp
  repeat(first|apply wG|(apply wR;simp -dsimp)|refine aI ?_)
  refine cj_ rfl rfl (j:=1001) rfl rfl hok hne ?_
  simp -dsimp
  repeat(first|apply wG|(apply wR;simp -dsimp)|refine aI ?_)
  refine cF (by simp) ?_
  refine WP.exit ?_
  simp -dsimp
  refine⟨⟨o,hoM⟩,ca_ (S':=mkS 14 [] [(1000,.cells 80 [.row 1001]),(1001,.mp (aP_ M)),(0,.opq (B o))]) (Wk.trans (eW_ 1001 rfl hok) (Wk.go [20] 500 0 (by decide) (by simp) (by simp) (by simp[hL]))) ?_⟩
  simp -dsimp
 ·rw[kiS]
  simp -dsimp
  repeat(first|apply wG|(apply wR;simp -dsimp)|refine aI ?_)
  refine ck_ rfl rfl (j:=1001) rfl rfl hok hne ?_
  simp -dsimp
  repeat(first|apply wG|(apply wR;simp -dsimp)|refine aI ?_)
  refine cT (by simp) ?_
  refine WP.skip ?_
  simp -dsimp
  refine oy_ 20 rfl fun e he=>?_
  have hel:e∈L:=(List.mem_filter.1 he).1
  have hpu:=ge_ hok.2.1 he
  obtain⟨hek,hem⟩:=hLk e hel
  generalize hr:ia_ e.key=r at hek hem
  have hkA:Leq (.d (.v e.key)) (.agg [.d (.v (.int .i64 r.1)),.d (.v (.int .i64 r.2))]):=by rw[hek];exact pI_ r
  have hper2:(o++r::(left3 L (seen.push e.born)).map fun e=>ia_ e.key).Perm M:=by
   refine List.Perm.trans ?_ hper
   rw[← hr]
   exact (hpu.map fun e:Ent3=>ia_ e.key).append_left o
  have hro:r∉o:=by
   have:=(hper2.nodup_iff).2 hnd
   exact fun h=>(List.nodup_append.1 this).2.2 r h r (by simp) rfl
  have hlt:o.length<M.length:=by have:=hper2.length_eq;simp at this;omega
  have hy:=hB o [rfD r] (o++[r]) ⟨r,hem,hro,hlt,rfl,rfl⟩
  simp -dsimp
  repeat(first|apply wG|(apply wR;simp -dsimp)|refine aI ?_)
  refine de_ rfl rfl (j:=1001) rfl rfl hok hel hkA ?_
  clear hLk hL hLn hek hr hkA
  simp -dsimp
  refine And.intro (by simp[MapAt,ItAt]) ?_
  repeat(first|apply wG|(apply wR;simp -dsimp)|refine aI ?_)
  refine vcStop.yield hy 500 501 rfl rfl (by simp) rfl (by decide) (by simp[MapAt,ItAt]) ?_
  simp -dsimp
  repeat(first|apply wG|(apply wR;simp -dsimp)|refine aI ?_)
  refine cF (by simp) ?_
  refine WP.skip ?_
  simp -dsimp
  refine loopW.next (kiS lp g L clock (seen.push e.born) (B (o++[r]))) (Wk.go [3] 501 500 (by decide) (by simp[kiS,MapAt,ItAt]) (by simp[kiS]) (by simp[kiS,MapAt,ItAt])) (left3 L (seen.push e.born)).length (by rw[hm,← hpu.length_eq];exact Nat.lt_succ_self _) ⟨_,_,rfl,?_,rfl⟩
  rw[List.append_assoc]
  exact hper2
end Go.Proofs.YtdjkbdhdejlakaaGreatDoor
