/-
  Joined texts.
-/
import Derived.Test.YtdjkbdhdejlakaaGreatDoorVV
set_option maxRecDepth 10000
set_option linter.unusedVariables false
set_option linter.unusedSimpArgs false
set_option linter.unusedSectionVars false
namespace Go.Proofs.YtdjkbdhdejlakaaGreatDoor
open Go.Xe Go.RowKit
def pJ_:Go.Shelf.Ren:=⟨fun n=>match n with
 | 6=>81
 | 14=>117
 | 15=>79
 | 20=>163
 | 21=>164
 | 22=>165
 | 23=>166
 | 24=>167
 | 25=>168
 | 26=>169
 | 27=>170
 | 28=>114
 | 29=>115
 | 46=>191
 | 47=>159
 | 48=>160
 | 49=>192
 | 50=>193
 | 57=>211
 | n=>n,fun n=>match n with
 | 0=>0
 | 3=>3
 | 4=>4
 | 5=>5
 | 9=>9
 | 22=>70
 | 24=>56
 | 25=>97
 | 39=>151
 | 45=>181
 | 46=>182
 | 50=>138
 | 53=>189
 | 55=>191
 | 66=>230
 | 70=>172
 | 76=>257
 | 77=>258
 | n=>n,fun n=>n⟩
set_option maxRecDepth 100000 in
theorem nR_:Go.Proofs.SlLaysF0.n6 Tryz.prog pJ_ where
 mixed:=eo_
 f6:=⟨(Tryz.f81).name,by kernel_rfl,by kernel_rfl⟩
 f14:=⟨(Tryz.f117).name,by kernel_rfl,by kernel_rfl⟩
 f15:=by kernel_rfl
 f20:=⟨(Tryz.f163).name,by kernel_rfl,by kernel_rfl⟩
 f21:=⟨(Tryz.f164).name,by kernel_rfl,by kernel_rfl⟩
 f22:=⟨(Tryz.f165).name,by kernel_rfl,by kernel_rfl⟩
 f23:=⟨(Tryz.f166).name,by kernel_rfl,by kernel_rfl⟩
 f24:=⟨(Tryz.f167).name,by kernel_rfl,by kernel_rfl⟩
 f25:=⟨(Tryz.f168).name,by kernel_rfl,by kernel_rfl⟩
 f26:=⟨(Tryz.f169).name,by kernel_rfl,by kernel_rfl⟩
 f27:=⟨(Tryz.f170).name,by kernel_rfl,by kernel_rfl⟩
 f28:=by kernel_rfl
 f29:=by kernel_rfl
 f46:=⟨(Tryz.f191).name,by kernel_rfl,by kernel_rfl⟩
 f47:=by kernel_rfl
 f48:=by kernel_rfl
 f49:=⟨(Tryz.f192).name,by kernel_rfl,by kernel_rfl⟩
 f50:=⟨(Tryz.f193).name,by kernel_rfl,by kernel_rfl⟩
 f57:=⟨(Tryz.f211).name,by kernel_rfl,by kernel_rfl⟩
 t0:=Tryz.underlying0
 a0:=Tryz.isAgg0
 z0:=Tryz.sizeOf0
 v0:=Tryz.zeroValue0
 t3:=Tryz.underlying3
 a3:=Tryz.isAgg3
 z3:=Tryz.sizeOf3
 v3:=Tryz.zeroValue3
 t4:=Tryz.underlying4
 a4:=Tryz.isAgg4
 z4:=Tryz.sizeOf4
 v4:=Tryz.zeroValue4
 t5:=Tryz.underlying5
 a5:=Tryz.isAgg5
 z5:=Tryz.sizeOf5
 v5:=Tryz.zeroValue5
 t9:=Tryz.underlying9
 a9:=Tryz.isAgg9
 z9:=Tryz.sizeOf9
 v9:=Tryz.zeroValue9
 t22:=Tryz.underlying70
 a22:=Tryz.isAgg70
 z22:=Tryz.sizeOf70
 v22:=Tryz.zeroValue70
 t25:=Tryz.underlying97
 a25:=Tryz.isAgg97
 z25:=Tryz.sizeOf97
 v25:=Tryz.zeroValue97
 t39:=Tryz.underlying151
 a39:=Tryz.isAgg151
 z39:=Tryz.sizeOf151
 v39:=Tryz.zeroValue151
 t45:=Tryz.underlying181
 a45:=Tryz.isAgg181
 z45:=Tryz.sizeOf181
 v45:=Tryz.zeroValue181
 t46:=Tryz.underlying182
 a46:=Tryz.isAgg182
 z46:=Tryz.sizeOf182
 v46:=Tryz.zeroValue182
 t50:=Tryz.underlying138
 a50:=Tryz.isAgg138
 z50:=Tryz.sizeOf138
 v50:=Tryz.zeroValue138
 t53:=Tryz.underlying189
 a53:=Tryz.isAgg189
 z53:=Tryz.sizeOf189
 v53:=Tryz.zeroValue189
 t55:=Tryz.underlying191
 a55:=Tryz.isAgg191
 z55:=Tryz.sizeOf191
 v55:=Tryz.zeroValue191
 t66:=Tryz.underlying230
 a66:=Tryz.isAgg230
 z66:=Tryz.sizeOf230
 v66:=Tryz.zeroValue230
 t70:=Tryz.underlying172
 a70:=Tryz.isAgg172
 z70:=Tryz.sizeOf172
 v70:=Tryz.zeroValue172
 t76:=Tryz.underlying257
 a76:=Tryz.isAgg257
 z76:=Tryz.sizeOf257
 v76:=Tryz.zeroValue257
 t77:=Tryz.underlying258
 a77:=Tryz.isAgg258
 z77:=Tryz.sizeOf258
 v77:=Tryz.zeroValue258
theorem wc_ (a b:R2):cmpR a b<0↔ltR a b:=by
 unfold cmpR orL orL orL cK_ ltR
 constructor
 ·intro h
  split at h<;>(try split at h)<;>(try split at h)<;>(try split at h)<;>(try split at h)<;>(try split at h)<;>omega
 ·intro h
  split<;>(try split)<;>(try split)<;>(try split)<;>(try split)<;>(try split)<;>omega
theorem Cq_ (a b:R2):Go.Proofs.ltOf cmpR a b=decide (ltR a b):=by
 have:Go.Proofs.ltOf cmpR a b=decide (cmpR a b<0):=rfl
 rw[this]
 exact decide_eq_decide.2 (wc_ a b)
theorem swo_R:Go.Sort.SWO (Go.Proofs.ltOf cmpR):=by
 constructor
 ·intro x
  rw[Cq_,decide_eq_false_iff_not]
  exact ltR_irr x
 ·intro x y z h1 h2
  rw[Cq_,decide_eq_true_eq] at *
  exact h8_ h1 h2
 ·intro x y z h1 h2
  rw[Cq_,decide_eq_false_iff_not] at *
  unfold ltR at *
  omega
def rfV (r:R2):List Value:=[.int .i64 r.1,.int .i64 r.2]
theorem hh_ (o:List R2):zy_ rfV o=(rfC o).map .d:=by
 induction o with
 | nil=>rfl
 | cons r o ih =>
  rw[show rfC (r::o)=[.v (.int .i64 r.1),.v (.int .i64 r.2)]++rfC o from rfl,List.map_append,← ih]
  simp[zy_,rfV]
theorem qV_ (l:List R2) (hl:l.length≤1000000):Fun Tryz.prog 81 [.row 1000,.d (.v (.func (.func 30) #[] #[]))] [(1000,rfB l)] (.d .any) [(1000,rfB (nH_ cmpR l))] fun _=>False:=by
 have h:=g0_ (ρ:=pJ_) nR_ 2 Tryz.isAgg56 Tryz.sizeOf56 rfV (fun x=>rfl) (fun x v hv=>by
  simp only[rfV,List.mem_cons,List.not_mem_nil,or_false] at hv
  rcases hv with rfl|rfl<;>rfl) cmpR swo_R (g:=30) (run_enterFn pc_) (fun x y=>jf_ x y) l (by omega)
 rw[hh_,hh_] at h
 have hl2:=kb_ _ swo_R l
 simp only[rfB,hl2]
 exact h
theorem pw_ {M o:List R2} (hnd:M.Nodup) (h:o.Perm M):nH_ cmpR o=sortR M:=by
 obtain⟨hp,hs⟩:=sk_ swo_R o
 have hpm:(nH_ cmpR o).Perm M:=hp.trans h
 have hnd2:(nH_ cmpR o).Nodup:=hpm.nodup_iff.2 hnd
 refine py_ ?_ fun x=>hpm.mem_iff
 have h2:(nH_ cmpR o).Pairwise fun a b=>¬ ltR b a:=hs.imp fun {a b} h=>by
  rw[Cq_,decide_eq_false_iff_not] at h
  exact h
 exact (h2.and hnd2).imp fun {a b} h=>by
  rcases ltR_tri a b with h'|h'|h'
  ·exact h'
  ·exact absurd h' h.2
  ·exact absurd h' h.1
abbrev AL_:D:=.v (.func (.func 30) #[] #[])
theorem i5_ (M:List R2) (hnd:M.Nodup) (hl:M.length≤1000):Fun Tryz.prog 54 [.fn (.func 82) [] [.ptr 1000 0],.d AL_] [(1000,.cells 80 [.row 1001]),(1001,.mp (aP_ M))] (.row 0) [(1000,.cells 80 [.row 1001]),(1001,.mp (aP_ M)),(0,rfB (sortR M))] fun _=>False:=by
 refine FunX.one (α:={o:List R2 // o.Perm M}) (res:=fun _=>.row 0) (bo:=fun _=>[(1000,.cells 80 [.row 1001]),(1001,.mp (aP_ M)),(0,rfB (sortR M))]) ?_ (fun _=>rfl) (fun _=>rfl)
 refine cg_ aa_ Tryz.func54 rfl fun β0=>?_
 simp only[Tryz.f54]
 refine WP.seq ?_
 refine WP.region aa_ ?_
 simp -dsimp
 repeat refine aI ?_
 refine WP.seq ?_
 refine li_ aa_ rfl ?_
 simp -dsimp
 refine fg_ oK_ (ok_ M hnd hl) (rl [(1000,1000),(1001,1001),(0,600)]) rfl rfl (by simp) (ai_ (by simp[BoxLeq]) rfl (by first|rfl|(simp;done)) (by simp) (by simp)) (fun x=>ai_ (by simp[BoxLeq]) rfl (by first|rfl|(simp;done)) (by simp) (by simp)) (fun x=>by simp) (fun x=>?_)
 obtain⟨o,ho⟩:=x
 have hol:=ho.length_eq
 have hso:=qV_ o (by omega)
 rw[pw_ hnd ho] at hso
 refine⟨_,Wk.refl _,?_⟩
 simp -dsimp
 repeat(first|apply wG|(apply wR;simp -dsimp)|refine aI ?_)
 refine vcStop.call oJ_ (hso) (rl [(1000,600)]) rfl rfl (by simp[BoxLeq]) (ai_ (by simp[BoxLeq]) rfl (by first|rfl|(simp[BoxLeq];done)) (by simp[BoxLeq]) (by simp[BoxLeq])) (fun _ h=>h.elim) (fun ⟨_,h⟩=>h.elim) (fun ⟨_,h⟩=>h.elim) (by simp[BoxLeq]) ?_
 simp -dsimp
 repeat(first|apply wG|(apply wR;simp -dsimp)|refine aI ?_)
 refine WP.ret (finX.ret ⟨o,ho⟩ (am_ (S':=mkS 12 [(4,.row 0)] [(1000,.cells 80 [.row 1001]),(1001,.mp (aP_ M)),(0,rfB (sortR M))]) (Wk.go [] 600 0 (by decide) (by simp) (by simp) (by simp)) ?_))
 simp -dsimp
theorem oh_ (M:List R2) (hnd:M.Nodup) (hl:M.length≤1000):Fun Tryz.prog 29 [.row 1000,.d AL_] [(1000,.mp (aP_ M))] (.row 0) [(1000,.mp (aP_ M)),(0,rfB (sortR M))] fun _=>False:=by
 refine ac_ (pn:=ao_) aa_ Tryz.func29 rfl fun β0=>?_
 simp only[Tryz.f29]
 repeat(first|apply wG|(apply wR;simp -dsimp)|refine aI ?_)
 refine vcStop.call oU_ (vu_ (aP_ M)) (rl [(1000,1000),(0,600)]) rfl rfl (by simp[BoxLeq]) (ai_ (by simp[BoxLeq]) rfl (by first|rfl|(simp[BoxLeq];done)) (by simp[BoxLeq]) (by simp[BoxLeq])) (fun _ h=>h.elim) (fun ⟨_,h⟩=>h.elim) (fun ⟨_,h⟩=>h.elim) (by simp[BoxLeq]) ?_
 simp -dsimp
 repeat(first|apply wG|(apply wR;simp -dsimp)|refine aI ?_)
 refine vcStop.call oV_ (i5_ M hnd hl) (rl [(1000,600),(1001,1000),(0,601)]) rfl rfl (by simp[BoxLeq]) (ai_ (by simp[BoxLeq]) rfl (by first|rfl|(simp[BoxLeq];done)) (by simp[BoxLeq]) (by simp[BoxLeq])) (fun _ h=>h.elim) (fun ⟨_,h⟩=>h.elim) (fun ⟨_,h⟩=>h.elim) (by simp[BoxLeq]) ?_
 simp -dsimp
 repeat(first|apply wG|(apply wR;simp -dsimp)|refine aI ?_)
 refine WP.ret (am_ (S':=mkS 9 [(4,.row 0)] [(1000,.mp (aP_ M)),(0,rfB (sortR M))]) (Wk.go [600] 601 0 (by decide) (by simp) (by simp) (by simp)) ?_)
 simp -dsimp
def facVs (f:F):List Value:=(List.range' 0 57).map (Cs_ f)
def qr_ (f:F):Value:=.agg (facVs f).toArray
theorem mx_ (f:F):(facVs f).map D.v=fcs f 0 57:=by
 rw[facVs,fcs,List.map_map]
 refine List.map_congr_left fun i _=>?_
 show D.v (Cs_ f i)=fcell f i
 unfold Cs_ fcell
 split<;>rfl
theorem qq_ {f g:F} (hf:fOk f) (hg:fOk g) (h:qr_ f=qr_ g):f=g:=by
 have h1:facVs f=facVs g:=by
  have:=congrArg (fun v=>match v with|Value.agg a=>a.toList|_=>[]) h
  simpa [qr_] using this
 funext i
 by_cases hi:i<57
 ·have h2:=congrArg (fun l=>l[i]?) h1
  simp only[facVs,List.getElem?_map,List.getElem?_range' hi] at h2
  simp only[Nat.zero_add,Nat.one_mul,Option.map_some,Option.some.injEq,Cs_] at h2
  split at h2
  ·rename_i e
   subst e
   simp only[Value.bool.injEq] at h2
   have:=decide_eq_decide.1 h2
   rcases hf.2.1 with a|a<;>rcases hg.2.1 with b|b<;>simp_all
  ·simpa using h2
 ·rw[hf.2.2 i (by omega),hg.2.2 i (by omega)]
theorem vX_ (f:F):∀ {w:World} {I:Nat→Prop},Dens w I (fcs f 0 57) (facVs f):=by
 intro w I
 rw[← mx_]
 generalize facVs f=l
 induction l with
 | nil=>rfl
 | cons x l ih=>exact⟨x,l,rfl,rfl,ih⟩
theorem of_ {f:F} (hf:fOk f):∃ l,keyOf Tryz.prog 58 (qr_ f)=some l:=by
 obtain⟨n,hn,h3⟩:∃ n,n=Tryz.prog.types.size+1∧3≤n:=⟨_,rfl,by rw[nty];decide⟩
 have ok:OkD aj_ n 58 (fcs f 0 57):=pU_ 3 n 58 _ h3 (okF hf.1)
 have hl:=bI_ (w:=(default:World)) (I:=fun _=>False) aa_ qd_ cH_ n 58 5 _ (facVs f) cf_ (by decide) ok (vX_ f)
 rw[hn] at hl
 have hk:Tryz.prog.keyType 58=true:=by kernel_rfl
 have hfm:(qr_ f).formed Tryz.prog 58=true:=by
  unfold qr_ Value.formed
  rw[Tryz.underlying58]
  have:Tryz.prog.cellsOf 58=57:=by kernel_rfl
  simp[this,facVs]
 have hc:(qr_ f).cells.toList=facVs f:=by simp[qr_,Value.cells]
 simp only[keyOf,Tryz.underlying58,hk,hfm,Bool.and_self,if_true,hc,hl,Option.map_some]
 exact⟨_,rfl⟩
theorem mw_:Maps.Keyed Tryz.prog 58:=Maps.Keyed.of_law (deep_law_gate laidOut (by rw[nty];decide) (Nat.lt_of_lt_of_eq (by decide) nty.symm) (by kernel_rfl) (by rw[Tryz.underlying58]))
def dK_ (l:List F):List (Value×D):=l.map fun f=>(qr_ f,.v (.bool true))
theorem mv_ {l:List F} (h:∀ f∈l,fOk f):c8_ Tryz.prog 58 (dK_ l):=by
 intro p hp
 obtain⟨f,hf,rfl⟩:=List.mem_map.1 hp
 exact of_ (h f hf)
def yT_ (l:List F) (f:F):List F:=if fG_ l f=true then l else l++[f]
theorem vV_ {l:List F} (hl:∀ g∈l,fOk g) {f:F} (hf:fOk f):iU_ (dK_ l) (qr_ f) (.v (.bool true)) (dK_ (yT_ l f)):=by
 unfold yT_
 by_cases h:fG_ l f=true
 ·rw[if_pos h]
  obtain⟨a,b,rfl⟩:=List.append_of_mem ((b9_ hl hf).1 h)
  exact .inl ⟨dK_ a,.v (.bool true),dK_ b,by simp[dK_],by simp[dK_]⟩
 ·rw[if_neg h]
  refine .inr ⟨fun p hp e=>h ?_,by simp[dK_]⟩
  obtain⟨s,hs,rfl⟩:=List.mem_map.1 hp
  rw[← qq_ (hl s hs) hf e]
  exact (b9_ hl (hl s hs)).2 hs
theorem vW_ {l:List F} (hl:∀ g∈l,fOk g) {f:F} (hf:fOk f):jt_ (dK_ l) (qr_ f) (.v (.bool false)) (.v (.bool (fG_ l f))):=by
 cases h:fG_ l f with
 | true =>
  obtain⟨a,b,e⟩:=List.append_of_mem ((b9_ hl hf).1 h)
  exact .inl ⟨dK_ a,dK_ b,by rw[e];simp[dK_]⟩
 | false =>
  refine .inr ⟨fun p hp e=>?_,rfl⟩
  obtain⟨s,hs,rfl⟩:=List.mem_map.1 hp
  rw[← qq_ (hl s hs) hf e,(b9_ hl (hl s hs)).2 hs] at h
  cases h
theorem addF_in {l:List F} (hl:∀ g∈l,fOk g) {f g:F} (hf:fOk f):g∈yT_ l f↔g∈l∨g=f:=by
 unfold yT_
 split
 ·rename_i h
  have:=(b9_ hl hf).1 h
  exact⟨.inl,fun h'=>h'.elim id fun e=>e▸this⟩
 ·simp
theorem tK_ (f:F):Leq (.agg ((fcs f 0 57).map .d)) (.d (.v (qr_ f))):=fun w I β v hv=>by
 obtain⟨vs,rfl,h⟩:=hv
 have h:=DenAs.to_dens h
 rw[← mx_] at h
 have key:∀ (l vs:List Value),Dens w I (l.map D.v) vs→vs=l:=by
  intro l
  induction l with
  | nil=>intro vs h;exact h
  | cons x l ih =>
   intro vs h
   obtain⟨y,ys,rfl,h1,h2⟩:=h
   rw[Den] at h1
   rw[h1,ih ys h2]
 rw[key _ _ h]
 exact DenA_v.2 rfl
def adF (B:List F):Nat→List F
 | 0=>[]
 | i+1=>yT_ (adF B i) (fat B i)
theorem qK_ {B:List F} (hB:∀ f∈B,fOk f):∀ i,i≤B.length→(∀ f∈adF B i,fOk f)∧∀ f,f∈adF B i↔f∈B.take i
 | 0,_=>⟨fun _ h=>(by cases h),fun f=>(by simp[adF])⟩
 | i+1,h=>by
  obtain⟨h1,h2⟩:=qK_ hB i (by omega)
  have hf:=hB _ (mu_ (show i<B.length by omega))
  rw[adF,df_ (by omega)]
  refine⟨fun f hf'=>?_,fun f=>?_⟩
  ·rcases (addF_in h1 hf).1 hf' with h'|rfl
   ·exact h1 f h'
   ·exact hf
  ·rw[addF_in h1 hf,h2,List.mem_append,List.mem_singleton]
def alN (A H:List F):Nat→List R2
 | 0=>[]
 | i+1=>if fG_ H (fat A i)=true then alN A H i else a0_ (alN A H i) (cA_ (fat A i))
theorem gE_ {l:List R2} {r:R2} (h:l.Nodup):(a0_ l r).Nodup:=by
 unfold a0_
 split
 ·exact h
 ·rename_i hn
  exact List.nodup_append.2 ⟨h,by simp,fun a ha b hb e=>by rw[List.mem_singleton] at hb;subst hb;subst e;exact hn ha⟩
theorem j1_ {A H:List F} (hA:∀ f∈A,fOk f):∀ i,i≤A.length→(alN A H i).Nodup∧q8_ (alN A H i)∧(alN A H i).length≤i∧∀ r,r∈alN A H i↔∃ f∈A.take i,fG_ H f=false∧cA_ f=r
 | 0,_=>⟨List.nodup_nil,fun _ h=>(by cases h),by simp[alN],fun r=>by simp[alN]⟩
 | i+1,h=>by
  obtain⟨h1,h2,h3,h4⟩:=j1_ (H:=H) hA i (by omega)
  have hf:=hA _ (mu_ (show i<A.length by omega))
  rw[alN,df_ (show i<A.length by omega)]
  generalize fat A i=f at hf
  cases hh:fG_ H f with
  | true =>
   rw[if_pos rfl]
   refine⟨h1,h2,by omega,fun r=>?_⟩
   rw[h4]
   constructor
   ·rintro⟨g,k1,k2,k3⟩;exact⟨g,List.mem_append.2 (.inl k1),k2,k3⟩
   ·rintro⟨g,k1,k2,k3⟩
    rcases List.mem_append.1 k1 with k1|k1
    ·exact⟨g,k1,k2,k3⟩
    ·rw[List.mem_singleton] at k1;subst k1;rw[hh] at k2;cases k2
  | false =>
   rw[if_neg (by simp)]
   refine⟨gE_ h1,sD_ h2 (hf.1 0) (hf.1 1),?_,fun r=>?_⟩
   ·unfold a0_;split
    ·omega
    ·rw[List.length_append];simp;omega
   ·rw[addRef_in,h4]
    constructor
    ·rintro (⟨g,k1,k2,k3⟩|rfl)
     ·exact⟨g,List.mem_append.2 (.inl k1),k2,k3⟩
     ·exact⟨f,by simp,hh,rfl⟩
    ·rintro⟨g,k1,k2,k3⟩
     rcases List.mem_append.1 k1 with k1|k1
     ·exact .inl ⟨g,k1,k2,k3⟩
     ·rw[List.mem_singleton] at k1;subst k1;exact .inr k3.symm
abbrev slR (l:List R2):D:=.sl 2 (rfC l) l.length false
theorem AR_ {A B:List F} (hA:∀ f∈A,fOk f) (hB:∀ f∈B,fOk f):sortR (alN A (adF B B.length) A.length)=altL A B:=by
 obtain⟨b1,b2⟩:=qK_ hB _ (Nat.le_refl _)
 obtain⟨_,_,_,a4⟩:=j1_ (H:=adF B B.length) hA _ (Nat.le_refl _)
 refine l4_ (cn_ _) (cn_ _) fun r=>?_
 rw[cE_,a4,qJ_ hA hB,List.take_length]
 constructor
 ·rintro⟨f,k1,k2,k3⟩
  refine⟨f,k1,fun h=>?_,k3⟩
  rw[(b9_ b1 (hA f k1)).2 ((b2 f).2 (by rw[List.take_length];exact h))] at k2;cases k2
 ·rintro⟨f,k1,k2,k3⟩
  refine⟨f,k1,bool_no' fun h=>k2 ?_,k3⟩
  have:=(b2 f).1 ((b9_ b1 (hA f k1)).1 h)
  rwa[List.take_length] at this
where
 bool_no' {b:Bool} (h:b=true→False):b=false:=by cases b<;>simp_all
def bA1 (B:List F) (i:Nat):Bxs:=[(1100,.cells 95 [.row 1101]),(1101,.mp (dK_ (adF B i)))]
theorem os_ (B:List F) (i:Nat):a9_ (bA1 B i):=by
 intro k b h
 simp only[bA1,getB] at h
 (repeat' split at h)<;>cases h<;>rfl
def bA2 (A H:List F) (i:Nat):Bxs:=[(1100,.cells 95 [.row 1101]),(1101,.mp (dK_ H)),(1102,.cells 80 [.row 1103]),(1103,.mp (aP_ (alN A H i)))]
theorem or_ (A H:List F) (i:Nat):a9_ (bA2 A H i):=by
 intro k b h
 simp only[bA2,getB] at h
 (repeat' split at h)<;>cases h<;>rfl
set_option maxHeartbeats 4000000 in
theorem gr_ (a b:List Sg) (ba bb:Bool) (hla:a.length≤30) (hlb:b.length≤30) (ha:∀ p∈a,aL_ p) (hb:∀ p∈b,aL_ p):Fn0 Tryz.prog 14 [lgD a ba,lgD b bb] (slR (altL (vF a) (vF b))):=by
 have hA:=eC_ fun p hp=>(ha p hp).1
 have hB:=eC_ fun p hp=>(hb p hp).1
 have hal:=Nat.le_trans (fh_ a) hla
 have ita:=io_ a ba hla ha
 have itb:=io_ b bb hlb hb
 rw[← AR_ hA hB]
 generalize vF a=A at hA hal ita
 generalize vF b=B at hB itb
 refine gv_ aa_ Tryz.func14 rfl fun β0=>?_
 simp only[Tryz.f14]
 repeat(first|apply wG|(apply wR;simp -dsimp)|refine aI ?_)
 refine vcStop.makeMap 9 rfl (by simp) ?_
 simp -dsimp
 repeat(first|apply wG|(apply wR;simp -dsimp)|refine aI ?_)
 refine vcStop.call e6_ (in_ b bb) (rl [(0,600)]) rfl rfl (by simp[BoxLeq]) (ai_ (by simp[BoxLeq]) rfl (by first|rfl|(simp[BoxLeq];done)) (by simp[BoxLeq]) (by simp[BoxLeq])) (fun _ h=>h.elim) (fun ⟨_,h⟩=>h.elim) (fun ⟨_,h⟩=>h.elim) (by simp[BoxLeq]) ?_
 simp -dsimp
 repeat(first|apply wG|(apply wR;simp -dsimp)|refine aI ?_)
 refine cc_ e2_ itb (jump:=fun _=>none) (bA1 B) (mkS 28 [(5,.ptr 1100 0)] []).sl 990 (rl [(1000,600),(1100,5),(1101,9),(990,602)]) rfl rfl rfl (by simp) (by simp) (by simp) (fun i _=>os_ _ i)
  (by simp[bA1]) (by simp) (by simp[bA1]) (by simp) (by decide) (by simp[bA1]) (fun _ _=>rfl) (fun _ _=>rfl) ?_ (fun G=>ai_ (by simp[bA1,adF,dK_]) (by simp[bA1]) (by simp[bA1]) (by simp[bA1]) (by simp[bA1])) (fun G=>by simp[bA1]) ?_
 ·intro i hi lp β1
  have hfo:=hB _ (mu_ hi)
  have hI:=(qK_ hB i (by omega)).1
  have hvs:adF B (i+1)=yT_ (adF B i) (fat B i):=rfl
  obtain⟨lk,hlk⟩:=of_ hfo
  generalize fat B i=f at hfo hvs hlk
  simp -dsimp[bA1,fD]
  generalize adF B i=V at hI hvs ⊢
  repeat(first|apply wG|(apply wR;simp -dsimp)|refine aI ?_)
  refine bA_ aa_ rfl rfl mw_ (j:=1101) rfl (kvs:=dK_ V) (dK_ (yT_ V f)) rfl (key:=qr_ f) (tK_ f) (d:=.v (.bool true)) (.refl _) hlk (mv_ hI) (vV_ hI hfo) ?_
  simp -dsimp
  repeat(first|apply wG|(apply wR;simp -dsimp)|refine aI ?_)
  exact⟨mkS 28 [] (bA1 B (i+1)),ae_ [6] (by simp) (by simp[bA1,hvs]),subB_ok (by simp[bA1])⟩
 ·intro G
  have hH:=(qK_ hB _ (Nat.le_refl _)).1
  rw[dk_,fP_]
  simp -dsimp[bA1]
  generalize adF B B.length=H at hH
  repeat(first|apply wG|(apply wR;simp -dsimp)|refine aI ?_)
  refine vcStop.makeMap 15 rfl (by simp) ?_
  simp -dsimp
  repeat(first|apply wG|(apply wR;simp -dsimp)|refine aI ?_)
  refine vcStop.call e6_ (in_ a ba) (rl [(0,603)]) rfl rfl (by simp[BoxLeq]) (ai_ (by simp[BoxLeq]) rfl (by first|rfl|(simp[BoxLeq];done)) (by simp[BoxLeq]) (by simp[BoxLeq])) (fun _ h=>h.elim) (fun ⟨_,h⟩=>h.elim) (fun ⟨_,h⟩=>h.elim) (by simp[BoxLeq]) ?_
  simp -dsimp
  repeat(first|apply wG|(apply wR;simp -dsimp)|refine aI ?_)
  refine cc_ e2_ ita (jump:=fun _=>none) (bA2 A H) (mkS 28 [(5,.ptr 1100 0),(7,.ptr 1102 0)] []).sl 990 (rl [(1000,603),(1100,5),(1101,9),(1102,7),(1103,15),(990,605)]) rfl rfl rfl (by simp) (by simp) (by simp) (fun i _=>or_ _ _ i)
   (by simp[bA2]) (by simp) (by simp[bA2]) (by simp) (by decide) (by simp[bA2]) (fun _ _=>rfl) (fun _ _=>rfl) ?_ (fun G=>ai_ (by simp[bA2,alN,aP_]) (by simp[bA2]) (by simp[bA2]) (by simp[bA2]) (by simp[bA2])) (fun G=>by simp[bA2]) ?_
  ·intro i hi lp β1
   have hfo:=hA _ (mu_ hi)
   obtain⟨hn1,hI,_,_⟩:=j1_ (H:=H) hA i (by omega)
   have hvs:alN A H (i+1)=if fG_ H (fat A i)=true then alN A H i else a0_ (alN A H i) (cA_ (fat A i)):=rfl
   obtain⟨lk,hlk⟩:=of_ hfo
   obtain⟨lr,hlr⟩:=f7_ (r:=cA_ (fat A i)) (hfo.1 0) (hfo.1 1)
   generalize fat A i=f at hfo hvs hlk hlr
   simp -dsimp[bA2,fD]
   generalize alN A H i=V at hI hvs ⊢
   repeat(first|apply wG|(apply wR;simp -dsimp)|refine aI ?_)
   refine aK_ aa_ rfl rfl mw_ Tryz.zeroValue4 (j:=1101) rfl (kvs:=dK_ H) rfl (key:=qr_ f) (tK_ f) (.v (.bool (fG_ H f))) hlk (mv_ hH) (vW_ hH hfo) ?_
   simp -dsimp
   repeat(first|apply wG|(apply wR;simp -dsimp)|refine aI ?_)
   refine WP.cond (b := !fG_ H f) (by simp) (fun hb=>?_) (fun hb=>?_)
   ·have hb:fG_ H f=false:=by simpa using hb
    rw[if_neg (by simp[hb])] at hvs
    have hro:=ko_ f
    repeat(first|apply wG|(apply wR;simp -dsimp)|refine aI ?_)
    refine ad_ e7_ hro rfl rfl (by simp[fD]) ?_
    simp -dsimp
    repeat(first|apply wG|(apply wR;simp -dsimp)|refine aI ?_)
    refine bA_ aa_ rfl rfl dT_ (j:=1103) rfl (kvs:=aP_ V) (aP_ (a0_ V (cA_ f))) rfl (key:=cC_ (cA_ f)) (pH_ _ _) (d:=.v (.bool true)) (.refl _) hlr (dS_ hI) (kj_ V _) ?_
    simp -dsimp
    repeat(first|apply wG|(apply wR;simp -dsimp)|refine aI ?_)
    exact⟨mkS 28 [] (bA2 A H (i+1)),ae_ [8] (by simp) (by simp[bA2,hvs]),subB_ok (by simp[bA2])⟩
   ·have hb:fG_ H f=true:=by simpa using hb
    rw[if_pos hb] at hvs
    refine WP.skip ?_
    simp -dsimp
    repeat(first|apply wG|(apply wR;simp -dsimp)|refine aI ?_)
    exact⟨mkS 28 [] (bA2 A H (i+1)),ae_ [8] (by simp) (by simp[bA2,hvs]),subB_ok (by simp[bA2])⟩
  ·intro G2
   obtain⟨hn1,_,hl1,_⟩:=j1_ (H:=H) hA _ (Nat.le_refl _)
   rw[dk_,fP_]
   simp -dsimp[bA2]
   generalize alN A H A.length=M at hn1 hl1
   repeat(first|apply wG|(apply wR;simp -dsimp)|refine aI ?_)
   refine vcStop.call pd_ (oh_ M hn1 (by omega)) (rl [(1000,15),(0,700)]) rfl rfl (by simp[BoxLeq]) (ai_ (by simp[BoxLeq]) rfl (by first|rfl|(simp[BoxLeq];done)) (by simp[BoxLeq]) (by simp[BoxLeq])) (fun _ h=>h.elim) (fun ⟨_,h⟩=>h.elim) (fun ⟨_,h⟩=>h.elim) (by simp[BoxLeq]) ?_
   simp -dsimp
   repeat(first|apply wG|(apply wR;simp -dsimp)|refine aI ?_)
   generalize sortR M=Z
   refine WP.ret (oe_ ((ae_ [] (S':=mkS 28 [(4,.row 700)] [(602,.obj G (.deferred (some []))),(700,rfB Z),(605,.obj G2 (.deferred (some [])))] [G2,G]) (by simp) (by simp)).trans (Wk.freeze (k:=700) (T:=56) (sz:=2) (n:=Z.length) (ds:=rfC Z) (by simp))) ?_ G2 605 G 602 (by decide) rfl rfl rfl rfl rfl)
   simp -dsimp
end Go.Proofs.YtdjkbdhdejlakaaGreatDoor
