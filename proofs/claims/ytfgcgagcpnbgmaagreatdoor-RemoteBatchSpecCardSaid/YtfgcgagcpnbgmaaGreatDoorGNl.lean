/-
  Joined texts.
-/
import Derived.Test.YtfgcgagcpnbgmaaGreatDoorGLc
import Derived.Test.YtfgcgagcpnbgmaaGreatDoorGNg
import Derived.Test.YtfgcgagcpnbgmaaGreatDoorG8
import Derived.Test.YtfgcgagcpnbgmaaGreatDoorGEngSc
import Derived.Test.YtfgcgagcpnbgmaaGreatDoorGG
set_option linter.all false
namespace Go.Proofs.YtfgcgagcpnbgmaaGreatDoor
open Go.Xe Go.RowKit
theorem rO_ (l:List By):Fun Tryz.prog 83 [.d (slLB l)] [] (.fn (.func 146) [] [.ptr 0 0]) [(0,.cells 25 [.d (slLB l)])] fun _=>False:=by
 refine ad_ (pn:=an_) ac_ Tryz.func83 rfl fun β0=>?_
 simp only[Tryz.f83]
 refine sG ?_
 refine WP.ret (aj_ (S':=mkS 4 [(2,.fn (.func 146) [] [.ptr 0 0])] [(0,.cells 25 [.d (slLB l)])]) (Wk.go [] 1 0 (by decide) (by simp) (by simp) (by simp)) ?_)
 simp -dsimp
theorem au_ {l:List By} {i:Nat} (h:i<(lsB l).length):(lsB l)[i]=slB (l[i]'(by rwa[aZ_] at h)):=by simp[lsB]
theorem fF_ {l:List By} {k at_ last:Nat} (h:rd l at_ (l.length-at_) at_ []=none):rcs l k at_ last=[]:=by
 cases k with
 | zero=>rfl
 | succ k=>rw[rcs,h]
theorem qo_ {l:List By} {k at_ last:Nat} (h:genS (l.getD at_ [])<last):rcs l k at_ last=[]:=by
 cases k with
 | zero=>rfl
 | succ k =>
  rw[rcs]
  cases rd l at_ (l.length-at_) at_ [] with
  | none=>rfl
  | some p=>obtain⟨e,b⟩:=p;simp only;rw[if_pos h]
theorem qn_ {l:List By} {k at_ last e:Nat} {b:By} (h:rd l at_ (l.length-at_) at_ []=some (e,b)) (hg:¬ genS (l.getD at_ [])<last) (hk:l.length≤at_+k):∃ k',rcs l k at_ last=(e,b)::rcs l k' e (genS (l.getD at_ []))∧l.length≤e+k':=by
 have he:=eN_ h
 cases k with
 | zero=>exact absurd he (by omega)
 | succ k =>
  refine⟨k,?_,by omega⟩
  rw[rcs,h];simp only;rw[if_neg hg]
abbrev rkX (l:List By):Box:=.cells 25 [.d (slLB l)]
abbrev rkO (lp:Nat) (l:List By) (at_ last:Nat) (q:Value→World→(Nat→Prop)→Prop):St :=
 mkS 77 [(0,.d (.v (.func (.yield lp) #[] #[]))),(1,.ptr 1000 0),(3,.d (.v (.int .i64 at_))),(4,.d (.v (.int .u64 last)))] [(1000,rkX l),(500,.opq q)]
abbrev rkI (lp:Nat) (l:List By) (at_ last n:Nat) (b:By) (q:Value→World→(Nat→Prop)→Prop):St :=
 mkS 77 [(0,.d (.v (.func (.yield lp) #[] #[]))),(1,.ptr 1000 0),(3,.d (.v (.int .i64 at_))),(4,.d (.v (.int .u64 last))),(5,.row 505),(6,.d (.v (.int .i64 n)))] [(1000,rkX l),(500,.opq q),(505,.row 5 1 b.length ((bys b).map .d))]
set_option maxRecDepth 10000 in
set_option maxHeartbeats 4000000 in
theorem rP_ (l:List By) (hl:∀ b∈l,b.length=128) (hn:l.length≤4096):re_ Tryz.prog 146 [.ptr 1000 0] [(1000,rkX l)] (fun i=>[.v (.int .i64 ((rcs l l.length 0 0).getD i (0,[])).1),slB ((rcs l l.length 0 0).getD i (0,[])).2]) (fun _=>true) (rcs l l.length 0 0).length:=by
 intro lp B hB
 simp only[List.cons_append,List.nil_append]
 refine ad_ (pn:=an_) ac_ Tryz.func146 rfl fun β0=>?_
 simp only[Tryz.f146]
 refine WP.scope ?_
 refine sG ?_
 refine WP.label ?_
 simp -dsimp
 refine sG ?_
 refine ai_ (fun m S=>∃ l1 k at_ last,rcs l l.length 0 0=l1++rcs l k at_ last∧l.length≤at_+k∧at_≤l.length∧last<4294967296∧m=l.length-at_∧S=rkO lp l at_ last (B l1.length)) l.length
  (S0:=rkO lp l 0 0 (B 0)) (Wk.go [] 1999 500 (by decide) (by simp) (by simp) (by simp)) ⟨[],l.length,0,0,rfl,by omega,by omega,by decide,by simp,rfl⟩ ?_
 rintro _ _ ⟨l1,k,at_,last,hR,hk,hat,hlast,rfl,rfl⟩
 simp -dsimp
 refine sG ?_
 refine ai_ (fun q S=>∃ n b f,q=f∧n+f=l.length∧at_≤n∧b.length=112*(n-at_)∧rd l at_ (l.length-at_) at_ []=rd l at_ f n b∧S=rkI lp l at_ last n b (B l1.length)) (l.length-at_)
  (S0:=rkI lp l at_ last at_ [] (B l1.length)) ((ct_ 5 505 5 1 (by simp) (by simp)).trans (af_ [] (by simp) (by simp))) ⟨at_,[],l.length-at_,rfl,by omega,Nat.le_refl _,by simp,rfl,rfl⟩ ?_
 rintro f _ ⟨n,b,_,rfl,hnf,han,hbl,hrd,rfl⟩
 simp -dsimp
 refine sG ?_
 cases f with
 | zero =>
  have hst:rcs l k at_ last=[]:=fF_ (by rw[hrd];rfl)
  rw[hst,List.append_nil] at hR
  refine cF (by simp;omega) ?_
  refine WP.exit ?_
  simp -dsimp
  refine sG ?_
  refine WP.ret ?_
  simp -dsimp
  refine aj_ (S':=mkS 77 [] [(1000,rkX l),(0,.opq (B (rcs l l.length 0 0).length))]) (Wk.go [505] 500 0 (by decide) (by simp) (by simp) (by simp[hR])) ?_
  simp -dsimp
 | succ f =>
  have hnl:n<l.length:=by omega
  have hal:at_<l.length:=by omega
  have hgn:l.getD n []=l[n]:=by simp[hnl]
  have hga:l.getD at_ []=l[at_]:=by simp[hal]
  have hs:=hl _ (List.getElem_mem hnl)
  have hs0:=hl _ (List.getElem_mem hal)
  have lll:=aZ_ l
  have ls:=ah_ l[n]
  have ls0:=ah_ l[at_]
  have hgood:=zo_ l[n] hs n (by omega)
  have hget:=iP_ (l[n].take 4) (by rw[List.length_take];omega)
  rw[cp_ _ 4 (by omega),← genS] at hget
  have hget0:=iP_ (l[at_].take 4) (by rw[List.length_take];omega)
  rw[cp_ _ 4 (by omega),← genS] at hget0
  have k10:=(byA l[n] 10).toNat_lt
  have a2:=q7_ (byA l[n] 10).toNat k10
  have a1:=q8_ (byA l[n] 10).toNat k10
  have h10:l[n][10]'(by omega)=byA l[n] 10:=by simp[byA,hs]
  have h11:l[n][11]'(by omega)=byA l[n] 11:=by simp[byA,hs]
  refine cT (by simp;omega) ?_
  refine WP.skip ?_
  simp -dsimp
  refine WP.seq (WP.block ?_)
  refine WP.seq ?_
  refine WP.region ac_ ?_
  simp -dsimp[au_,lll,hnl]
  repeat refine aI ?_
  refine ar_ (S':=mkS 77 [(0,.d (.v (.func (.yield lp) #[] #[]))),(1,.ptr 1000 0),(3,.d (.v (.int .i64 at_))),(4,.d (.v (.int .u64 last))),(5,.row 505),(6,.d (.v (.int .i64 n))),(7,.d (slB l[n]))] [(1000,rkX l),(500,.opq (B l1.length)),(505,.row 5 1 b.length ((bys b).map .d))]) (af_ [] (by simp) (by simp)) ?_
  simp -dsimp[slB,hs]
  cases hG:gdB l[n] n with
  | false =>
   have hst:rcs l k at_ last=[]:=fF_ (by rw[hrd,rd,hgn,if_neg (by rw[hG];rintro⟨h,_⟩;cases h)])
   rw[hst,List.append_nil] at hR
   rw[hG] at hgood
   have q1:True:=trivial
   have q2:True:=trivial
   have q3:True:=trivial
   have q4:True:=trivial
   repeat(first|apply wG|(apply wR;simp -dsimp[au_,lll,hnl,hal,av_,ls,ls0,hs,hs0,h10,h11,a1,a2])|refine aI ?_)
   refine aa_ cj_ hgood rfl rfl (by simp[slB,hs]) ?_
   simp -dsimp[au_,lll,hnl,hal,av_,ls,ls0,hs,hs0,h10,h11,a1,a2]
   repeat refine aI ?_
   refine vcStopG.skip (.d (.v (.int .u64 0))) ?_
   simp -dsimp[au_,lll,hnl,hal,av_,ls,ls0,hs,hs0,h10,h11,a1,a2]
   repeat refine aI ?_
   refine vcStopG.skip (.d (.v (.int .u64 0))) ?_
   simp -dsimp[au_,lll,hnl,hal,av_,ls,ls0,hs,hs0,h10,h11,a1,a2]
   repeat refine aI ?_
   refine vcStopG.skip (.d (.v (.int .u64 0))) ?_
   simp -dsimp[au_,lll,hnl,hal,av_,ls,ls0,hs,hs0,h10,h11,a1,a2]
   repeat refine aI ?_
   refine cT (by simp) ?_
   refine WP.ret ?_
   simp -dsimp
   refine aj_ (S':=mkS 77 [] [(1000,rkX l),(0,.opq (B (rcs l l.length 0 0).length))]) (Wk.go [505] 500 0 (by decide) (by simp) (by simp) (by simp[hR])) ?_
   simp -dsimp
  | true =>
   rw[hG] at hgood
   obtain⟨x,q1⟩:∃ x,decide (((byA l[n] 10).toNat:Int)%2=0)=x:=⟨_,rfl⟩
   have hxb:begS l[n] = !x:=by
    rw[← q1,Bool.eq_iff_iff,begS,knd];simp;omega
   have hni:decide ((n:Int)=(at_:Int))=decide (n=at_):=by rw[Bool.eq_iff_iff,decide_eq_true_eq,decide_eq_true_eq];omega
   obtain⟨y,q2⟩:∃ y,decide ((n:Int)=(at_:Int))=y:=⟨_,rfl⟩
   by_cases hH:begS l[n]=decide (n=at_)
   ·have hxy:y = !x:=by rw[← q2,hni,← hH,hxb]
    by_cases hI:genS l[n]=genS l[at_]
    ·by_cases hJ:genS l[n]<last
     ·have hst:rcs l k at_ last=[]:=qo_ (by rw[hga,← hI];exact hJ)
      rw[hst,List.append_nil] at hR
      have q3:decide ((genS l[n]:Int)=(genS l[at_]:Int))=true:=decide_eq_true (by omega)
      have q4:decide (genS l[n]<last)=true:=decide_eq_true hJ
      subst hxy
      cases x
      all_goals
       repeat(first|apply wG|(apply wR;simp -dsimp[au_,lll,hnl,hal,av_,ls,ls0,hs,hs0,h10,h11,a1,a2])|refine aI ?_)
       refine aa_ cj_ hgood rfl rfl (by simp[slB,hs]) ?_
       simp -dsimp[au_,lll,hnl,hal,av_,ls,ls0,hs,hs0,h10,h11,a1,a2,q1,q2]
       repeat refine aI ?_
       refine ae_ aM_ (fun _=>hget) rfl (fun _=>rfl) (fun _=>by simp) ?_
       simp -dsimp[au_,lll,hnl,hal,av_,ls,ls0,hs,hs0,h10,h11,a1,a2,q3,q4]
       repeat refine aI ?_
       refine ae_ aM_ (fun _=>hget0) rfl (fun _=>rfl) (fun _=>by simp) ?_
       simp -dsimp[au_,lll,hnl,hal,av_,ls,ls0,hs,hs0,h10,h11,a1,a2,q3,q4]
       repeat refine aI ?_
       refine ae_ aM_ (fun _=>hget) rfl (fun _=>rfl) (fun _=>by simp) ?_
       simp -dsimp[au_,lll,hnl,hal,av_,ls,ls0,hs,hs0,h10,h11,a1,a2,q3,q4]
       repeat refine aI ?_
       refine cT (by simp) ?_
       refine WP.ret ?_
       simp -dsimp
       refine aj_ (S':=mkS 77 [] [(1000,rkX l),(0,.opq (B (rcs l l.length 0 0).length))]) (Wk.go [505] 500 0 (by decide) (by simp) (by simp) (by simp[hR])) ?_
       simp -dsimp
     ·refine eI_ (mkS 77 [(0,.d (.v (.func (.yield lp) #[] #[]))),(1,.ptr 1000 0),(3,.d (.v (.int .i64 at_))),(4,.d (.v (.int .u64 last))),(5,.row 505),(6,.d (.v (.int .i64 n))),(7,.d (slB l[n]))] [(1000,rkX l),(500,.opq (B l1.length)),(505,.row 5 1 b.length ((bys b).map .d))]) ?_ ?_
      ·have q3:decide ((genS l[n]:Int)=(genS l[at_]:Int))=true:=decide_eq_true (by omega)
       have q4:decide (genS l[n]<last)=false:=decide_eq_false hJ
       subst hxy
       cases x
       all_goals
        repeat(first|apply wG|(apply wR;simp -dsimp[au_,lll,hnl,hal,av_,ls,ls0,hs,hs0,h10,h11,a1,a2])|refine aI ?_)
        refine aa_ cj_ hgood rfl rfl (by simp[slB,hs]) ?_
        simp -dsimp[au_,lll,hnl,hal,av_,ls,ls0,hs,hs0,h10,h11,a1,a2,q1,q2]
        repeat refine aI ?_
        refine ae_ aM_ (fun _=>hget) rfl (fun _=>rfl) (fun _=>by simp) ?_
        simp -dsimp[au_,lll,hnl,hal,av_,ls,ls0,hs,hs0,h10,h11,a1,a2,q3,q4]
        repeat refine aI ?_
        refine ae_ aM_ (fun _=>hget0) rfl (fun _=>rfl) (fun _=>by simp) ?_
        simp -dsimp[au_,lll,hnl,hal,av_,ls,ls0,hs,hs0,h10,h11,a1,a2,q3,q4]
        repeat refine aI ?_
        refine ae_ aM_ (fun _=>hget) rfl (fun _=>rfl) (fun _=>by simp) ?_
        simp -dsimp[au_,lll,hnl,hal,av_,ls,ls0,hs,hs0,h10,h11,a1,a2,q3,q4]
        repeat refine aI ?_
        refine cF (by simp) ?_
        refine WP.skip ?_
        refine aY_ (af_ [] (by simp[slB,hs]) (by simp))
      ·have _tail:=True.intro
       have hrd':rd l at_ (l.length-at_) at_ []=if or_ l[n]=true then some (n+1,b++pcS l[n]) else rd l at_ f (n+1) (b++pcS l[n]):=by
        rw[hrd,rd,hgn,hga,if_pos ⟨hG,hH,hI⟩]
       have hG':=hG
       simp only[gdB,Bool.and_eq_true,Bool.or_eq_true,decide_eq_true_eq] at hG'
       obtain⟨g1,_,g3,g4,_⟩:=hG'
       have lpc:(pcS l[n]).length=pcL l[n]:=by rw[pcS,List.length_take,List.length_drop,hs];omega
       have hpl:pcL l[n]=(byA l[n] 11).toNat:=rfl
       have e11:IntKind.i64.wrap ((byA l[n] 11).toNat:Int)=((byA l[n] 11).toNat:Int):=IntWalk.i64_in _ (by omega)
       have e12:IntKind.i64.wrap (12+((byA l[n] 11).toNat:Int))=12+((byA l[n] 11).toNat:Int):=IntWalk.i64_in _ (by omega)
       have e13:(12+((byA l[n] 11).toNat:Int)-12).toNat=(byA l[n] 11).toNat:=by omega
       have hbp:bys (b++pcS l[n])=bys b++((bys l[n]).drop 12).take (byA l[n] 11).toNat:=by
        rw[bys,List.map_append,pcS,List.map_take,List.map_drop];rfl
       obtain⟨X,hX⟩:∃ X,List.take (byA l[n] 11).toNat (List.drop 12 (bys l[n]))=X:=⟨_,rfl⟩
       rw[hX] at hbp
       have lbp:(b++pcS l[n]).length=b.length+(byA l[n] 11).toNat:=by rw[List.length_append,lpc,hpl]
       have q5:decide (((byA l[n] 10).toNat:Int)/2%2*2=0) = !or_ l[n]:=by
        rw[Bool.eq_iff_iff,or_,knd];simp;omega
       have e1:IntKind.i64.wrap ((n:Int)+1)=(n:Int)+1:=IntWalk.i64_in _ (by omega)
       simp -dsimp[slB,hs]
       have lX:X.length=(byA l[n] 11).toNat:=by rw[← hX,List.length_take,List.length_drop,ls];omega
       have k11:=(byA l[n] 11).toNat_lt
       refine WP.seq ?_
       refine WP.region ac_ ?_
       simp -dsimp[av_,ls,hs,h11,e11,e12,e13,hX]
       refine And.intro (by omega) ?_
       refine And.intro ⟨lX,by omega⟩ ?_
       refine ar_ (S':=mkS 77 [(0,.d (.v (.func (.yield lp) #[] #[]))),(1,.ptr 1000 0),(3,.d (.v (.int .i64 at_))),(4,.d (.v (.int .u64 last))),(5,.row 505),(6,.d (.v (.int .i64 n))),(7,.d (slB l[n]))] [(1000,rkX l),(500,.opq (B l1.length)),(505,.row 5 1 (b++pcS l[n]).length ((bys (b++pcS l[n])).map .d))]) (Wk.go [] 61 505 (by decide) (by simp[slB,hs]) (by simp[slB,hs]) (by rw[hbp,lbp];simp)) ?_
       generalize hb':b++pcS l[n]=b' at hrd' hbp lbp
       simp -dsimp[slB,hs]
       repeat(first|apply wG|(apply wR;simp -dsimp[av_,ls,hs,h10,a2])|refine aI ?_)
       cases hE:or_ l[n] with
       | true =>
        rw[hE] at q5
        rw[hE,if_pos rfl] at hrd'
        have hJ':¬ genS (l.getD at_ [])<last:=by rw[hga,← hI];exact hJ
        obtain⟨k',hk1,hk2⟩:=qn_ hrd' hJ' hk
        rw[hga] at hk1
        have hR':rcs l l.length 0 0=l1++[(n+1,b')]++rcs l k' (n+1) (genS l[at_]):=by rw[hR,hk1];simp
        have hgl:=gu_ l[at_]
        have hll1:(l1++[(n+1,b')]).length=l1.length+1:=by simp
        have hy:=hB l1.length (by rw[hR'];simp)
        have hx:(rcs l l.length 0 0).getD l1.length (0,[])=(n+1,b'):=by rw[hR'];simp
        simp only[hx] at hy
        refine cT (by simp[q5]) ?_
        repeat(first|apply wG|(apply wR;simp -dsimp[e1,ls,hs])|refine aI ?_)
        refine aa_ aM_ hget rfl rfl (by simp) ?_
        simp -dsimp
        repeat refine aI ?_
        refine ar_ (Wk.freeze (k:=505) (T:=5) (sz:=1) (n:=b'.length) (ds:=bys b') rfl) ?_
        simp -dsimp
        refine sG ?_
        refine vcStop.yield hy 500 501 rfl rfl (by simp[slB]) rfl (by decide) (by simp) ?_
        simp -dsimp
        refine sG ?_
        refine cF (by simp) ?_
        refine WP.skip ?_
        simp -dsimp
        refine WP.exit ?_
        simp -dsimp
        refine loopW.next (rkO lp l (n+1) (genS l[at_]) (B (l1.length+1))) (Wk.go [] 501 500 (by decide) (by simp) (by simp[hI]) (by simp)) (l.length-(n+1)) (by omega) ⟨l1++[(n+1,b')],k',n+1,genS l[at_],hR',hk2,by omega,hgl,rfl,by rw[hll1]⟩
       | false =>
        rw[hE] at q5
        rw[hE,if_neg (by decide)] at hrd'
        refine cF (by simp[q5]) ?_
        refine WP.skip ?_
        simp -dsimp
        repeat(first|apply wG|(apply wR;simp -dsimp[e1])|refine aI ?_)
        refine loopW.next (rkI lp l at_ last (n+1) b' (B l1.length)) (af_ [] (by simp) (by simp)) f (by omega) ⟨n+1,b',f,rfl,by omega,by omega,?_,hrd',rfl⟩
        have:pcL l[n]=112:=by rcases g3 with g3|g3;(rw[hE] at g3;cases g3);exact g3
        omega
    ·have hst:rcs l k at_ last=[]:=fF_ (by rw[hrd,rd,hgn,hga,if_neg (by rintro⟨_,_,h⟩;exact hI h)])
     rw[hst,List.append_nil] at hR
     have q3:decide ((genS l[n]:Int)=(genS l[at_]:Int))=false:=decide_eq_false (by omega)
     have q4:True:=trivial
     subst hxy
     cases x
     all_goals
      repeat(first|apply wG|(apply wR;simp -dsimp[au_,lll,hnl,hal,av_,ls,ls0,hs,hs0,h10,h11,a1,a2])|refine aI ?_)
      refine aa_ cj_ hgood rfl rfl (by simp[slB,hs]) ?_
      simp -dsimp[au_,lll,hnl,hal,av_,ls,ls0,hs,hs0,h10,h11,a1,a2,q1,q2]
      repeat refine aI ?_
      refine ae_ aM_ (fun _=>hget) rfl (fun _=>rfl) (fun _=>by simp) ?_
      simp -dsimp[au_,lll,hnl,hal,av_,ls,ls0,hs,hs0,h10,h11,a1,a2,q3]
      repeat refine aI ?_
      refine ae_ aM_ (fun _=>hget0) rfl (fun _=>rfl) (fun _=>by simp) ?_
      simp -dsimp[au_,lll,hnl,hal,av_,ls,ls0,hs,hs0,h10,h11,a1,a2,q3]
      repeat refine aI ?_
      refine vcStopG.skip (.d (.v (.int .u64 0))) ?_
      simp -dsimp[au_,lll,hnl,hal,av_,ls,ls0,hs,hs0,h10,h11,a1,a2,q3]
      repeat refine aI ?_
      refine cT (by simp) ?_
      refine WP.ret ?_
      simp -dsimp
      refine aj_ (S':=mkS 77 [] [(1000,rkX l),(0,.opq (B (rcs l l.length 0 0).length))]) (Wk.go [505] 500 0 (by decide) (by simp) (by simp) (by simp[hR])) ?_
      simp -dsimp
   ·have hxy:y=x:=by
     rw[← q2,hni];rw[hxb] at hH;cases x<;>cases hd:decide (n=at_)<;>simp_all
    have hst:rcs l k at_ last=[]:=fF_ (by rw[hrd,rd,hgn,if_neg (by rintro⟨_,h,_⟩;exact hH h)])
    rw[hst,List.append_nil] at hR
    rw[hxy] at q2
    clear hxy
    cases x
    all_goals
     repeat(first|apply wG|(apply wR;simp -dsimp[au_,lll,hnl,hal,av_,ls,ls0,hs,hs0,h10,h11,a1,a2])|refine aI ?_)
     refine aa_ cj_ hgood rfl rfl (by simp[slB,hs]) ?_
     simp -dsimp[au_,lll,hnl,hal,av_,ls,ls0,hs,hs0,h10,h11,a1,a2,q1,q2]
     repeat refine aI ?_
     refine vcStopG.skip (.d (.v (.int .u64 0))) ?_
     simp -dsimp[au_,lll,hnl,hal,av_,ls,ls0,hs,hs0,h10,h11,a1,a2]
     repeat refine aI ?_
     refine vcStopG.skip (.d (.v (.int .u64 0))) ?_
     simp -dsimp[au_,lll,hnl,hal,av_,ls,ls0,hs,hs0,h10,h11,a1,a2]
     repeat refine aI ?_
     refine vcStopG.skip (.d (.v (.int .u64 0))) ?_
     simp -dsimp[au_,lll,hnl,hal,av_,ls,ls0,hs,hs0,h10,h11,a1,a2]
     repeat refine aI ?_
     refine cT (by simp) ?_
     refine WP.ret ?_
     simp -dsimp
     refine aj_ (S':=mkS 77 [] [(1000,rkX l),(0,.opq (B (rcs l l.length 0 0).length))]) (Wk.go [505] 500 0 (by decide) (by simp) (by simp) (by simp[hR])) ?_
     simp -dsimp
end Go.Proofs.YtfgcgagcpnbgmaaGreatDoor
set_option maxRecDepth 10000
set_option maxHeartbeats 4000000
namespace Go.Proofs.YtfgcgagcpnbgmaaGreatDoor
open Go.Xe Go.RowKit
def rcT (at_:Nat):Option (Nat×By)→D
 | none=>.tup [slB [],.v (.int .i64 0)]
 | some (e,b)=>.tup [slB b,.v (.int .i64 ((e-at_:Nat):Int))]
abbrev rcdS (l:List By) (at_ k:Nat) (b:By):St:=mkS 72 [(0,.d (slLB l)),(1,.d (.v (.int .i64 at_))),(6,.row 500),(7,.d (.v (.int .i64 k)))] [(500,.row 5 1 b.length ((bys b).map .d))]
theorem ti_ (l:List By) (hl:∀ b∈l,b.length=128) (hn:l.length≤4096) (at_:Nat) (hat:at_≤l.length):Fn0 Tryz.prog 154 [slLB l,.v (.int .i64 at_)] (rcT at_ (rd l at_ (l.length-at_) at_ [])):=by
 have lll:=aZ_ l
 refine ad_ (pn:=an_) ac_ Tryz.func154 rfl fun β0=>?_
 simp only[Tryz.f154]
 refine sG ?_
 refine ai_ (fun q S=>∃ k b,q=l.length-(at_+k)∧at_+k≤l.length∧b.length=112*k∧rd l at_ (l.length-at_) at_ []=rd l at_ (l.length-(at_+k)) (at_+k) b∧S=rcdS l at_ k b) (l.length-at_)
  (S0:=rcdS l at_ 0 []) (Wk.go [] 9 500 (by decide) (by simp) (by simp) (by simp[bys])) ⟨0,[],rfl,by omega,rfl,rfl,rfl⟩ ?_
 rintro _ _ ⟨k,b,rfl,hk,hbl,hrd,rfl⟩
 obtain⟨n,hn0⟩:∃ n,at_+k=n:=⟨_,rfl⟩
 have e0:IntKind.i64.wrap ((at_:Int)+(k:Int))=(n:Int):=by rw[IntWalk.i64_in _ (by omega)];omega
 rw[hn0] at hrd hk
 simp -dsimp
 repeat(first|apply wG|(apply wR;simp -dsimp[e0])|refine aI ?_)
 by_cases hnl:n<l.length
 ·have hal:at_<l.length:=by omega
  have hgn:l.getD n []=l[n]:=by simp[hnl]
  have hga:l.getD at_ []=l[at_]:=by simp[hal]
  have hs:=hl _ (List.getElem_mem hnl)
  have hs0:=hl _ (List.getElem_mem hal)
  have ls:=ah_ l[n]
  have ls0:=ah_ l[at_]
  have hgood:=rM_ l[n] hs n (by omega)
  have hget:=cz_ (l[n].take 4) (by rw[List.length_take];omega)
  rw[cp_ _ 4 (by omega),← genS] at hget
  have hget0:=cz_ (l[at_].take 4) (by rw[List.length_take];omega)
  rw[cp_ _ 4 (by omega),← genS] at hget0
  have k10:=(byA l[n] 10).toNat_lt
  have h10:l[n][10]'(by omega)=byA l[n] 10:=by simp[byA,hs]
  have h11:l[n][11]'(by omega)=byA l[n] 11:=by simp[byA,hs]
  obtain⟨f,hf⟩:∃ f,l.length-n=f+1:=⟨l.length-n-1,by omega⟩
  have hf2:f=l.length-(at_+(k+1)):=by omega
  rw[hf,rd,hgn,hga] at hrd
  refine cT (by simp;omega) ?_
  refine WP.skip ?_
  simp -dsimp
  have et:((byA l[n] 10).toNat:Int).tmod 2=(((byA l[n] 10).toNat%2:Nat):Int):=by rw[Int.tmod_eq_emod_of_nonneg (by omega)];omega
  refine WP.seq (WP.block ?_)
  repeat(first|apply wG|(apply wR;simp -dsimp[au_,lll,hnl,hal,e0,slB,hs,hs0,av_,ls,ls0,h10])|refine aI ?_)
  refine aa_ nD_ hgood rfl rfl (by simp[slB,hs]) ?_
  simp -dsimp[au_,lll,hnl,hal,e0,slB,hs,hs0,av_,ls,ls0,h10]
  repeat refine aI ?_
  refine ae_ bb_ (fun _=>hget) rfl (fun _=>rfl) (fun _=>by simp) ?_
  simp -dsimp[au_,lll,hnl,hal,e0,slB,hs,hs0,av_,ls,ls0,h10]
  repeat refine aI ?_
  refine ae_ bb_ (fun _=>hget0) rfl (fun _=>rfl) (fun _=>by simp) ?_
  simp -dsimp[au_,lll,hnl,hal,e0,slB,hs,hs0,av_,ls,ls0,h10]
  refine And.intro (fun a b c=>.inr ⟨⟨a,b⟩,c⟩) (And.intro (fun a b=>⟨a,b⟩) (And.intro (by rfl) ?_))
  have hx:decide (((byA l[n] 10).toNat:Int).tmod 2=1)=begS l[n]:=by
   rw[et,begS,knd,decide_eq_decide];omega
  have hy:decide (k=0)=decide (n=at_):=by rw[decide_eq_decide];omega
  by_cases hG:gdB l[n] n=true∧begS l[n]=decide (n=at_)∧genS l[n]=genS l[at_]
  ·rw[if_pos hG] at hrd
   obtain⟨G1,G2,G3⟩:=hG
   have hG':=G1
   simp only[gdB,Bool.and_eq_true,Bool.or_eq_true,decide_eq_true_eq] at hG'
   obtain⟨g1,g2,g3,g4,_⟩:=hG'
   have lpc:(pcS l[n]).length=pcL l[n]:=by rw[pcS,List.length_take,List.length_drop,hs];omega
   have hpl:pcL l[n]=(byA l[n] 11).toNat:=rfl
   have e11:IntKind.i64.wrap ((byA l[n] 11).toNat:Int)=((byA l[n] 11).toNat:Int):=IntWalk.i64_in _ (by omega)
   have e12:IntKind.i64.wrap (12+((byA l[n] 11).toNat:Int))=12+((byA l[n] 11).toNat:Int):=IntWalk.i64_in _ (by omega)
   have e13:(12+((byA l[n] 11).toNat:Int)-12).toNat=(byA l[n] 11).toNat:=by omega
   have hbp:bys (b++pcS l[n])=bys b++((bys l[n]).drop 12).take (byA l[n] 11).toNat:=by
    rw[bys,List.map_append,pcS,List.map_take,List.map_drop];rfl
   obtain⟨X,hX⟩:∃ X,List.take (byA l[n] 11).toNat (List.drop 12 (bys l[n]))=X:=⟨_,rfl⟩
   rw[hX] at hbp
   have lbp:(b++pcS l[n]).length=b.length+(byA l[n] 11).toNat:=by rw[List.length_append,lpc,hpl]
   have lX:X.length=(byA l[n] 11).toNat:=by rw[← hX,List.length_take,List.length_drop,ls];omega
   have k11:=(byA l[n] 11).toNat_lt
   have e1:IntKind.i64.wrap ((k:Int)+1)=((k+1:Nat):Int):=by rw[IntWalk.i64_in _ (by omega)];omega
   have hE:or_ l[n]=decide (2≤(byA l[n] 10).toNat):=by
    rw[or_,decide_eq_decide]
    have:knd l[n]=(byA l[n] 10).toNat:=rfl
    omega
   refine cF (by simp[hx,hy,G1,G2,G3]) ?_
   refine WP.skip ?_
   refine ar_ (S':=mkS 72 [(0,.d (slLB l)),(1,.d (.v (.int .i64 at_))),(6,.row 500),(7,.d (.v (.int .i64 k))),(8,.d (slB l[n]))] [(500,.row 5 1 b.length ((bys b).map .d))]) (af_ [] (by simp[slB,hs]) (by simp)) ?_
   simp -dsimp[slB,hs]
   refine WP.seq ?_
   refine WP.region ac_ ?_
   simp -dsimp[av_,ls,hs,h11,e11,e12,e13,hX]
   refine And.intro (by omega) ?_
   refine And.intro ⟨lX,by omega⟩ ?_
   refine ar_ (S':=mkS 72 [(0,.d (slLB l)),(1,.d (.v (.int .i64 at_))),(6,.row 500),(7,.d (.v (.int .i64 k))),(8,.d (slB l[n]))] [(500,.row 5 1 (b++pcS l[n]).length ((bys (b++pcS l[n])).map .d))]) (Wk.go [] 64 500 (by decide) (by simp[slB,hs]) (by simp[slB,hs]) (by rw[hbp,lbp];simp)) ?_
   generalize hb':b++pcS l[n]=b' at hrd hbp lbp
   simp -dsimp[slB,hs]
   repeat(first|apply wG|(apply wR;simp -dsimp[av_,ls,hs,h10])|refine aI ?_)
   cases hee:or_ l[n] with
   | true =>
    rw[hee,if_pos rfl] at hrd
    rw[hee] at hE
    have h2:2≤(byA l[n] 10).toNat:=of_decide_eq_true hE.symm
    have hd2:n+1-at_=k+1:=by omega
    rw[hrd,rcT,hd2]
    refine cT (by simp;omega) ?_
    repeat(first|apply wG|(apply wR;simp -dsimp[e1])|refine aI ?_)
    refine WP.ret (aj_ (Wk.freeze (k:=500) (T:=5) (sz:=1) (n:=b'.length) (ds:=bys b') rfl) ?_)
    simp -dsimp[slB,e1]
   | false =>
    rw[hee,if_neg (by decide)] at hrd
    rw[hee] at hE
    have h2:¬ 2≤(byA l[n] 10).toNat:=of_decide_eq_false hE.symm
    refine cF (by simp;omega) ?_
    refine WP.skip ?_
    simp -dsimp
    repeat(first|apply wG|(apply wR;simp -dsimp[e1])|refine aI ?_)
    refine loopW.next (rcdS l at_ (k+1) b') (af_ [] (by simp[e1]) (by simp)) (l.length-(at_+(k+1))) (by omega) ⟨k+1,b',rfl,by omega,?_,?_,rfl⟩
    ·have:pcL l[n]=112:=by rcases g3 with g3|g3;(rw[hee] at g3;cases g3);exact g3
     omega
    ·rw[hrd,hf2,show n+1=at_+(k+1) by omega]
  ·rw[if_neg hG] at hrd
   have hb:(!gdB l[n] n || !(decide (((byA l[n] 10).toNat:Int).tmod 2=1) == decide (k=0))||decide (0<k) && !decide ((genS l[n]:Int)=(genS l[at_]:Int)))=true:=by
    rw[hx,hy]
    cases h1:gdB l[n] n with
    | false=>rfl
    | true =>
     by_cases h2:begS l[n]=decide (n=at_)
     ·have h3:genS l[n]≠genS l[at_]:=fun h=>hG ⟨h1,h2,h⟩
      have h4:0<k:=by
       rcases Nat.eq_zero_or_pos k with h|h
       ·subst h
        have:n=at_:=by omega
        subst this
        exact absurd rfl h3
       ·exact h
      rw[decide_eq_true h4,decide_eq_false (show ¬ (genS l[n]:Int)=(genS l[at_]:Int) by omega)];simp
     ·have:(begS l[n] == decide (n=at_))=false:=by
       cases h3:begS l[n]<;>cases h4:decide (n=at_)<;>simp_all
      rw[this];rfl
   refine cT (congrArg (fun x=>AV.d (.v (.bool x))) hb) ?_
   rw[hrd,rcT]
   refine sG ?_
   refine WP.ret (ab_ ?_)
   simp -dsimp
 ·have hst:rd l at_ (l.length-at_) at_ []=none:=by rw[hrd,show l.length-n=0 by omega];rfl
  refine cF (by simp;omega) ?_
  refine WP.exit ?_
  rw[hst,rcT]
  simp -dsimp
  refine sG ?_
  refine WP.ret (ab_ ?_)
  simp -dsimp
theorem l3_ {P:Program} {dn:Dn} {pn:Pn} {o:Oper} {g:Bool} {S:St} {acc:List TI} {rest:St→List TI→Prop} (d:D) (hg:g=false)
  (h:rest (S.put o.dst (.when g (.d d))) (⟨⟨.when g (.d d),[],[],[]⟩,[]⟩::acc)):vcStopG P dn pn o rest g S acc :=
 ⟨.d d,[],fun e=>(by rw[hg] at e;cases e),h⟩
abbrev rcdR (l:List By) (l1:List (Nat×By)) (at_ last:Nat):St:=mkS 41 [(0,.d (slLB l)),(3,.row 500),(4,.d (.v (.int .i64 at_))),(5,.d (.v (.int .u64 last)))] [(500,.row 22 1 l1.length ((lsB (l1.map (·.2))).map .d))]
theorem rF_ (l:List By) (hl:∀ b∈l,b.length=128) (hn:l.length≤4096):Fn0 Tryz.prog 86 [slLB l] (slLB (recs l)):=by
 have lll:=aZ_ l
 refine ad_ (pn:=an_) ac_ Tryz.func86 rfl fun β0=>?_
 simp only[Tryz.f86]
 refine sG ?_
 refine ai_ (fun q S=>∃ l1 k at_ last,rcs l l.length 0 0=l1++rcs l k at_ last∧l1.length≤at_∧l.length≤at_+k∧at_≤l.length∧last<4294967296∧q=l.length-at_∧S=rcdR l l1 at_ last) l.length
  (S0:=rcdR l [] 0 0) (Wk.go [] 8 500 (by decide) (by simp) (by simp) (by simp[lsB])) ⟨[],l.length,0,0,rfl,by simp,by omega,by omega,by decide,by simp,rfl⟩ ?_
 rintro _ _ ⟨l1,k,at_,last,hR,hl1,hk,hat,hlast,rfl,rfl⟩
 have h154:=ti_ l hl hn at_ hat
 have hall:∀ x,rcs l l.length 0 0=l1++x→x=[]→recs l=l1.map (·.2):=fun x h1 h2=>by rw[recs,h1,h2,List.append_nil]
 simp -dsimp
 cases hr:rd l at_ (l.length-at_) at_ [] with
 | none =>
  rw[hr,rcT] at h154
  have hfin:=hall _ hR (fF_ hr)
  rw[hfin]
  by_cases hal:at_<l.length
  ·have hs0:=hl _ (List.getElem_mem hal)
   refine sG ?_
   refine aa_ em_ h154 rfl rfl (by simp) ?_
   simp -dsimp
   repeat(first|apply wG|(apply wR;simp -dsimp[au_,lll,hal,slB,hs0])|refine aI ?_)
   refine vcStopG.skip (.d (.v (.int .u64 0))) ?_
   simp -dsimp
   refine sG ?_
   refine cT (by simp) ?_
   refine sG ?_
   refine WP.ret (aj_ (Wk.freeze (k:=500) (T:=22) (sz:=1) (n:=l1.length) (ds:=lsB (l1.map (·.2))) rfl) ?_)
   simp -dsimp
  ·obtain rfl:at_=l.length:=by omega
   have hq:(lsB l)[l.length]? = none:=List.getElem?_eq_none (by omega)
   refine sG ?_
   refine aa_ em_ h154 rfl rfl (by simp) ?_
   simp -dsimp
   repeat(first|apply wG|(apply wR;simp -dsimp[hq])|refine aI ?_)
   refine l3_ (.v (.bool false)) (by simp) ?_
   simp -dsimp
   refine sG ?_
   refine vcStopG.skip (.d (.v (.int .u64 0))) ?_
   simp -dsimp
   refine sG ?_
   refine cT (by simp) ?_
   refine sG ?_
   refine WP.ret (aj_ (Wk.freeze (k:=500) (T:=22) (sz:=1) (n:=l1.length) (ds:=lsB (l1.map (·.2))) rfl) ?_)
   simp -dsimp
 | some p =>
  obtain⟨e,b⟩:=p
  rw[hr,rcT] at h154
  have he:=eN_ hr
  have hal:at_<l.length:=by omega
  have hga:l.getD at_ []=l[at_]:=by simp[hal]
  have hs0:=hl _ (List.getElem_mem hal)
  have ls0:=ah_ l[at_]
  have hget0:=cz_ (l[at_].take 4) (by rw[List.length_take];omega)
  rw[cp_ _ 4 (by omega),← genS] at hget0
  have hgl:=gu_ l[at_]
  obtain⟨m,hm⟩:∃ m,e-at_=m:=⟨_,rfl⟩
  have hm0:decide ((m:Int)=0)=false:=decide_eq_false (by omega)
  have hm0':m≠0:=by omega
  have e1:IntKind.i64.wrap ((at_:Int)+(m:Int))=(e:Int):=by rw[IntWalk.i64_in _ (by omega)];omega
  rw[hm] at h154
  refine sG ?_
  refine aa_ em_ h154 rfl rfl (by simp) ?_
  simp -dsimp
  repeat(first|apply wG|(apply wR;simp -dsimp[hm0,hm0',au_,lll,hal,slB,hs0,ls0])|refine aI ?_)
  refine ae_ bb_ (fun _=>hget0) rfl (fun _=>rfl) (fun _=>by simp) ?_
  simp -dsimp
  refine sG ?_
  by_cases hJ:genS l[at_]<last
  ·have hfin:=hall _ hR (qo_ (by rw[hga];exact hJ))
   rw[hfin]
   refine cT (by simp[hm0'];omega) ?_
   refine sG ?_
   refine WP.ret (aj_ (Wk.freeze (k:=500) (T:=22) (sz:=1) (n:=l1.length) (ds:=lsB (l1.map (·.2))) rfl) ?_)
   simp -dsimp
  ·obtain⟨k',hk1,hk2⟩:=qn_ hr (by rw[hga];exact hJ) hk
   rw[hga] at hk1
   have hR':rcs l l.length 0 0=(l1++[(e,b)])++rcs l k' e (genS l[at_]):=by rw[hR,hk1];simp
   have hlm:lsB (l1.map (·.2)++[b])=lsB (l1.map (·.2))++[slB b]:=by simp[lsB]
   refine cF (by simp[hm0'];omega) ?_
   refine WP.skip ?_
   simp -dsimp
   repeat(first|apply wG|(apply wR;simp -dsimp[au_,lll,hal,slB,hs0,ls0])|refine aI ?_)
   refine aa_ bb_ hget0 rfl rfl (by simp) ?_
   simp -dsimp
   repeat(first|apply wG|(apply wR;simp -dsimp[e1])|refine aI ?_)
   refine loopW.next (rcdR l (l1++[(e,b)]) e (genS l[at_])) (Wk.go [36] 37 500 (by decide) (by simp) (by simp[e1]) (by simp[hlm,slB])) (l.length-e) (by omega) ⟨l1++[(e,b)],k',e,genS l[at_],hR',by simp;omega,hk2,by omega,hgl,rfl,rfl⟩
def lgC (many:Int) (recs:List By) (synced:Int):List D:=[.v (.int .i64 many),slLB recs,.v (.int .i64 synced)]
def logD (many:Int) (recs:List By) (synced:Int):D:=.agg (lgC many recs synced)
def k2_ (d:Dk):(Int×List By×Int)×Int:=if dkB d=true then if d.st=true then ((0,[],0),380) else if 0<d.p.length then ((0,[],0),1) else ((d.s.length,recs d.s,(recs d.s).length),0) else ((0,[],0),380)
def bO (n:Nat) (R:List By):Nat→Bxs
 | 0=>[(1100,.cells 30 [.d (.v (.int .i64 n)),.d (.v (.slice none 0 0)),.d (.v (.int .i64 0))])]
 | i+1=>[(1100,.cells 30 [.d (.v (.int .i64 n)),.row 505,.d (.v (.int .i64 0))]),(505,.row 22 1 (i+1) ((lsB (R.take (i+1))).map .d))]
theorem so_ (n:Nat) (R:List By) (i:Nat):bW_ (bO n R i):=by
 intro k b h
 cases i<;>simp only[bO,getB] at h<;>(repeat' split at h)<;>cases h<;>rfl
theorem bO_tags (n:Nat) (R:List By) (m:Nat):∀ p∈bO n R m,∀ t∈aC_ p.2.cs,isIn (bO n R m) t=true:=by
 cases m with
 | zero =>
  intro p hp t ht
  simp only[bO,List.mem_singleton] at hp
  subst hp
  simp[Box.cs,aC_,a7_] at ht
 | succ m =>
  intro p hp t ht
  simp only[bO,List.mem_cons,List.not_mem_nil,or_false] at hp
  rcases hp with rfl|rfl
  ·simp[Box.cs,aC_,a7_] at ht
   subst ht
   simp[bO,isIn,getB]
  ·simp[Box.cs,sJ_] at ht
theorem vW_ (l:List By) (i:Nat):((rcs l l.length 0 0).getD i (0,[])).2=(recs l).getD i []:=by
 rw[recs,List.getD_eq_getElem?_getD,List.getD_eq_getElem?_getD,List.getElem?_map]
 cases (rcs l l.length 0 0)[i]? <;> rfl
theorem o0_ (l:List By):(rcs l l.length 0 0).length=(recs l).length:=by rw[recs,List.length_map]
theorem wk_ (R:List By) {i:Nat} (h:i<R.length):lsB (R.take (i+1))=lsB (R.take i)++[slB (R[i]?.getD [])]:=by
 have e:R.take (i+1)=R.take i++[R[i]?.getD []]:=by
  rw[List.take_add_one,List.getElem?_eq_getElem h];simp[h]
 rw[e,lsB,List.map_append];rfl
theorem c7_ {s:List By} (hs:∀ b∈s,b.length=128):(recs s).length≤s.length:=by
 obtain⟨h1,h2,h3⟩:=c8_ hs
 obtain⟨_,g2,_⟩:=dZ_ hs (gnr s) (fun x hx=>(kc_ hx).1) (k:=s.length) (at_:=0) (last:=0) (Nat.zero_le _) (gt_ s)
 have:(recs s).length=(rcs s s.length 0 0).length:=by rw[recs,List.length_map]
 omega
set_option maxRecDepth 10000 in
set_option maxHeartbeats 4000000 in
theorem hV_ (d:Dk) (hd:dkOk d):Fn0 Tryz.prog 40 [dkD d] (.tup [logD (k2_ d).1.1 (k2_ d).1.2.1 (k2_ d).1.2.2,.v (.int .i64 (k2_ d).2)]):=by
 have h1:=eC_ d hd
 refine kr_ ac_ Tryz.func40 rfl fun β0=>?_
 simp only[Tryz.f40]
 unfold k2_
 unfold dkE at h1
 repeat(first|apply wG|(apply wR;simp -dsimp[dkD,dkC])|refine aI ?_)
 refine aa_ dC_ h1 rfl rfl (by simp[dkD,dkC]) ?_
 simp -dsimp
 refine sG ?_
 cases hB:dkB d with
 | false =>
  rw[if_neg (by decide)]
  refine cT (by simp[hB]) ?_
  repeat(first|apply wG|(apply wR;simp -dsimp[hB])|refine aI ?_)
  refine WP.ret (gB_ rfl ?_)
  simp -dsimp[logD,lgC,lsB]
 | true =>
  rw[if_pos rfl]
  refine cF (by simp[hB]) ?_
  refine WP.skip ?_
  simp -dsimp
  refine sG ?_
  obtain⟨⟨d1,d2,d3,d4,d5⟩,_,d6⟩:=a1_.1 hB
  cases hst:d.st with
  | true =>
   rw[if_pos rfl]
   refine cT (by simp[hst]) ?_
   refine sG ?_
   refine WP.ret (gB_ rfl ?_)
   simp -dsimp[logD,lgC,lsB]
  | false =>
   rw[if_neg (by decide)]
   refine cF (by simp[hst]) ?_
   refine WP.skip ?_
   simp -dsimp
   refine sG ?_
   by_cases hp:0<d.p.length
   ·rw[if_pos hp]
    refine cT (congrArg (fun x=>AV.d (D.v (Value.bool x))) (decide_eq_true (by omega))) ?_
    refine sG ?_
    refine WP.ret (gB_ rfl ?_)
    simp -dsimp[logD,lgC,lsB]
   ·rw[if_neg hp]
    refine cF (congrArg (fun x=>AV.d (D.v (Value.bool x))) (decide_eq_false (by omega))) ?_
    refine WP.skip ?_
    simp -dsimp
    refine sG ?_
    refine vcStop.call pB_ (rO_ d.s) (rl [(0,600)]) rfl rfl (by simp[BoxLeq]) aGq (fun _ h=>h.elim) (fun ⟨_,h⟩=>h.elim) (fun ⟨_,h⟩=>h.elim) (by simp[BoxLeq]) ?_
    simp -dsimp
    refine sG ?_
    have hit:=rP_ d.s d6 d2
    rw[o0_] at hit
    simp only[vW_] at hit
    have lR:(recs d.s).length≤4096:=by have:=c7_ d6;omega
    generalize recs d.s=R at hit lR
    refine dA_ nW_ hit (jump:=fun _=>none) (bO d.s.length R) (mkS 41 [(2,.ptr 1100 0)] []).sl 990 (rl [(1000,600),(1100,2),(505,510),(990,602)]) rfl rfl rfl (by simp) (by simp) (by simp) (fun i _=>so_ _ _ i)
     (by cases R.length<;>simp[bO]) (by simp) (bO_tags d.s.length R _) (by simp) (by decide) (by cases R.length<;>simp[bO]) (fun _ _=>rfl) (fun _ _=>rfl) ?_ (fun G=>ag_ (by simp[bO]) (by cases R.length<;>simp[bO]) (by cases R.length<;>simp[bO]) (by cases R.length<;>simp[bO]) (by cases R.length<;>simp[bO])) (fun G=>by cases R.length<;>simp[bO]) ?_
    ·intro i hi lp β1
     have hsn:=wk_ R hi
     cases i with
     | zero =>
      simp -dsimp[bO]
      generalize R[0]?.getD []=f at hsn ⊢
      rw[show lsB (R.take 0)=[] from rfl,List.nil_append,Nat.zero_add] at hsn
      repeat(first|apply wG|(apply wR;simp -dsimp[slB])|refine aI ?_)
      exact⟨mkS 41 [] (bO d.s.length R 1),Wk.go [33] 34 505 (by decide) (by simp) (by simp) (by simp[bO,hsn,slB]),subB_ok (by simp[bO])⟩
     | succ i =>
      have lW:(lsB (R.take (i+1))).length=i+1:=by rw[aZ_,List.length_take];omega
      simp -dsimp[bO]
      generalize lsB (R.take (i+1))=W at hsn lW ⊢
      generalize R[i+1]?.getD []=f at hsn ⊢
      repeat(first|apply wG|(apply wR;simp -dsimp[slB,lW])|refine aI ?_)
      exact⟨mkS 41 [] (bO d.s.length R (i+1+1)),Wk.go [33] 34 505 (by decide) (by simp) (by simp) (by simp[bO,hsn,slB]),subB_ok (by simp[bO])⟩
    ·intro G
     rw[iv_,m5_]
     cases hw:R.length with
     | zero =>
      have hw0:R=[]:=List.eq_nil_of_length_eq_zero hw
      subst hw0
      simp -dsimp[bO]
      refine sG ?_
      refine WP.ret (gA_ ?_ G 602 rfl rfl rfl)
      simp -dsimp[logD,lgC,lsB]
     | succ q =>
      simp -dsimp[bO]
      rw[← hw,List.take_length]
      refine sG ?_
      refine WP.ret (gz_ ((af_ [] (S':=mkS 41 [(2,.ptr 2 0),(3,.d (.v (.int .i64 0)))] [(2,.cells 30 [.d (.v (.int .i64 d.s.length)),.row 510,.d (.v (.int .i64 R.length))]),(602,.obj G (.deferred (some []))),(510,.row 22 1 R.length ((lsB R).map .d))] [G]) (by simp) (by simp)).trans (Wk.freeze (k:=510) (T:=22) (sz:=1) (n:=R.length) (ds:=lsB R) (by simp))) ?_ G 602 rfl rfl rfl)
      simp -dsimp[logD,lgC]
end Go.Proofs.YtfgcgagcpnbgmaaGreatDoor
set_option maxRecDepth 10000
namespace Go.Proofs.YtfgcgagcpnbgmaaGreatDoor
open Go.Xe Go.RowKit
theorem gf_ (b:By) (hb:b.length≤1000000000000):Fn0 Tryz.prog 96 [slB b] (.v (.int .i64 (secs b.length))):=by
 have e1:IntKind.i64.wrap ((b.length:Int)+112)=(b.length:Int)+112:=IntWalk.i64_in _ (by omega)
 have e2:IntKind.i64.wrap ((b.length:Int)+112-1)=((b.length+111:Nat):Int):=by rw[IntWalk.i64_in _ (by omega)];omega
 obtain⟨q,hq⟩:∃ q,(b.length+111)/112=q:=⟨_,rfl⟩
 have e3:IntKind.i64.wrap (((b.length+111:Nat):Int).tdiv 112)=(q:Int):=by
  rw[Int.tdiv_eq_ediv_of_nonneg (by omega),IntWalk.i64_in _ (by omega)];omega
 rw[secs,hq]
 obtain⟨w,hw⟩:∃ w,b.length+111=w:=⟨_,rfl⟩
 rw[hw] at e2 e3
 have e4:IntKind.i64.wrap ((w:Int)/112)=(q:Int):=by rw[IntWalk.i64_in _ (by omega)];omega
 refine ad_ (pn:=an_) ac_ Tryz.func96 rfl fun β0=>?_
 simp only[Tryz.f96]
 repeat(first|apply wG|(apply wR;simp -dsimp[slB,e1,e2,e3,e4])|refine aI ?_)
 refine WP.ret (ab_ ?_)
 simp -dsimp[e3,e4]
 exact EY_ (by omega)
abbrev usS (l:List By) (l1:List By):St:=mkS 17 [(2,.d (.v (.int .i64 (usd l1)))),(5,.d (slLB l)),(6,.d (.v (.int .i64 l.length))),(7,.d (.v (.int .i64 l1.length)))] []
set_option maxHeartbeats 1000000 in
theorem oD_ (l:List By) (hn:l.length≤1000000000000) (hu:usd l≤1000000000000) (hl:∀ b∈l,b.length≤1000000000000):Fn0 Tryz.prog 97 [slLB l] (.v (.int .i64 (usd l))):=by
 refine ad_ (pn:=an_) ac_ Tryz.func97 rfl fun β0=>?_
 simp only[Tryz.f97]
 refine sG ?_
 refine ai_ (fun q S=>∃ l1 l2,l=l1++l2∧q=l2.length∧S=usS l l1) l.length (S0:=usS l []) (af_ [] (by simp[usd]) (by simp)) ⟨[],l,rfl,rfl,rfl⟩ ?_
 rintro _ _ ⟨l1,l2,hl12,rfl,rfl⟩
 simp -dsimp
 refine sG ?_
 cases l2 with
 | nil =>
  simp only[List.append_nil] at hl12
  subst hl12
  refine cF (by simp) ?_
  refine WP.exit ?_
  simp -dsimp
  refine sG ?_
  refine WP.ret (ab_ ?_)
  simp -dsimp
 | cons c l2 =>
  have hll:l.length=l1.length+(l2.length+1):=by rw[hl12];simp
  have hat:=kb_ l1 c l2
  rw[← hl12] at hat
  have e1:IntKind.i64.wrap ((l1.length:Int)+1)=(l1.length:Int)+1:=IntWalk.i64_in _ (by omega)
  have hu1:usd l=usd l1+(secs c.length+usd l2):=by rw[hl12,oE_];rfl
  have hu2:usd (l1++[c])=usd l1+secs c.length:=by rw[oE_];simp[usd]
  have hc:=gf_ c (hl c (by rw[hl12];simp))
  have e2:IntKind.i64.wrap ((usd l1:Int)+(secs c.length:Nat))=((usd l1+secs c.length:Nat):Int):=by rw[IntWalk.i64_in _ (by omega)];omega
  refine cT (by simp;omega) ?_
  refine WP.skip ?_
  simp -dsimp
  repeat(first|apply wG|(apply wR;simp -dsimp[hat])|refine aI ?_)
  refine aa_ e9_ hc rfl rfl (by simp[slB]) ?_
  simp -dsimp
  repeat(first|apply wG|(apply wR;simp -dsimp[e2])|refine aI ?_)
  refine loopW.next (usS l (l1++[c])) (af_ [] (by simp[e1,e2,hu2]) (by simp)) l2.length (by simp) ⟨l1++[c],l2,by simp[hl12],rfl,rfl⟩
structure lgOk (many:Nat) (R:List By) (n:Nat):Prop where
 m1:1≤many
 m2:many≤4096
 n1:n≤R.length
 u:usd R≤many
 sm:∀ b∈R,b.length≤1000000
 ln:R.length≤1000000
theorem mQ_ {many:Nat} {R:List By} {n:Nat} (h:lgOk many R n):Fn0 Tryz.prog 95 [logD many R n] (.v (.int .i64 0)):=by
 have hu:=oD_ R (by have:=h.ln;omega) (by have:=h.u;have:=h.m2;omega) (fun b hb=>by have:=h.sm b hb;omega)
 have h1:=h.m1
 have h2:=h.m2
 have h3:=h.n1
 have h4:=h.u
 have a1:decide ((many:Int)<1)=false:=decide_eq_false (by omega)
 have a2:decide (4096<(many:Int))=false:=decide_eq_false (by omega)
 have a3:decide ((n:Int)<0)=false:=decide_eq_false (by omega)
 have a4:decide ((R.length:Int)<(n:Int))=false:=decide_eq_false (by omega)
 refine ad_ (pn:=an_) ac_ Tryz.func95 rfl fun β0=>?_
 simp only[Tryz.f95]
 repeat(first|apply wG|(apply wR;simp -dsimp[logD,lgC,a1,a2,a3,a4])|refine aI ?_)
 refine ae_ e8_ (fun _=>hu) rfl (fun _=>rfl) (fun _=>by simp) ?_
 simp -dsimp
 repeat refine aI ?_
 refine cF (by simp;omega) ?_
 refine WP.skip ?_
 simp -dsimp
 refine sG ?_
 refine WP.ret (ab_ ?_)
 simp -dsimp
theorem sp_ {many:Nat} {R:List By} {n:Nat} (h:lgOk many R n) (b:By) (hb:b.length≤1000000) :
  Fn0 Tryz.prog 56 [logD many R n,slB b] (if usd R+secs b.length≤many then .tup [logD many (R++[b]) n,.v (.int .i64 0)] else .tup [logD 0 [] 0,.v (.int .i64 2)]):=by
 have hck:=mQ_ h
 have hu:=oD_ R (by have:=h.ln;omega) (by have:=h.u;have:=h.m2;omega) (fun b hb=>by have:=h.sm b hb;omega)
 have hs:=gf_ b (by omega)
 have h1:=h.m1
 have h2:=h.m2
 have h4:=h.u
 have h5:=h.ln
 have e1:IntKind.i64.wrap ((many:Int)-(usd R:Nat))=((many-usd R:Nat):Int):=by rw[IntWalk.i64_in _ (by omega)];omega
 have hcp:=uY_ (lsB R) R.length false
 rw[List.take_of_length_le (by rw[aZ_];omega)] at hcp
 have hcl:=uX_ b (by omega)
 refine ad_ (pn:=an_) ac_ Tryz.func56 rfl fun β0=>?_
 simp only[Tryz.f56]
 repeat(first|apply wG|(apply wR;simp -dsimp[logD,lgC])|refine aI ?_)
 refine aa_ ja_ hck rfl rfl (by simp[logD,lgC]) ?_
 simp -dsimp
 refine sG ?_
 refine cF (by simp) ?_
 refine WP.skip ?_
 simp -dsimp
 refine sG ?_
 refine aa_ e9_ hs rfl rfl (by simp) ?_
 simp -dsimp
 repeat refine aI ?_
 refine aa_ e8_ hu rfl rfl (by simp) ?_
 simp -dsimp[e1]
 repeat refine aI ?_
 by_cases hc:usd R+secs b.length≤many
 ·rw[if_pos hc]
  refine cF (congrArg (fun x=>AV.d (D.v (Value.bool x))) (decide_eq_false (by omega))) ?_
  refine WP.skip ?_
  simp -dsimp
  refine sG ?_
  refine aa_ pv_ hcp rfl rfl (by simp) ?_
  simp -dsimp
  repeat refine aI ?_
  refine aa_ i9_ hcl rfl rfl (by simp[slB]) ?_
  simp -dsimp[aZ_]
  repeat refine aI ?_
  repeat(first|apply wG|(apply wR;simp -dsimp[aZ_])|refine aI ?_)
  have hla:lsB (R++[b])=lsB R++[slB b]:=by simp[lsB]
  refine WP.ret (aj_ (Wk.freeze (k:=29) (T:=22) (sz:=1) (n:=R.length+1) (ds:=lsB (R++[b])) (by simp[hla,slB])) ?_)
  simp -dsimp[logD,lgC]
 ·rw[if_neg hc]
  refine cT (congrArg (fun x=>AV.d (D.v (Value.bool x))) (decide_eq_true (by omega))) ?_
  refine sG ?_
  refine WP.ret (ab_ ?_)
  simp -dsimp[logD,lgC,lsB]
abbrev FK_:D:=.v (.func (.func 88) #[] #[])
abbrev erS (a b:List By) (i:Nat):St:=mkS 32 [(0,.d (slLB a)),(1,.d (slLB b)),(2,.d FK_),(15,.d (slLB a)),(16,.d (.v (.int .i64 a.length))),(17,.d (.v (.int .i64 i)))] []
set_option maxHeartbeats 1000000 in
theorem m3_ (a b:List By) (ha:a.length≤1000000000000) (hb:b.length≤1000000000000):Fn0 Tryz.prog 87 [slLB a,slLB b,FK_] (.v (.bool (decide (a=b)))):=by
 have la:=aZ_ a
 have lb:=aZ_ b
 refine ad_ (pn:=an_) ac_ Tryz.func87 rfl fun β0=>?_
 simp only[Tryz.f87]
 refine sG ?_
 by_cases hl:a.length=b.length
 ·refine cF (by simp[hl]) ?_
  refine WP.skip ?_
  simp -dsimp
  refine sG ?_
  refine ai_ (fun q S=>∃ i:Nat,q=a.length-i∧i≤a.length∧a.take i=b.take i∧S=erS a b i) a.length (S0:=erS a b 0) (af_ [] (by simp) (by simp)) ⟨0,rfl,by omega,rfl,rfl⟩ ?_
  rintro _ _ ⟨i,rfl,hi,ht,rfl⟩
  simp -dsimp
  refine sG ?_
  by_cases hin:i<a.length
  ·have hib:i<b.length:=by omega
   have e1:IntKind.i64.wrap ((i:Int)+1)=((i+1:Nat):Int):=by rw[IntWalk.i64_in _ (by omega)];omega
   have heq:=dy_ a[i] b[i]
   refine cT (by simp;omega) ?_
   refine WP.skip ?_
   simp -dsimp
   repeat(first|apply wG|(apply wR;simp -dsimp[au_,la,lb,hin,hib])|refine aI ?_)
   refine aa_ fa_ heq rfl rfl (by simp[au_]) ?_
   simp -dsimp
   refine sG ?_
   by_cases hc:a[i]=b[i]
   ·refine cF (by simp[hc]) ?_
    refine WP.skip ?_
    simp -dsimp
    refine sG ?_
    refine loopW.next (erS a b (i+1)) (af_ [] (by simp[e1]) (by simp)) (a.length-(i+1)) (by omega) ⟨i+1,rfl,by omega,by rw[List.take_add_one,List.take_add_one,ht,List.getElem?_eq_getElem hin,List.getElem?_eq_getElem hib,hc],rfl⟩
   ·have hne:decide (a=b)=false:=decide_eq_false (by rintro rfl;exact hc rfl)
    refine cT (by simp[hc]) ?_
    refine sG ?_
    refine WP.ret (ab_ ?_)
    simp -dsimp[hne]
  ·obtain rfl:i=a.length:=by omega
   have hab:a=b:=by rw[List.take_length,hl,List.take_length] at ht;exact ht
   have hne:decide (a=b)=true:=decide_eq_true hab
   refine cF (by simp) ?_
   refine WP.exit ?_
   simp -dsimp
   refine sG ?_
   refine WP.ret (ab_ ?_)
   simp -dsimp[hne]
 ·have hne:decide (a=b)=false:=decide_eq_false (by rintro rfl;exact hl rfl)
  refine cT (by simp;omega) ?_
  refine sG ?_
  refine WP.ret (ab_ ?_)
  simp -dsimp[hne]
end Go.Proofs.YtfgcgagcpnbgmaaGreatDoor
