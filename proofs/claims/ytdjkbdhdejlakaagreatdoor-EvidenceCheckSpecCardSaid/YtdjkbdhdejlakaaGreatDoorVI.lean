/-
  Joined texts.
-/
import Derived.Test.YtdjkbdhdejlakaaGreatDoorVE
import Derived.Test.YtdjkbdhdejlakaaGreatDoorVVC
import Derived.Test.YtdjkbdhdejlakaaGreatDoorVZI
set_option maxRecDepth 10000
set_option maxHeartbeats 4000000
set_option linter.unusedVariables false
set_option linter.unusedSimpArgs false
set_option linter.unusedSectionVars false
namespace Go.Proofs.YtdjkbdhdejlakaaGreatDoor
open Go.Xe Go.RowKit
theorem vw_ (kvs:List (Value×D)):Fun Tryz.prog 28 [.row 1000] [(1000,.mp kvs)] (.fn (.func 53) [] [.ptr 0 0]) [(1000,.mp kvs),(0,.cells 87 [.row 1000])] fun _=>False:=by
 refine ac_ (pn:=ao_) aa_ Tryz.func28 rfl fun β0=>?_
 simp only[Tryz.f28]
 repeat(first|apply wG|(apply wR;simp -dsimp)|refine aI ?_)
 refine WP.ret (am_ (S':=mkS 4 [(2,.fn (.func 53) [] [.ptr 0 0])] [(1000,.mp kvs),(0,.cells 87 [.row 1000])]) (Wk.go [] 1 0 (by decide) (by simp) (by simp) (by simp)) ?_)
 simp -dsimp
def kjS (lp g:Nat) (L:List Ent3) (clock:Nat) (seen:Array Nat) (q:Value→World→(Nat→Prop)→Prop):St :=
 mkS 14 [(0,.d (.v (.func (.yield lp) #[] #[]))),(5,.ptr 20 0)] [(1000,.cells 87 [.row 1001]),(1001,MapAt g L clock),(20,ItAt g clock seen),(500,.opq q)]
def DS_ (M:List Int) (o:List Int) (x:List D) (o':List Int):Prop:=∃ r∈M,r∉o∧o.length<M.length∧x=[.v (.int .i64 r)]∧o'=o++[r]
def keyOI:Value→Int
 | .int _ a=>a
 | _=>0
theorem vx_ (M:List Int) (hnd:M.Nodup) (kvs:List (Value×D)) (hkv:kvs.map (·.1)=M.map fun r=>Value.int .i64 r):ww_ Tryz.prog 53 [.ptr 1000 0] [(1000,.cells 87 [.row 1001]),(1001,.mp kvs)] ([]:List Int) (DS_ M) (fun o=>o.Perm M):=by
 intro lp B hB
 simp only[List.cons_append,List.nil_append]
 refine cg_ aa_ Tryz.func53 rfl fun β0=>?_
 simp only[Tryz.f53]
 refine gt_ 1001 rfl fun g L clock hL hok=>?_
 have hLm:L.map (fun e=>e.key)=M.map fun r=>Value.int .i64 r:=by
  rw[← hkv,← hL,List.map_map];rfl
 have hLk:∀ e∈L,e.key=.int .i64 (keyOI e.key)∧keyOI e.key∈M:=fun e he=>by
  have h0:e.key∈M.map fun r=>Value.int .i64 r:=by rw[← hLm];exact List.mem_map.2 ⟨e,he,rfl⟩
  obtain⟨r,hr,hx⟩:=List.mem_map.1 h0
  rw[← hx]
  exact⟨rfl,hr⟩
 have hLn:L.map (fun e=>keyOI e.key)=M:=by
  have:=congrArg (List.map keyOI) hLm
  rw[List.map_map,List.map_map] at this
  have h2:M.map (keyOI∘fun r=>Value.int .i64 r)=M:=by
   have:(keyOI∘fun r=>Value.int .i64 r)=id:=by funext r;rfl
   rw[this,List.map_id]
  rw[h2] at this
  exact this
 have hl0:left3 L #[]=L:=List.filter_eq_self.2 (by simp)
 simp -dsimp
 repeat(first|apply wG|(apply wR;simp -dsimp)|refine aI ?_)
 refine vcStop.range aa_ rfl rfl 20 rfl rfl (by simp[MapAt]) ?_
 simp -dsimp
 repeat(first|apply wG|(apply wR;simp -dsimp)|refine aI ?_)
 refine ak_ (fun m S=>∃ seen o,m=(left3 L seen).length∧(o++(left3 L seen).map fun e=>keyOI e.key).Perm M∧S=kjS lp g L clock seen (B o)) L.length (S0:=kjS lp g L clock #[] (B []))
  (Wk.go [] 1999 500 (by decide) (by simp[kjS,MapAt,ItAt]) (by simp[kjS]) (by simp[kjS,MapAt,ItAt])) ⟨#[],[],by rw[hl0],by rw[hl0,hLn];exact List.Perm.refl _,rfl⟩ ?_
 rintro m _ ⟨seen,o,hm,hper,rfl⟩
 by_cases hne:left3 L seen=[]
 ·rw[hne] at hper
  have hoM:o.Perm M:=by simpa using hper
  rw[kjS]
  simp -dsimp
  repeat(first|apply wG|(apply wR;simp -dsimp)|refine aI ?_)
  refine cj_ rfl rfl (j:=1001) rfl rfl hok hne ?_
  simp -dsimp
  repeat(first|apply wG|(apply wR;simp -dsimp)|refine aI ?_)
  refine cF (by simp) ?_
  refine WP.exit ?_
  simp -dsimp
  refine⟨⟨o,hoM⟩,ca_ (S':=mkS 14 [] [(1000,.cells 87 [.row 1001]),(1001,.mp kvs),(0,.opq (B o))]) (Wk.trans (eW_ 1001 rfl hok) (Wk.go [20] 500 0 (by decide) (by simp) (by simp) (by simp[hL]))) ?_⟩
  simp -dsimp
 ·rw[kjS]
  simp -dsimp
  repeat(first|apply wG|(apply wR;simp -dsimp)|refine aI ?_)
  refine ck_ rfl rfl (j:=1001) rfl rfl hok hne ?_
  simp -dsimp
  repeat(first|apply wG|(apply wR;simp -dsimp)|refine aI ?_)
  refine cT (by simp) ?_
  refine WP.skip ?_
  simp -dsimp
  refine oy_ 20 rfl fun e he=>?_
  have hel:e∈L:=(List.mem_filter.1 he).1
  have hpu:=ge_ hok.2.1 he
  obtain⟨hek,hem⟩:=hLk e hel
  generalize hr:keyOI e.key=r at hek hem
  have hkA:Leq (.d (.v e.key)) (.d (.v (.int .i64 r))):=by rw[hek];exact .refl _
  have hper2:(o++r::(left3 L (seen.push e.born)).map fun e=>keyOI e.key).Perm M:=by
   refine List.Perm.trans ?_ hper
   rw[← hr]
   exact (hpu.map fun e:Ent3=>keyOI e.key).append_left o
  have hro:r∉o:=by
   have:=(hper2.nodup_iff).2 hnd
   exact fun h=>(List.nodup_append.1 this).2.2 r h r (by simp) rfl
  have hlt:o.length<M.length:=by have:=hper2.length_eq;simp at this;omega
  have hy:=hB o [.v (.int .i64 r)] (o++[r]) ⟨r,hem,hro,hlt,rfl,rfl⟩
  simp -dsimp
  repeat(first|apply wG|(apply wR;simp -dsimp)|refine aI ?_)
  refine de_ rfl rfl (j:=1001) rfl rfl hok hel hkA ?_
  clear hLk hL hLn hLm hek hr hkA hkv
  simp -dsimp
  repeat(first|apply wG|(apply wR;simp -dsimp)|refine aI ?_)
  refine vcStop.yield hy 500 501 rfl rfl (by simp) rfl (by decide) (by simp[MapAt,ItAt]) ?_
  simp -dsimp
  repeat(first|apply wG|(apply wR;simp -dsimp)|refine aI ?_)
  refine cF (by simp) ?_
  refine WP.skip ?_
  simp -dsimp
  refine loopW.next (kjS lp g L clock (seen.push e.born) (B (o++[r]))) (Wk.go [3] 501 500 (by decide) (by simp[kjS,MapAt,ItAt]) (by simp[kjS]) (by simp[kjS,MapAt,ItAt])) (left3 L (seen.push e.born)).length (by rw[hm,← hpu.length_eq];exact Nat.lt_succ_self _) ⟨_,_,rfl,?_,rfl⟩
  rw[List.append_assoc]
  exact hper2
def ifC (o:List Int):List D:=o.map fun r=>.v (.int .i64 r)
@[simp] theorem DV_ (o:List Int):(ifC o).length=o.length:=by simp[ifC]
theorem ifC_tags (o:List Int):ap_ ((ifC o).map .d)=[]:=by
 generalize ifC o=l
 induction l with
 | nil=>rfl
 | cons x l ih=>simp only[List.map_cons,ap_,aN_,ih];rfl
@[simp] theorem DU_ (ρ:Nat→Nat) (o:List Int):renL ρ (o.map (AV.d∘fun r=>D.v (.int .i64 r)))=o.map (AV.d∘fun r=>D.v (.int .i64 r)):=by
 rw[← List.map_map]
 exact wI_ ρ _
abbrev ifB (o:List Int):Box:=.row 3 1 o.length ((ifC o).map .d)
def bsI:List Int→Bxs
 | []=>[(1100,.cells 90 [.d fB_])]
 | r::o=>[(1100,.cells 90 [.row 505]),(505,ifB (r::o))]
theorem op_ (o:List Int):a9_ (bsI o):=by
 intro k b h
 cases o<;>simp only[bsI,getB] at h<;>(repeat' split at h)<;>cases h<;>rfl
theorem rU_ (M:List Int) (hnd:M.Nodup) (kvs:List (Value×D)) (hkv:kvs.map (·.1)=M.map fun r=>Value.int .i64 r) (hl:M.length≤1000):FunX Tryz.prog 77 [.d fB_,.fn (.func 53) [] [.ptr 1000 0]] [(1000,.cells 87 [.row 1001]),(1001,.mp kvs)] (α:={o:List Int // o.Perm M}) (fun _=>.row 0) (fun o=>[(1000,.cells 87 [.row 1001]),(1001,.mp kvs),(0,ifB o.1)]):=by
 refine i0_ aa_ Tryz.func77 rfl fun β0=>?_
 simp only[Tryz.f77]
 repeat(first|apply wG|(apply wR;simp -dsimp)|refine aI ?_)
 refine eG_ oW_ (vx_ M hnd kvs hkv) bsI (mkS 13 [(2,.ptr 1100 0)] []).sl 990 (rl [(1000,1000),(1001,1001),(1100,2),(505,700),(990,602)]) rfl rfl rfl (by simp) (by simp) (by simp) op_
  (by
   intro p hp
   refine⟨by simp at hp;rcases hp with rfl|rfl<;>simp,by simp at hp;rcases hp with rfl|rfl<;>rfl,fun s _=>by simp at hp;rcases hp with rfl|rfl<;>cases s<;>rfl⟩) (by simp) (fun s _=>by cases s<;>simp[bsI,ifC_tags]) (by simp) (by decide) (fun s _=>by cases s<;>rfl) (fun s x s' h=>by obtain⟨r,_,_,_,hx,_⟩:=h;rw[hx];rfl) ?_ ?_ ?_ ?_ ?_
 ·rintro s _ _ ⟨r,hr,hrs,hsl,rfl,rfl⟩ lp β1
  cases s with
  | nil =>
   simp -dsimp[bsI]
   repeat(first|apply wG|(apply wR;simp -dsimp)|refine aI ?_)
   exact⟨mkS 13 [] (bsI [r]),Wk.go [10] 11 505 (by decide) (by simp) (by simp) (by simp[bsI,ifC]),subB_ok (by simp[bsI])⟩
  | cons q o =>
   have hol:o.length+1≤1000:=by simp only[List.length_cons] at hsl;omega
   simp -dsimp[bsI]
   repeat(first|apply wG|(apply wR;simp -dsimp)|refine aI ?_)
   exact⟨mkS 13 [] (bsI (q::o++[r])),Wk.go [10,505] 11 505 (by decide) (by simp) (by simp) (by simp[bsI,ifC]),subB_ok (by simp[bsI])⟩
 ·exact ai_ (by simp[bsI]) (by simp[bsI]) (by simp[bsI]) (by simp[bsI]) (by simp[bsI])
 ·intro G s hE
  refine ai_ (by simp[bsI]) (by cases s<;>simp[bsI]) (by cases s<;>simp[bsI]) (by cases s<;>simp[bsI]) (by cases s<;>simp[bsI,ifC_tags])
 ·intro G s hE
  cases s<;>simp[bsI]
 ·intro G o hE
  cases o with
  | nil =>
   simp -dsimp[bsI]
   repeat(first|apply wG|(apply wR;simp -dsimp)|refine aI ?_)
   refine WP.ret (hs_ ⟨[],hE⟩ (bL_ (S':=⟨(mkS 13 [(4,.row 0)] []).sl,[(1000,.cells 87 [.row 1001]),(1001,.mp kvs),(0,ifB []),(602,.obj G (.deferred (some [])))],[G]⟩) ((ae_ [] (S':=⟨(mkS 13 [(4,.d fB_)] []).sl,[(1000,.cells 87 [.row 1001]),(1001,.mp kvs),(602,.obj G (.deferred (some [])))],[G]⟩) (by simp) (by simp)).trans ((bk_ 4 0 3 1 (by simp) (by simp)).trans (ae_ [] (by simp) (by simp[ifC])))) ?_ G 602 rfl rfl rfl))
   simp -dsimp
  | cons r o =>
   simp -dsimp[bsI]
   repeat(first|apply wG|(apply wR;simp -dsimp)|refine aI ?_)
   refine WP.ret (hs_ ⟨r::o,hE⟩ (bL_ (S':=⟨(mkS 13 [(4,.row 0)] []).sl,[(1000,.cells 87 [.row 1001]),(1001,.mp kvs),(0,ifB (r::o)),(602,.obj G (.deferred (some [])))],[G]⟩) (Wk.go [2] 700 0 (by decide) (by simp) (by simp) (by simp)) ?_ G 602 rfl rfl rfl))
   simp -dsimp
theorem ol_ (M:List Int) (hnd:M.Nodup) (kvs:List (Value×D)) (hkv:kvs.map (·.1)=M.map fun r=>Value.int .i64 r) (hl:M.length≤1000):FunX Tryz.prog 51 [.fn (.func 53) [] [.ptr 1000 0]] [(1000,.cells 87 [.row 1001]),(1001,.mp kvs)] (α:={o:List Int // o.Perm M}) (fun _=>.row 0) (fun o=>[(1000,.cells 87 [.row 1001]),(1001,.mp kvs),(0,ifB o.1)]):=by
 refine cg_ aa_ Tryz.func51 rfl fun β0=>?_
 simp only[Tryz.f51]
 refine WP.seq ?_
 refine WP.region aa_ ?_
 simp -dsimp
 repeat refine aI ?_
 refine WP.seq ?_
 refine li_ aa_ rfl ?_
 simp -dsimp
 refine fg_ oM_ (rU_ M hnd kvs hkv hl) (rl [(1000,1000),(1001,1001),(0,600)]) rfl rfl (by simp) (ai_ (by simp[BoxLeq]) rfl (by first|rfl|(simp;done)) (by simp) (by simp)) (fun x=>ai_ (by simp[BoxLeq]) rfl (by first|rfl|(simp;done)) (by simp) (by simp)) (fun x=>by simp) (fun x=>?_)
 obtain⟨o,ho⟩:=x
 refine⟨_,Wk.refl _,?_⟩
 simp -dsimp
 refine WP.ret (finX.ret ⟨o,ho⟩ (am_ (S':=mkS 5 [(2,.row 0)] [(1000,.cells 87 [.row 1001]),(1001,.mp kvs),(0,ifB o)]) (Wk.go [] 600 0 (by decide) (by simp) (by simp) (by simp)) ?_))
 simp -dsimp
theorem vp_ (x y:Int):Fn0 Tryz.prog 111 [.v (.int .i64 x),.v (.int .i64 y)] (.v (.bool (decide (x<y)))):=by
 refine ac_ (pn:=ao_) aa_ Tryz.func111 rfl fun β0=>?_
 simp only[Tryz.f111]
 repeat(first|apply wG|(apply wR;simp -dsimp)|refine aI ?_)
 refine ad_ e0_ (kO_ x) rfl rfl (by simp) ?_
 simp -dsimp
 repeat(first|apply wG|(apply wR;simp -dsimp)|refine aI ?_)
 refine vcStopG.skip (.d (.v (.bool false))) ?_
 simp -dsimp
 repeat(first|apply wG|(apply wR;simp -dsimp)|refine aI ?_)
 refine WP.ret (ab_ ?_)
 simp -dsimp
def Ed_:Nat→Int
 | 0=>0
 | 1=>1
 | 2|3=>2
 | 4|5|6|7=>3
 | _=>4
theorem x9_ {a b:Int} (h:a=b):Leq (.d (.v (.int .i64 a))) (.d (.v (.int .i64 b))):=by
 subst h
 exact .refl _
theorem vq_ (n:Nat) (hn:n≤12):Fn0 Tryz.prog 115 [.v (.int .u64 n)] (.v (.int .i64 (Ed_ n))):=by
 have h:n=0∨n=1∨n=2∨n=3∨n=4∨n=5∨n=6∨n=7∨n=8∨n=9∨n=10∨n=11∨n=12:=by omega
 refine ac_ (pn:=ao_) aa_ Tryz.func115 rfl fun β0=>?_
 simp only[Tryz.f115]
 repeat(first|apply wG|(apply wR;simp -dsimp)|refine aI ?_)
 refine cF (by rcases h with rfl|rfl|rfl|rfl|rfl|rfl|rfl|rfl|rfl|rfl|rfl|rfl|rfl<;>simp) ?_
 refine WP.skip ?_
 simp -dsimp
 repeat(first|apply wG|(apply wR;simp -dsimp)|refine aI ?_)
 refine cF (by rcases h with rfl|rfl|rfl|rfl|rfl|rfl|rfl|rfl|rfl|rfl|rfl|rfl|rfl<;>simp) ?_
 refine WP.skip ?_
 simp -dsimp
 repeat(first|apply wG|(apply wR;simp -dsimp)|refine aI ?_)
 refine cF (by rcases h with rfl|rfl|rfl|rfl|rfl|rfl|rfl|rfl|rfl|rfl|rfl|rfl|rfl<;>simp) ?_
 refine WP.skip ?_
 simp -dsimp
 rcases h with rfl|rfl|rfl|rfl|rfl|rfl|rfl|rfl|rfl|rfl|rfl|rfl|rfl
 all_goals
  repeat(first|apply wG|(apply wR;simp -dsimp)|refine aI ?_)
  refine WP.ret (ab_ ?_)
  simp -dsimp
  try exact x9_ (by decide)
theorem z9_ (n:Nat) (hn:n≤12):Fn0 Tryz.prog 79 [.v (.int .u64 n)] (.v (.int .i64 (Ed_ n))):=by
 refine ac_ (pn:=ao_) aa_ Tryz.func79 rfl fun β0=>?_
 simp only[Tryz.f79]
 repeat(first|apply wG|(apply wR;simp -dsimp)|refine aI ?_)
 refine cF (by simp) ?_
 refine WP.skip ?_
 simp -dsimp
 repeat(first|apply wG|(apply wR;simp -dsimp)|refine aI ?_)
 refine ad_ gW_ (vq_ n hn) rfl rfl (by simp) ?_
 simp -dsimp
 repeat(first|apply wG|(apply wR;simp -dsimp)|refine aI ?_)
 refine WP.ret (ab_ ?_)
 simp -dsimp
end Go.Proofs.YtdjkbdhdejlakaaGreatDoor
