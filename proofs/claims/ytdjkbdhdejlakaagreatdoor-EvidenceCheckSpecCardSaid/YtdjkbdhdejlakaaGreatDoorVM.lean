/-
  Joined texts.
-/
import Derived.Test.YtdjkbdhdejlakaaGreatDoorVL
import Derived.Test.YtdjkbdhdejlakaaGreatDoorVE
set_option maxRecDepth 10000
set_option maxHeartbeats 4000000
set_option linter.unusedVariables false
set_option linter.unusedSimpArgs false
set_option linter.unusedSectionVars false
namespace Go.Proofs.YtdjkbdhdejlakaaGreatDoor
open Go.Xe Go.RowKit
def pO_:Go.Shelf.Ren:=⟨fun n=>match n with
 | 6=>75
 | 14=>104
 | 15=>79
 | 20=>150
 | 21=>151
 | 22=>152
 | 23=>153
 | 24=>154
 | 25=>155
 | 26=>156
 | 27=>157
 | 28=>114
 | 29=>115
 | 46=>187
 | 47=>159
 | 48=>160
 | 49=>188
 | 50=>189
 | 57=>210
 | n=>n,fun n=>match n with
 | 0=>0
 | 3=>3
 | 4=>4
 | 5=>5
 | 9=>9
 | 22=>144
 | 24=>136
 | 25=>146
 | 39=>151
 | 45=>181
 | 46=>182
 | 50=>138
 | 53=>189
 | 55=>191
 | 66=>230
 | 70=>172
 | 76=>257
 | 77=>258
 | n=>n,fun n=>n⟩
set_option maxRecDepth 100000 in
theorem n1_:Go.Proofs.SlLaysF0.n6 Tryz.prog pO_ where
 mixed:=eo_
 f6:=⟨(Tryz.f75).name,by kernel_rfl,by kernel_rfl⟩
 f14:=⟨(Tryz.f104).name,by kernel_rfl,by kernel_rfl⟩
 f15:=by kernel_rfl
 f20:=⟨(Tryz.f150).name,by kernel_rfl,by kernel_rfl⟩
 f21:=⟨(Tryz.f151).name,by kernel_rfl,by kernel_rfl⟩
 f22:=⟨(Tryz.f152).name,by kernel_rfl,by kernel_rfl⟩
 f23:=⟨(Tryz.f153).name,by kernel_rfl,by kernel_rfl⟩
 f24:=⟨(Tryz.f154).name,by kernel_rfl,by kernel_rfl⟩
 f25:=⟨(Tryz.f155).name,by kernel_rfl,by kernel_rfl⟩
 f26:=⟨(Tryz.f156).name,by kernel_rfl,by kernel_rfl⟩
 f27:=⟨(Tryz.f157).name,by kernel_rfl,by kernel_rfl⟩
 f28:=by kernel_rfl
 f29:=by kernel_rfl
 f46:=⟨(Tryz.f187).name,by kernel_rfl,by kernel_rfl⟩
 f47:=by kernel_rfl
 f48:=by kernel_rfl
 f49:=⟨(Tryz.f188).name,by kernel_rfl,by kernel_rfl⟩
 f50:=⟨(Tryz.f189).name,by kernel_rfl,by kernel_rfl⟩
 f57:=⟨(Tryz.f210).name,by kernel_rfl,by kernel_rfl⟩
 t0:=Tryz.underlying0
 a0:=Tryz.isAgg0
 z0:=Tryz.sizeOf0
 v0:=Tryz.zeroValue0
 t3:=Tryz.underlying3
 a3:=Tryz.isAgg3
 z3:=Tryz.sizeOf3
 v3:=Tryz.zeroValue3
 t4:=Tryz.underlying4
 a4:=Tryz.isAgg4
 z4:=Tryz.sizeOf4
 v4:=Tryz.zeroValue4
 t5:=Tryz.underlying5
 a5:=Tryz.isAgg5
 z5:=Tryz.sizeOf5
 v5:=Tryz.zeroValue5
 t9:=Tryz.underlying9
 a9:=Tryz.isAgg9
 z9:=Tryz.sizeOf9
 v9:=Tryz.zeroValue9
 t22:=Tryz.underlying144
 a22:=Tryz.isAgg144
 z22:=Tryz.sizeOf144
 v22:=Tryz.zeroValue144
 t25:=Tryz.underlying146
 a25:=Tryz.isAgg146
 z25:=Tryz.sizeOf146
 v25:=Tryz.zeroValue146
 t39:=Tryz.underlying151
 a39:=Tryz.isAgg151
 z39:=Tryz.sizeOf151
 v39:=Tryz.zeroValue151
 t45:=Tryz.underlying181
 a45:=Tryz.isAgg181
 z45:=Tryz.sizeOf181
 v45:=Tryz.zeroValue181
 t46:=Tryz.underlying182
 a46:=Tryz.isAgg182
 z46:=Tryz.sizeOf182
 v46:=Tryz.zeroValue182
 t50:=Tryz.underlying138
 a50:=Tryz.isAgg138
 z50:=Tryz.sizeOf138
 v50:=Tryz.zeroValue138
 t53:=Tryz.underlying189
 a53:=Tryz.isAgg189
 z53:=Tryz.sizeOf189
 v53:=Tryz.zeroValue189
 t55:=Tryz.underlying191
 a55:=Tryz.isAgg191
 z55:=Tryz.sizeOf191
 v55:=Tryz.zeroValue191
 t66:=Tryz.underlying230
 a66:=Tryz.isAgg230
 z66:=Tryz.sizeOf230
 v66:=Tryz.zeroValue230
 t70:=Tryz.underlying172
 a70:=Tryz.isAgg172
 z70:=Tryz.sizeOf172
 v70:=Tryz.zeroValue172
 t76:=Tryz.underlying257
 a76:=Tryz.isAgg257
 z76:=Tryz.sizeOf257
 v76:=Tryz.zeroValue257
 t77:=Tryz.underlying258
 a77:=Tryz.isAgg258
 z77:=Tryz.sizeOf258
 v77:=Tryz.zeroValue258
theorem k8_ (a b:R2):Fn0 Tryz.prog 76 [rfD a,rfD b] (.v (.int .i64 (cmpR a b))):=by
 have h1:=bM_ a.1 b.1
 have h2:=bM_ a.2 b.2
 have h3:=vb_ [cK_ a.1 b.1,cK_ a.2 b.2] (by simp)
 refine ac_ (pn:=ao_) aa_ Tryz.func76 rfl fun β0=>?_
 simp only[Tryz.f76]
 repeat(first|apply wG|(apply wR;simp -dsimp)|refine aI ?_)
 refine ad_ bo_ h1 rfl rfl (by simp) ?_
 simp -dsimp
 repeat(first|apply wG|(apply wR;simp -dsimp)|refine aI ?_)
 refine ad_ bo_ h2 rfl rfl (by simp) ?_
 simp -dsimp
 repeat(first|apply wG|(apply wR;simp -dsimp)|refine aI ?_)
 refine vcStop.call e1_ (sW_ (cK_ a.1 b.1) (cK_ a.2 b.2)) (rl [(1000,15)]) rfl rfl (by simp[BoxLeq]) (ai_ (by simp[BoxLeq]) rfl (by first|rfl|(simp[BoxLeq];done)) (by simp[BoxLeq]) (by simp[BoxLeq])) (fun _ h=>h.elim) (fun ⟨_,h⟩=>h.elim) (fun ⟨_,h⟩=>h.elim) (by simp[BoxLeq]) ?_
 simp -dsimp
 repeat(first|apply wG|(apply wR;simp -dsimp)|refine aI ?_)
 refine WP.ret (ab_ ?_)
 simp -dsimp[cmpR]
abbrev pfB (o:List R2):Box:=.row 136 2 o.length ((rfC o).map .d)
theorem qX_ (l:List R2) (hl:l.length≤1000000):Fun Tryz.prog 75 [.row 1000,.d (.v (.func (.func 76) #[] #[]))] [(1000,pfB l)] (.d .any) [(1000,pfB (nH_ cmpR l))] fun _=>False:=by
 have h:=g0_ (ρ:=pO_) n1_ 2 Tryz.isAgg136 Tryz.sizeOf136 rfV (fun x=>rfl) (fun x v hv=>by
  simp only[rfV,List.mem_cons,List.not_mem_nil,or_false] at hv
  rcases hv with rfl|rfl<;>rfl) cmpR swo_R (g:=76) (run_enterFn oN_) (fun x y=>k8_ x y) l (by omega)
 rw[hh_,hh_] at h
 have hl2:=kb_ _ swo_R l
 simp only[pfB,hl2]
 exact h
theorem j9_ {x:List Sg} (h:1<x.length):∃ a b y,x=a::b::y∧two x=some (a,b):=by
 cases x with
 | nil=>simp at h
 | cons a x =>
  cases x with
  | nil=>simp at h
  | cons b y=>exact⟨a,b,y,rfl,rfl⟩
theorem uL_ {x:List Sg} (h:¬ 1<x.length):two x=none:=by
 cases x with
 | nil=>rfl
 | cons a x =>
  cases x with
  | nil=>rfl
  | cons b y=>simp at h
def big (l:List Sg) (r:R2):Bool:=decide (1<(shlf r l).length)
theorem dp_ (l:List Sg):∀ q:List R2,(q.filter (big l)).filterMap (fun r=>two (shlf r l))=q.filterMap fun r=>two (shlf r l)
 | []=>rfl
 | r::q=>by
  rw[List.filter_cons]
  by_cases h:1<(shlf r l).length
  ·rw[if_pos (by simp[big,h]),List.filterMap_cons,List.filterMap_cons,dp_ l q]
  ·rw[if_neg (by simp[big,h]),dp_ l q,List.filterMap_cons,uL_ h]
def bigL (l:List Sg):List R2:=(g7_ l).filter (big l)
theorem rQ_ (l:List Sg):(bigL l).Nodup:=(jI_ l).filter _
theorem qk_ (l:List Sg):frkL l=(sortR (bigL l)).filterMap fun r=>two (shlf r l):=by
 rw[frkL,← dp_]
 congr 1
 refine l4_ ((cn_ _).filter _) (cn_ _) fun r=>?_
 rw[List.mem_filter,cE_,cE_,bigL,List.mem_filter,hZ_,nA_,List.mem_map]
 simp only[List.mem_filter]
 constructor
 ·rintro⟨⟨s,⟨h1,h2⟩,h3⟩,h4⟩;exact⟨⟨s,h1,h2,h3⟩,h4⟩
 ·rintro⟨⟨s,h1,h2,h3⟩,h4⟩;exact⟨⟨s,⟨h1,h2⟩,h3⟩,h4⟩
def EA_ (q:Sg×Sg):D:=.agg (sgc q.1++sgc q.2)
def frkAt (w:List (Sg×Sg)) (i:Nat):Sg×Sg:=w.getD i ((f0,[]),(f0,[]))
theorem yn_ (l:List Sg) (z1 z2:List R2) (r:R2) {a b:Sg} (hz:sortR (bigL l)=z1++r::z2) (h2:two (shlf r l)=some (a,b)) (hb:∀ q∈z1,1<(shlf q l).length) :
  frkAt (frkL l) z1.length=(a,b)∧z1.length<(frkL l).length:=by
 have hl:(z1.filterMap fun r=>two (shlf r l)).length=z1.length:=by
  clear hz
  induction z1 with
  | nil=>rfl
  | cons q z1 ih =>
   obtain⟨c,d,y,_,h3⟩:=j9_ (hb q (by simp))
   rw[List.filterMap_cons,h3]
   simp only[List.length_cons]
   rw[ih fun q hq=>hb q (by simp[hq])]
 have e:frkL l=(z1.filterMap fun r=>two (shlf r l))++(a,b)::z2.filterMap fun r=>two (shlf r l):=by
  rw[qk_,hz,List.filterMap_append,List.filterMap_cons,h2]
 rw[e,← hl]
 exact⟨by simp[frkAt],by simp⟩
theorem tC_ (l:List Sg):(frkL l).length=(sortR (bigL l)).length:=by
 rw[qk_]
 have:∀ z:List R2,(∀ q∈z,1<(shlf q l).length)→(z.filterMap fun r=>two (shlf r l)).length=z.length:=by
  intro z
  induction z with
  | nil=>intro _;rfl
  | cons q z ih =>
   intro hb
   obtain⟨c,d,y,_,h3⟩:=j9_ (hb q (by simp))
   rw[List.filterMap_cons,h3]
   simp only[List.length_cons]
   rw[ih fun q hq=>hb q (by simp[hq])]
 refine this _ fun q hq=>?_
 rw[cE_] at hq
 have:=(List.mem_filter.1 hq).2
 simpa [big] using this
theorem rW_ (l:List R2) (r:R2):(a0_ l r).length≤l.length+1:=by
 unfold a0_;split
 ·omega
 ·simp
theorem u6_ (l:List Sg):(g7_ l).length≤l.length:=by
 have key:∀ (q a:List R2),(q.foldl a0_ a).length≤a.length+q.length:=by
  intro q
  induction q with
  | nil=>intro a;simp
  | cons r q ih =>
   intro a
   have h1:=ih (a0_ a r)
   have h2:=rW_ a r
   rw[List.foldl_cons,List.length_cons];omega
 have h1:=key (nA_ l) []
 have h2:(nA_ l).length≤l.length:=by rw[nA_,List.length_map];exact List.length_filter_le _ _
 simp only[List.length_nil] at h1
 rw[g7_];omega
theorem qG_ (l:List Sg):(bigL l).length≤l.length:=Nat.le_trans (List.length_filter_le _ _) (u6_ l)
theorem xH_ (z1 z2:List R2) (r:R2):List.take 2 (List.drop (z1.length*2) ((rfC (z1++r::z2)).map AV.d))=[.d (.v (.int .i64 r.1)),.d (.v (.int .i64 r.2))]:=by
 have e:rfC (z1++r::z2)=rfC z1++([.v (.int .i64 r.1),.v (.int .i64 r.2)]++rfC z2):=by rw[c0_];rfl
 rw[e,List.map_append,List.drop_left' (by simp)]
 simp
theorem xB_ {l:List Sg} {r:R2} (hr:r∈g7_ l):jt_ (shM l) (cC_ r) (.v (.slice none 0 0)) (.sl 61 (sgC (shlf r l)) (shlf r l).length false):=by
 obtain⟨a,b,e⟩:=List.append_of_mem hr
 exact .inl ⟨a.map (shE l),b.map (shE l),by rw[shM,e];simp[shE]⟩
theorem hf_ {A B cs:List AV} (ha:A.length=61) (hb:B.length=61) (hc:cs.length=122):setL (setL cs 0 A) 61 B=A++B:=by
 rw[co_ _ _ _ (by rw[setL_length];omega),co_ _ _ _ (by omega)]
 simp only[List.take_zero,List.nil_append,Nat.zero_add]
 rw[List.take_left' ha,List.drop_eq_nil_of_le (by rw[List.length_append,List.length_drop];omega),List.append_nil]
abbrev fkS1 (lp:Nat) (l:List Sg) (g:Nat) (L:List Ent3) (clock:Nat) (seen:Array Nat) (q:Value→World→(Nat→Prop)→Prop) (o:List R2):St :=
 mkS 45 [(0,.d (.v (.func (.yield lp) #[] #[]))),(1,.ptr 1000 0),(3,.row 510),(9,.ptr 600 0)] [(1000,.cells 110 [.row 1001]),(1001,MapAt g L clock),(600,ItAt g clock seen),(500,.opq q),(510,pfB o)]
abbrev fkS2 (lp:Nat) (l:List Sg) (q:Value→World→(Nat→Prop)→Prop) (Z:List R2) (i:Nat):St :=
 mkS 45 [(0,.d (.v (.func (.yield lp) #[] #[]))),(1,.ptr 1000 0),(24,.row 510),(25,.d (.v (.int .i64 Z.length))),(26,.d (.v (.int .i64 i)))] [(1000,.cells 110 [.row 1001]),(1001,.mp (shM l)),(500,.opq q),(510,pfB Z)]
theorem vN_ (l:List Sg) (hl:∀ p∈l,aL_ p) (hn:l.length≤900):qM_ Tryz.prog 74 [.ptr 1000 0] [(1000,.cells 110 [.row 1001]),(1001,.mp (shM l))] (fun i=>[EA_ (frkAt (frkL l) i)]) (fun _=>true) (frkL l).length:=by
 intro lp B hB
 have hfo:∀ p∈l,fOk p.1:=fun p hp=>(hl p hp).1
 have hks:=pA_ hfo
 have hbl:=qG_ l
 simp only[List.cons_append,List.nil_append]
 refine ac_ (pn:=ao_) aa_ Tryz.func74 rfl fun β0=>?_
 simp only[Tryz.f74]
 refine gt_ 1001 rfl fun g L clock hL hok=>?_
 have hLk:∀ e∈L,e.key=cC_ (ia_ e.key)∧ia_ e.key∈g7_ l∧e.d=.sl 61 (sgC (shlf (ia_ e.key) l)) (shlf (ia_ e.key) l).length false:=fun e he=>by
  have h0:(e.key,e.d)∈shM l:=by rw[← hL];exact List.mem_map.2 ⟨e,he,rfl⟩
  obtain⟨r,hr,hx⟩:=st_ h0
  have h2:=congrArg Prod.fst hx
  have h3:=congrArg Prod.snd hx
  simp only[shE] at h2 h3
  rw[h2,wY_]
  exact⟨rfl,hr,h3⟩
 have hLn:L.map (fun e=>ia_ e.key)=g7_ l:=by
  have:=congrArg (List.map fun q:Value×D=>ia_ q.1) hL
  rw[List.map_map,shM,List.map_map] at this
  have h2:((g7_ l).map ((fun q:Value×D=>ia_ q.1)∘shE l))=g7_ l:=by
   have:((fun q:Value×D=>ia_ q.1)∘shE l)=id:=by funext r;rfl
   rw[this,List.map_id]
  rw[h2] at this
  exact this
 have hl0:left3 L #[]=L:=List.filter_eq_self.2 (by simp)
 simp -dsimp
 repeat(first|apply wG|(apply wR;simp -dsimp)|refine aI ?_)
 refine vcStop.range aa_ rfl rfl 600 rfl rfl (by simp[MapAt]) ?_
 simp -dsimp
 repeat(first|apply wG|(apply wR;simp -dsimp)|refine aI ?_)
 refine ak_ (fun m S=>∃ seen o,m=(left3 L seen).length∧(o++((left3 L seen).map fun e=>ia_ e.key).filter (big l)).Perm (bigL l)∧S=fkS1 lp l g L clock seen (B 0) o) L.length (S0:=fkS1 lp l g L clock #[] (B 0) [])
  ((Wk.go [] (S':=mkS 45 [(0,.d (.v (.func (.yield lp) #[] #[]))),(1,.ptr 1000 0),(3,.d fB_),(9,.ptr 600 0)] [(1000,.cells 110 [.row 1001]),(1001,MapAt g L clock),(600,ItAt g clock #[]),(500,.opq (B 0))]) 1999 500 (by decide) (by simp[MapAt,ItAt]) (by simp) (by simp[MapAt,ItAt])).trans ((bk_ 3 510 136 2 (by simp) (by simp[MapAt,ItAt])).trans (ae_ [] (by simp) (by simp[rfC,MapAt,ItAt])))) ⟨#[],[],by rw[hl0],by rw[hl0,hLn];exact List.Perm.refl _,rfl⟩ ?_
 rintro m _ ⟨seen,o,hm,hper,rfl⟩
 by_cases hne:left3 L seen=[]
 ·rw[hne] at hper
  have hoM:o.Perm (bigL l):=by simpa using hper
  simp -dsimp
  repeat(first|apply wG|(apply wR;simp -dsimp)|refine aI ?_)
  refine cj_ rfl rfl (j:=1001) rfl rfl hok hne ?_
  simp -dsimp
  repeat(first|apply wG|(apply wR;simp -dsimp)|refine aI ?_)
  refine cF (by simp) ?_
  refine WP.exit ?_
  simp -dsimp
  refine aw_ (eW_ 1001 rfl hok) ?_
  rw[hL]
  have hso:=qX_ o (by have:=hoM.length_eq;omega)
  rw[pw_ (rQ_ l) hoM] at hso
  have hZ1:∀ r∈sortR (bigL l),1<(shlf r l).length∧r∈g7_ l:=fun r hr=>by
   rw[cE_] at hr
   obtain⟨h1,h2⟩:=List.mem_filter.1 hr
   exact⟨by simpa [big] using h2,h1⟩
  have hZl:(sortR (bigL l)).length≤900:=by
   have:=fj_ (bigL l) []
   simp only[List.length_nil] at this
   have e:sortR (bigL l)=(bigL l).foldl (fun a r=>cI_ r a) []:=rfl
   rw[e];omega
  have hmid:=yn_ l
  have hfl:=tC_ l
  generalize sortR (bigL l)=Z at hso hZ1 hZl hmid hfl
  simp -dsimp
  repeat(first|apply wG|(apply wR;simp -dsimp)|refine aI ?_)
  refine vcStop.call oO_ (hso) (rl [(1000,510)]) rfl rfl (by simp[BoxLeq]) (ai_ (by simp[BoxLeq]) rfl (by first|rfl|(simp[BoxLeq];done)) (by simp[BoxLeq]) (by simp[BoxLeq])) (fun _ h=>h.elim) (fun ⟨_,h⟩=>h.elim) (fun ⟨_,h⟩=>h.elim) (by simp[BoxLeq]) ?_
  simp -dsimp
  repeat(first|apply wG|(apply wR;simp -dsimp)|refine aI ?_)
  refine ak_ (fun m S=>∃ z1 z2,Z=z1++z2∧m=z2.length∧S=fkS2 lp l (B z1.length) Z z1.length) Z.length (S0:=fkS2 lp l (B 0) Z 0) (ae_ [600] (by simp) (by simp)) ⟨[],Z,rfl,rfl,rfl⟩ ?_
  rintro _ _ ⟨z1,z2,hz,rfl,rfl⟩
  simp -dsimp
  repeat(first|apply wG|(apply wR;simp -dsimp)|refine aI ?_)
  cases z2 with
  | nil =>
   simp only[List.append_nil] at hz
   subst hz
   refine cF (by simp) ?_
   refine WP.exit ?_
   simp -dsimp
   refine ca_ (S':=mkS 45 [] [(1000,.cells 110 [.row 1001]),(1001,.mp (shM l)),(0,.opq (B (frkL l).length))]) (Wk.go [510] 500 0 (by decide) (by simp) (by simp) (by simp[hfl])) ?_
   simp -dsimp
  | cons r z2 =>
   have hzl:Z.length=z1.length+(z2.length+1):=by rw[hz];simp
   have hra:=xH_ z1 z2 r
   rw[← hz] at hra
   refine cT (by simp;omega) ?_
   refine WP.skip ?_
   simp -dsimp
   repeat(first|apply wG|(apply wR;simp -dsimp[hra])|refine aI ?_)
   obtain⟨hbig,hrp⟩:=hZ1 r (by rw[hz];simp)
   obtain⟨a,b,y,hx,htw⟩:=j9_ hbig
   have hxk:∀ p∈shlf r l,aL_ p:=fun p hp=>hl p (bd_ (((dP_ r l hfo).2 p).1 hp).1)
   have hget:=xB_ hrp
   obtain⟨hfa,hfl2⟩:=hmid z1 z2 r hz htw fun q hq=>(hZ1 q (by rw[hz];simp[hq])).1
   have hlen:z1.length<(frkL l).length:=hfl2
   have hy:=hB z1.length hlen
   simp only[hfa] at hy
   obtain⟨t,ht,ht1,ht2⟩:=hZ_.1 hrp
   obtain⟨lk,hlk⟩:=n0_ (r:=r) (by rw[← ht2];exact (hfo t ht).1 0) (by rw[← ht2];exact (hfo t ht).1 1)
   rw[hx] at hget hxk
   have hat0:=bl_ (x:=a::b::y) (i:=0) (by simp) hxk
   have hat1:=bl_ (x:=a::b::y) (i:=1) (by simp) hxk
   have hka:=hxk a (by simp)
   have hkb:=hxk b (by simp)
   have la:=az_ (hxk a (by simp))
   have lb:=az_ (hxk b (by simp))
   have ta:=er_ (hxk a (by simp))
   have tb:=er_ (hxk b (by simp))
   have lc:=sgC_len hxk
   have hz0:0<(a::b::y).length:=by simp
   have hz1:1<(a::b::y).length:=by simp
   simp only[List.getElem_cons_zero,List.getElem_cons_succ,Nat.zero_mul,Nat.one_mul,List.drop_zero] at hat0 hat1
   generalize hX:a::b::y=X at hget hxk hat0 hat1 lc hz0 hz1
   generalize sgC X=W at hget hat0 hat1 lc
   generalize X.length=N at hget lc hz0 hz1
   refine aK_ aa_ rfl rfl bP_ Tryz.zeroValue23 (j:=1001) rfl (kvs:=shM l) rfl (key:=cC_ r) (b1_ _ _) (.sl 61 W N false) hlk hks hget ?_
   simp -dsimp[hat0,la,ta]
   repeat(first|apply wG|(apply wR;simp -dsimp[hat0,la,ta])|refine aI ?_)
   refine aK_ aa_ rfl rfl bP_ Tryz.zeroValue23 (j:=1001) rfl (kvs:=shM l) rfl (key:=cC_ r) (b1_ _ _) (.sl 61 W N false) hlk hks hget ?_
   simp -dsimp[hat1,la,ta,lb,tb]
   repeat(first|apply wG|(apply wR;simp -dsimp[hat1,la,ta,lb,tb])|refine aI ?_)
   refine And.intro ⟨sgc_oneD hka,by rw[setL_length];simp,sgc_oneD hkb⟩ ?_
   rw[hf_ (by rw[List.length_map,la]) (by rw[List.length_map,lb]) (by simp)]
   rw[← List.map_append]
   have e1:IntKind.i64.wrap ((z1.length:Int)+1)=(z1.length:Int)+1:=IntWalk.i64_in _ (by omega)
   refine j7_ hy 500 501 rfl rfl (And.intro (ag_ _) trivial) rfl (by decide) (by simp[hasL_d]) ?_
   simp -dsimp
   repeat(first|apply wG|(apply wR;simp -dsimp)|refine aI ?_)
   refine cF (by simp) ?_
   refine WP.skip ?_
   simp -dsimp
   repeat(first|apply wG|(apply wR;simp -dsimp)|refine aI ?_)
   refine loopW.next (fkS2 lp l (B (z1++[r]).length) Z (z1++[r]).length) (Wk.go [7] 501 500 (by decide) (by simp) (by simp[e1]) (by simp)) z2.length (by simp) ⟨z1++[r],z2,by simp[hz],rfl,rfl⟩
 ·simp -dsimp
  repeat(first|apply wG|(apply wR;simp -dsimp)|refine aI ?_)
  refine ck_ rfl rfl (j:=1001) rfl rfl hok hne ?_
  simp -dsimp
  repeat(first|apply wG|(apply wR;simp -dsimp)|refine aI ?_)
  refine cT (by simp) ?_
  refine WP.skip ?_
  simp -dsimp
  refine oy_ 600 rfl fun e he=>?_
  have hel:e∈L:=(List.mem_filter.1 he).1
  have hpu:=ge_ hok.2.1 he
  obtain⟨hek,hem,hed⟩:=hLk e hel
  generalize hr:ia_ e.key=r at hek hem hed
  have hkA:Leq (.d (.v e.key)) (.agg [.d (.v (.int .i64 r.1)),.d (.v (.int .i64 r.2))]):=by rw[hek];exact pI_ r
  have hper2:(o++(r::(left3 L (seen.push e.born)).map fun e=>ia_ e.key).filter (big l)).Perm (bigL l):=by
   refine List.Perm.trans ?_ hper
   rw[← hr]
   exact ((hpu.map fun e:Ent3=>ia_ e.key).filter (big l)).append_left o
  have hol:o.length≤900:=by
   have:=hper2.length_eq
   rw[List.length_append] at this
   omega
  simp -dsimp
  repeat(first|apply wG|(apply wR;simp -dsimp)|refine aI ?_)
  refine de_ rfl rfl (j:=1001) rfl rfl hok hel hkA ?_
  rw[hed]
  clear hLk hL hLn hek hr hkA hed
  simp -dsimp
  refine And.intro (by simp[MapAt,ItAt]) ?_
  repeat(first|apply wG|(apply wR;simp -dsimp)|refine aI ?_)
  by_cases hbg:1<(shlf r l).length
  ·rw[List.filter_cons,if_pos (by simp[big,hbg])] at hper2
   refine cT (by simp;omega) ?_
   repeat(first|apply wG|(apply wR;simp -dsimp)|refine aI ?_)
   refine And.intro (by simp[MapAt,ItAt]) ?_
   repeat(first|apply wG|(apply wR;simp -dsimp)|refine aI ?_)
   refine And.intro (by simp[MapAt,ItAt]<;>omega) ?_
   repeat(first|apply wG|(apply wR;simp -dsimp)|refine aI ?_)
   refine loopW.next (fkS1 lp l g L clock (seen.push e.born) (B 0) (o++[r])) (Wk.go [4] 21 510 (by decide) (by simp[MapAt,ItAt]) (by simp) (by simp[rfC,MapAt,ItAt])) (left3 L (seen.push e.born)).length (by rw[hm,← hpu.length_eq];exact Nat.lt_succ_self _) ⟨_,_,rfl,?_,rfl⟩
   rw[List.append_assoc]
   exact hper2
  ·rw[List.filter_cons,if_neg (by simp[big,hbg])] at hper2
   refine cF (by simp;omega) ?_
   refine WP.skip ?_
   simp -dsimp
   refine loopW.next (fkS1 lp l g L clock (seen.push e.born) (B 0) o) (ae_ [4] (by simp) (by simp[MapAt,ItAt])) (left3 L (seen.push e.born)).length (by rw[hm,← hpu.length_eq];exact Nat.lt_succ_self _) ⟨_,_,rfl,hper2,rfl⟩
theorem shM_inv {l:List Sg} {s:Sg} (h:vS2 s=false):shM (l++[s])=shM l:=by
 have e1:g7_ (l++[s])=g7_ l:=by
  rw[g7_,nA_,List.filter_append]
  simp[h]
  rfl
 rw[shM,e1,shM]
 refine List.map_congr_left fun r _=>?_
 rw[shE,shE,fl_,nY_,if_neg fun k=>by rw[h] at k;cases k.1]
def fkc (q:Sg×Sg):List D:=sgc q.1++sgc q.2
def fkC (w:List (Sg×Sg)):List D:=w.flatMap fkc
theorem eS_ {q:Sg×Sg} (h1:aL_ q.1) (h2:aL_ q.2):(fkc q).length=122:=by rw[fkc,List.length_append,az_ h1,az_ h2]
theorem gk_ {q:Sg×Sg} (h1:aL_ q.1) (h2:aL_ q.2):∀ d∈fkc q,oneD d=true:=fun d hd=>by
 rcases List.mem_append.1 hd with h|h
 ·exact sgc_oneD h1 d h
 ·exact sgc_oneD h2 d h
theorem yo_ (q:Sg×Sg):EA_ q=.agg (fkc q):=rfl
theorem Af_ {l:List Sg} (hl:∀ p∈l,aL_ p) {q:Sg×Sg} (hq:q∈frkL l):aL_ q.1∧aL_ q.2:=by
 obtain⟨r,_,h⟩:=List.mem_filterMap.1 hq
 obtain⟨h1,h2,_⟩:=se_ (fun s hs=>(hl s hs).1) h
 exact⟨hl _ (bd_ h1),hl _ (bd_ h2)⟩
theorem vO_ (w:List (Sg×Sg)) {i:Nat} (hi:i<w.length):fkC (w.take (i+1))=fkC (w.take i)++fkc (frkAt w i):=by
 have e:w.take (i+1)=w.take i++[frkAt w i]:=by
  rw[List.take_add_one,List.getElem?_eq_getElem hi]
  simp[frkAt,hi]
 rw[e,fkC,List.flatMap_append]
 simp[fkC]
theorem uZ_ (kvs:List (Value×D)):Fun Tryz.prog 47 [.row 1000] [(1000,.mp kvs)] (.fn (.func 74) [] [.ptr 0 0]) [(1000,.mp kvs),(0,.cells 110 [.row 1000])] fun _=>False:=by
 refine ac_ (pn:=ao_) aa_ Tryz.func47 rfl fun β0=>?_
 simp only[Tryz.f47]
 repeat(first|apply wG|(apply wR;simp -dsimp)|refine aI ?_)
 refine WP.ret (am_ (S':=mkS 4 [(2,.fn (.func 74) [] [.ptr 0 0])] [(1000,.mp kvs),(0,.cells 110 [.row 1000])]) (Wk.go [] 1 0 (by decide) (by simp) (by simp) (by simp)) ?_)
 simp -dsimp
def bF (w:List (Sg×Sg)):Nat→Bxs
 | 0=>[(1100,.cells 83 [.d fB_])]
 | i+1=>[(1100,.cells 83 [.row 505]),(505,.row 66 122 (i+1) ((fkC (w.take (i+1))).map .d))]
theorem rS_ (w:List (Sg×Sg)) (i:Nat):a9_ (bF w i):=by
 intro k b h
 cases i<;>simp only[bF,getB] at h<;>(repeat' split at h)<;>cases h<;>rfl
abbrev slK (w:List (Sg×Sg)):D:=.sl 122 (fkC w) w.length false
theorem bF_tags (w:List (Sg×Sg)) (m:Nat):∀ p∈bF w m,∀ t∈ap_ p.2.cs,isIn (bF w m) t=true:=by
 cases m with
 | zero =>
  intro p hp t ht
  simp only[bF,List.mem_singleton] at hp
  subst hp
  simp[Box.cs,ap_,aN_] at ht
 | succ m =>
  intro p hp t ht
  simp only[bF,List.mem_cons,List.not_mem_nil,or_false] at hp
  rcases hp with rfl|rfl
  ·simp[Box.cs,ap_,aN_] at ht
   subst ht
   simp[bF,isIn,getB]
  ·simp[Box.cs,sh_] at ht
abbrev foS (l:List Sg) (b:Bool) (l1:List Sg):St:=mkS 33 [(2,.ptr 2 0),(3,.row 8),(4,.fn (.func 45) [.row 8] []),(11,.d (sgD l b)),(12,.d (.v (.int .i64 l.length))),(13,.d (.v (.int .i64 l1.length)))] [(2,.cells 83 [.d fB_]),(8,.mp (shM l1))]
theorem vM_ (l:List Sg) (b:Bool) (hl:∀ p∈l,aL_ p) (hn:l.length≤900):Fn0 Tryz.prog 23 [sgD l b] (slK (frkL l)):=by
 have itf:=vN_ l hl hn
 have hfo:∀ p∈l,fOk p.1:=fun p hp=>(hl p hp).1
 refine gv_ aa_ Tryz.func23 rfl fun β0=>?_
 simp only[Tryz.f23]
 repeat(first|apply wG|(apply wR;simp -dsimp)|refine aI ?_)
 refine vcStop.makeMap 8 rfl (by simp) ?_
 simp -dsimp
 repeat(first|apply wG|(apply wR;simp -dsimp)|refine aI ?_)
 refine ak_ (fun m S=>∃ l1 l2,l=l1++l2∧m=l2.length∧S=foS l b l1) l.length (S0:=foS l b []) (ae_ [] (by simp) (by simp[shM,g7_,nA_])) ⟨[],l,rfl,rfl,rfl⟩ ?_
 rintro _ _ ⟨l1,l2,hl12,rfl,rfl⟩
 simp -dsimp
 repeat(first|apply wG|(apply wR;simp -dsimp)|refine aI ?_)
 cases l2 with
 | nil =>
  simp only[List.append_nil] at hl12
  subst hl12
  refine cF (by simp) ?_
  refine WP.exit ?_
  simp -dsimp
  repeat(first|apply wG|(apply wR;simp -dsimp)|refine aI ?_)
  refine vcStop.call o1_ (uZ_ (shM l)) (rl [(1000,8),(0,600)]) rfl rfl (by simp[BoxLeq]) (ai_ (by simp[BoxLeq]) rfl (by first|rfl|(simp[BoxLeq];done)) (by simp[BoxLeq]) (by simp[BoxLeq])) (fun _ h=>h.elim) (fun ⟨_,h⟩=>h.elim) (fun ⟨_,h⟩=>h.elim) (by simp[BoxLeq]) ?_
  simp -dsimp
  repeat(first|apply wG|(apply wR;simp -dsimp)|refine aI ?_)
  have hq:∀ i,i<(frkL l).length→aL_ (frkAt (frkL l) i).1∧aL_ (frkAt (frkL l) i).2:=fun i hi=>by
   refine Af_ hl ?_
   have:frkAt (frkL l) i=(frkL l)[i]:=by simp[frkAt,hi]
   rw[this]
   exact List.getElem_mem hi
  have hwl:(frkL l).length≤900:=by
   have h1:=fj_ (bigL l) []
   have h2:=qG_ l
   have e:sortR (bigL l)=(bigL l).foldl (fun a r=>cI_ r a) []:=rfl
   rw[tC_,e]
   simp only[List.length_nil] at h1
   omega
  generalize frkL l=w at itf hq hwl
  refine cc_ oP_ itf (jump:=fun _=>none) (bF w) (mkS 33 [(2,.ptr 1100 0)] []).sl 990 (rl [(1000,600),(1001,8),(1100,2),(505,510),(990,602)]) rfl rfl rfl (by simp) (by simp) (by simp) (fun i _=>rS_ _ i)
   (by cases w.length<;>simp[bF]) (by simp) (bF_tags w _) (by simp) (by decide) (by cases w.length<;>simp[bF]) (fun _ _=>rfl) (fun _ _=>rfl) ?_ (fun G=>ai_ (by simp[bF,fkC]) (by cases w.length<;>simp[bF]) (by cases w.length<;>simp[bF]) (by cases w.length<;>simp[bF]) (by cases w.length<;>simp[bF])) (fun G=>by cases w.length<;>simp[bF]) ?_
  ·intro i hi lp β1
   obtain⟨hqa,hqb⟩:=hq i hi
   have hsn:=vO_ w hi
   have fl:=eS_ hqa hqb
   have fo:=gk_ hqa hqb
   have ft:List.take 122 ((fkc (frkAt w i)).map AV.d)=(fkc (frkAt w i)).map .d:=List.take_of_length_le (by rw[List.length_map,fl];omega)
   simp only[yo_]
   cases i with
   | zero =>
    simp -dsimp[bF]
    generalize fkc (frkAt w 0)=f at hsn fl fo ft ⊢
    rw[show fkC (w.take 0)=[] from rfl,List.nil_append,Nat.zero_add] at hsn
    repeat(first|apply wG|(apply wR;simp -dsimp[fl,ft])|refine aI ?_)
    exact⟨mkS 33 [] (bF w 1),Wk.go [7,30] 31 505 (by decide) (by simp) (by simp) (by simp[bF,hsn]),subB_ok (by simp[bF])⟩
   | succ i =>
    simp -dsimp[bF]
    generalize fkC (w.take (i+1))=W at hsn ⊢
    generalize fkc (frkAt w (i+1))=f at hsn fl fo ft ⊢
    repeat(first|apply wG|(apply wR;simp -dsimp[fl,ft])|refine aI ?_)
    exact⟨mkS 33 [] (bF w (i+1+1)),Wk.go [7,30] 31 505 (by decide) (by simp) (by simp) (by simp[bF,hsn]),subB_ok (by simp[bF])⟩
  ·intro G
   rw[dk_,fP_]
   cases hw:w.length with
   | zero =>
    have hw0:w=[]:=List.eq_nil_of_length_eq_zero hw
    subst hw0
    simp -dsimp[bF]
    repeat(first|apply wG|(apply wR;simp -dsimp)|refine aI ?_)
    refine WP.ret (rz_ ?_ G 602 rfl rfl rfl)
    simp -dsimp[fkC]
    exact Leq.nil 122
   | succ n =>
    simp -dsimp[bF]
    rw[← hw,List.take_length]
    repeat(first|apply wG|(apply wR;simp -dsimp)|refine aI ?_)
    refine WP.ret (bL_ ((ae_ [] (S':=mkS 33 [(2,.ptr 2 0)] [(2,.cells 83 [.row 510]),(602,.obj G (.deferred (some []))),(510,.row 66 122 w.length ((fkC w).map .d))] [G]) (by simp) (by simp)).trans (Wk.freeze (k:=510) (T:=66) (sz:=122) (n:=w.length) (ds:=fkC w) (by simp))) ?_ G 602 rfl rfl rfl)
    simp -dsimp
 | cons p l2 =>
  have hll:l.length=l1.length+(l2.length+1):=by rw[hl12];simp
  have hlt:l1.length<l.length:=by omega
  have hp:=hl p (by rw[hl12];simp)
  have hat:=bl_ hlt hl
  have hpe:l[l1.length]=p:=by simp[hl12]
  rw[hpe] at hat
  have l2':=az_ hp
  have tp:=er_ hp
  have lc:=sgC_len hl
  have hc:=hx_ p.1 hp.1
  have e1:IntKind.i64.wrap ((l1.length:Int)+1)=(l1.length:Int)+1:=IntWalk.i64_in _ (by omega)
  refine cT (by simp;omega) ?_
  refine WP.skip ?_
  simp -dsimp
  repeat(first|apply wG|(apply wR;simp -dsimp[hat,l2',tp])|refine aI ?_)
  refine And.intro (sgc_oneD hp) ?_
  have h57:=b4_ p
  repeat(first|apply wG|(apply wR;simp -dsimp[h57,l2'])|refine aI ?_)
  refine ad_ dB_ hc rfl rfl (by simp[fD]) ?_
  simp -dsimp
  repeat(first|apply wG|(apply wR;simp -dsimp)|refine aI ?_)
  have hl1:∀ q∈l1,aL_ q:=fun q hq=>hl q (by rw[hl12];simp[hq])
  cases hv:vS2 p with
  | true =>
   have hv':(numF p.1).2=true:=hv
   refine cT (by simp[hv']) ?_
   have hts:=dQ_ hp
   repeat(first|apply wG|(apply wR;simp -dsimp[hts,l2'])|refine aI ?_)
   refine vcStop.call o2_ (uX_ l1 p hl1 hp hv (by omega)) (rl [(1000,8)]) rfl rfl (by simp[sgV,BoxLeq]) (ai_ (by simp[sgV,BoxLeq]) rfl (by first|rfl|(simp[sgV,BoxLeq];done)) (by simp[sgV,BoxLeq]) (by simp[sgV,BoxLeq])) (fun _ h=>h.elim) (fun ⟨_,h⟩=>h.elim) (fun ⟨_,h⟩=>h.elim) (by simp[sgV,BoxLeq]) ?_
   simp -dsimp
   repeat(first|apply wG|(apply wR;simp -dsimp)|refine aI ?_)
   refine loopW.next (foS l b (l1++[p])) (ae_ [6] (by simp[e1]) (by simp)) l2.length (by simp) ⟨l1++[p],l2,by simp[hl12],rfl,rfl⟩
  | false =>
   have hv':(numF p.1).2=false:=hv
   refine cF (by simp[hv']) ?_
   refine WP.skip ?_
   simp -dsimp
   repeat(first|apply wG|(apply wR;simp -dsimp)|refine aI ?_)
   refine loopW.next (foS l b (l1++[p])) (ae_ [6] (by simp[e1]) (by simp[shM_inv hv])) l2.length (by simp) ⟨l1++[p],l2,by simp[hl12],rfl,rfl⟩
end Go.Proofs.YtdjkbdhdejlakaaGreatDoor
