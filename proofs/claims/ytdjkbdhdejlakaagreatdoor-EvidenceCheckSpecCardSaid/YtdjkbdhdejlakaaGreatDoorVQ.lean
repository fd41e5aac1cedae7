/-
  Joined texts.
-/
import Derived.Test.YtdjkbdhdejlakaaGreatDoorVP
import Derived.Test.YtdjkbdhdejlakaaGreatDoorVE
set_option linter.unusedVariables false
set_option linter.unusedSimpArgs false
set_option linter.unusedSectionVars false
namespace Go.Proofs.YtdjkbdhdejlakaaGreatDoor
open Go.Xe Go.RowKit
theorem kQ_ {n:Int} (hn:isI n):∃ l,keyOf Tryz.prog 3 (.int .i64 n)=some l:=by
 refine⟨.int .i64 n,?_⟩
 have h:(Lit.int .i64 n).wf=true:=by
  unfold isI at hn
  simp[Lit.wf,IntKind.min,IntKind.max,IntKind.bits,IntKind.signed]
  omega
 simp[keyOf,Tryz.underlying3,mapKey,h]
theorem gg_:Maps.Keyed Tryz.prog 3:=Maps.int_keyed Tryz.underlying3
def CG_ (l:List Int) (c:Int):List Int:=if c∈l then l else l++[c]
def crN (A:List F):Nat→List Int
 | 0=>[]
 | i+1=>CG_ (crN A i) (fat A i 0)
theorem fS_ (A:List F):∀ i,i≤A.length→(crN A i).Nodup∧(crN A i).length≤i∧∀ c,c∈crN A i↔∃ f∈A.take i,f 0=c
 | 0,_=>⟨List.nodup_nil,Nat.le_refl _,fun c=>by simp[crN]⟩
 | i+1,h=>by
  obtain⟨h1,h2,h3⟩:=fS_ A i (by omega)
  rw[crN,df_ (show i<A.length by omega)]
  generalize fat A i=f
  have key:∀ c,(∃ g∈A.take i++[f],g 0=c)↔c∈crN A i∨c=f 0:=fun c=>by
   rw[h3]
   constructor
   ·rintro⟨g,k1,k2⟩
    rcases List.mem_append.1 k1 with k1|k1
    ·exact .inl ⟨g,k1,k2⟩
    ·rw[List.mem_singleton] at k1;subst k1;exact .inr k2.symm
   ·rintro (⟨g,k1,k2⟩|rfl)
    ·exact⟨g,List.mem_append.2 (.inl k1),k2⟩
    ·exact⟨f,by simp,rfl⟩
  unfold CG_
  split
  ·rename_i hm
   refine⟨h1,by omega,fun c=>?_⟩
   rw[key]
   exact⟨.inl,fun k=>k.elim id fun e=>e▸hm⟩
  ·rename_i hm
   refine⟨List.nodup_append.2 ⟨h1,by simp,fun a ha b hb e=>by rw[List.mem_singleton] at hb;subst hb;subst e;exact hm ha⟩,by simp;omega,fun c=>?_⟩
   rw[key]
   simp
theorem ef_ (c:Int) (f:F):∀ (l:List F) (n:Int),lastN c (l++[f]) n=if f 0=c∧lastN c l n<f 1 then f 1 else lastN c l n
 | [],n=>rfl
 | g::l,n=>by
  rw[List.cons_append,lastN,ef_ c f l]
  rfl
theorem jL_ {c:Int}:∀ {l:List F} {n:Int},(∀ f∈l,f 0≠c)→lastN c l n=n
 | [],_,_=>rfl
 | f::l,n,h=>by
  rw[lastN,if_neg fun k=>h f (by simp) k.1]
  exact jL_ fun g hg=>h g (by simp[hg])
def lstM (A:List F) (i:Nat):List (Value×D):=(crN A i).map fun c=>(.int .i64 c,.v (.int .i64 (lastN c (A.take i) 0)))
theorem vo_ (A:List F) (i:Nat):(lstM A i).map (·.1)=(crN A i).map fun r=>Value.int .i64 r:=by simp[lstM]
theorem pX_ {A:List F} {i:Nat} {p:Value×D} (h:p∈lstM A i):∃ c∈crN A i,p.1=.int .i64 c:=by
 obtain⟨c,hc,rfl⟩:=List.mem_map.1 h
 exact⟨c,hc,rfl⟩
theorem te_ {A:List F} {i:Nat} (hi:i≤A.length) (c:Int):jt_ (lstM A i) (.int .i64 c) (.v (.int .i64 0)) (.v (.int .i64 (lastN c (A.take i) 0))):=by
 obtain⟨h1,h2,h3⟩:=fS_ A i hi
 by_cases h:c∈crN A i
 ·obtain⟨a,b,e⟩:=List.append_of_mem h
  refine .inl ⟨a.map fun c=>(.int .i64 c,.v (.int .i64 (lastN c (A.take i) 0))),b.map fun c=>(.int .i64 c,.v (.int .i64 (lastN c (A.take i) 0))),?_⟩
  rw[lstM,e]
  simp
 ·refine .inr ⟨fun p hp e=>?_,?_⟩
  ·obtain⟨d,hd,e2⟩:=pX_ hp
   rw[e2] at e
   cases e
   exact h hd
  ·rw[jL_ fun f hf e=>h ((h3 c).2 ⟨f,hf,e⟩)]
theorem x6_ {A:List F} {i:Nat} (hi:i<A.length):iU_ (lstM A i) (.int .i64 (fat A i 0)) (.v (.int .i64 (lastN (fat A i 0) (A.take (i+1)) 0))) (lstM A (i+1)):=by
 obtain⟨h1,h2,h3⟩:=fS_ A i (by omega)
 rw[df_ hi]
 have hoth:∀ c,c≠fat A i 0→lastN c (A.take i++[fat A i]) 0=lastN c (A.take i) 0:=fun c hc=>by
  rw[ef_,if_neg fun k=>hc k.1.symm]
 by_cases h:fat A i 0∈crN A i
 ·obtain⟨a,b,e⟩:=List.append_of_mem h
  have hnd:=h1
  rw[e] at hnd
  have ha:∀ c∈a,c≠fat A i 0:=fun c hc e'=>by
   have:=(List.nodup_append.1 hnd).2.2 c hc (fat A i 0) (by simp)
   exact this e'
  have hb:∀ c∈b,c≠fat A i 0:=fun c hc e'=>by
   have:=(List.nodup_cons.1 (List.nodup_append.1 hnd).2.1).1
   exact this (e'▸hc)
  refine .inl ⟨a.map fun c=>(.int .i64 c,.v (.int .i64 (lastN c (A.take i) 0))),.v (.int .i64 (lastN (fat A i 0) (A.take i) 0)),b.map fun c=>(.int .i64 c,.v (.int .i64 (lastN c (A.take i) 0))),?_,?_⟩
  ·rw[lstM,e]
   simp
  ·rw[lstM,crN,CG_,if_pos h,e,df_ hi]
   simp only[List.map_append,List.map_cons]
   congr 1
   ·exact List.map_congr_left fun c hc=>by rw[hoth c (ha c hc)]
   ·congr 1
    exact List.map_congr_left fun c hc=>by rw[hoth c (hb c hc)]
 ·refine .inr ⟨fun p hp e=>?_,?_⟩
  ·obtain⟨d,hd,e2⟩:=pX_ hp
   rw[e2] at e
   cases e
   exact h hd
  ·rw[lstM,crN,CG_,if_neg h,df_ hi,List.map_append]
   congr 1
   exact List.map_congr_left fun c hc=>by rw[hoth c (fun e=>h (e▸hc))]
theorem kX_ (L:List R2) (c m:Int):∀ (n k:Nat),m≤n→ii_ L c m n k=[]
 | _,0,_=>rfl
 | n,k+1,h=>by
  rw[ii_,if_neg fun k=>by omega,kX_ L c m (n+1) k (by omega)]
  rfl
theorem qf_ (L:List R2) (c m:Int):∀ (n k:Nat),(ii_ L c m n k).length≤k
 | _,0=>Nat.le_refl _
 | n,k+1=>by
  have:=qf_ L c m (n+1) k
  rw[ii_,List.length_append]
  split<;>simp<;>omega
theorem hq_ {A:List F} {c:Int} {b:Int} (hb:0≤b) (h:∀ f∈A,f 1≤b):lastN c A 0≤b:=by
 rcases lastN_at c A 0 with e|⟨f,hf,_,e⟩
 ·omega
 ·rw[← e];exact h f hf
theorem fI_ (A:List F) (h:∀ f∈A,f 1≤200):∀ cs:List Int,(gapS A cs).length≤cs.length*200
 | []=>Nat.le_refl _
 | c::cs=>by
  have h1:=fI_ A h cs
  have h2:=qf_ (A.map cA_) c (lastN c A 0) 1 (lastN c A 0).toNat
  have h3:=hq_ (A:=A) (c:=c) (b:=200) (by omega) h
  have e:gapS A (c::cs)=ii_ (A.map cA_) c (lastN c A 0) 1 (lastN c A 0).toNat++gapS A cs:=rfl
  rw[e,List.length_append,List.length_cons,Nat.add_mul]
  omega
theorem kW_ (A:List F) (a b:List Int):gapS A (a++b)=gapS A a++gapS A b:=by simp[gapS]
def bG (A:List F) (i:Nat):Bxs:=[(1100,.cells 80 [.row 1101]),(1101,.mp (aP_ (alN A [] i))),(1102,.cells 87 [.row 1103]),(1103,.mp (lstM A i))]
theorem rR_ (A:List F) (i:Nat):a9_ (bG A i):=by
 intro k b h
 simp only[bG,getB] at h
 (repeat' split at h)<;>cases h<;>rfl
theorem yh_ (c1 c2:List Int) (c:Int):atL ((ifC (c1++c::c2)).map .d) c1.length=.d (.v (.int .i64 c)):=by
 rw[tt_ (by simp)]
 simp
abbrev gpS (G:Nat) (V:List R2) (K:List (Value×D)) (C:List Int) (Z:List R2) (p:Nat):St :=
 mkS 56 [(2,.row 510),(3,.ptr 3 0),(4,.ptr 4 0),(30,.row 700),(31,.d (.v (.int .i64 C.length))),(32,.d (.v (.int .i64 p)))]
  [(3,.cells 80 [.row 10]),(10,.mp (aP_ V)),(4,.cells 87 [.row 11]),(11,.mp K),(602,.obj G (.deferred (some []))),(700,ifB C),(510,rfB Z)] [G]
abbrev gqS (G:Nat) (V:List R2) (K:List (Value×D)) (C:List Int) (Z:List R2) (p:Nat) (c:Int) (n:Nat):St :=
 mkS 56 [(2,.row 510),(3,.ptr 3 0),(4,.ptr 4 0),(7,.d (.v (.int .i64 c))),(8,.d (.v (.int .i64 n))),(30,.row 700),(31,.d (.v (.int .i64 C.length))),(32,.d (.v (.int .i64 p)))]
  [(3,.cells 80 [.row 10]),(10,.mp (aP_ V)),(4,.cells 87 [.row 11]),(11,.mp K),(602,.obj G (.deferred (some []))),(700,ifB C),(510,rfB Z)] [G]
set_option maxRecDepth 10000 in
set_option maxHeartbeats 4000000 in
theorem oa_ (a:List Sg) (ba:Bool) (hla:a.length≤12) (ha:∀ p∈a,aL_ p) (hno:∀ p∈a,p.1 1≤200):Fn0 Tryz.prog 13 [lgD a ba] (slR (gapS (vF a) (isA (crN (vF a) (vF a).length)))):=by
 have hA:=eC_ fun p hp=>(ha p hp).1
 have hal:=Nat.le_trans (fh_ a) hla
 have ita:=io_ a ba (by omega) ha
 have hn200:∀ f∈vF a,f 1≤200:=fun f hf=>by
  obtain⟨p,hp,rfl,_⟩:=jw_.1 hf
  exact hno p hp
 generalize vF a=A at hA hal ita hn200
 refine gv_ aa_ Tryz.func13 rfl fun β0=>?_
 simp only[Tryz.f13]
 repeat(first|apply wG|(apply wR;simp -dsimp)|refine aI ?_)
 refine vcStop.makeMap 10 rfl (by simp) ?_
 simp -dsimp
 repeat(first|apply wG|(apply wR;simp -dsimp)|refine aI ?_)
 refine vcStop.makeMap 11 rfl (by simp) ?_
 simp -dsimp
 repeat(first|apply wG|(apply wR;simp -dsimp)|refine aI ?_)
 refine vcStop.call e6_ (in_ a ba) (rl [(0,600)]) rfl rfl (by simp[BoxLeq]) (ai_ (by simp[BoxLeq]) rfl (by first|rfl|(simp[BoxLeq];done)) (by simp[BoxLeq]) (by simp[BoxLeq])) (fun _ h=>h.elim) (fun ⟨_,h⟩=>h.elim) (fun ⟨_,h⟩=>h.elim) (by simp[BoxLeq]) ?_
 simp -dsimp
 repeat(first|apply wG|(apply wR;simp -dsimp)|refine aI ?_)
 refine cc_ e2_ ita (jump:=fun _=>none) (bG A) (mkS 56 [(3,.ptr 1100 0),(4,.ptr 1102 0),(2,.d fB_)] []).sl 990 (rl [(1000,600),(1100,3),(1101,10),(1102,4),(1103,11),(990,602)]) rfl rfl rfl (by simp) (by simp) (by simp) (fun i _=>rR_ _ i)
  (by simp[bG]) (by simp) (by simp[bG]) (by simp) (by decide) (by simp[bG]) (fun _ _=>rfl) (fun _ _=>rfl) ?_ (fun G=>ai_ (by simp[bG,alN,aP_,lstM,crN]) (by simp[bG]) (by simp[bG]) (by simp[bG]) (by simp[bG])) (fun G=>by simp[bG]) ?_
 ·intro i hi lp β1
  have hfo:=hA _ (mu_ hi)
  obtain⟨hn1,hI,_,_⟩:=j1_ (H:=[]) hA i (by omega)
  have hvs:alN A [] (i+1)=a0_ (alN A [] i) (cA_ (fat A i)):=rfl
  have hget:=te_ (A:=A) (i:=i) (by omega) (fat A i 0)
  have hput:=x6_ hi
  have hmx:lastN (fat A i 0) (A.take (i+1)) 0=max (lastN (fat A i 0) (A.take i) 0) (fat A i 1):=by
   rw[df_ hi,ef_]
   split
   ·rename_i h;omega
   ·rename_i h;simp only[true_and] at h;omega
  have hkk:c8_ Tryz.prog 3 (lstM A i):=fun p hp=>by
   obtain⟨c,hc,e⟩:=pX_ hp
   rw[e]
   obtain⟨f,hf,e2⟩:=((fS_ A i (by omega)).2.2 c).1 hc
   exact kQ_ (e2▸(hA f (List.mem_of_mem_take hf)).1 0)
  obtain⟨lr,hlr⟩:=f7_ (r:=cA_ (fat A i)) (hfo.1 0) (hfo.1 1)
  obtain⟨lc,hlc⟩:=kQ_ (hfo.1 0)
  rw[hmx] at hput
  generalize fat A i=f at hfo hvs hlr hlc hget hput
  simp -dsimp[bG,fD]
  generalize alN A [] i=V at hI hvs ⊢
  generalize lstM A i=K at hget hput hkk ⊢
  generalize hK':lstM A (i+1)=K' at hput ⊢
  generalize lastN (f 0) (A.take i) 0=q at hget hput
  repeat(first|apply wG|(apply wR;simp -dsimp)|refine aI ?_)
  have hro:=ko_ f
  refine ad_ e7_ hro rfl rfl (by simp[fD]) ?_
  simp -dsimp
  refine bA_ aa_ rfl rfl dT_ (j:=1101) rfl (kvs:=aP_ V) (aP_ (a0_ V (cA_ f))) rfl (key:=cC_ (cA_ f)) (pH_ _ _) (d:=.v (.bool true)) (.refl _) hlr (dS_ hI) (kj_ V _) ?_
  simp -dsimp
  repeat(first|apply wG|(apply wR;simp -dsimp)|refine aI ?_)
  refine aK_ aa_ rfl rfl gg_ Tryz.zeroValue3 (j:=1103) rfl (kvs:=K) rfl (key:=.int .i64 (f 0)) (.refl _) (.v (.int .i64 q)) hlc hkk hget ?_
  simp -dsimp
  repeat(first|apply wG|(apply wR;simp -dsimp)|refine aI ?_)
  refine bA_ aa_ rfl rfl gg_ (j:=1103) rfl (kvs:=K) K' rfl (key:=.int .i64 (f 0)) (.refl _) (d:=.v (.int .i64 (max q (f 1)))) (.refl _) hlc hkk hput ?_
  simp -dsimp
  repeat(first|apply wG|(apply wR;simp -dsimp)|refine aI ?_)
  exact⟨mkS 56 [] (bG A (i+1)),ae_ [5] (by simp) (by simp[bG,hvs,hK']),subB_ok (by simp[bG])⟩
 ·intro G
  obtain⟨hn1,hI,hl1,hmem⟩:=j1_ (H:=[]) hA _ (Nat.le_refl _)
  obtain⟨hc1,hc2,hc3⟩:=fS_ A A.length (Nat.le_refl _)
  rw[dk_,fP_]
  simp -dsimp[bG]
  repeat(first|apply wG|(apply wR;simp -dsimp)|refine aI ?_)
  refine vcStop.call pe_ (vw_ (lstM A A.length)) (rl [(1000,11),(0,603)]) rfl rfl (by simp[BoxLeq]) (ai_ (by simp[BoxLeq]) rfl (by first|rfl|(simp[BoxLeq];done)) (by simp[BoxLeq]) (by simp[BoxLeq])) (fun _ h=>h.elim) (fun ⟨_,h⟩=>h.elim) (fun ⟨_,h⟩=>h.elim) (by simp[BoxLeq]) ?_
  simp -dsimp
  repeat(first|apply wG|(apply wR;simp -dsimp)|refine aI ?_)
  refine vcStop.call pf_ (qU_ (crN A A.length) hc1 (lstM A A.length) (vo_ A A.length) (by omega)) (rl [(1000,603),(1001,11),(0,700)]) rfl rfl (by simp[BoxLeq]) (ai_ (by simp[BoxLeq]) rfl (by first|rfl|(simp[BoxLeq];done)) (by simp[BoxLeq]) (by simp[BoxLeq])) (fun _ h=>h.elim) (fun ⟨_,h⟩=>h.elim) (fun ⟨_,h⟩=>h.elim) (by simp[BoxLeq]) ?_
  simp -dsimp
  repeat(first|apply wG|(apply wR;simp -dsimp)|refine aI ?_)
  have hab:∀ r:R2,r∈alN A [] A.length↔r∈A.map cA_:=fun r=>by
   rw[hmem,List.take_length,List.mem_map]
   exact⟨fun ⟨f,k1,_,k3⟩=>⟨f,k1,k3⟩,fun ⟨f,k1,k3⟩=>⟨f,k1,rfl,k3⟩⟩
  have hget:∀ c,jt_ (lstM A A.length) (.int .i64 c) (.v (.int .i64 0)) (.v (.int .i64 (lastN c A 0))):=fun c=>by
   have:=te_ (A:=A) (Nat.le_refl _) c
   rwa[List.take_length] at this
  have hkk:c8_ Tryz.prog 3 (lstM A A.length):=fun p hp=>by
   obtain⟨c,hc,e⟩:=pX_ hp
   rw[e]
   obtain⟨f,hf,e2⟩:=(hc3 c).1 hc
   exact kQ_ (e2▸(hA f (List.mem_of_mem_take hf)).1 0)
  have hCi:∀ c∈isA (crN A A.length),isI c:=fun c hc=>by
   rw[tl_] at hc
   obtain⟨f,hf,e2⟩:=(hc3 c).1 hc
   exact e2▸(hA f (List.mem_of_mem_take hf)).1 0
  have hCl:(isA (crN A A.length)).length≤12:=by rw[tk_];omega
  have hT:=fI_ A hn200 (isA (crN A A.length))
  generalize isA (crN A A.length)=C at hCi hCl hT ⊢
  generalize alN A [] A.length=V at hI hab ⊢
  generalize lstM A A.length=K at hget hkk ⊢
  refine ak_ (fun q S=>∃ c1 c2,C=c1++c2∧q=c2.length∧S=gpS G V K C (gapS A c1) c1.length) C.length (S0:=gpS G V K C [] 0)
   ((ae_ [1,600,603] (S':=mkS 56 [(2,.d fB_),(3,.ptr 3 0),(4,.ptr 4 0),(30,.row 700),(31,.d (.v (.int .i64 C.length))),(32,.d (.v (.int .i64 0)))] [(3,.cells 80 [.row 10]),(10,.mp (aP_ V)),(4,.cells 87 [.row 11]),(11,.mp K),(602,.obj G (.deferred (some []))),(700,ifB C)] [G]) (by simp) (by simp)).trans ((bk_ 2 510 56 2 (by simp) (by simp)).trans (ae_ [] (by simp) (by simp[rfC])))) ⟨[],C,rfl,rfl,rfl⟩ ?_
  rintro _ _ ⟨c1,c2,hc12,rfl,rfl⟩
  simp -dsimp
  repeat(first|apply wG|(apply wR;simp -dsimp)|refine aI ?_)
  cases c2 with
  | nil =>
   simp only[List.append_nil] at hc12
   subst hc12
   refine cF (by simp) ?_
   refine WP.exit ?_
   simp -dsimp
   repeat(first|apply wG|(apply wR;simp -dsimp)|refine aI ?_)
   refine WP.ret (bL_ ((ae_ [] (S':=mkS 56 [(2,.row 510)] [(602,.obj G (.deferred (some []))),(510,rfB (gapS A C))] [G]) (by simp) (by simp)).trans (Wk.freeze (k:=510) (T:=56) (sz:=2) (n:=(gapS A C).length) (ds:=rfC (gapS A C)) (by simp))) ?_ G 602 rfl rfl rfl)
   simp -dsimp
  | cons c c2 =>
   have hCc:=yh_ c1 c2 c
   rw[← hc12] at hCc
   have hCL:C.length=c1.length+(c2.length+1):=by rw[hc12];simp
   refine cT (by simp;omega) ?_
   refine WP.skip ?_
   simp -dsimp
   repeat(first|apply wG|(apply wR;simp -dsimp[hCc])|refine aI ?_)
   have hm0:=kN_ c A 0
   have hm2:=hq_ (A:=A) (c:=c) (b:=200) (by omega) hn200
   have hgc:gapS A (c1++[c])=gapS A c1++ii_ (A.map cA_) c (lastN c A 0) 1 (lastN c A 0).toNat:=by rw[kW_];simp[gapS]
   have hgl:(gapS A (c1++[c])).length≤4000:=by
    have h1:(gapS A C).length=(gapS A (c1++[c])).length+(gapS A c2).length:=by rw[hc12,show c1++c::c2=(c1++[c])++c2 by simp,kW_,List.length_append]
    omega
   have hgetc:=hget c
   obtain⟨lc,hlc⟩:=kQ_ (hCi c (by rw[hc12];simp))
   generalize lastN c A 0=m at hm0 hm2 hgc hgetc
   refine ak_ (fun q S=>∃ n Z,q=m.toNat+1-n∧1≤n∧n≤m.toNat+1∧Z++ii_ (A.map cA_) c m n (m.toNat+1-n)=gapS A (c1++[c])∧S=gqS G V K C Z c1.length c n) m.toNat (S0:=gqS G V K C (gapS A c1) c1.length c 1)
    (ae_ [] (by simp) (by simp)) ⟨1,gapS A c1,rfl,by omega,by omega,hgc.symm,rfl⟩ ?_
   rintro _ _ ⟨n,Z,rfl,hn1,hnm,hZ,rfl⟩
   have hZl:Z.length≤4000:=by
    have:=congrArg List.length hZ
    rw[List.length_append] at this
    omega
   simp -dsimp
   repeat(first|apply wG|(apply wR;simp -dsimp)|refine aI ?_)
   refine aK_ aa_ rfl rfl gg_ Tryz.zeroValue3 (j:=11) rfl (kvs:=K) rfl (key:=.int .i64 c) (.refl _) (.v (.int .i64 m)) hlc hkk hgetc ?_
   simp -dsimp
   repeat(first|apply wG|(apply wR;simp -dsimp)|refine aI ?_)
   by_cases hnlt:(n:Int)<m
   ·refine cT (by simp;omega) ?_
    refine WP.skip ?_
    simp -dsimp
    repeat(first|apply wG|(apply wR;simp -dsimp)|refine aI ?_)
    obtain⟨lr,hlr⟩:=f7_ (r:=(c,(n:Int))) (hCi c (by rw[hc12];simp)) (by unfold isI;omega)
    refine aK_ aa_ rfl rfl dT_ Tryz.zeroValue4 (j:=10) rfl (kvs:=aP_ V) rfl (key:=cC_ (c,(n:Int))) (b1_ _ _) (.v (.bool (decide ((c,(n:Int))∈V)))) hlr (dS_ hI) (pG_ V _) ?_
    simp -dsimp
    repeat(first|apply wG|(apply wR;simp -dsimp)|refine aI ?_)
    have e2:IntKind.i64.wrap ((n:Int)+1)=((n+1:Nat):Int):=by rw[IntWalk.i64_in _ (by omega)];omega
    have hg1:ii_ (A.map cA_) c m n (m.toNat+1-n)=(if (c,(n:Int))∉A.map cA_ then [(c,(n:Int))] else [])++ii_ (A.map cA_) c m (n+1) (m.toNat+1-(n+1)):=by
     rw[show m.toNat+1-n=(m.toNat+1-(n+1))+1 by omega,ii_]
     simp[hnlt]
    by_cases hin:(c,(n:Int))∈V
    ·rw[hg1,if_neg (by simpa using (hab _).1 hin),List.nil_append] at hZ
     refine cF (by simp[hin]) ?_
     refine WP.skip ?_
     simp -dsimp
     repeat(first|apply wG|(apply wR;simp -dsimp)|refine aI ?_)
     refine loopW.next (gqS G V K C Z c1.length c (n+1)) (ae_ [9] (by simp[e2]) (by simp)) (m.toNat+1-(n+1)) (by omega) ⟨n+1,Z,rfl,by omega,by omega,hZ,rfl⟩
    ·rw[hg1,if_pos (fun h=>hin ((hab _).2 h)),← List.append_assoc] at hZ
     refine cT (by simp[hin]) ?_
     repeat(first|apply wG|(apply wR;simp -dsimp)|refine aI ?_)
     refine loopW.next (gqS G V K C (Z++[(c,(n:Int))]) c1.length c (n+1)) (Wk.go [9] 53 510 (by decide) (by simp) (by simp[e2]) (by simp[rfC])) (m.toNat+1-(n+1)) (by omega) ⟨n+1,Z++[(c,(n:Int))],rfl,by omega,by omega,hZ,rfl⟩
   ·refine cF (by simp;omega) ?_
    refine WP.exit ?_
    simp -dsimp
    repeat(first|apply wG|(apply wR;simp -dsimp)|refine aI ?_)
    have e1:IntKind.i64.wrap ((c1.length:Int)+1)=(c1.length:Int)+1:=IntWalk.i64_in _ (by omega)
    rw[kX_ _ _ _ _ _ (by omega),List.append_nil] at hZ
    subst hZ
    refine loopW.next (gpS G V K C (gapS A (c1++[c])) (c1++[c]).length) (ae_ [] (by simp[e1]) (by simp)) c2.length (by simp) ⟨c1++[c],c2,by simp[hc12],rfl,rfl⟩
end Go.Proofs.YtdjkbdhdejlakaaGreatDoor
