/-
  Joined texts.
-/
import Derived.Test.YtfgcgagcpnbgmaaGreatDoorG3
import Derived.ProofKit
import Derived.DeepKeys
import Derived.Lib.Bytealg
import Derived.Lib.UnsafeStr
import Derived.Laws.Externs
import Derived.Lib.AppendZeros
import Derived.LaidMore
import Derived.OpenShut
import Derived.MakeChecks
set_option linter.all false
namespace Go.Xe
open Go.RowKit
variable [Glob]
def tsz (τ:Tab) (T:TypeId):Nat:=match τ T with
 | some e=>e.size
 | none=>0
def tby (τ:Tab) (T:TypeId):Nat:=match τ T with
 | some e=>e.bytes
 | none=>0
def OkD (τ:Tab):Nat→TypeId→List D→Prop
 | 0,_,_=>False
 | n+1,T,ds=>match τ T with
  | some ⟨.int k,_,_,_⟩=>∃ x,ds=[.v (.int k x)]∧k.min≤x∧x≤k.max
  | some ⟨.bool,_,_,_⟩=>∃ b,ds=[.v (.bool b)]
  | some ⟨.string,_,_,_⟩=>∃ s:ByteArray,ds=[.v (.string s)]∧s.size≤140737488351232
  | some ⟨.slice e,_,_,_⟩=>∃ l:List (List D),ds=[.sl (tsz τ e) l.flatten l.length false]∧(∀ x∈l,OkD τ n e x)∧l.length*tby τ e≤140737488351232
  | some ⟨.struct fs,_,_,_⟩=>∃ l:List (List D),ds=l.flatten∧l.length=fs.length∧∀ (i:Nat) (x:List D) (f:Nat×Nat),l[i]? = some x→fs[i]? = some f→OkD τ n f.2 x
  | some ⟨.array m e,_,_,_⟩=>∃ l:List (List D),ds=l.flatten∧l.length=m∧∀ x∈l,OkD τ n e x
  | _=>False
def bQ_ (τ:Tab):Nat→List (Nat×Nat)→Nat→Bool
 | off,[],n=>decide (off=n)
 | off,(o,T)::r,n=>decide (o=off)&&bQ_ τ (off+tsz τ T) r n
def pf_ (τ:Tab) (L:List TypeId) (t:TypeId):Bool :=
 match τ t with
 | some ⟨.int _,sz,_,_⟩=>decide (sz=1)
 | some ⟨.bool,sz,_,_⟩=>decide (sz=1)
 | some ⟨.string,sz,_,_⟩=>decide (sz=1)
 | some ⟨.slice e,sz,_,_⟩=>decide (sz=1)&&(decide (0<tsz τ e)&&L.contains e)
 | some ⟨.struct fs,sz,_,_⟩=>bQ_ τ 0 fs sz&&fs.all fun f=>L.contains f.2
 | some ⟨.array m e,sz,_,_⟩=>decide (sz=m*tsz τ e)&&L.contains e
 | _=>false
def gOk (τ:Tab) (L:List TypeId):Bool:=L.all (pf_ τ L)
theorem e0_ {α β:Type} {f:α→Option β}:∀ {l:List α} {r:List β},l.mapM f=some r→r.length=l.length∧∀ (i:Nat) (x:α),l[i]? = some x→∃ y,r[i]? = some y∧f x=some y
 | [],r,h=>by simp at h;subst h;simp
 | a::l,r,h=>by
  rw[List.mapM_cons] at h
  cases hf:f a with
  | none=>rw[hf] at h;cases h
  | some y =>
   rw[hf] at h
   cases hl:l.mapM f with
   | none=>rw[hl] at h;cases h
   | some r' =>
    rw[hl] at h
    cases h
    obtain⟨h1,h2⟩:=e0_ hl
    refine⟨by simp[h1],fun i x hx=>?_⟩
    cases i with
    | zero=>simp at hx;subst hx;exact⟨y,rfl,hf⟩
    | succ i=>simpa using h2 i x (by simpa using hx)
section
variable {w:World} {I:Nat→Prop}
theorem Dens.append {a b:List D} {vs us:List Value}:Dens w I a vs→Dens w I b us→Dens w I (a++b) (vs++us):=by
 induction a generalizing vs with
 | nil=>intro h h';rw[Dens] at h;subst h;exact h'
 | cons c cs ih=>intro h h';obtain⟨v,vs',rfl,h1,h2⟩:=h;exact⟨v,_,rfl,h1,ih h2 h'⟩
theorem fl_ {sz:Nat}:∀ (n off:Nat) (cs:List Value) (l:List (List D)),l.length=n→cs.length=off+n*sz→(∀ i x,l[i]? = some x→Dens w I x ((cs.drop (off+i*sz)).take sz))→Dens w I l.flatten (cs.drop off)
 | 0,off,cs,l,hl,hc,_=>by
  have:l=[]:=List.eq_nil_of_length_eq_zero hl
  subst this
  rw[List.drop_of_length_le (by omega)]
  rfl
 | n+1,off,cs,l,hl,hc,h=>by
  cases l with
  | nil=>cases hl
  | cons x l =>
   have h0:=h 0 x rfl
   have hr:=fl_ (sz:=sz) n (off+sz) cs l (by simpa using hl) (by rw[hc,Nat.succ_mul];omega) fun i y hy=>by
    have:=h (i+1) y (by simpa using hy)
    rwa[show off+(i+1)*sz=off+sz+i*sz from by rw[Nat.succ_mul];omega] at this
   have:=Dens.append h0 hr
   simp only[Nat.zero_mul,Nat.add_zero] at this
   rwa[show cs.drop (off+sz)=(cs.drop off).drop sz from by rw[List.drop_drop],List.take_append_drop] at this
theorem fm_ {τ:Tab}:∀ (fs:List (Nat×Nat)) (off n:Nat) (cs:List Value) (l:List (List D)),bQ_ τ off fs n=true→l.length=fs.length→cs.length=n→(∀ (i:Nat) (x:List D) (f:Nat×Nat),l[i]? = some x→fs[i]? = some f→Dens w I x ((cs.drop f.1).take (tsz τ f.2)))→Dens w I l.flatten (cs.drop off)
 | [],off,n,cs,l,hc,hl,hn,_=>by
  have:l=[]:=List.eq_nil_of_length_eq_zero hl
  subst this
  simp only[bQ_,decide_eq_true_eq] at hc
  rw[List.drop_of_length_le (by omega)]
  rfl
 | (o,T)::fs,off,n,cs,l,hc,hl,hn,h=>by
  cases l with
  | nil=>cases hl
  | cons x l =>
   simp only[bQ_,Bool.and_eq_true,decide_eq_true_eq] at hc
   obtain⟨rfl,hc⟩:=hc
   have h0:=h 0 x (o,T) rfl rfl
   have hr:=fm_ fs (o+tsz τ T) n cs l hc (by simpa using hl) hn fun i y f hy hf=>h (i+1) y f (by simpa using hy) (by simpa using hf)
   have:=Dens.append h0 hr
   rwa[show cs.drop (o+tsz τ T)=(cs.drop o).drop (tsz τ T) from by rw[List.drop_drop],List.take_append_drop] at this
end
theorem gC_ {τ:Tab} {Q:Value→Prop}:∀ (fs:List (Nat×Nat)) (off n:Nat) (cs:List Value),bQ_ τ off fs n=true→cs.length=n→(∀ (i:Nat) (f:Nat×Nat),fs[i]? = some f→∀ v∈(cs.drop f.1).take (tsz τ f.2),Q v)→∀ v∈cs.drop off,Q v
 | [],off,n,cs,hc,hn,_=>by
  simp only[bQ_,decide_eq_true_eq] at hc
  rw[List.drop_of_length_le (by omega)]
  simp
 | (o,T)::fs,off,n,cs,hc,hn,h=>by
  simp only[bQ_,Bool.and_eq_true,decide_eq_true_eq] at hc
  obtain⟨rfl,hc⟩:=hc
  intro v hv
  rw[← List.take_append_drop (tsz τ T) (cs.drop o)] at hv
  rcases List.mem_append.1 hv with hv|hv
  ·exact h 0 (o,T) rfl v hv
  ·rw[List.drop_drop] at hv
   exact gC_ fs (o+tsz τ T) n cs hc hn (fun i f hf=>h (i+1) f (by simpa using hf)) v hv
theorem gm_ {Q:Value→Prop} {sz:Nat}:∀ (n off:Nat) (cs:List Value),cs.length=off+n*sz→(∀ i,i<n→∀ v∈(cs.drop (off+i*sz)).take sz,Q v)→∀ v∈cs.drop off,Q v
 | 0,off,cs,hc,_=>by
  rw[List.drop_of_length_le (by omega)]
  simp
 | n+1,off,cs,hc,h=>by
  intro v hv
  rw[← List.take_append_drop sz (cs.drop off)] at hv
  rcases List.mem_append.1 hv with hv|hv
  ·exact h 0 (by omega) v (by simpa using hv)
  ·rw[List.drop_drop] at hv
   refine gm_ (sz:=sz) n (off+sz) cs (by rw[hc,Nat.succ_mul];omega) (fun i hi=>?_) v hv
   have:=h (i+1) (by omega)
   rwa[show off+(i+1)*sz=off+sz+i*sz from by rw[Nat.succ_mul];omega] at this
theorem a5_ {P:Program} {τ:Tab} {T:TypeId} {e:TE} (h:TyOk P T e) (ht:τ T=some e):P.cellsOf T=tsz τ T:=by
 obtain⟨i,z,hi,hs,_⟩:=h.info
 simp[Program.cellsOf,hi,hs,tsz,ht]
theorem pl_ {P:Program} {τ:Tab} {T:TypeId} {e:TE} (h:TyOk P T e) (ht:τ T=some e):P.bytesOf T=tby τ T:=by
 obtain⟨i,z,hi,_,hs,_⟩:=h.info
 simp[Program.bytesOf,hi,hs,tby,ht]
theorem lg_ {α β:Type} {Q:Nat→α→β→Prop}:∀ (l:List α),(∀ i x,l[i]? = some x→∃ y,Q i x y)→∃ r:List β,r.length=l.length∧∀ i x y,l[i]? = some x→r[i]? = some y→Q i x y
 | [],_=>⟨[],rfl,by simp⟩
 | a::l,h=>by
  obtain⟨y,hy⟩:=h 0 a rfl
  obtain⟨r,h1,h2⟩:=lg_ (Q:=fun i=>Q (i+1)) l fun i x hx=>h (i+1) x (by simpa using hx)
  refine⟨y::r,by simp[h1],fun i x z hx hz=>?_⟩
  cases i with
  | zero=>simp at hx hz;subst hx;subst hz;exact hy
  | succ i=>exact h2 i x z (by simpa using hx) (by simpa using hz)
theorem mw_ {n:Nat} (h:n≤reachBytes):n≤140737488351232:=h
def Old (w:World) (n:Nat):Prop:=n<w.heap.size
section
variable {H:Type} {enc:TypeId×Value→H} {P:Program} {w:World} {base:Nat} {spare:Nat→Bool} {held:Bool} {τ:Tab}
theorem all_append {a b:List Nat} {p:Nat→Bool} (h:(a++b).all p=true):a.all p=true∧b.all p=true:=by
 rw[List.all_append,Bool.and_eq_true] at h;exact h
theorem dk_ {e:TypeId}:∀ {ds:List (DataW H)} {i:Nat} {d:DataW H},(DataW.weightsAll P e ds).all (· ≤ reachBytes)=true→ds[i]? = some d→(d.weights P e).all (· ≤ reachBytes)=true
 | [],_,_,_,hd=>by simp at hd
 | x::ds,0,d,h,hd=>by
  rw[DataW.weightsAll] at h
  simp at hd;subst hd
  exact (all_append h).1
 | x::ds,i+1,d,h,hd=>by
  rw[DataW.weightsAll] at h
  exact dk_ (all_append h).2 (by simpa using hd)
theorem eK_:∀ {ts:List TypeId} {ds:List (DataW H)} {i:Nat} {t:TypeId} {d:DataW H},(DataW.weightsEach P ts ds).all (· ≤ reachBytes)=true→ts[i]? = some t→ds[i]? = some d→(d.weights P t).all (· ≤ reachBytes)=true
 | [],_,_,_,_,_,ht,_=>by simp at ht
 | _::_,[],_,_,_,_,_,hd=>by simp at hd
 | t::ts,x::ds,0,_,d,h,ht,hd=>by
  rw[DataW.weightsEach] at h
  simp at hd ht;subst hd;subst ht
  exact (all_append h).1
 | t::ts,x::ds,i+1,_,d,h,ht,hd=>by
  rw[DataW.weightsEach] at h
  exact eK_ (all_append h).2 (by simpa using ht) (by simpa using hd)
theorem wW_ {a:Addr} {n j:Nat} {v:Value} (h:w.cell? ((a.add n).add j)=some v):w.cell? ⟨a.block,a.off+n+j,none⟩=some v∧(n=0→j=0→a.spot=none):=by
 obtain⟨b,off,sp⟩:=a
 by_cases hn:n=0
 ·subst hn
  by_cases hj:j=0
  ·subst hj
   simp only[Addr.add,if_true] at h
   have hs:sp=none:=by
    cases sp with
    | none=>rfl
    | some s =>
     exfalso
     simp only[World.cell?] at h
     split at h<;>simp at h
   subst hs
   exact⟨h,fun _ _=>rfl⟩
  ·simp only[Addr.add,if_true,if_neg hj] at h
   exact⟨h,fun _ h0=>absurd h0 hj⟩
 ·by_cases hj:j=0
  ·subst hj
   simp only[Addr.add,if_true,if_neg hn] at h
   exact⟨h,fun h0=>absurd h0 hn⟩
  ·simp only[Addr.add,if_neg hn,if_neg hj] at h
   exact⟨h,fun h0=>absurd h0 hn⟩
theorem zP_ {b off:Nat} {v:Value} (h:w.cell? ⟨b,off,none⟩=some v):b<w.heap.size:=by
 rcases Nat.lt_or_ge b w.heap.size with h1|h1
 ·exact h1
 ·simp only[World.cell?] at h
  rw[Array.getElem?_eq_none h1] at h
  cases h
theorem hz_ {I:Nat→Prop} {sz b:Nat}:∀ (l:List (List D)) (off:Nat),(∀ i x,l[i]? = some x→x.length=sz∧DenAt w I x b (off+i*sz))→DenAt w I l.flatten b off
 | [],_,_=>by simp[DenAt]
 | x::l,off,h=>by
  obtain⟨h1,h2⟩:=h 0 x rfl
  rw[List.flatten_cons]
  refine DenAt.append (by simpa using h2) ?_
  rw[h1]
  refine hz_ (sz:=sz) l (off+sz) fun i y hy=>?_
  have:=h (i+1) y (by simpa using hy)
  rwa[show off+(i+1)*sz=off+sz+i*sz from by rw[Nat.succ_mul];omega] at this
theorem e5_ {α:Type} {sz:Nat}:∀ (l:List (List α)),(∀ (i:Nat) (x:List α),l[i]? = some x→x.length=sz)→l.flatten.length=l.length*sz
 | [],_=>by simp
 | x::l,h=>by
  rw[List.flatten_cons,List.length_append,h 0 x rfl,e5_ l fun i y hy=>h (i+1) y (by simpa using hy),List.length_cons,Nat.succ_mul,Nat.add_comm]
theorem pa_ (hτ:ay_ P τ) {L:List TypeId} (hL:gOk τ L=true):∀ (fuel:Nat) (t:TypeId) (cs:List Value) (d:DataW H) (ps:List MemPlace),L.contains t=true →
  DataW.trod enc P w base spare held fuel t cs=some (d,ps)→(d.weights P t).all (· ≤ reachBytes)=true →
  ∃ ds,OkD τ fuel t ds∧cs.length=tsz τ t∧Dens w (Old w) ds cs∧∀ v∈cs,v.oneCell'=true:=by
 intro fuel
 induction fuel with
 | zero=>intro t cs d ps _ h;cases h
 | succ fuel ih =>
  intro t cs d ps hG h hw
  have hg:pf_ τ L t=true:=List.all_eq_true.1 hL t (by simpa using hG)
  unfold pf_ at hg
  cases ht:τ t with
  | none=>rw[ht] at hg;cases hg
  | some te =>
   have tk:=hτ t te ht
   have hcs:=a5_ tk ht
   obtain⟨dsc,hu,hk⟩:=tk.und
   rw[ht] at hg
   obtain⟨k,sz,byt,zero⟩:=te
   have hsz:tsz τ t=sz:=by simp[tsz,ht]
   cases k with
   | int k =>
    simp only[TK.ok] at hk
    subst hk
    simp only[decide_eq_true_eq] at hg
    cases cs with
    | nil=>simp[DataW.trod,hu] at h
    | cons c cs =>
     cases cs with
     | cons _ _=>cases c<;>simp[DataW.trod,hu] at h
     | nil =>
      cases c<;>simp[DataW.trod,hu] at h
      obtain⟨⟨rfl,hwf⟩,_⟩:=h
      simp only[Lit.wf,Bool.and_eq_true,decide_eq_true_eq] at hwf
      refine⟨[.v (.int _ _)],by rw[OkD,ht];exact⟨_,rfl,hwf⟩,by simp[hsz,hg],⟨_,_,rfl,rfl,rfl⟩,by simp⟩
   | bool =>
    simp only[TK.ok] at hk
    subst hk
    simp only[decide_eq_true_eq] at hg
    cases cs with
    | nil=>simp[DataW.trod,hu] at h
    | cons c cs =>
     cases cs with
     | cons _ _=>cases c<;>simp[DataW.trod,hu] at h
     | nil =>
      cases c<;>simp[DataW.trod,hu] at h
      refine⟨[.v (.bool _)],by rw[OkD,ht];exact⟨_,rfl⟩,by simp[hsz,hg],⟨_,_,rfl,rfl,rfl⟩,by simp⟩
   | string =>
    simp only[TK.ok] at hk
    subst hk
    simp only[decide_eq_true_eq] at hg
    cases cs with
    | nil=>simp[DataW.trod,hu] at h
    | cons c cs =>
     cases cs with
     | cons _ _=>cases c<;>simp[DataW.trod,hu] at h
     | nil =>
      cases c<;>simp[DataW.trod,hu] at h
      rename_i s
      obtain⟨_,rfl,_⟩:=h
      simp[DataW.weights] at hw
      refine⟨[.v (.string s)],by rw[OkD,ht];exact⟨s,rfl,mw_ (by exact hw)⟩,by simp[hsz,hg],⟨_,_,rfl,rfl,rfl⟩,by simp⟩
   | slice e =>
    simp only[TK.ok] at hk
    subst hk
    simp only[Bool.and_eq_true,decide_eq_true_eq] at hg
    cases cs with
    | nil=>simp[DataW.trod,hu] at h
    | cons c cs =>
     cases cs with
     | cons _ _=>cases c<;>simp[DataW.trod,hu] at h
     | nil =>
      cases c with
      | slice a len cap =>
       cases a with
       | none =>
        have hz:len=0∧cap=0:=by
         cases len<;>cases cap<;>simp[DataW.trod,hu] at h ⊢
        obtain⟨rfl,rfl⟩:=hz
        refine⟨[.sl (tsz τ e) [] 0 false],by rw[OkD,ht];exact⟨[],rfl,by simp,by simp⟩,by simp[hsz,hg.1],⟨_,_,rfl,?_,rfl⟩,by simp⟩
        rw[Den]
        exact⟨none,0,rfl,Nat.le_refl _,by simp[maxLen],by simp,by simp,fun _=>⟨rfl,rfl⟩,by simp⟩
       | some a =>
        simp only[DataW.trod,hu] at h
        split at h
        ·rename_i hc
         obtain⟨hb,hlc,hcm⟩:=hc
         cases hm:(List.range len).mapM (fun i=>(w.cells? base (a.add (i*P.cellsOf e)) (P.cellsOf e)).bind (DataW.trod enc P w base spare held fuel e)) with
         | none=>rw[hm] at h;cases h
         | some elems =>
          rw[hm,Option.bind_some] at h
          obtain⟨rest,_,h2⟩:=Option.map_eq_some_iff.1 h
          cases h2
          obtain⟨hl1,hat⟩:=e0_ hm
          simp only[List.length_range] at hl1
          have hge:L.contains e=true:=hg.2.2
          have hce:∃ ee,τ e=some ee:=by
           have:=List.all_eq_true.1 hL e (by simpa using hge)
           unfold pf_ at this
           cases hte:τ e with
           | none=>rw[hte] at this;cases this
           | some ee=>exact⟨ee,rfl⟩
          obtain⟨ee,hte⟩:=hce
          have tke:=hτ e ee hte
          have hce:=a5_ tke hte
          have hbe:=pl_ tke hte
          rw[DataW.weights,hu] at hw
          simp only[List.all_cons,Bool.and_eq_true,decide_eq_true_eq,List.length_map] at hw
          obtain⟨hw0,hw1⟩:=hw
          have hwe:=(all_append hw1).1
          obtain⟨l,hll,hq⟩:=lg_ (Q:=fun (i:Nat) (_:DataW H×List MemPlace) (x:List D)=>OkD τ fuel e x∧x.length=tsz τ e∧(i=0→a.spot=none)∧DenAt w (Old w) x a.block (a.off+i*tsz τ e)) elems fun i x hx=>by
           have hil:i<len:=by have:=(List.getElem?_eq_some_iff.1 hx).1;omega
           obtain⟨y,hy1,hy2⟩:=hat i i (by rw[List.getElem?_range hil])
           rw[hx] at hy1
           cases hy1
           obtain⟨csi,hcs1,hcs2⟩:=Option.bind_eq_some_iff.1 hy2
           obtain⟨di,pi⟩:=x
           obtain⟨dsi,h3,h4,h5,h6⟩:=ih e csi di pi hge hcs2 (dk_ hwe (i:=i) (by simp[hx]))
           have hc1:(List.range (P.cellsOf e)).mapM (fun j=>w.cell? ((a.add (i*P.cellsOf e)).add j))=some csi:=by
            unfold World.cells? at hcs1
            split at hcs1
            ·exact hcs1
            ·cases hcs1
           obtain⟨hl3,hat3⟩:=e0_ hc1
           rw[hce] at hl3 hat3
           have hcell:∀ j v,csi[j]? = some v→w.cell? ⟨a.block,a.off+i*tsz τ e+j,none⟩=some v∧(i*tsz τ e=0→j=0→a.spot=none):=fun j v hj=>by
            have hjl:j<tsz τ e:=by have:=(List.getElem?_eq_some_iff.1 hj).1;simp at hl3;omega
            obtain⟨v',hv1,hv2⟩:=hat3 j j (by rw[List.getElem?_range hjl])
            rw[hj] at hv1
            cases hv1
            exact wW_ hv2
           have hpos:0<csi.length:=by rw[h4];exact hg.2.1
           obtain⟨v0,hv0⟩:∃ v,csi[0]? = some v:=⟨csi[0],List.getElem?_eq_getElem hpos⟩
           have hb0:Old w a.block:=zP_ (hcell 0 v0 hv0).1
           exact⟨dsi,h3,by rw[h5.length,h4],fun h0=>(hcell 0 v0 hv0).2 (by rw[h0,Nat.zero_mul]) rfl,DenAt.of_dens hb0 h5 h6 fun j v hj=>(hcell j v hj).1⟩
          have hq':∀ i x,l[i]? = some x→OkD τ fuel e x∧x.length=tsz τ e∧(i=0→a.spot=none)∧DenAt w (Old w) x a.block (a.off+i*tsz τ e):=fun i x hx=>by
           have hil:i<elems.length:=by have:=(List.getElem?_eq_some_iff.1 hx).1;omega
           exact hq i elems[i] x (List.getElem?_eq_getElem hil) hx
          have hlen:l.length=len:=by omega
          refine⟨[.sl (tsz τ e) l.flatten l.length false],?_,by simp[hsz,hg.1],⟨_,_,rfl,?_,rfl⟩,by simp⟩
          ·rw[OkD,ht]
           refine⟨l,rfl,fun x hx=>?_,?_⟩
           ·obtain⟨i,hi⟩:=List.mem_iff_getElem?.1 hx
            exact (hq' i x hi).1
           ·rw[← hbe]
            refine mw_ (Nat.le_trans (Nat.mul_le_mul_right _ ?_) hw0)
            omega
          ·rw[Den]
           refine⟨some a,cap,by rw[hlen],by omega,hcm,by simp,e5_ l fun i x hx=>(hq' i x hx).2.1,by simp,fun ad had=>?_⟩
           cases had
           refine⟨fun hp=>?_,hz_ (sz:=tsz τ e) l a.off fun i x hx=>⟨(hq' i x hx).2.1,(hq' i x hx).2.2.2⟩⟩
           exact (hq' 0 l[0] (List.getElem?_eq_getElem hp)).2.2.1 rfl
        ·cases h
      | _=>simp[DataW.trod,hu] at h
   | struct fs =>
    obtain⟨fa,rfl,rfl⟩:=hk
    simp only[Bool.and_eq_true] at hg
    obtain⟨hct,hall⟩:=hg
    have hL1:∀ f∈fa.toList,L.contains f.type=true:=fun f hf=>by
     have:=List.all_eq_true.1 hall (f.offset,f.type) (List.mem_map.2 ⟨f,hf,rfl⟩)
     exact this
    have hcell:∀ T,L.contains T=true→P.cellsOf T=tsz τ T:=fun T hT=>by
     have:=List.all_eq_true.1 hL T (by simpa using hT)
     unfold pf_ at this
     cases hte:τ T with
     | none=>rw[hte] at this;cases this
     | some ee=>exact a5_ (hτ T ee hte) hte
    simp only[DataW.trod,hu] at h
    split at h
    ·rename_i hlen
     rw[hcs,hsz] at hlen
     obtain⟨xs,hm,h2⟩:=Option.map_eq_some_iff.1 h
     cases h2
     obtain⟨hl1,hat⟩:=e0_ hm
     rw[DataW.weights,hu] at hw
     obtain⟨l,hll,hq⟩:=lg_ (Q:=fun (_:Nat) (f:Field) (x:List D)=>OkD τ fuel f.type x∧Dens w (Old w) x ((cs.drop f.offset).take (tsz τ f.type))∧∀ v∈(cs.drop f.offset).take (tsz τ f.type),v.oneCell'=true) fa.toList fun i f hf=>by
      obtain⟨y,hy1,hy2⟩:=hat i f hf
      obtain⟨di,pi⟩:=y
      have hT:=hL1 f (List.mem_iff_getElem?.2 ⟨i,hf⟩)
      obtain⟨dsi,h3,h4,h5,h6⟩:=ih f.type _ di pi hT hy2 (eK_ hw (i:=i) (by simp[hf]) (by simp[hy1]))
      rw[hcell _ hT] at h5 h6
      exact⟨dsi,h3,h5,h6⟩
     refine⟨l.flatten,?_,by rw[hlen,hsz],?_,?_⟩
     ·rw[OkD,ht]
      refine⟨l,rfl,by rw[hll,List.length_map],fun i x f hx hf=>?_⟩
      rw[List.getElem?_map] at hf
      obtain⟨f',hf',rfl⟩:=Option.map_eq_some_iff.1 hf
      exact (hq i f' x hf' hx).1
     ·have:=fm_ (τ:=τ) (w:=w) (I:=Old w) _ 0 sz cs l hct (by rw[hll,List.length_map]) hlen fun i x f hx hf=>by
       rw[List.getElem?_map] at hf
       obtain⟨f',hf',rfl⟩:=Option.map_eq_some_iff.1 hf
       exact (hq i f' x hf' hx).2.1
      simpa using this
     ·have:=gC_ (τ:=τ) (Q:=fun v=>v.oneCell'=true) _ 0 sz cs hct hlen fun i f hf=>by
       rw[List.getElem?_map] at hf
       obtain⟨f',hf',rfl⟩:=Option.map_eq_some_iff.1 hf
       have hil:i<l.length:=by have:=(List.getElem?_eq_some_iff.1 hf').1;omega
       exact (hq i f' l[i] hf' (List.getElem?_eq_getElem hil)).2.2
      simpa using this
    ·cases h
   | array m e =>
    simp only[TK.ok] at hk
    subst hk
    simp only[Bool.and_eq_true,decide_eq_true_eq] at hg
    obtain⟨hse,hge⟩:=hg
    have hce:P.cellsOf e=tsz τ e:=by
     have:=List.all_eq_true.1 hL e (by simpa using hge)
     unfold pf_ at this
     cases hte:τ e with
     | none=>rw[hte] at this;cases this
     | some ee=>exact a5_ (hτ e ee hte) hte
    simp only[DataW.trod,hu] at h
    split at h
    ·rename_i hlen
     rw[hcs,hsz] at hlen
     obtain⟨xs,hm,h2⟩:=Option.map_eq_some_iff.1 h
     cases h2
     obtain⟨hl1,hat⟩:=e0_ hm
     simp only[List.length_range] at hl1
     rw[DataW.weights,hu] at hw
     simp only at hw
     obtain⟨l,hll,hq⟩:=lg_ (Q:=fun (i:Nat) (_:DataW H×List MemPlace) (x:List D)=>OkD τ fuel e x∧Dens w (Old w) x ((cs.drop (0+i*tsz τ e)).take (tsz τ e))∧∀ v∈(cs.drop (0+i*tsz τ e)).take (tsz τ e),v.oneCell'=true) xs fun i y hy=>by
      have hil:i<m:=by have:=(List.getElem?_eq_some_iff.1 hy).1;omega
      obtain⟨y',hy1,hy2⟩:=hat i i (by rw[List.getElem?_range hil])
      rw[hy] at hy1
      cases hy1
      obtain⟨di,pi⟩:=y
      obtain⟨dsi,h3,h4,h5,h6⟩:=ih e _ di pi hge hy2 (dk_ hw (i:=i) (by simp[hy]))
      rw[hce] at h5 h6
      rw[Nat.zero_add]
      exact⟨dsi,h3,h5,h6⟩
     have hq':∀ i x,l[i]? = some x→OkD τ fuel e x∧Dens w (Old w) x ((cs.drop (0+i*tsz τ e)).take (tsz τ e))∧∀ v∈(cs.drop (0+i*tsz τ e)).take (tsz τ e),v.oneCell'=true:=fun i x hx=>by
      have hil:i<xs.length:=by have:=(List.getElem?_eq_some_iff.1 hx).1;omega
      exact hq i xs[i] x (List.getElem?_eq_getElem hil) hx
     have hlm:l.length=m:=by omega
     refine⟨l.flatten,?_,by rw[hlen,hsz],?_,?_⟩
     ·rw[OkD,ht]
      refine⟨l,rfl,hlm,fun x hx=>?_⟩
      obtain⟨i,hi⟩:=List.mem_iff_getElem?.1 hx
      exact (hq' i x hi).1
     ·have:=fl_ (w:=w) (I:=Old w) (sz:=tsz τ e) m 0 cs l hlm (by omega) fun i x hx=>(hq' i x hx).2.1
      simpa using this
     ·have:=gm_ (Q:=fun v=>v.oneCell'=true) (sz:=tsz τ e) m 0 cs (by omega) fun i hi=>(hq' i l[i] (List.getElem?_eq_getElem (by omega))).2.2
      simpa using this
    ·cases h
   | ptr e=>cases hg
   | func=>cases hg
   | map k e=>cases hg
   | iface=>cases hg
end
def jJ_ (τ:Tab) (T:TypeId) (ds:List D):D:=match τ T with
 | some e=>match e.k.agg with
  | true=>.agg ds
  | false=>(ds[0]?).getD .any
 | none=>.any
def vm_ (τ:Tab):List TypeId→List D→Prop
 | [],[]=>True
 | t::ts,a::as=>(∃ n ds,OkD τ n t ds∧a=jJ_ τ t ds)∧vm_ τ ts as
 | _,_=>False
section
variable {H:Type} {enc:TypeId×Value→H} {P:Program} {τ:Tab}
theorem z6_ (hτ:ay_ P τ) {L:List TypeId} (hL:gOk τ L=true) {W:World} {base:Nat} {t:TypeId} {v:Value} {d:DataW H} {ps:List MemPlace} (hG:L.contains t=true) (hval:Value.okWide P W .any base t v)
  (h:DataW.Trod enc P W 0 (fun _=>true) true t v d ps) (hw:(d.weights P t).all (· ≤ reachBytes)=true):∃ n ds,OkD τ n t ds∧Den W (Old W) (jJ_ τ t ds) v:=by
 obtain⟨fuel,hf⟩:=h
 obtain⟨ds,h1,h2,h3,h4⟩:=pa_ hτ hL fuel t _ d ps hG hf hw
 refine⟨fuel,ds,h1,?_⟩
 have hg:pf_ τ L t=true:=List.all_eq_true.1 hL t (by simpa using hG)
 unfold pf_ at hg
 cases ht:τ t with
 | none=>rw[ht] at hg;cases hg
 | some te =>
  rw[ht] at hg
  obtain⟨dsc,hu,hk⟩:=(hτ t te ht).und
  have hsz:tsz τ t=te.size:=by simp[tsz,ht]
  obtain⟨k,sz,byt,zero⟩:=te
  have single:k.agg=false→sz=1→v.cells.toList=[v]→Den W (Old W) (jJ_ τ t ds) v:=fun ha hs1 hc=>by
   rw[hc] at h3
   obtain⟨x,hx⟩:∃ x,ds=[x]:=by
    match ds,h3 with
    | [],h3=>rw[Dens] at h3;cases h3
    | [x],_=>exact⟨x,rfl⟩
    | x::y::r,h3=>obtain⟨_,_,e,_,h5⟩:=h3;cases e;obtain⟨_,_,e,_⟩:=h5;cases e
   subst hx
   obtain⟨_,_,e,h5,_⟩:=h3
   cases e
   simp only[jJ_,ht,ha]
   exact h5
  cases k with
  | int k =>
   simp only[TK.ok] at hk;subst hk
   simp only[decide_eq_true_eq] at hg
   refine single rfl hg ?_
   simp only[Value.okWide,hu,Cell.okWide] at hval
   cases v<;>simp[Cell.ok,hu] at hval<;>rfl
  | bool =>
   simp only[TK.ok] at hk;subst hk
   simp only[decide_eq_true_eq] at hg
   refine single rfl hg ?_
   simp only[Value.okWide,hu,Cell.okWide] at hval
   cases v<;>simp[Cell.ok,hu] at hval<;>rfl
  | string =>
   simp only[TK.ok] at hk;subst hk
   simp only[decide_eq_true_eq] at hg
   refine single rfl hg ?_
   simp only[Value.okWide,hu,Cell.okWide] at hval
   cases v<;>simp[Cell.ok,hu] at hval<;>rfl
  | slice e =>
   simp only[TK.ok] at hk;subst hk
   simp only[Bool.and_eq_true,decide_eq_true_eq] at hg
   refine single rfl hg.1 ?_
   simp only[Value.okWide,hu,Cell.okWide] at hval
   cases v<;>simp[Cell.ok,hu] at hval<;>rfl
  | struct fs =>
   obtain⟨fa,rfl,rfl⟩:=hk
   simp only[Value.okWide,hu] at hval
   obtain⟨cs,rfl,_⟩:=hval
   simp only[jJ_,ht,TK.agg]
   rw[Den]
   exact⟨cs.toList,by simp,h3⟩
  | array m e =>
   simp only[TK.ok] at hk;subst hk
   simp only[Value.okWide,hu] at hval
   obtain⟨cs,rfl,_⟩:=hval
   simp only[jJ_,ht,TK.agg]
   rw[Den]
   exact⟨cs.toList,by simp,h3⟩
  | ptr e=>cases hg
  | func=>cases hg
  | map k e=>cases hg
  | iface=>cases hg
theorem q5_ (hτ:ay_ P τ) {L:List TypeId} (hL:gOk τ L=true) {W:World} {base:Nat} {β:Nat→Value}:∀ {ts:List TypeId} {vs:List Value} {ds:List (DataW H)} {ps:List MemPlace},(∀ t∈ts,L.contains t=true) →
  (∀ (j:Nat) t v,ts[j]? = some t→vs[j]? = some v→Value.okWide P W .any base t v)→DataW.TrodAll enc P W 0 (fun _=>true) true ts vs ds ps→(DataW.weightsEach P ts ds).all (· ≤ reachBytes)=true →
  ∃ as,vm_ τ ts as∧DenAs W (Old W) β (as.map .d) vs
 | [],[],[],_,_,_,_,_=>⟨[],trivial,rfl⟩
 | t::ts,v::vs,d::ds,ps,hG,hval,h,hw=>by
  obtain⟨p,q,h1,h2,_⟩:=h
  rw[DataW.weightsEach] at hw
  obtain⟨hw1,hw2⟩:=all_append hw
  obtain⟨n,x,h3,h4⟩:=z6_ hτ hL (hG t (by simp)) (hval 0 t v rfl rfl) h1 hw1
  obtain⟨as,h5,h6⟩:=q5_ hτ hL (fun t ht=>hG t (by simp[ht])) (fun j t v hj hv=>hval (j+1) t v (by simpa using hj) (by simpa using hv)) h2 hw2
  exact⟨jJ_ τ t x::as,⟨⟨n,x,h3,rfl⟩,h5⟩,v,vs,rfl,by rw[DenA];exact h4,h6⟩
 | [],[],_::_,_,_,_,h,_=>h.elim
 | [],_::_,_,_,_,_,h,_=>by cases ‹List (DataW H)›<;>exact h.elim
 | _::_,[],_,_,_,_,h,_=>by cases ‹List (DataW H)›<;>exact h.elim
 | _::_,_::_,[],_,_,_,h,_=>h.elim
theorem ng_ (hl:laidOutB P=true) {W W':World} (hb:Below W.heap.size W W'):∀ {ts:List TypeId} {vs:List Value} {ds:List (DataW H)} {ps:List MemPlace},(∀ t∈ts,P.readableRec t=true∧t<P.types.size) →
  DataW.TrodAll enc P W 0 (fun _=>true) true ts vs ds ps→(∀ p∈ps,p.block<W.heap.size)→DataW.TrodAll enc P W' 0 (fun b=>decide (b<W.heap.size)) true ts vs ds ps
 | [],[],[],_,_,h,_=>h
 | t::ts,v::vs,d::ds,ps,hr,h,hlt=>by
  obtain⟨p,q,h1,h2,rfl⟩:=h
  obtain⟨r1,r2⟩:=hr t (by simp)
  exact⟨p,q,Below.trod hl r1 r2 h1 hb fun x hx=>hlt x (List.mem_append_left _ hx),ng_ hl hb (fun t ht=>hr t (by simp[ht])) h2 fun x hx=>hlt x (List.mem_append_right _ hx),rfl⟩
 | [],[],_::_,_,_,h,_=>h.elim
 | [],_::_,_,_,_,h,_=>by cases ‹List (DataW H)›<;>exact h.elim
 | _::_,[],_,_,_,h,_=>by cases ‹List (DataW H)›<;>exact h.elim
 | _::_,_::_,[],_,_,h,_=>h.elim
theorem id_ {W:World} {b:Nat} {sp:Nat→Bool} {hd:Bool}:∀ {ts:List TypeId} {vs:List Value} {ds:List (DataW H)} {ps:List MemPlace},DataW.TrodAll enc P W b sp hd ts vs ds ps→ds.length=ts.length
 | [],[],[],_,_=>rfl
 | _::_,_::_,_::_,_,h=>by obtain⟨_,_,_,h2,_⟩:=h;simp[id_ h2]
 | [],[],_::_,_,h=>h.elim
 | [],_::_,_,_,h=>by cases ‹List (DataW H)›<;>exact h.elim
 | _::_,[],_,_,h=>by cases ‹List (DataW H)›<;>exact h.elim
 | _::_,_::_,[],_,h=>h.elim
theorem qA_ (hτ:ay_ P τ) {L:List TypeId} (hL:gOk τ L=true) (hlaid:laidOutB P=true) {f:FuncId} {fn:Func} {s:ChangeSpec} {tb:TypeId} {apart fresh handsOn:Bool} (hvars:s.vars=[])
  (hspec:∀ ds:List (DataW H),ds.length=fn.params.toList.length→s.fn H ds={ results:=[.lit (.bool true)],args:=ds }) (hrt:fn.resultTypes = #[tb]) (htb:P.underlying tb=some .bool)
  (hpar:∀ t∈fn.params.toList,L.contains t=true∧P.readableRec t=true∧t<P.types.size) (hcall:∀ as,vm_ τ fn.params.toList as→Fn0 P f as (.v (.bool true)))
  {W:World} {base:Nat} {args:Array Value} {ds gs:List (DataW H)} {before:List MemPlace} (hval:∀ (j:Nat) t v,fn.params[j]? = some t→args[j]? = some v→Value.okWide P W .any base t v)
  (hgl:Gl W (Old W)) (hW:DataW.Whole enc P fn.params.toList s.vars apart W args.toList ds gs before) (hwt:(DataW.weightsEach P (fn.params.toList++s.plain.varTypes P) (ds++gs)).all (· ≤ reachBytes)=true) :
  Calls P f args W fun e W'=>∃ v,e=.returned v∧s.post enc P fn apart fresh handsOn false W args v W':=by
 have hW0:=hW
 obtain⟨p,q,h1,h2,rfl,hfz,hnd⟩:=hW
 rw[hvars] at h2
 have hgs:gs=[]∧q=[]:=by
  cases gs with
  | nil=>exact⟨rfl,h2⟩
  | cons _ _=>exact h2.elim
 obtain⟨rfl,rfl⟩:=hgs
 have hv0:s.plain.varTypes P=[]:=by simp[ChangeSpec.plain,DataSpec.varTypes,hvars]
 rw[hv0,List.append_nil,List.append_nil] at hwt
 obtain⟨as,ha,hd⟩:=q5_ (β:=fun _=>undef) hτ hL (fun t ht=>(hpar t ht).1) (fun j t v hj hv=>hval j t v (by simpa using hj) (by simpa using hv)) h1 hwt
 have hm:Mem W (Old W) (Fp [] fun _=>undef) [] (Old W) (fun _=>undef) W :=
  ⟨fun k b h=>(by cases h),fun k b n h=>(by cases h),fun k j b c n h=>(by cases h),fun n h=>h,fun n h=>.inl h,.refl W _,fun _ _ _=>rfl,Nat.le_refl _,rfl,rfl,rfl,Nat.le_refl _,hgl⟩
 have hc:=hcall as ha W (Old W) (fun _=>undef) args.toList hm hd
 rw[Array.toArray_toList] at hc
 refine hc.mono fun e W' he=>?_
 cases e with
 | outgrown=>exact he.elim
 | panicked ch=>exact he.1.elim
 | returned v =>
  obtain⟨I',β',hm',hv,_⟩:=he
  rw[DenA_v] at hv
  subst hv
  have hb:Below W.heap.size W W':=⟨hm'.os,hm'.tape,hm'.out,hm'.sz,fun k hk=>hm'.kept.eq k hk⟩
  have hlen:=id_ h1
  have hs:=hspec ds hlen
  have hlt:∀ x∈p,x.block<W.heap.size:=fun x hx=>hW0.lt x (by simp[hx])
  refine⟨_,rfl,ds,[],p++[],[],p,[],hW0,?_,?_,?_,?_,fun h=>by cases h⟩
  ·rw[List.append_nil,hs,hrt]
   exact⟨[],[],⟨1,by simp[DataW.trod,htb,Value.cells]⟩,rfl,rfl⟩
  ·rw[List.append_nil,hs]
   exact ng_ hlaid hb (fun t ht=>(hpar t ht).2) h1 hlt
  ·rw[List.append_nil,hs,hvars]
   rfl
  ·refine World.keptBut_mono (fun x hx=>⟨hx,?_⟩) (hb.frame (· ∈ p++[]))
   rw[List.append_nil] at hx
   exact .inr (.inl hx)
end
end Go.Xe
namespace Go.Xe
open Go.RowKit
variable [Glob]
def toQ (S':St) (Q:Exit→St→Prop) (e:Exit) (S:Kp2 S' Q):Prop :=
 match e with
 | .normal=>Wk S S'
 | e=>Q e S
theorem eI_ {P:Program} {ds:Dn} {pn:Pn} {Q:Exit→St→Prop} {S:St} {x y:Code} (S':St) (h:WP P ds pn x (toQ S' Q) S) (h2:WP P ds pn y Q S'):WP P ds pn (.seq x y) Q S :=
 WP.seq (WP.mono h fun e S hq=>by
  cases e with
  | normal=>exact ar_ hq h2
  | _=>exact hq)
theorem aY_ {S S':St} {Q:Exit→St→Prop} (h:Wk S S'):toQ S' Q .normal S:=h
@[simp] theorem Et_ {S S':St} {Q:Exit→St→Prop}:toQ S' Q .ret S=Q .ret S:=rfl
@[simp] theorem Dr_ {S S':St} {Q:Exit→St→Prop} {id:Nat}:toQ S' Q (.exit id) S=Q (.exit id) S:=rfl
theorem vb_ (Z:List Nat) (i j i' j':Nat) {S S':St} (hne:i≠j) (hne':i'≠j') (hj:(St.mk (iI_ S.sl S'.sl) (fY_ S.bx Z) S.df).has j=false)
  (hj':(St.mk (renL (r1 i j) (iI_ S.sl S'.sl)) (ir_ i j (fY_ S.bx Z)) S.df).has j'=false) (hs:LeqL (renL (r1 i' j') (renL (r1 i j) (iI_ S.sl S'.sl))) S'.sl)
  (hb:oH_ (ir_ i' j' (ir_ i j (fY_ S.bx Z))) S'.bx) (hdf:S'.df=S.df:=by rfl):Wk S S' :=
 (eb_ (maskL_ok _ _) fun _ _ h=>getB_delsF h).trans ((aI_ i j hne hj).trans ((aI_ i' j' hne' hj').trans (eb_ hs (fun k b h=>subB_ok hb k b h) hdf)))
@[simp] theorem wx_ (k sz n:Nat) (ds:List D):∀ l:List D,gx_ k sz n ds (l.map .d)=l.map .d
 | []=>rfl
 | x::l=>by rw[List.map_cons,gx_,frz,wx_ k sz n ds l]
end Go.Xe
namespace Go.Xe
open Go.RowKit
variable [Glob]
theorem gW_:∀ (l bx:Bxs) (k:Nat),k∈l.map (·.1)→∃ b,getB (dz_ bx l) k=some b
 | [],_,_,h=>by cases h
 | (j,c)::r,bx,k,h=>by
  rw[dz_]
  by_cases hk:k∈r.map (·.1)
  ·exact gW_ r _ k hk
  ·simp only[List.map_cons,List.mem_cons] at h
   rcases h with h|h
   ·subst h
    exact⟨c,by rw[bX_ _ _ _ hk,br_,if_pos rfl]⟩
   ·exact absurd h hk
theorem iA_ (ρ:Nat→Nat) (cbi:Bxs):∀ l:Bxs,(∀ p∈l,isIn cbi p.1=true)→cB_ ρ cbi l=[]
 | [],_=>rfl
 | (k,b)::r,h=>by rw[cB_,if_pos (h (k,b) (by simp))];exact iA_ ρ cbi r fun p hp=>h p (by simp[hp])
theorem iz_ (ρ:Nat→Nat) (cbi:Bxs):∀ l:Bxs,(∀ p∈l,isIn cbi p.1=true)→eO_ ρ cbi l=l.map fun p=>(ρ p.1,p.2.ren ρ)
 | [],_=>rfl
 | (k,b)::r,h=>by rw[eO_,if_pos (h (k,b) (by simp)),iz_ ρ cbi r fun p hp=>h p (by simp[hp])];rfl
theorem jP_ {P:Program} {ds:Dn} {pn:Pn} {o:Oper} {S:St} {fx:Operand} {args:Array Operand} {ts:Array TypeId} (ho:o.op=.call ⟨.value fx,args,ts⟩) {f:FuncId} {first caps:List AV}
  (hf:qL_ (S.ev fx)=some (f,first,caps)) (hb:Body P f) {cargs:List AV} {cbi:Bxs} {cres:D} (hc:Fun P f cargs cbi (.d cres) cbi fun _=>False) (ρ:Nat→Nat)
  (hargs:LeqL (first++args.toList.map S.ev++caps) (renL ρ cargs)) (hok:CallOk S ρ cbi cbi (.d cres)) (hsame:∀ p∈cbi,getB S.bx (ρ p.1)=some (p.2.ren ρ)) :
  LCore P ds pn o S ⟨.d cres,[],[],[]⟩ (cbi.map fun p=>ρ p.1):=by
 intro S1 hs hfr w0 I0 F I β a w hr next Q hn hp
 have hin:∀ p∈cbi,isIn cbi p.1=true:=fun p hp=>by simp[isIn,hok.nd p hp]
 have hadd:cB_ ρ cbi cbi=[]:=iA_ ρ cbi cbi hin
 have h:=LCore.call (ds:=ds) (pn:=pn) ho hf hb hc ρ hargs hok (fun _ h=>h.elim) (fun ⟨_,h⟩=>h.elim) (fun ⟨_,h⟩=>h.elim) S1 hs (by
  intro p hp
  simp only[callE,hadd] at hp
  cases hp)
 refine h w0 I0 F I β a w hr next Q (fun I' β' a' w' hr'=>hn I' β' a' w' (Rel.eqv ⟨?_,fun k=>?_⟩ hr')) hp
 ·cases o.dst<;>simp[St.app,St.put,callE,ren]
 ·rw[bn_,bn_,x3_,x3_]
  simp only[callE,hadd,dz_,dv_]
  rw[iz_ ρ cbi cbi hin]
  by_cases hk:k∈cbi.map fun p=>ρ p.1
  ·obtain⟨b,hb'⟩:=gW_ (cbi.map fun p=>(ρ p.1,p.2.ren ρ)) (dv_ S1.bx (cbi.map fun p=>ρ p.1)) k (by simpa using hk)
   obtain⟨p,hpm,rfl⟩:=List.mem_map.1 hk
   rw[hb',hs.2.2 _ hk,hsame p hpm]
   rcases getB_adds _ _ hb' with h1|⟨h1,_⟩
   ·obtain⟨q,hq,e⟩:=List.mem_map.1 h1
    simp only[Prod.mk.injEq] at e
    have hqp:=hok.inj q.1 p.1 (.inl (hin q hq)) (.inl (hin p hpm)) e.1
    have h2:=hok.nd q hq
    rw[hqp,hok.nd p hpm] at h2
    rw[← e.2,Option.some.inj h2]
   ·exact (h1 (p.2.ren ρ) (List.mem_map.2 ⟨p,hpm,rfl⟩)).elim
  ·rw[bX_ _ _ _ (by simpa using hk),dd_,if_neg hk]
theorem dJ_ {P:Program} {ds:Dn} {pn:Pn} {o:Oper} {g:Bool} {S:St} {acc:List TI} {rest:St→List TI→Prop} {fx:Operand} {args:Array Operand} {ts:Array TypeId} {f:FuncId} {first caps:List AV} {cargs:List AV} {cbi:Bxs} {cres:D}
  (hb:Body P f) (hc:g=true→Fun P f cargs cbi (.d cres) cbi fun _=>False) (ρ:Nat→Nat) (ho:o.op=.call ⟨.value fx,args,ts⟩) (hf:g=true→qL_ ((S.under g).ev fx)=some (f,first,caps))
  (hargs:g=true→LeqL (first++args.toList.map (S.under g).ev++caps) (renL ρ cargs)) (hok:g=true→CallOk (S.under g) ρ cbi cbi (.d cres)) (hsame:g=true→∀ p∈cbi,getB (S.under g).bx (ρ p.1)=some (p.2.ren ρ))
  (h:rest (S.put o.dst (.when g (.d cres))) (⟨⟨.when g (.d cres),[],[],[]⟩,cbi.map fun p=>ρ p.1⟩::acc)):vcStopG P ds pn o rest g S acc :=
 ⟨_,_,fun hg=>jP_ ho (hf hg) hb (hc hg) ρ (hargs hg) (hok hg) (hsame hg),h⟩
theorem Fun.res {P:Program} {f:FuncId} {args:List AV} {bi:Bxs} {res res':AV} {bo bo':Bxs} {ok:List PanicEntry→Prop} (h:Fun P f args bi res bo ok) (hl:Leq res res') (hb:oH_ bo bo'):Fun P f args bi res' bo' ok:=by
 intro w I β vs hm hd
 refine Calls.mono (h w I β vs hm hd) fun e w' he=>?_
 cases e with
 | returned v=>obtain⟨I',β',h1,h2,h3⟩:=he;exact⟨I',β',h1.sub (subB_ok hb),hl _ _ _ _ h2,h3⟩
 | panicked ch=>exact he
 | outgrown=>exact he
end Go.Xe
namespace Go.Xe
open Go.RowKit
variable [Glob]
def BC_:D→List Lit
 | .v (.int k n)=>[.int k n]
 | .v (.bool b)=>[.bool b]
 | .v (.string s)=>[.string s.data.toList]
 | _=>[]
def by_ (ds:List D):List Lit:=ds.flatMap BC_
theorem mN_ (a b:List D):by_ (a++b)=by_ a++by_ b:=by simp[by_]
theorem ds_:∀ l:List (List D),by_ l.flatten=(l.map by_).flatten
 | []=>rfl
 | x::l=>by rw[List.flatten_cons,mN_,ds_ l];rfl
section
variable {P:Program} {τ:Tab} {w:World} {I:Nat→Prop}
theorem iJ_ {α β:Type} {f:α→Option β}:∀ {l:List α} {r:List β},r.length=l.length→(∀ (i:Nat) (x:α) (y:β),l[i]? = some x→r[i]? = some y→f x=some y)→l.mapM f=some r
 | [],r,h,_=>by
  have:r=[]:=List.eq_nil_of_length_eq_zero h
  subst this
  rfl
 | a::l,[],h,_=>by cases h
 | a::l,b::r,h,hf=>by
  rw[List.mapM_cons,hf 0 a b rfl rfl,iJ_ (l:=l) (r:=r) (by simpa using h) fun i x y hx hy=>hf (i+1) x y (by simpa using hx) (by simpa using hy)]
  rfl
theorem flat_len {τ:Tab}:∀ (fs:List (Nat×Nat)) (off n:Nat) (l:List (List D)),bQ_ τ off fs n=true→l.length=fs.length→(∀ (i:Nat) (x:List D) (f:Nat×Nat),l[i]? = some x→fs[i]? = some f→x.length=tsz τ f.2)→off+l.flatten.length=n
 | [],off,n,l,hc,hl,_=>by
  have:l=[]:=List.eq_nil_of_length_eq_zero hl
  subst this
  simpa [bQ_] using hc
 | (o,T)::fs,off,n,l,hc,hl,h=>by
  cases l with
  | nil=>cases hl
  | cons x l =>
   simp only[bQ_,Bool.and_eq_true,decide_eq_true_eq] at hc
   obtain⟨rfl,hc⟩:=hc
   have h0:=h 0 x (o,T) rfl rfl
   have hr:=flat_len fs (o+tsz τ T) n l hc (by simpa using hl) fun i y f hy hf=>h (i+1) y f (by simpa using hy) (by simpa using hf)
   rw[List.flatten_cons,List.length_append,h0]
   simp only at *
   omega
theorem iC_ {L:List TypeId} (hL:gOk τ L=true):∀ (n T:Nat) (ds:List D),L.contains T=true→OkD τ n T ds→ds.length=tsz τ T:=by
 intro n
 induction n with
 | zero=>intro T ds _ h;exact h.elim
 | succ n ih =>
  intro T ds hT h
  have hg:pf_ τ L T=true:=List.all_eq_true.1 hL T (by simpa using hT)
  unfold pf_ at hg
  unfold OkD at h
  unfold tsz
  cases ht:τ T with
  | none=>rw[ht] at hg;cases hg
  | some te =>
   obtain⟨k,sz,byt,zero⟩:=te
   rw[ht] at hg h
   cases k<;>simp only[decide_eq_true_eq,Bool.and_eq_true] at hg h ⊢
   case int=>obtain⟨x,rfl,_⟩:=h;simp[hg]
   case bool=>obtain⟨x,rfl⟩:=h;simp[hg]
   case string=>obtain⟨x,rfl,_⟩:=h;simp[hg]
   case slice=>obtain⟨x,rfl,_⟩:=h;simp[hg.1]
   case struct fs =>
    obtain⟨l,rfl,hl,hx⟩:=h
    obtain⟨hc,ha⟩:=hg
    have:=flat_len fs 0 sz l hc hl fun i x f hxi hf=>ih f.2 x (List.all_eq_true.1 ha f (List.mem_of_getElem? hf)) (hx i x f hxi hf)
    omega
   case array m e =>
    obtain⟨l,rfl,hl,hx⟩:=h
    obtain⟨h1,h2⟩:=hg
    rw[List.length_flatten,h1,← hl]
    have:∀ l:List (List D),(∀ x∈l,x.length=tsz τ e)→(l.map List.length).sum=l.length*tsz τ e:=by
     intro l
     induction l with
     | nil=>intro _;simp
     | cons x l ih2=>intro h;rw[List.map_cons,List.sum_cons,h x (by simp),ih2 fun y hy=>h y (by simp[hy]),List.length_cons,Nat.succ_mul];omega
    exact this l fun x hxl=>ih e x h2 (hx x hxl)
   all_goals cases hg
theorem eS_:∀ {a b:List D} {vs:List Value},Dens w I (a++b) vs→Dens w I a (vs.take a.length)∧Dens w I b (vs.drop a.length)
 | [],b,vs,h=>by simp only[List.nil_append] at h;exact⟨by simp[Dens],by simpa using h⟩
 | c::a,b,vs,h=>by
  obtain⟨v,vs',rfl,h1,h2⟩:=h
  obtain⟨h3,h4⟩:=eS_ h2
  exact⟨⟨v,_,rfl,h1,h3⟩,h4⟩
theorem om_:∀ (fs:List (Nat×Nat)) (off n:Nat) (l:List (List D)) (vs:List Value),bQ_ τ off fs n=true→l.length=fs.length→(∀ (i:Nat) (x:List D) (f:Nat×Nat),l[i]? = some x→fs[i]? = some f→x.length=tsz τ f.2) →
  Dens w I l.flatten (vs.drop off)→∀ (i:Nat) (x:List D) (f:Nat×Nat),l[i]? = some x→fs[i]? = some f→Dens w I x ((vs.drop f.1).take (tsz τ f.2))
 | [],off,n,l,vs,_,_,_,_,i,x,f,_,hf=>by simp at hf
 | (o,T)::fs,off,n,l,vs,hc,hl,hlen,hd,i,x,f,hx,hf=>by
  cases l with
  | nil=>cases hl
  | cons y l =>
   simp only[bQ_,Bool.and_eq_true,decide_eq_true_eq] at hc
   obtain⟨rfl,hc⟩:=hc
   have h0:=hlen 0 y (o,T) rfl rfl
   rw[List.flatten_cons] at hd
   obtain⟨h1,h2⟩:=eS_ hd
   rw[h0] at h1 h2
   cases i with
   | zero=>simp at hx hf;subst hx;subst hf;exact h1
   | succ i =>
    rw[List.drop_drop] at h2
    exact om_ fs (o+tsz τ T) n l vs hc (by simpa using hl) (fun i y f hy hf=>hlen (i+1) y f (by simpa using hy) (by simpa using hf)) h2 i x f (by simpa using hx) (by simpa using hf)
theorem Dens.one {d:D} {vs:List Value} (h:Dens w I [d] vs):∃ v,vs=[v]∧Den w I d v:=by
 obtain⟨v,vs',rfl,h1,h2⟩:=h
 rw[Dens] at h2
 subst h2
 exact⟨v,rfl,h1⟩
def iF_:Option TE→Bool
 | some ⟨.array _ _,_,_,_⟩=>false
 | _=>true
theorem e1_ (hτ:ay_ P τ) {L:List TypeId} (hL:gOk τ L=true) (hA:L.all (fun t=>iF_ (τ t))=true):∀ (n T m:Nat) (ds:List D) (vs:List Value),P.keyTypeAt m T=true→L.contains T=true→OkD τ n T ds→Dens w I ds vs→P.keyLits n T vs=some (by_ ds):=by
 intro n
 induction n with
 | zero=>intro T m ds vs _ _ h;exact h.elim
 | succ n ih =>
  intro T m ds vs hk hT h hd
  have hg:pf_ τ L T=true:=List.all_eq_true.1 hL T (by simpa using hT)
  have hlen:=iC_ hL (n+1) T ds hT h
  unfold pf_ at hg
  unfold OkD at h
  cases ht:τ T with
  | none=>rw[ht] at hg;cases hg
  | some te =>
   have hty:=hτ T te ht
   obtain⟨dsc,hu,hok⟩:=hty.und
   have hcell:=a5_ hty ht
   cases m with
   | zero=>simp[Program.keyTypeAt] at hk
   | succ m =>
   rw[Program.keyTypeAt,hu] at hk
   obtain⟨k,sz,byt,zero⟩:=te
   rw[ht] at hg h
   cases k<;>simp only[decide_eq_true_eq,Bool.and_eq_true] at hg h<;>simp only[TK.ok] at hok
   case int k =>
    subst hok
    obtain⟨x,rfl,h1,h2⟩:=h
    obtain⟨v,rfl,hv⟩:=hd.one
    rw[Den] at hv
    subst hv
    simp[Program.keyLits,hu,Lit.wf,h1,h2,by_,BC_]
   case bool =>
    subst hok
    obtain⟨x,rfl⟩:=h
    obtain⟨v,rfl,hv⟩:=hd.one
    rw[Den] at hv
    subst hv
    simp[Program.keyLits,hu,by_,BC_]
   case string =>
    subst hok
    obtain⟨x,rfl,h1⟩:=h
    obtain⟨v,rfl,hv⟩:=hd.one
    rw[Den] at hv
    subst hv
    have:x.size≤maxLen:=Nat.le_trans h1 (by decide)
    simp[Program.keyLits,hu,by_,BC_,this]
   case struct fs =>
    obtain⟨fa,rfl,rfl⟩:=hok
    obtain⟨l,rfl,hl,hx⟩:=h
    obtain⟨hc,ha⟩:=hg
    simp only[Bool.and_eq_true] at hk
    have hnames:=hk.1.1
    have hvl:vs.length=P.cellsOf T:=by rw[hcell,← hlen];exact (Dens.length hd).symm
    have hlf:∀ (i:Nat) (x:List D) (f:Nat×Nat),l[i]? = some x→(fa.toList.map fun f=>(f.offset,f.type))[i]? = some f→x.length=tsz τ f.2 :=
     fun i x f hxi hf=>iC_ hL n f.2 x (List.all_eq_true.1 ha f (List.mem_of_getElem? hf)) (hx i x f hxi hf)
    have heach:=om_ (w:=w) (I:=I) _ 0 sz l vs hc hl hlf (by simpa using hd)
    have hmap:fa.toList.mapM (fun f=>P.keyLits n f.type ((vs.drop f.offset).take (P.cellsOf f.type)))=some (l.map by_):=by
     refine iJ_ (by simpa using hl) fun i f y hf hy=>?_
     rw[List.getElem?_map] at hy
     obtain⟨x,hxi,rfl⟩:=Option.map_eq_some_iff.1 hy
     have hf':(fa.toList.map fun f=>(f.offset,f.type))[i]? = some (f.offset,f.type):=by rw[List.getElem?_map,hf];rfl
     have hTf:L.contains f.type=true:=List.all_eq_true.1 ha (f.offset,f.type) (List.mem_of_getElem? hf')
     have hkf:P.keyTypeAt m f.type=true:=by
      have:=Array.all_eq_true'.1 hnames f (by simpa using List.mem_of_getElem? hf)
      simp only[Bool.and_eq_true] at this
      exact this.2
     have hte:∃ te,τ f.type=some te:=by
      have:=List.all_eq_true.1 hL f.type (by simpa using hTf)
      unfold pf_ at this
      cases hte:τ f.type with
      | none=>rw[hte] at this;cases this
      | some te=>exact⟨te,rfl⟩
     obtain⟨te,hte⟩:=hte
     have:=ih f.type m x _ hkf hTf (hx i x _ hxi hf') (heach i x _ hxi hf')
     rwa[a5_ (hτ _ te hte) hte]
    have hnm : (fa.all fun f => f.name != "_") = true := by
     rw[Array.all_eq_true'] at hnames ⊢
     intro f hf
     have:=hnames f hf
     simp only[Bool.and_eq_true] at this
     exact this.1
    unfold Program.keyLits
    simp only[hu]
    rw[if_pos ⟨hvl,hnm⟩,hmap,ds_]
    rfl
   case array m' e =>
    have:=List.all_eq_true.1 hA T (by simpa using hT)
    rw[ht] at this
    cases this
   case slice e=>subst hok;cases hk
   all_goals cases hg
theorem rB_ (hτ:ay_ P τ) {L:List TypeId} (hL:gOk τ L=true) (hA:L.all (fun t=>iF_ (τ t))=true) {T m:Nat} (hm:m≤10000) (hk:P.keyTypeAt m T=true) (hT:L.contains T=true)
  (hst:(match P.underlying T with|some (.struct _)|some (.array _ _)=>true|_=>false)=true) {n n':Nat} {cs es:List D} (oka:OkD τ n T cs) (okb:OkD τ n' T es) {r:Bool} (hr:r=true↔by_ cs=by_ es)
  {va vb:Value} (ha:Den w I (.agg cs) va) (hb:Den w I (.agg es) vb):(Op.equal T va vb).run P w=.ok r w∧(∃ c,va=.agg c)∧∃ c,vb=.agg c:=by
 obtain⟨cs',rfl,hda⟩:=ha
 obtain⟨es',rfl,hdb⟩:=hb
 have hte:∃ te,τ T=some te:=by
  have:=List.all_eq_true.1 hL T (by simpa using hT)
  unfold pf_ at this
  cases hte:τ T with
  | none=>rw[hte] at this;cases this
  | some te=>exact⟨te,rfl⟩
 obtain⟨te,hte⟩:=hte
 have hc:=a5_ (hτ _ te hte) hte
 have fm:∀ vs:List Value,vs.length=tsz τ T→(Value.agg vs.toArray).formed P T=true:=fun vs hv=>by
  unfold Value.formed
  split at hst<;>rename_i hu<;>simp_all
 have h1:=e1_ hτ hL hA n T m cs cs' hk hT oka hda
 have h2:=e1_ hτ hL hA n' T m es es' hk hT okb hdb
 have he:=run_equalIn_deep (10000-m) m T hk w n n' (.agg cs'.toArray) (.agg es'.toArray) _ _ (fm cs' (by rw[← iC_ hL n T cs hT oka];exact (Dens.length hda).symm)) (fm es' (by rw[← iC_ hL n' T es hT okb];exact (Dens.length hdb).symm))
  (by simpa [Value.cells] using h1) (by simpa [Value.cells] using h2)
 rw[show 10000-m+m=10000 by omega] at he
 obtain⟨r',hr1,hr2⟩:=he
 have:r'=r:=by rw[Bool.eq_iff_iff,hr2,hr]
 subst this
 exact⟨hr1,⟨_,rfl⟩,⟨_,rfl⟩⟩
end
def eqRes (op:BinOp) (r:Bool):Bool:=match op with
 | .eql=>r
 | _ => !r
theorem og_ {P:Program} {τ:Tab} (hτ:ay_ P τ) {L:List TypeId} (hL:gOk τ L=true) (hA:L.all (fun t=>iF_ (τ t))=true) {ds:Dn} {pn:Pn} {o:Oper} {S:St} {op:BinOp} {T T':TypeId} {x y:Operand}
  (ho:o.op=.binOp op T x y T') (hop:op=.eql∨op=.neq) {m:Nat} (hm:m≤10000) (hk:P.keyTypeAt m T=true) (hT:L.contains T=true) (hgd:P.eqGuardType P.depth T=false)
  (hst:(match P.underlying T with|some (.struct _)|some (.array _ _)=>true|_=>false)=true) {n n':Nat} {cs es:List D} (hx:Leq (S.ev x) (.d (.agg cs))) (hy:Leq (S.ev y) (.d (.agg es)))
  (oka:OkD τ n T cs) (okb:OkD τ n' T es) {r:Bool} (hr:r=true↔by_ cs=by_ es):LCore P ds pn o S ⟨.d (.v (.bool (eqRes op r))),[],[],[]⟩ []:=by
 intro S1 hs _
 have ex:=hs.1 x (by simp[ho,Op.operands])
 have ey:=hs.1 y (by simp[ho,Op.operands])
 refine Core.value fun w0 I0 F I β A w hrel=>⟨_,?_,DenA_v.2 rfl⟩
 have h1:=hrel.ev x
 have h2:=hrel.ev y
 rw[ex] at h1
 rw[ey] at h2
 have h1:=hx _ _ _ _ h1
 have h2:=hy _ _ _ _ h2
 rw[DenA] at h1 h2
 obtain⟨he,⟨c,hc⟩,⟨d,hd⟩⟩:=rB_ hτ hL hA hm hk hT hst oka okb hr h1 h2
 rw[hc,hd] at he
 rcases hop with rfl|rfl<;>simp[execOp,ho,hc,hd,eqGuard,binOp,he,hgd,eqRes]
theorem er_ {P:Program} {τ:Tab} (hτ:ay_ P τ) {L:List TypeId} (hL:gOk τ L=true) (hA:L.all (fun t=>iF_ (τ t))=true) {ds:Dn} {pn:Pn} {o:Oper} {S:St} {acc:List TI} {rest:St→List TI→Prop} {op:BinOp} {T T':TypeId} {x y:Operand}
  (ho:o.op=.binOp op T x y T') (hop:op=.eql∨op=.neq) {m:Nat} (hm:m≤10000) (hk:P.keyTypeAt m T=true) (hT:L.contains T=true) (hgd:P.eqGuardType P.depth T=false)
  (hst:(match P.underlying T with|some (.struct _)|some (.array _ _)=>true|_=>false)=true) {n n':Nat} {cs es:List D} (hx:Leq (S.ev x) (.d (.agg cs))) (hy:Leq (S.ev y) (.d (.agg es)))
  (oka:OkD τ n T cs) (okb:OkD τ n' T es) {r:Bool} (hr:r=true↔by_ cs=by_ es) (h:rest (S.put o.dst (.d (.v (.bool (eqRes op r))))) (⟨⟨.d (.v (.bool (eqRes op r))),[],[],[]⟩,[]⟩::acc)):vcStop P ds pn o rest S acc :=
 ⟨_,_,og_ hτ hL hA ho hop hm hk hT hgd hst hx hy oka okb hr,trivial,h⟩
theorem oB_ {P:Program} {τ:Tab} (hτ:ay_ P τ) {L:List TypeId} (hL:gOk τ L=true) (hA:L.all (fun t=>iF_ (τ t))=true) {ds:Dn} {pn:Pn} {o:Oper} {g:Bool} {S:St} {acc:List TI} {rest:St→List TI→Prop} {op:BinOp} {T T':TypeId} {x y:Operand}
  (ho:o.op=.binOp op T x y T') (hop:op=.eql∨op=.neq) {m:Nat} (hm:m≤10000) (hk:P.keyTypeAt m T=true) (hT:L.contains T=true) (hgd:P.eqGuardType P.depth T=false)
  (hst:(match P.underlying T with|some (.struct _)|some (.array _ _)=>true|_=>false)=true) {n n':Nat} {cs es:List D} (hx:g=true→Leq ((S.under g).ev x) (.d (.agg cs))) (hy:g=true→Leq ((S.under g).ev y) (.d (.agg es)))
  (oka:OkD τ n T cs) (okb:OkD τ n' T es) {r:Bool} (hr:r=true↔by_ cs=by_ es) (h:rest (S.put o.dst (.when g (.d (.v (.bool (eqRes op r)))))) (⟨⟨.when g (.d (.v (.bool (eqRes op r)))),[],[],[]⟩,[]⟩::acc)):vcStopG P ds pn o rest g S acc :=
 ⟨_,_,fun hg=>og_ hτ hL hA ho hop hm hk hT hgd hst (hx hg) (hy hg) oka okb hr,h⟩
def DLe (d d':D):Prop:=∀ w I v,Den w I d v→Den w I d' v
def DLes:List D→List D→Prop
 | [],[]=>True
 | x::xs,y::ys=>DLe x y∧DLes xs ys
 | _,_=>False
theorem DLe.refl (d:D):DLe d d:=fun _ _ _ h=>h
theorem DLes.refl:∀ l,DLes l l
 | []=>trivial
 | x::l=>⟨DLe.refl x,DLes.refl l⟩
theorem DLes.length:∀ {a b:List D},DLes a b→a.length=b.length
 | [],[],_=>rfl
 | _::_,_::_,h=>by simp[DLes.length h.2]
 | [],_::_,h=>h.elim
 | _::_,[],h=>h.elim
theorem DLes.append:∀ {a b c d:List D},DLes a b→DLes c d→DLes (a++c) (b++d)
 | [],[],_,_,_,h=>h
 | _::_,_::_,_,_,h,h'=>⟨h.1,DLes.append h.2 h'⟩
 | [],_::_,_,_,h,_=>h.elim
 | _::_,[],_,_,h,_=>h.elim
theorem rg_ {w:World} {I:Nat→Prop} {b:Nat}:∀ {cs es:List D} {off:Nat},DLes cs es→DenAt w I cs b off→DenAt w I es b off
 | [],[],_,_,_=>trivial
 | x::cs,y::es,off,h,⟨⟨v,h1,h2,h3,h4⟩,h5⟩=>⟨⟨v,h1,h2,h3,h.1 w I v h4⟩,rg_ h.2 h5⟩
 | [],_::_,_,h,_=>h.elim
 | _::_,[],_,h,_=>h.elim
theorem DLe.sl {sz n:Nat} {cs es:List D} {full:Bool} (h:DLes cs es):DLe (.sl sz cs n full) (.sl sz es n full):=fun w I v hv=>by
 obtain⟨a,cap,e,h1,h2,h3,h4,h5,h6⟩:=hv
 exact⟨a,cap,e,h1,h2,h3,by rw[← h.length];exact h4,h5,fun ad had=>⟨(h6 ad had).1,rg_ h (h6 ad had).2⟩⟩
theorem DLe.nil (sz:Nat):DLe (.v (.slice none 0 0)) (.sl sz [] 0 false):=fun w I v hv=>by
 rw[Den] at hv
 subst hv
 exact⟨none,0,rfl,Nat.le_refl _,Nat.zero_le _,(fun h=>by cases h),by simp,fun _=>⟨rfl,rfl⟩,(fun ad had=>by cases had)⟩
theorem Leq.data {d d':D} (h:DLe d d'):Leq (.d d) (.d d'):=fun w I β v hv=>by
 rw[DenA] at hv ⊢
 exact h w I v hv
end Go.Xe
namespace Go.Xe
open Go.RowKit
variable [Glob]
end Go.Xe
namespace Go.Xe
open Go.RowKit
variable [Glob]
theorem ou_ {z:Array Value} {zv:Value} (hz:z.toList=[zv]) (m:Nat):(Builtin.zeroCells z m).toList=List.replicate m zv:=by
 have hz':z = #[zv]:=by apply Array.ext';simpa using hz
 subst hz'
 simp[Builtin.zeroCells]
 apply List.ext_getElem
 ·simp
 ·intro i h1 h2
  simp[Nat.mod_one]
theorem hD_ {P:Program} (w:World) {t u ty e:TypeId} {i:TypeInfo} {z zv:Value} {bytes:Nat} {kn kx:IntKind} (ht:P.underlying t=some (.slice e)) (hu:P.underlying u=some (.int kn)) (hi:P.info? e=some i) (hz:i.zero=some z)
  (hsize:i.size=1) (hby:i.bytes=bytes) (hzs:z.cells.toList=[zv]) (hz1:zv.oneCell'=true)
  {v:Value} {n:Nat} {xs:List Value} (hown:w.ownsRow 0 e 1 v n xs) (m:Nat) (hm:0<m)
  (h63:n+m≤maxLen) (hbytes:(n+m)*bytes≤140737488355328) :
  ∃ v' w',(Builtin.append_ #[t,u] ty #[v,.int kx m]).run P w=.ok v' w'∧w'.ownsRow 0 e 1 v' (n+m) (xs++List.replicate m zv)∧Gb w w' v.ownBlock∧(v'.ownBlock=v.ownBlock∨∀ g,v'.ownBlock=some g→w.heap.size≤g):=by
 subst hby
 have hsmall:n+m≤9223372036854775807:=by simp only[maxLen] at h63;omega
 have hzs1:z.cells.size=1:=by rw[← Array.length_toList,hzs];rfl
 have hzc:=ou_ hzs m
 have hzc':Builtin.zeroCells z.cells m=(List.replicate m zv).toArray:=by apply Array.ext';simpa using hzc
 have hlen:(xs++List.replicate m zv).length=(n+m)*1:=by rw[List.length_append,hown.1,List.length_replicate,Nat.add_mul];omega
 have hxl:xs.length=n:=by have:=hown.1;omega
 have hw:IntKind.i64.wrap (m:Int)=m:=by rw[IntKind.wrap_i64];omega
 have hm0:m≠0:=by omega
 have hneg:¬ ((m:Int)<0):=by omega
 have hmb:m*i.bytes≤140737488355328:=Nat.le_trans (Nat.mul_le_mul_right _ (by omega)) hbytes
 have h48i:¬ (281474976710656<(m:Int)*(i.bytes:Int)):=by
  rw[← Int.natCast_mul]
  omega
 have grown:∀ (old:Nat),
   (w.drew.alloc (.cells (xs.toArray++(List.replicate m zv).toArray++Builtin.zeroCells z.cells (grownCap w (n+m) old e-(n+m))) e)).ownsRow 0 e 1
    (.slice (some ⟨w.heap.size,0,none⟩) (n+m) (grownCap w (n+m) old e)) (n+m) (xs++List.replicate m zv) ∧
   ∀ row,Gb w (w.drew.alloc (.cells (xs.toArray++(List.replicate m zv).toArray++Builtin.zeroCells z.cells (grownCap w (n+m) old e-(n+m))) e)) row:=by
  intro old
  have hge:=grownCap_ge w (n+m) old e
  have hcm:grownCap w (n+m) old e≤maxLen:=grownCap_le_maxLen w (n+m) old e h63
  refine⟨⟨hlen,.inr ⟨w.heap.size,_,_,rfl,Nat.zero_le _,heap_alloc_new w.drew _,hge,hcm,?_,?_⟩⟩,fun row=>bO_ w (Gb.alloc w.drew _ row)⟩
  ·simp only[Array.size_append,List.size_toArray,size_zeroCells,hzs1,hxl,List.length_replicate]
   omega
  ·simp only[Array.toList_append,List.append_assoc]
   rw[← List.append_assoc,← hlen]
   exact List.take_left
 have fresh:∀ (cap:Nat) g,Value.ownBlock (.slice (some ⟨w.heap.size,0,none⟩) (n+m) cap)=some g→w.heap.size≤g:=fun cap g hg=>by simp[Value.ownBlock] at hg;omega
 rcases hown.2 with⟨rfl,rfl⟩|⟨g,cap,cur,rfl,_,hg,hnc,hcm,hcs,htk⟩
 ·have hx:xs=[]:=List.eq_nil_of_length_eq_zero (by simpa using hown.1)
  subst hx
  have hr:=Lib.run_append_nil_zeros (P:=P) w t u ty e i z kx kn ht hu hi hz m hm (by omega) (by omega) (by omega)
  rw[hzc'] at hr
  have hgr:=grown 0
  simp only[Nat.zero_add,List.nil_append,Array.empty_append] at hgr ⊢
  refine⟨_,_,hr,hgr.1,hgr.2 _,.inr fun g hg=>?_⟩
  have:=fresh (grownCap w m 0 e) g
  simp only[Nat.zero_add] at this
  exact this hg
 ·have hcs:cur.size=cap:=by omega
  by_cases hroom:n+m≤cap
  ·have hst:=run_storeCells_at P g n e (List.replicate m zv) 0 cur w hg (by rw[List.length_replicate];omega) (fun u hu=>by
    rw[List.eq_of_mem_replicate hu];exact hz1)
   simp only[Nat.add_zero] at hst
   refine⟨_,_,?_,⟨hlen,.inr ⟨g,cap,_,rfl,Nat.zero_le _,setRow_heap w g cur (cur.toList.take n++List.replicate m zv++cur.toList.drop (n+(List.replicate m zv).length)).toArray e _ hg,hroom,hcm,?_,?_⟩⟩,a2_ w g _,.inl rfl⟩
   ·simp[Builtin.append_,run_underlying ht,run_underlying hu,sizeOf,typeInfo,zeroValue,hi,hz,hsize,asInt,asIntOf,hw,hm0,hneg,h48i,hroom,hzc',Addr.add_lit,hst]
   ·simp only[List.size_toArray,List.length_append,List.length_take,List.length_drop,Array.length_toList,List.length_replicate]
    omega
   ·have htk:cur.toList.take n=xs:=by rw[← htk,Nat.mul_one]
    rw[htk,← hlen]
    exact List.take_left
  ·have holds:∀ j u,xs[j]? = some u→w.cell? ((⟨g,0,none⟩:Addr).add j)=some u:=hown.cells (g:=g) rfl
   have hn:¬ (n+m≤cap):=hroom
   have h63':¬ (9223372036854775807<((n:Int)+(m:Int))):=by omega
   have h48':¬ (281474976710656<Builtin.nextslicecap (n+m) cap*i.bytes):=by have:=growslice_fits (old:=cap) (by omega:cap<n+m) hbytes;omega
   have hfo:=run_firstCells_some (P:=P) w.drew 1 n ⟨g,0,none⟩ n cap xs (by omega) (by simpa using holds)
   refine⟨_,_,?_,(grown cap).1,(grown cap).2 _,.inr (fresh _)⟩
   simp[Builtin.append_,run_underlying ht,run_underlying hu,sizeOf,typeInfo,zeroValue,hi,hz,hsize,asInt,asIntOf,hw,hm0,hneg,h48i,hn,h63',h48',Question.forced,hzc',hfo,newRow,grownCap]
theorem lS_ {P:Program} {τ:Tab} (hτ:ay_ P τ) {ds:Dn} {pn:Pn} {o:Oper} {S:St} {T T' E:TypeId} {x y:Operand} (ho:o.op=.call ⟨.builtin .append,#[x,y],#[T,T']⟩) {k j:Nat}
  {te:TE} {zl:Value} {kn kx:IntKind} {sz1 b1 sz2 b2:Nat} {z1 z2:List Value} (ht:τ T=some ⟨.slice E,sz1,b1,z1⟩) (ht':τ T'=some ⟨.int kn,sz2,b2,z2⟩) (hte:τ E=some te) (hts:te.size=1) (hzl:te.zero=[zl])
  (hx:S.ev x=.row j) {n:Nat} {cs:List AV} (hb:getB S.bx j=some (.row E 1 n cs)) {m:Nat} (hm:0<m) (hy:S.ev y=.d (.v (.int kx m))) (hbnd:(n+m)*(te.bytes+1)≤140737488355328) (hk0:S.has k=false) :
  LCore P ds pn o S ⟨.row k,[j],[],[(k,.row E 1 (n+m) (cs++List.replicate m (.d (.v zl))))]⟩ [j]:=by
 intro S1 hs hf
 have ex:=hs.1 x (by simp[ho,Op.operands,Call.operands])
 have ey:=hs.1 y (by simp[ho,Op.operands,Call.operands])
 rw[← ex] at hx
 rw[← ey] at hy
 obtain⟨d,hu,hk⟩:=(hτ T _ ht).und
 obtain⟨d',hu',hk'⟩:=(hτ T' _ ht').und
 simp only[TK.ok] at hk hk'
 subst hk;subst hk'
 obtain⟨i,z,hi,his,hib,hiz,hzc,hzl',hz1⟩:=(hτ E te hte).info
 rw[hzl] at hzc hz1
 have hz1':zl.oneCell'=true:=by simpa using hz1
 have hk0:S1.has k=false:=hf _ (List.mem_singleton.2 rfl)
 have hk1:=aK_ hk0
 have hmax:n+m≤maxLen:=by
  simp only[maxLen]
  have:n+m≤(n+m)*(te.bytes+1):=Nat.le_mul_of_pos_right _ (by omega)
  omega
 have hbyt:(n+m)*te.bytes≤140737488355328:=Nat.le_trans (Nat.mul_le_mul_left _ (by omega)) hbnd
 refine Core.world fun w0 I0 F I β a w hr=>?_
 have hb1:=(hs.2.2 j (by simp)).trans hb
 obtain⟨xs,how,hdx,hox⟩:=hr.mem.bxs j _ hb1
 have hv:=hr.ev x
 have hvy:=hr.ev y
 rw[hx,DenA] at hv
 rw[hy,DenA_v] at hvy
 obtain⟨v',w',hrun,how',hg,hfr⟩:=hD_ (P:=P) w (ty:=o.type) (kx:=kx) hu hu' hi hiz (his.trans hts) hib hzc hz1' how m hm hmax hbyt
 have hrep:∀ q:Nat,DenAs w I β (List.replicate q (.d (.v zl))) (List.replicate q zl):=fun q=>by
  induction q with
  | zero=>rfl
  | succ q ih=>exact⟨_,_,rfl,DenA_v.2 rfl,ih⟩
 refine⟨v',w',I,upd β k v',?_,?_⟩
 ·obtain⟨C,hC⟩:=aG_ (P:=P) ho;rw[hC];simp[builtin,hv.1,hvy,hrun]
 ·exact hr.appended hk0 hg hfr (bk_ how') (.inr ⟨j,_,rfl,hb1,rfl,i0_ how⟩) how' (hdx.append (hrep m))
   (fun u hu=>by
    rcases List.mem_append.1 hu with hu|hu
    ·exact hox u hu
    ·rw[List.eq_of_mem_replicate hu];exact hz1') (by
    have h5:=(hasB_get hk1.2).2 j _ hb1
    simp only[Box.cs] at h5
    have h6:∀ q:Nat,am_ k (List.replicate q (.d (.v zl)))=false:=fun q=>by
     induction q with
     | zero=>rfl
     | succ q ih=>rw[List.replicate_succ,am_,ih];rfl
    rw[hasL_append,h5,h6];rfl) o.dst
theorem aD_ {P:Program} {τ:Tab} (hτ:ay_ P τ) {ds:Dn} {pn:Pn} {o:Oper} {S:St} {acc:List TI} {rest:St→List TI→Prop} {T T' E:TypeId} {x y:Operand} (ho:o.op=.call ⟨.builtin .append,#[x,y],#[T,T']⟩) {k j:Nat}
  {te:TE} {zl:Value} {kn kx:IntKind} {sz1 b1 sz2 b2:Nat} {z1 z2:List Value} (ht:τ T=some ⟨.slice E,sz1,b1,z1⟩) (ht':τ T'=some ⟨.int kn,sz2,b2,z2⟩) (hte:τ E=some te) (hts:te.size=1) (hzl:te.zero=[zl])
  (hx:S.ev x=.row j) {n:Nat} {cs:List AV} (hb:getB S.bx j=some (.row E 1 n cs)) {m:Nat} (hm:0<m) (hy:S.ev y=.d (.v (.int kx m))) (hbnd:(n+m)*(te.bytes+1)≤140737488355328) (hk0:S.has k=false)
  (h:rest (S.app o.dst ⟨.row k,[j],[],[(k,.row E 1 (n+m) (cs++List.replicate m (.d (.v zl))))]⟩) (⟨⟨.row k,[j],[],[(k,.row E 1 (n+m) (cs++List.replicate m (.d (.v zl))))]⟩,[j]⟩::acc)):vcStop P ds pn o rest S acc :=
 ⟨_,_,lS_ hτ ho ht ht' hte hts hzl hx hb hm hy hbnd hk0,⟨hk0,trivial⟩,h⟩
end Go.Xe
namespace Go.Xe
open Go.RowKit
variable [Glob]
mutual
def jG_ {H:Type}:DataW H→List D
 | .lit (.int k x)=>[.v (.int k x)]
 | .lit (.bool b)=>[.v (.bool b)]
 | .lit (.string s)=>[.v (.string ⟨s.toArray⟩)]
 | .agg parts=>qM_ parts
 | _=>[]
def qM_ {H:Type}:List (DataW H)→List D
 | []=>[]
 | d::r=>jG_ d++qM_ r
end
theorem iV_ {H:Type}:∀ l:List (DataW H),qM_ l=(l.map jG_).flatten
 | []=>rfl
 | d::l=>by rw[qM_,iV_ l];rfl
def DD_ (τ:Tab) (L:List TypeId) (t:TypeId):Bool :=
 match τ t with
 | some ⟨.int _,sz,_,_⟩=>decide (sz=1)
 | some ⟨.bool,sz,_,_⟩=>decide (sz=1)
 | some ⟨.string,sz,_,_⟩=>decide (sz=1)
 | some ⟨.struct fs,sz,_,_⟩=>bQ_ τ 0 fs sz&&fs.all fun f=>L.contains f.2
 | some ⟨.array m e,sz,_,_⟩=>decide (sz=m*tsz τ e)&&L.contains e
 | _=>false
def pOk (τ:Tab) (L:List TypeId):Bool:=L.all (DD_ τ L)
section
variable {H:Type} {enc:TypeId×Value→H} {P:Program} {w:World} {base:Nat} {spare:Nat→Bool} {held:Bool} {τ:Tab}
theorem mY_ (hτ:ay_ P τ) {L:List TypeId} (hL:pOk τ L=true):∀ (fuel:Nat) (t:TypeId) (cs:List Value) (d:DataW H) (ps:List MemPlace),L.contains t=true →
  DataW.trod enc P w base spare held fuel t cs=some (d,ps)→cs.length=tsz τ t∧Dens w (Old w) (jG_ d) cs∧∀ v∈cs,v.oneCell'=true:=by
 intro fuel
 induction fuel with
 | zero=>intro t cs d ps _ h;cases h
 | succ fuel ih =>
  intro t cs d ps hG h
  have hg:DD_ τ L t=true:=List.all_eq_true.1 hL t (by simpa using hG)
  unfold DD_ at hg
  cases ht:τ t with
  | none=>rw[ht] at hg;cases hg
  | some te =>
   have tk:=hτ t te ht
   have hcs:=a5_ tk ht
   obtain⟨dsc,hu,hk⟩:=tk.und
   rw[ht] at hg
   obtain⟨k,sz,byt,zero⟩:=te
   have hsz:tsz τ t=sz:=by simp[tsz,ht]
   have hcell:∀ T,L.contains T=true→P.cellsOf T=tsz τ T:=fun T hT=>by
    have:=List.all_eq_true.1 hL T (by simpa using hT)
    unfold DD_ at this
    cases hte:τ T with
    | none=>rw[hte] at this;cases this
    | some ee=>exact a5_ (hτ T ee hte) hte
   cases k with
   | int k =>
    simp only[TK.ok] at hk
    subst hk
    simp only[decide_eq_true_eq] at hg
    cases cs with
    | nil=>simp[DataW.trod,hu] at h
    | cons c cs =>
     cases cs with
     | cons _ _=>cases c<;>simp[DataW.trod,hu] at h
     | nil =>
      cases c<;>simp[DataW.trod,hu] at h
      obtain⟨⟨rfl,hwf⟩,rfl,_⟩:=h
      exact⟨by simp[hsz,hg],⟨_,_,rfl,rfl,rfl⟩,by simp⟩
   | bool =>
    simp only[TK.ok] at hk
    subst hk
    simp only[decide_eq_true_eq] at hg
    cases cs with
    | nil=>simp[DataW.trod,hu] at h
    | cons c cs =>
     cases cs with
     | cons _ _=>cases c<;>simp[DataW.trod,hu] at h
     | nil =>
      cases c<;>simp[DataW.trod,hu] at h
      obtain⟨rfl,_⟩:=h
      exact⟨by simp[hsz,hg],⟨_,_,rfl,rfl,rfl⟩,by simp⟩
   | string =>
    simp only[TK.ok] at hk
    subst hk
    simp only[decide_eq_true_eq] at hg
    cases cs with
    | nil=>simp[DataW.trod,hu] at h
    | cons c cs =>
     cases cs with
     | cons _ _=>cases c<;>simp[DataW.trod,hu] at h
     | nil =>
      cases c<;>simp[DataW.trod,hu] at h
      rename_i s
      obtain⟨_,rfl,_⟩:=h
      refine⟨by simp[hsz,hg],⟨_,_,rfl,?_,rfl⟩,by simp⟩
      rw[Den]
   | struct fs =>
    obtain⟨fa,rfl,rfl⟩:=hk
    simp only[Bool.and_eq_true] at hg
    obtain⟨hct,hall⟩:=hg
    have hL1:∀ f∈fa.toList,L.contains f.type=true:=fun f hf=>by
     have:=List.all_eq_true.1 hall (f.offset,f.type) (List.mem_map.2 ⟨f,hf,rfl⟩)
     exact this
    simp only[DataW.trod,hu] at h
    split at h
    ·rename_i hlen
     rw[hcs,hsz] at hlen
     obtain⟨xs,hm,h2⟩:=Option.map_eq_some_iff.1 h
     cases h2
     obtain⟨hl1,hat⟩:=e0_ hm
     have key:∀ (i:Nat) (f:Field),fa.toList[i]? = some f→∃ y,xs[i]? = some y∧Dens w (Old w) (jG_ y.1) ((cs.drop f.offset).take (tsz τ f.type))∧∀ v∈(cs.drop f.offset).take (tsz τ f.type),v.oneCell'=true:=fun i f hf=>by
      obtain⟨y,hy1,hy2⟩:=hat i f hf
      obtain⟨di,pi⟩:=y
      have hT:=hL1 f (List.mem_iff_getElem?.2 ⟨i,hf⟩)
      obtain⟨h4,h5,h6⟩:=ih f.type _ di pi hT hy2
      rw[hcell _ hT] at h5 h6
      exact⟨_,hy1,h5,h6⟩
     refine⟨by rw[hlen,hsz],?_,?_⟩
     ·have:=fm_ (τ:=τ) (w:=w) (I:=Old w) _ 0 sz cs (xs.map fun y=>jG_ y.1) hct (by simp[hl1]) hlen fun i x f hx hf=>by
       rw[List.getElem?_map] at hf hx
       obtain⟨f',hf',rfl⟩:=Option.map_eq_some_iff.1 hf
       obtain⟨y,hy1,hy2,_⟩:=key i f' hf'
       rw[hy1] at hx
       cases hx
       exact hy2
      rw[jG_,iV_,List.map_map]
      simpa [Function.comp_def] using this
     ·have:=gC_ (τ:=τ) (Q:=fun v=>v.oneCell'=true) _ 0 sz cs hct hlen fun i f hf=>by
       rw[List.getElem?_map] at hf
       obtain⟨f',hf',rfl⟩:=Option.map_eq_some_iff.1 hf
       obtain⟨y,_,_,hy3⟩:=key i f' hf'
       exact hy3
      simpa using this
    ·cases h
   | array m e =>
    simp only[TK.ok] at hk
    subst hk
    simp only[Bool.and_eq_true,decide_eq_true_eq] at hg
    obtain⟨hse,hge⟩:=hg
    have hce:=hcell e hge
    simp only[DataW.trod,hu] at h
    split at h
    ·rename_i hlen
     rw[hcs,hsz] at hlen
     obtain⟨xs,hm,h2⟩:=Option.map_eq_some_iff.1 h
     cases h2
     obtain⟨hl1,hat⟩:=e0_ hm
     simp only[List.length_range] at hl1
     have key:∀ i,i<m→∃ y,xs[i]? = some y∧Dens w (Old w) (jG_ y.1) ((cs.drop (0+i*tsz τ e)).take (tsz τ e))∧∀ v∈(cs.drop (0+i*tsz τ e)).take (tsz τ e),v.oneCell'=true:=fun i hil=>by
      obtain⟨y',hy1,hy2⟩:=hat i i (by rw[List.getElem?_range hil])
      obtain⟨di,pi⟩:=y'
      obtain⟨h4,h5,h6⟩:=ih e _ di pi hge hy2
      rw[hce] at h5 h6
      rw[Nat.zero_add]
      exact⟨_,hy1,h5,h6⟩
     refine⟨by rw[hlen,hsz],?_,?_⟩
     ·have:=fl_ (w:=w) (I:=Old w) (sz:=tsz τ e) m 0 cs (xs.map fun y=>jG_ y.1) (by simp[hl1]) (by omega) fun i x hx=>by
       rw[List.getElem?_map] at hx
       obtain⟨z,hz,rfl⟩:=Option.map_eq_some_iff.1 hx
       have hil:i<m:=by have:=(List.getElem?_eq_some_iff.1 hz).1;omega
       obtain⟨y,hy1,hy2,_⟩:=key i hil
       rw[hy1] at hz
       cases hz
       exact hy2
      rw[jG_,iV_,List.map_map]
      simpa [Function.comp_def] using this
     ·have:=gm_ (Q:=fun v=>v.oneCell'=true) (sz:=tsz τ e) m 0 cs (by omega) fun i hi=>by
       obtain⟨y,_,_,hy3⟩:=key i hi
       exact hy3
      simpa using this
    ·cases h
   | slice e=>cases hg
   | ptr e=>cases hg
   | func=>cases hg
   | map k e=>cases hg
   | iface=>cases hg
end
def iL_ (P:Program) (L:List TypeId):List (String×DataW Unit)→Bool
 | []=>true
 | (n,_)::r=>(match P.globalNamed n with
  | some g=>match P.globals[g]? with
   | some x=>L.contains x.type
   | none=>false
  | none=>false)&&iL_ P L r
def mP_ (P:Program) (laid:List (String×DataW Unit)) (g:Nat):Option (List D):=(laid.find? fun x=>P.globalNamed x.1 == some g).map fun x=>jG_ x.2
theorem kd_ {P:Program} {τ:Tab} (hτ:ay_ P τ) {L:List TypeId} (hL:pOk τ L=true) {w:World}:∀ {laid:List (String×DataW Unit)} {ps:List MemPlace},iL_ P L laid=true→DataW.LaidVars P w laid ps →
  ∀ g ds,mP_ P laid g=some ds→Den w (Old w) (.ip ds) (.pointer (some ⟨g,0,none⟩))
 | [],_,_,_,g,ds,h=>by simp[mP_] at h
 | (n,d)::r,ps,hok,h,g,ds,hg=>by
  obtain⟨g',t,cs,fuel,p,q,h1,h2,h3,h4,h5,_⟩:=h
  rw[iL_,h1,Bool.and_eq_true] at hok
  obtain⟨hk,hr⟩:=hok
  rw[mP_,List.find?_cons] at hg
  by_cases hgg:g'=g
  ·subst hgg
   rw[h1] at hg
   simp only[BEq.rfl,Option.map_some,Option.some.injEq] at hg
   subst hg
   obtain⟨x,hx1,hx2⟩:=Option.map_eq_some_iff.1 h2
   simp only[hx1] at hk
   rw[hx2] at hk
   obtain⟨a1,a2,a3⟩:=mY_ hτ hL fuel t _ d p hk h4
   have hlt:Old w g':=by
    unfold World.var? at h3
    rw[h1,Option.bind_some] at h3
    show g'<w.heap.size
    rcases Nat.lt_or_ge g' w.heap.size with hh|hh
    ·exact hh
    ·rw[Array.getElem?_eq_none hh] at h3
     cases h3
   rw[Den]
   exact⟨g',0,rfl,DenAt.of_dens hlt a2 a3 fun j v hj=>by
    have:=World.var?_cell h1 h3 j
    rw[Nat.zero_add,this]
    simpa using hj⟩
  ·have hne:(P.globalNamed n == some g)=false:=by rw[h1];simpa using hgg
   simp only[hne] at hg
   exact kd_ hτ hL hr h5 g ds hg
theorem ke_ {P:Program} {τ:Tab} (hτ:ay_ P τ) {L:List TypeId} (hL:pOk τ L=true) {w:World} {laid:List (String×DataW Unit)} (hok:iL_ P L laid=true) (hH:(laid.all fun x=>x.2.handleName?.isNone)=true)
  (hG:∀ g ds,Glob.laid g=some ds→mP_ P laid g=some ds) (h:laidMetH P laid w):Gl w (Old w):=by
 rw[MakeChecks.laidMetH_plain _ _ _ hH] at h
 obtain⟨ps,h1,_,_⟩:=h
 exact fun g ds hg=>kd_ hτ hL hok h1 g ds (hG g ds hg)
end Go.Xe
