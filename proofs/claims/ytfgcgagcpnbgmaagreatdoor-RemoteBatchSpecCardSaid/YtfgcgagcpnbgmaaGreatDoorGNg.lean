/-
  Disks: Write, Sync, Stop, Restart, walked.
-/
import Derived.Test.YtfgcgagcpnbgmaaGreatDoorGLb
import Derived.Test.YtfgcgagcpnbgmaaGreatDoorGKh
import Derived.Test.YtfgcgagcpnbgmaaGreatDoorGEngFz
import Derived.Test.YtfgcgagcpnbgmaaGreatDoorGEngCr
set_option linter.all false
set_option maxRecDepth 10000
namespace Go.Proofs.YtfgcgagcpnbgmaaGreatDoor
open Go.Xe Go.RowKit
theorem uW_ (l:List (Int×By)) (hl:l.length≤1000000):Fn0 Tryz.prog 168 [.sl 2 (wrC l) l.length false] (.sl 2 (wrC l) l.length false):=by
 cases hl0:l with
 | nil =>
  show Fn0 Tryz.prog 168 [.sl 2 [] 0 false] (.sl 2 [] 0 false)
  refine gM_ 2 false ?_ fun ad cap hc=>?_
  ·refine ad_ (pn:=an_) ac_ Tryz.func168 rfl fun β0=>?_
   simp only[Tryz.f168]
   refine sG ?_
   refine cv_ ac_ rfl rfl rfl rfl ?_
   simp -dsimp
   refine sG ?_
   refine cT (by simp) ?_
   refine sG ?_
   refine WP.ret (ab_ ?_)
   simp -dsimp
  ·refine ad_ (pn:=an_) ac_ Tryz.func168 rfl fun β0=>?_
   simp only[Tryz.f168]
   refine sG ?_
   refine dl_ ac_ rfl rfl rfl rfl ?_
   simp -dsimp
   refine sG ?_
   refine cF (by simp) ?_
   refine WP.skip ?_
   simp -dsimp
   refine ar_ (S':=mkS 8 [(0,.d (.sl 2 [] 0 false)),(2,.d (.v (.slice none 0 0)))] []) (af_ [] (by simp[fk_ _ _ _ hc]) (by simp)) ?_
   simp -dsimp
   refine sG ?_
   refine WP.ret (aj_ (Wk.freeze (k:=7) (T:=147) (sz:=2) (n:=0) (ds:=[]) (by simp)) ?_)
   simp -dsimp
 | cons x l' =>
  rw[← hl0]
  have h0:0<l.length:=by rw[hl0];simp
  clear hl0
  refine ad_ (pn:=an_) ac_ Tryz.func168 rfl fun β0=>?_
  simp only[Tryz.f168]
  refine sG ?_
  refine bI_ ac_ rfl rfl rfl rfl h0 ?_
  simp -dsimp
  refine sG ?_
  refine cF (by simp) ?_
  refine WP.skip ?_
  simp -dsimp
  refine sG ?_
  refine And.intro ⟨wrC_len l,by omega⟩ ?_
  refine WP.ret (aj_ (Wk.freeze (k:=7) (T:=147) (sz:=2) (n:=l.length) (ds:=wrC l) (by simp)) ?_)
  simp -dsimp
theorem uX_ (l:By) (hl:l.length≤1000000):Fn0 Tryz.prog 99 [.sl 1 (bys l) l.length false] (.sl 1 (bys l) l.length false):=by
 cases hl0:l with
 | nil =>
  show Fn0 Tryz.prog 99 [.sl 1 [] 0 false] (.sl 1 [] 0 false)
  refine gM_ 1 false ?_ fun ad cap hc=>?_
  ·refine ad_ (pn:=an_) ac_ Tryz.func99 rfl fun β0=>?_
   simp only[Tryz.f99]
   refine sG ?_
   refine cv_ ac_ rfl rfl rfl rfl ?_
   simp -dsimp
   refine sG ?_
   refine cT (by simp) ?_
   refine sG ?_
   refine WP.ret (ab_ ?_)
   simp -dsimp
  ·refine ad_ (pn:=an_) ac_ Tryz.func99 rfl fun β0=>?_
   simp only[Tryz.f99]
   refine sG ?_
   refine dl_ ac_ rfl rfl rfl rfl ?_
   simp -dsimp
   refine sG ?_
   refine cF (by simp) ?_
   refine WP.skip ?_
   simp -dsimp
   refine ar_ (S':=mkS 8 [(0,.d (.sl 1 [] 0 false)),(2,.d (.v (.slice none 0 0)))] []) (af_ [] (by simp[fk_ _ _ _ hc]) (by simp)) ?_
   simp -dsimp
   refine sG ?_
   refine WP.ret (aj_ (Wk.freeze (k:=7) (T:=5) (sz:=1) (n:=0) (ds:=[]) (by simp)) ?_)
   simp -dsimp
 | cons x l' =>
  rw[← hl0]
  have h0:0<l.length:=by rw[hl0];simp
  clear hl0
  refine ad_ (pn:=an_) ac_ Tryz.func99 rfl fun β0=>?_
  simp only[Tryz.f99]
  refine sG ?_
  refine bI_ ac_ rfl rfl rfl rfl h0 ?_
  simp -dsimp
  refine sG ?_
  refine cF (by simp) ?_
  refine WP.skip ?_
  simp -dsimp
  refine sG ?_
  refine WP.ret (aj_ (Wk.freeze (k:=7) (T:=5) (sz:=1) (n:=l.length) (ds:=bys l) (by simp)) ?_)
  simp -dsimp
theorem na_ (l:List Sg) (hl:l.length≤1000000) (hg:∀ p∈l,dN_ p):Fn0 Tryz.prog 59 [.sl 61 (sgC l) l.length false] (.sl 61 (sgC l) l.length false):=by
 cases hl0:l with
 | nil =>
  show Fn0 Tryz.prog 59 [.sl 61 [] 0 false] (.sl 61 [] 0 false)
  refine gM_ 61 false ?_ fun ad cap hc=>?_
  ·refine ad_ (pn:=an_) ac_ Tryz.func59 rfl fun β0=>?_
   simp only[Tryz.f59]
   refine sG ?_
   refine cv_ ac_ rfl rfl rfl rfl ?_
   simp -dsimp
   refine sG ?_
   refine cT (by simp) ?_
   refine sG ?_
   refine WP.ret (ab_ ?_)
   simp -dsimp
  ·refine ad_ (pn:=an_) ac_ Tryz.func59 rfl fun β0=>?_
   simp only[Tryz.f59]
   refine sG ?_
   refine dl_ ac_ rfl rfl rfl rfl ?_
   simp -dsimp
   refine sG ?_
   refine cF (by simp) ?_
   refine WP.skip ?_
   simp -dsimp
   refine ar_ (S':=mkS 8 [(0,.d (.sl 61 [] 0 false)),(2,.d (.v (.slice none 0 0)))] []) (af_ [] (by simp[fk_ _ _ _ hc]) (by simp)) ?_
   simp -dsimp
   refine sG ?_
   refine WP.ret (aj_ (Wk.freeze (k:=7) (T:=82) (sz:=61) (n:=0) (ds:=[]) (by simp)) ?_)
   simp -dsimp
 | cons x l' =>
  rw[← hl0]
  have h0:0<l.length:=by rw[hl0];simp
  clear hl0
  refine ad_ (pn:=an_) ac_ Tryz.func59 rfl fun β0=>?_
  simp only[Tryz.f59]
  refine sG ?_
  refine bI_ ac_ rfl rfl rfl rfl h0 ?_
  simp -dsimp
  refine sG ?_
  refine cF (by simp) ?_
  refine WP.skip ?_
  simp -dsimp
  refine sG ?_
  refine And.intro ⟨sgC_len hg,by omega⟩ ?_
  refine WP.ret (aj_ (Wk.freeze (k:=7) (T:=82) (sz:=61) (n:=l.length) (ds:=sgC l) (by simp)) ?_)
  simp -dsimp
theorem wT_ (cs:List D) (n:Nat) (f:Bool):Fn0 Tryz.prog 167 [.sl 2 cs n f] (.sl 2 (cs.take (n*2)) n true):=by
 refine ad_ (pn:=an_) ac_ Tryz.func167 rfl fun β0=>?_
 simp only[Tryz.f167]
 refine sG ?_
 refine WP.ret (ab_ ?_)
 simp -dsimp
theorem uY_ (cs:List D) (n:Nat) (f:Bool):Fn0 Tryz.prog 98 [.sl 1 cs n f] (.sl 1 (cs.take (n*1)) n true):=by
 refine ad_ (pn:=an_) ac_ Tryz.func98 rfl fun β0=>?_
 simp only[Tryz.f98]
 refine sG ?_
 refine WP.ret (ab_ ?_)
 simp -dsimp
theorem wU_ (cs:List D) (n:Nat) (f:Bool):Fn0 Tryz.prog 58 [.sl 61 cs n f] (.sl 61 (cs.take (n*61)) n true):=by
 refine ad_ (pn:=an_) ac_ Tryz.func58 rfl fun β0=>?_
 simp only[Tryz.f58]
 refine sG ?_
 refine WP.ret (ab_ ?_)
 simp -dsimp
theorem pk_ (l:List By) (h0:0<l.length) (hl:l.length≤1000000):Fun Tryz.prog 218 [.d (slLB l)] [] (.row 0) [(0,.row 22 1 l.length ((lsB l).map .d))] fun _=>False:=by
 refine ad_ (pn:=an_) ac_ Tryz.func218 rfl fun β0=>?_
 simp only[Tryz.f218]
 refine sG ?_
 refine bI_ ac_ rfl rfl rfl rfl h0 ?_
 simp -dsimp
 refine sG ?_
 refine cF (by simp) ?_
 refine WP.skip ?_
 simp -dsimp
 refine sG ?_
 refine And.intro ⟨by simp[lsB],by omega⟩ ?_
 refine WP.ret (aj_ (S':=mkS 8 [(2,.row 0)] [(0,.row 22 1 l.length ((lsB l).map .d))]) (Wk.go [] 7 0 (by decide) (by simp) (by simp) (by simp)) ?_)
 simp -dsimp
theorem sl_ (b:By) (h0:0<b.length) (hl:b.length≤1000000):Fun Tryz.prog 99 [.d (slB b)] [] (.row 0) [(0,.row 5 1 b.length ((bys b).map .d))] fun _=>False:=by
 refine ad_ (pn:=an_) ac_ Tryz.func99 rfl fun β0=>?_
 simp only[Tryz.f99]
 repeat(first|apply wG|(apply wR;simp -dsimp[slB])|refine aI ?_)
 refine bI_ ac_ rfl rfl rfl rfl h0 ?_
 simp -dsimp
 refine sG ?_
 refine cF (by simp) ?_
 refine WP.skip ?_
 simp -dsimp
 refine sG ?_
 refine WP.ret (aj_ (S':=mkS 8 [(2,.row 0)] [(0,.row 5 1 b.length ((bys b).map .d))]) (Wk.go [] 7 0 (by decide) (by simp) (by simp) (by simp)) ?_)
 simp -dsimp
def DA_ (d:Dk):Bool:=dkB d && !d.st
theorem qV_ (d:Dk):decide (dkE d=0)=dkB d:=by
 unfold dkE;cases dkB d<;>rfl
theorem s6_ (d:Dk) (hd:dkOk d):Fn0 Tryz.prog 77 [dkD d] (.v (.bool (DA_ d))):=by
 have h:=eC_ d hd
 have hz:=qV_ d
 refine ad_ (pn:=an_) ac_ Tryz.func77 rfl fun β0=>?_
 simp only[Tryz.f77]
 unfold DA_
 simp only[dkD,dkC] at h
 repeat(first|apply wG|(apply wR;simp -dsimp[dkD,dkC,wrD])|refine aI ?_)
 refine ao_ dC_ h rfl rfl (And.intro (by simp[wrD];try exact al_ _) trivial) ?_
 simp -dsimp[hz]
 cases hb:dkB d with
 | true =>
  repeat(first|apply wG|(apply wR;simp -dsimp[hz,hb])|refine aI ?_)
  refine WP.ret (ab_ ?_)
  simp -dsimp[hb]
 | false =>
  repeat(first|apply wG|(apply wR;simp -dsimp[hz,hb])|refine aI ?_)
  refine WP.ret (ab_ ?_)
  simp -dsimp[hb]
theorem wO_ (d:Dk) (i:Int):Fn0 Tryz.prog 166 [dkD d,.v (.int .i64 i)] (.v (.bool (decide (0≤i)&&decide (i<d.s.length)))):=by
 refine ad_ (pn:=an_) ac_ Tryz.func166 rfl fun β0=>?_
 simp only[Tryz.f166]
 repeat(first|apply wG|(apply wR;simp -dsimp[dkD,dkC,wrD])|refine aI ?_)
 refine WP.ret (ab_ ?_)
 simp -dsimp
theorem kl_ {d:Dk} (h:dkB d=true):dkOk d:=by
 obtain⟨⟨h1,h2,h3,h4,h5⟩,_⟩:=a1_.1 h
 exact⟨by omega,by omega,by unfold isI;omega⟩
theorem s8_ {d:Dk} (h:dkB d=true) (hst:d.st=false):DA_ d=true:=by rw[DA_,h,hst];rfl
set_option maxHeartbeats 1000000 in
theorem vt_ (d:Dk) (hd:dkB d=true) (hst:d.st=false) (k:Nat) (hk:k<d.s.length) (b:By) (hb:b.length=128) (hp:d.p.length<4096) :
  Fn0 Tryz.prog 101 [dkD d,.v (.int .i64 k),slB b] (.tup [dkD ⟨d.s,d.p++[((k:Int),b)],d.left,d.st⟩,.v (.int .i64 0)]):=by
 have h1:=s6_ d (kl_ hd)
 rw[s8_ hd hst] at h1
 have h2:=wO_ d k
 rw[show (decide (0≤(k:Int))&&decide ((k:Int)<d.s.length))=true by simp;omega] at h2
 have lb:=ah_ b
 have hcl:=uW_ d.p (by omega)
 have hcp:=wT_ (wrC d.p) d.p.length false
 have lw:=wrC_len d.p
 rw[List.take_of_length_le (by rw[lw];exact Nat.le_refl _)] at hcp
 refine ad_ (pn:=an_) ac_ Tryz.func101 rfl fun β0=>?_
 simp only[Tryz.f101]
 repeat(first|apply wG|(apply wR;simp -dsimp[dkD,dkC,wrD,slB])|refine aI ?_)
 refine aa_ jf_ h1 rfl rfl (by simp[dkD,dkC,wrD]) ?_
 simp -dsimp
 refine sG ?_
 refine ae_ nQ_ (fun _=>h2) rfl (fun _=>rfl) (fun _=>by simp[dkD,dkC,wrD]) ?_
 simp -dsimp
 refine sG ?_
 refine cF (by simp) ?_
 repeat(first|apply wG|(apply wR;simp -dsimp[hb])|refine aI ?_)
 refine cF (by simp[hb]) ?_
 refine sG ?_
 refine cF (by simp;omega) ?_
 refine WP.skip ?_
 simp -dsimp
 refine sG ?_
 refine cK_ ac_ 31 rfl rfl rfl (c:=128) rfl rfl (by decide) (by decide) rfl (lB_ 128) ?_
 simp -dsimp
 refine sG ?_
 refine eL_ ac_ rfl rfl rfl rfl rfl (by decide) (CpSrc.data rfl (by decide)) 128 rfl (by simp[lb,hb]) (cs':=(bys b).map .d) (by rw[List.take_of_length_le (by simp[lb,hb]),setL_whole _ _ (by simp[lb,hb,ah_])]) ?_
 simp -dsimp
 refine ar_ (Wk.freeze (k:=31) (T:=5) (sz:=1) (n:=128) (ds:=bys b) rfl) ?_
 simp -dsimp
 refine sG ?_
 refine aa_ nO_ hcl rfl rfl (by simp) ?_
 simp -dsimp
 repeat refine aI ?_
 refine aa_ nP_ hcp rfl rfl (by simp) ?_
 simp -dsimp
 repeat refine aI ?_
 have e:wrC (d.p++[((k:Int),b)])=wrC d.p++[.v (.int .i64 k),.sl 1 (bys b) 128 false]:=by rw[oz_];simp[wrC,slB,hb]
 refine sG ?_
 refine WP.ret (aj_ (Wk.freeze (k:=43) (T:=147) (sz:=2) (n:=d.p.length+1) (ds:=wrC (d.p++[((k:Int),b)])) (by simp[e])) ?_)
 simp -dsimp[dkD,dkC,wrD]
theorem lsBA_set (l:List By) (i:Nat) (b:By):((lsB l).map AV.d).set i (.d (slB b))=(lsB (l.set i b)).map .d:=by
 rw[lsB,lsB,List.map_set,List.map_set]
theorem aZ_ (l:List By):(lsB l).length=l.length:=by simp[lsB]
theorem zg_ {l:List By} {i:Nat} (h:i<l.length):atL ((lsB l).map AV.d) i=.d (slB (l.getD i [])):=by
 rw[← df_];simp[lsB,h]
abbrev pfS (s:List By) (l:List (Int×By)) (l1:List (Int×By)):St:=mkS 24 [(5,.row 500),(10,.d (wrD l)),(11,.d (.v (.int .i64 l.length))),(12,.d (.v (.int .i64 l1.length)))] [(500,.row 22 1 s.length ((lsB (perf s l1)).map .d))]
set_option maxHeartbeats 1000000 in
theorem j7_ (s:List By) (l:List (Int×By)) (h0:0<s.length) (hs:s.length≤1000000) (hl:l.length≤1000000) (hw:∀ w∈l,0≤w.1∧w.1<s.length) :
  Fun Tryz.prog 171 [.d (slLB s),.d (wrD l)] [] (.row 0) [(0,.row 22 1 s.length ((lsB (perf s l)).map .d))] fun _=>False:=by
 have lc:=wrC_len l
 refine ad_ (pn:=an_) ac_ Tryz.func171 rfl fun β0=>?_
 simp only[Tryz.f171]
 refine sG ?_
 refine vcStop.call nv_ (pk_ s h0 hs) (rl [(0,600)]) rfl rfl (by simp[BoxLeq]) aGq (fun _ h=>h.elim) (fun ⟨_,h⟩=>h.elim) (fun ⟨_,h⟩=>h.elim) (by simp[BoxLeq]) ?_
 simp -dsimp
 repeat(first|apply wG|(apply wR;simp -dsimp[wrD])|refine aI ?_)
 refine ai_ (fun q S=>∃ l1 l2,l=l1++l2∧q=l2.length∧S=pfS s l l1) l.length (S0:=pfS s l []) (Wk.go [] 600 500 (by decide) (by simp) (by simp[wrD]) (by simp[perf])) ⟨[],l,rfl,rfl,rfl⟩ ?_
 rintro _ _ ⟨l1,l2,hl12,rfl,rfl⟩
 simp -dsimp[wrD]
 refine sG ?_
 cases l2 with
 | nil =>
  simp only[List.append_nil] at hl12
  subst hl12
  refine cF (by simp) ?_
  refine WP.exit ?_
  simp -dsimp
  refine sG ?_
  refine WP.ret (aj_ (S':=mkS 24 [(4,.row 0)] [(0,.row 22 1 s.length ((lsB (perf s l)).map .d))]) (Wk.go [] 500 0 (by decide) (by simp) (by simp) (by simp)) ?_)
  simp -dsimp
 | cons w l2 =>
  have hll:l.length=l1.length+(l2.length+1):=by rw[hl12];simp
  have hat:=lZ_ l1 w l2
  rw[← hl12] at hat
  have e1:IntKind.i64.wrap ((l1.length:Int)+1)=(l1.length:Int)+1:=IntWalk.i64_in _ (by omega)
  obtain⟨hw0,hw1⟩:=hw w (by rw[hl12];simp)
  have lp:=bK_ s l1
  have ll:=aZ_ (perf s l1)
  have hsn:=tE_ s l1 w
  obtain⟨k,hk⟩:∃ k:Nat,w.1=k:=⟨w.1.toNat,by omega⟩
  rw[hk,Int.toNat_natCast] at hsn
  rw[hk] at hat hw1
  have hlt:l1.length<l.length:=by omega
  refine cT (by simp;omega) ?_
  refine WP.skip ?_
  simp -dsimp
  repeat(first|apply wG|(apply wR;simp -dsimp[hat,lc,hlt,lp,ll])|refine aI ?_)
  refine loopW.next (pfS s l (l1++[w])) (af_ [7] (by simp[e1]) (by simp[hsn,← lsBA_set,slB])) l2.length (by simp) ⟨l1++[w],l2,by simp[hl12],rfl,rfl⟩
def Dt_ (d:Dk):Dk :=
 let w:=d.p.getD d.left.toNat (0,[])
 let X:=perf d.s (d.p.take d.left.toNat)
 ⟨X.set w.1.toNat (tornB w.2 (X.getD w.1.toNat [])),[],0,true⟩
def Ds_ (d:Dk):Dk:=⟨perf d.s d.p,[],if 0≤d.left then d.left-d.p.length else d.left,false⟩
def uC_ (d:Dk):Dk×Int:=if 0≤d.left∧d.left<d.p.length then (Dt_ d,380) else (Ds_ d,0)
theorem vy_ (l:List (Int×By)) (n:Nat):(wrC l).take (n*2)=wrC (l.take n):=by
 by_cases h:n≤l.length
 ·have e:wrC l=wrC (l.take n)++wrC (l.drop n):=by rw[← oz_,List.take_append_drop]
  rw[e,List.take_left' (by rw[wrC_len,List.length_take];omega)]
 ·rw[List.take_of_length_le (by rw[wrC_len];omega),List.take_of_length_le (by omega)]
set_option maxHeartbeats 2000000 in
theorem wI_ (d:Dk) (hd:dkB d=true) (hst:d.st=false):Fn0 Tryz.prog 103 [dkD d] (.tup [dkD (uC_ d).1,.v (.int .i64 (uC_ d).2)]):=by
 have h1:=s6_ d (kl_ hd)
 rw[s8_ hd hst] at h1
 obtain⟨⟨d1,d2,d3,d4,d5⟩,d6,d7⟩:=a1_.1 hd
 have lw:=wrC_len d.p
 refine ad_ (pn:=an_) ac_ Tryz.func103 rfl fun β0=>?_
 simp only[Tryz.f103]
 repeat(first|apply wG|(apply wR;simp -dsimp[dkD,dkC,wrD])|refine aI ?_)
 refine aa_ jf_ h1 rfl rfl (by simp[dkD,dkC,wrD]) ?_
 simp -dsimp
 refine sG ?_
 refine cF (by simp) ?_
 refine WP.skip ?_
 simp -dsimp
 unfold uC_
 by_cases hc:0≤d.left∧d.left<d.p.length
 ·rw[if_pos hc]
  obtain⟨hc0,hc1⟩:=hc
  obtain⟨L,hL⟩:∃ L:Nat,d.left=L:=⟨d.left.toNat,by omega⟩
  rw[hL] at hc1
  have hLl:L<d.p.length:=by omega
  repeat(first|apply wG|(apply wR;simp -dsimp[hL])|refine aI ?_)
  refine cT (by simp[hL];omega) ?_
  refine WP.seq ?_
  refine WP.region ac_ ?_
  simp -dsimp[hL]
  repeat refine aI ?_
  refine ar_ (S':=mkS 78 [(1,.ptr 1 0),(2,.ptr 2 0),(5,.d (wrD (d.p.take L)))] [(1,.cells 28 [.d (slLB d.s),.d (wrD d.p),.d (.v (.int .i64 L)),.d (.v (.bool d.st))]),(2,.cells 28 [.d (.v (.slice none 0 0)),.d (.v (.slice none 0 0)),.d (.v (.int .i64 0)),.d (.v (.bool false))])]) (af_ [] (by simp;rw[vy_,Nat.min_eq_left (by omega)];exact Leq.sl _ _ _ _) (by simp[hL])) ?_
  simp -dsimp
  refine sG ?_
  have hX:∀ w∈d.p.take L,0≤w.1∧w.1<d.s.length:=fun w hw=>by have:=d6 w (List.mem_of_mem_take hw);exact⟨this.1,this.2.1⟩
  refine vcStop.call hn_ (j7_ d.s (d.p.take L) d1 (by omega) (by rw[List.length_take];omega) hX) (rl [(0,600)]) rfl rfl (by simp[wrD,BoxLeq]) (ag_ (by simp[wrD,BoxLeq]) rfl (by first|rfl|(simp[wrD,BoxLeq];done)) (by simp[wrD,BoxLeq]) (by simp[wrD,BoxLeq])) (fun _ h=>h.elim) (fun ⟨_,h⟩=>h.elim) (fun ⟨_,h⟩=>h.elim) (by simp[wrD,BoxLeq]) ?_
  have hwm:d.p.getD L (0,[])∈d.p:=by
   rw[List.getD_eq_getElem?_getD,List.getElem?_eq_getElem hLl,Option.getD_some];exact List.getElem_mem _
  have hsp:d.p=d.p.take L++d.p.getD L (0,[])::d.p.drop (L+1):=by
   rw[List.getD_eq_getElem?_getD,List.getElem?_eq_getElem hLl,Option.getD_some,← List.drop_eq_getElem_cons hLl,List.take_append_drop]
  have hat:=lZ_ (d.p.take L) (d.p.getD L (0,[])) (d.p.drop (L+1))
  rw[← hsp,List.length_take,Nat.min_eq_left (by omega)] at hat
  obtain⟨w0,w1,w2⟩:=d6 _ hwm
  have hXl:=bK_ d.s (d.p.take L)
  have hX8:∀ b∈perf d.s (d.p.take L),b.length=128:=kY_ d7 fun w hw=>(d6 w (List.mem_of_mem_take hw)).2.2
  have hsy:Dt_ d=⟨(perf d.s (d.p.take L)).set (d.p.getD L (0,[])).1.toNat (tornB (d.p.getD L (0,[])).2 ((perf d.s (d.p.take L)).getD (d.p.getD L (0,[])).1.toNat [])),[],0,true⟩:=by
   rw[Dt_,hL,Int.toNat_natCast]
  rw[hsy]
  generalize d.p.getD L (0,[])=w at hat w0 w1 w2
  generalize perf d.s (d.p.take L)=X at hXl hX8
  obtain⟨q,wb⟩:=w
  obtain⟨k,rfl⟩:∃ k:Nat,q=k:=⟨q.toNat,by simp only at w0;omega⟩
  simp only at hat w1 w2 ⊢
  have hkX:k<X.length:=by omega
  rw[Int.toNat_natCast]
  have hb8:(X.getD k []).length=128:=by
   refine hX8 _ ?_
   rw[List.getD_eq_getElem?_getD,List.getElem?_eq_getElem hkX,Option.getD_some];exact List.getElem_mem _
  have haX:=zg_ hkX
  have lX:=aZ_ X
  generalize X.getD k []=ob at hb8 haX
  simp -dsimp
  have hcl:=sl_ ob (by omega) (by omega)
  rw[hb8] at hcl
  repeat(first|apply wG|(apply wR;simp -dsimp[hat,lw,hLl,haX,lX,hXl,hb8,w2])|refine aI ?_)
  refine vcStop.call i9_ (hcl) (rl [(0,700)]) rfl rfl (by simp[hb8,BoxLeq]) (ag_ (by simp[hb8,BoxLeq]) rfl (by first|rfl|(simp[hb8,BoxLeq];done)) (by simp[hb8,BoxLeq]) (by simp[hb8,BoxLeq])) (fun _ h=>h.elim) (fun ⟨_,h⟩=>h.elim) (fun ⟨_,h⟩=>h.elim) (by simp[hb8,BoxLeq]) ?_
  simp -dsimp
  refine x8_ (ya_ (k:=700) (T:=5) (sz:=1) (n:=128) (xs:=bys ob) (by simp) (by decide)) ?_
  rintro⟨⟨g,c⟩,hnc,hcm⟩
  have hnc:128≤c:=hnc
  have lob:=ah_ ob
  have lwb:=ah_ wb
  simp -dsimp[exA]
  refine sG ?_
  refine c0_ ac_ rfl rfl rfl (l:=0) (h:=64) rfl rfl rfl (by omega) (by omega) (by omega) ?_
  simp -dsimp
  repeat(first|apply wG|(apply wR;simp -dsimp[w2])|refine aI ?_)
  refine fp_ ac_ rfl rfl rfl (k:=700) rfl rfl (CpSrc.data rfl (by simp[w2])) 64 (by first|rfl|simp[w2]) (by simp[lwb,w2]) (by simp) (by simp;omega) ?_
  simp -dsimp
  have hto:bys (tornB wb ob)=List.take 64 (bys wb)++List.drop 64 (bys ob):=by rw[tornB,bys,List.map_append,List.map_take,List.map_drop];rfl
  have lto:(tornB wb ob).length=128:=by rw[tornB,List.length_append,List.length_take,List.length_drop,w2,hb8];rfl
  have hset:(lsB (X.set k (tornB wb ob))).map AV.d=((lsB X).map AV.d).set k (.d (.sl 1 (bys (tornB wb ob)) 128 false)):=by rw[← lsBA_set,slB,lto]
  repeat refine aI ?_
  rw[← hto]
  refine ar_ ((va_ 7 700 701 128 rfl hnc (by rw[ah_,lto]) rfl (by simp[Ex])).trans (Wk.freeze (k:=701) (T:=5) (sz:=1) (n:=128) (ds:=bys (tornB wb ob)) rfl)) ?_
  simp -dsimp
  repeat(first|apply wG|(apply wR;simp -dsimp[lX,hXl])|refine aI ?_)
  refine WP.ret (aj_ (Wk.freeze (k:=600) (T:=22) (sz:=1) (n:=d.s.length) (ds:=lsB (X.set k (tornB wb ob))) (by simp[hset])) ?_)
  simp -dsimp[dkD,dkC,wrC,hXl]
 ·rw[if_neg hc]
  refine sG ?_
  refine cF (by simp;omega) ?_
  refine WP.skip ?_
  simp -dsimp
  refine sG ?_
  refine vcStop.call hn_ (j7_ d.s d.p d1 (by omega) (by omega) (fun w hw=>⟨(d6 w hw).1,(d6 w hw).2.1⟩)) (rl [(0,600)]) rfl rfl (by simp[wrD,BoxLeq]) (ag_ (by simp[wrD,BoxLeq]) rfl (by first|rfl|(simp[wrD,BoxLeq];done)) (by simp[wrD,BoxLeq]) (by simp[wrD,BoxLeq])) (fun _ h=>h.elim) (fun ⟨_,h⟩=>h.elim) (fun ⟨_,h⟩=>h.elim) (by simp[wrD,BoxLeq]) ?_
  simp -dsimp
  refine sG ?_
  refine WP.cond (b:=decide (0≤d.left)) (by simp) (fun hb=>?_) (fun hb=>?_)
  ·have hb:=of_decide_eq_true hb
   have e1:IntKind.i64.wrap (d.left-d.p.length)=d.left-d.p.length:=IntWalk.i64_in _ (by omega)
   repeat(first|apply wG|(apply wR;simp -dsimp[e1])|refine aI ?_)
   refine WP.ret (aj_ (Wk.freeze (k:=600) (T:=22) (sz:=1) (n:=d.s.length) (ds:=lsB (perf d.s d.p)) rfl) ?_)
   simp -dsimp[dkD,dkC,Ds_,hb,bK_,wrC]
  ·have hb:=of_decide_eq_false hb
   refine WP.skip ?_
   simp -dsimp
   refine sG ?_
   refine WP.ret (aj_ (Wk.freeze (k:=600) (T:=22) (sz:=1) (n:=d.s.length) (ds:=lsB (perf d.s d.p)) rfl) ?_)
   simp -dsimp[dkD,dkC,Ds_,hb,bK_,wrC]
theorem wL_ (d:Dk):Fn0 Tryz.prog 64 [dkD d] (dkD ⟨d.s,[],-1,false⟩):=by
 refine ad_ (pn:=an_) ac_ Tryz.func64 rfl fun β0=>?_
 simp only[Tryz.f64]
 repeat(first|apply wG|(apply wR;simp -dsimp[dkD,dkC])|refine aI ?_)
 refine WP.ret (ab_ ?_)
 simp -dsimp[dkD,dkC,wrC]
end Go.Proofs.YtfgcgagcpnbgmaaGreatDoor
