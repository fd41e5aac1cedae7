/-
  Joined texts.
-/
import Derived.Test.YtfgcgagcpnbgmaaGreatDoorGTr
import Derived.Test.YtfgcgagcpnbgmaaGreatDoorGTd
import Derived.Test.YtfgcgagcpnbgmaaGreatDoorGT
import Derived.Test.YtfgcgagcpnbgmaaGreatDoorGMa
import Derived.Test.YtfgcgagcpnbgmaaGreatDoorGTo
import Derived.Test.YtfgcgagcpnbgmaaGreatDoorGNc
set_option linter.all false
set_option maxRecDepth 10000
set_option maxHeartbeats 4000000
namespace Go.Proofs.YtfgcgagcpnbgmaaGreatDoor
open Go.Xe Go.RowKit
theorem tg_ (hsum:∀ b:List UInt8,b.length≤100000→Fn0 Tryz.prog 202 [slB b] (dD (gb_ b))):∀ (N:Nat) (l:List Dg),l.length≤N→a9_ l→1≤l.length→l.length≤65536 →
  Fn0 Tryz.prog 84 [slG l] (dD (treeB l)):=by
 intro N
 induction N with
 | zero=>intro l h1 h2 h3;omega
 | succ N ih =>
  intro l hf hl h1 hn
  have lz:z32.length=32:=rfl
  have hlf:=aO_ l
  have lC:=aT_ hl
  by_cases hn1:l.length≤1
  ·obtain⟨d,rfl⟩:∃ d,l=[d]:=List.length_eq_one_iff.1 (by omega)
   have hd:d.length=32:=hl d (by simp)
   have ht:=cy_ hsum ⟨#[108,101,97,102]⟩ (by decide) d (by omega)
   rw [show (⟨#[108, 101, 97, 102]⟩ : ByteArray).data.toList = tB "leaf" by decide +kernel, show tagB (tB "leaf") d = leafB d from rfl] at ht
   rw[yk_] at hlf ⊢
   have e1:dgL [d]=bys d:=by rw[dgL,dgL,List.append_nil]
   generalize leafB d=r at *
   refine ad_ (pn:=an_) ac_ Tryz.func84 rfl fun β0=>?_
   simp only[Tryz.f84]
   repeat(first|apply wG|(apply wR;simp -dsimp[slG])|refine aI ?_)
   refine cF (by simp) ?_
   refine WP.skip ?_
   simp -dsimp
   repeat(first|apply wG|(apply wR;simp -dsimp[slG])|refine aI ?_)
   refine cT (by simp) ?_
   repeat(first|apply wG|(apply wR;simp -dsimp[slG,e1])|refine aI ?_)
   refine aw_ ac_ rfl rfl rfl rfl (by simp[e1,ah_,hd]) (by decide) rfl ?_
   simp -dsimp[bM_,hd]
   repeat(first|apply wG|(apply wR;simp -dsimp[ah_,hd])|refine aI ?_)
   refine aa_ bE_ ht rfl rfl (by simp[slB,hd]) ?_
   simp -dsimp[dD]
   refine And.intro ⟨hlf,fun a h=>ap_ h⟩ ?_
   repeat(first|apply wG|(apply wR;simp -dsimp[ah_,hlf])|refine aI ?_)
   refine WP.ret (ab_ ?_)
   simp -dsimp[setL_whole,ah_,hlf,aF_]
   exact al_ _
  ·have k1:=bc_ l.length
   have k2:=ca_ l.length (by omega)
   have hh:=j4_ l.length h1 hn
   rw[oF_ l (by omega)] at hlf ⊢
   generalize halfN l.length=k at *
   have lt:(l.take k).length=k:=by rw[List.length_take];omega
   have ld:(l.drop k).length=l.length-k:=List.length_drop
   have ht:=ih (l.take k) (by rw[lt];omega) (all32_take hl k) (by rw[lt];omega) (by rw[lt];omega)
   have hd:=ih (l.drop k) (by rw[ld];omega) (all32_drop hl k) (by rw[ld];omega) (by rw[ld];omega)
   have l1:=aO_ (l.take k)
   have l2:=aO_ (l.drop k)
   have hno:=rK_ hsum (treeB (l.take k)) (treeB (l.drop k)) l1 l2
   have e1:=eD_ k hl
   have e2:=eE_ k hl
   have e5:((l.length:Int)-(k:Int)).toNat=l.length-k:=by omega
   have e6:List.take ((l.length-k)*32) (dgL (l.drop k))=dgL (l.drop k):=List.take_of_length_le (by rw[aT_ (all32_drop hl k),ld];omega)
   generalize nodeB (treeB (l.take k)) (treeB (l.drop k))=r at *
   generalize treeB (l.take k)=a at *
   generalize treeB (l.drop k)=b at *
   have hne:l≠[]:=by rintro rfl;simp at k2
   refine ad_ (pn:=an_) ac_ Tryz.func84 rfl fun β0=>?_
   simp only[Tryz.f84]
   repeat(first|apply wG|(apply wR;simp -dsimp[slG])|refine aI ?_)
   refine cF (by simp[hne]) ?_
   refine WP.skip ?_
   simp -dsimp
   repeat(first|apply wG|(apply wR;simp -dsimp[slG])|refine aI ?_)
   refine cF (by simp;omega) ?_
   refine WP.skip ?_
   simp -dsimp
   repeat(first|apply wG|(apply wR;simp -dsimp[slG])|refine aI ?_)
   refine aa_ en_ hh rfl rfl (by simp) ?_
   simp -dsimp
   repeat(first|apply wG|(apply wR;simp -dsimp[slG])|refine aI ?_)
   refine aa_ b8_ ht rfl rfl (by simp[slG,e1,lt]) ?_
   simp -dsimp
   repeat(first|apply wG|(apply wR;simp -dsimp[slG])|refine aI ?_)
   refine aa_ b8_ hd rfl rfl (by simp[slG,e2,ld,e5,e6]) ?_
   simp -dsimp
   refine sG ?_
   refine ao_ nV_ hno rfl rfl (And.intro (.refl _) (And.intro (.refl _) trivial)) ?_
   simp -dsimp[dD]
   refine And.intro ⟨hlf,fun a h=>ap_ h⟩ ?_
   repeat(first|apply wG|(apply wR;simp -dsimp[ah_,hlf])|refine aI ?_)
   refine WP.ret (ab_ ?_)
   simp -dsimp[setL_whole,ah_,hlf,aF_]
   exact al_ _
theorem ev_ (hsum:∀ b:List UInt8,b.length≤100000→Fn0 Tryz.prog 202 [slB b] (dD (gb_ b))) (l:List Dg) (hl:a9_ l) (h1:1≤l.length) (hn:l.length≤65536):Fn0 Tryz.prog 84 [slG l] (dD (treeB l)):=tg_ hsum l.length l (Nat.le_refl _) hl h1 hn
theorem tj_ (hsum:∀ b:List UInt8,b.length≤100000→Fn0 Tryz.prog 202 [slB b] (dD (gb_ b))):∀ (N:Nat) (l:List Dg) (i:Nat),l.length≤N→a9_ l→i<l.length→l.length≤65536 →
  Fun Tryz.prog 229 [.d (slG l),.d (.v (.int .i64 i))] [] (.row 0) [(0,.row 87 32 (pathB l i).length ((dgL (pathB l i)).map .d))] fun _=>False:=by
 intro N
 induction N with
 | zero=>intro l i h1 h2 h3;omega
 | succ N ih =>
  intro l i hf hl hi hn
  have lC:=aT_ hl
  by_cases hn1:l.length≤1
  ·rw[ix_ l i hn1]
   refine ad_ (pn:=an_) ac_ Tryz.func229 rfl fun β0=>?_
   simp only[Tryz.f229]
   repeat(first|apply wG|(apply wR;simp -dsimp[slG])|refine aI ?_)
   refine cT (by simp;omega) ?_
   refine sG ?_
   refine WP.ret (aj_ (S':=mkS 40 [(4,.row 0)] [(0,.row 87 32 0 [])]) (Wk.go [] 9 0 (by decide) (by simp) (by simp) (by simp)) ?_)
   simp -dsimp[dgL]
  ·have k1:=bc_ l.length
   have k2:=ca_ l.length (by omega)
   have hh:=j4_ l.length (by omega) hn
   have hp2:=k0_ l i (by omega)
   have h32:=gn_ l.length l i (Nat.le_refl _)
   generalize halfN l.length=k at *
   have lt:(l.take k).length=k:=by rw[List.length_take];omega
   have ld:(l.drop k).length=l.length-k:=List.length_drop
   have e1:=eD_ k hl
   have e2:=eE_ k hl
   have e5:((l.length:Int)-(k:Int)).toNat=l.length-k:=by omega
   have e6:List.take ((l.length-k)*32) (dgL (l.drop k))=dgL (l.drop k):=List.take_of_length_le (by rw[aT_ (all32_drop hl k),ld];omega)
   have l1:=aO_ (l.take k)
   have l2:=aO_ (l.drop k)
   have ht1:=ev_ hsum (l.take k) (all32_take hl k) (by rw[lt];omega) (by rw[lt];omega)
   have ht2:=ev_ hsum (l.drop k) (all32_drop hl k) (by rw[ld];omega) (by rw[ld];omega)
   by_cases hik:i<k
   ·rw[if_pos hik] at hp2
    have hr:=ih (l.take k) i (by rw[lt];omega) (all32_take hl k) (by rw[lt];omega) (by rw[lt];omega)
    have hpl:(pathB l i).length=(pathB (l.take k) i).length+1:=by rw[hp2];simp
    have hpd:dgL (pathB l i)=dgL (pathB (l.take k) i)++bys (treeB (l.drop k)):=by rw[hp2,dgL_snoc]
    have hq32:=gn_ l.length (l.take k) i (by rw[lt];omega)
    have lq:=aT_ hq32
    have hql:(pathB (l.take k) i).length≤65536:=by
     rw[(iw_ _ (l.take k) i (Nat.le_refl _) (by rw[lt];omega)).1]
     have:=fX_ (l.take k).length i (l.take k).length (Nat.le_refl _)
     omega
    rw[hpl,hpd]
    generalize pathB (l.take k) i=q at *
    generalize treeB (l.drop k)=b at *
    refine ad_ (pn:=an_) ac_ Tryz.func229 rfl fun β0=>?_
    simp only[Tryz.f229]
    repeat(first|apply wG|(apply wR;simp -dsimp[slG])|refine aI ?_)
    refine cF (by simp;omega) ?_
    refine WP.skip ?_
    simp -dsimp
    repeat(first|apply wG|(apply wR;simp -dsimp[slG])|refine aI ?_)
    refine aa_ en_ hh rfl rfl (by simp) ?_
    simp -dsimp
    repeat(first|apply wG|(apply wR;simp -dsimp[slG])|refine aI ?_)
    refine cT (by simp;omega) ?_
    repeat(first|apply wG|(apply wR;simp -dsimp[slG,e1,lt])|refine aI ?_)
    refine vcStop.call eg_ (hr) (rl [(0,700)]) rfl rfl (by simp[slG,e1,lt,BoxLeq]) (ag_ (by simp[slG,e1,lt,BoxLeq]) rfl (by first|rfl|(simp[slG,e1,lt,BoxLeq];done)) (by simp[slG,e1,lt,BoxLeq]) (by simp[slG,e1,lt,BoxLeq])) (fun _ h=>h.elim) (fun ⟨_,h⟩=>h.elim) (fun ⟨_,h⟩=>h.elim) (by simp[slG,e1,lt,BoxLeq]) ?_
    simp -dsimp
    repeat(first|apply wG|(apply wR;simp -dsimp[slG])|refine aI ?_)
    refine aa_ b8_ ht2 rfl rfl (by simp[slG,e2,ld,e5,e6]) ?_
    simp -dsimp[dD,setL_whole,ah_,l2]
    refine And.intro (fun a h=>ap_ h) ?_
    refine sG ?_
    refine WP.ret (aj_ (S':=mkS 40 [(4,.row 0)] [(0,.row 87 32 (q.length+1) ((dgL q++bys b).map .d))]) (Wk.go [25] 26 0 (by decide) (by simp) (by simp) (by simp)) ?_)
    simp -dsimp
   ·rw[if_neg hik] at hp2
    have hr:=ih (l.drop k) (i-k) (by rw[ld];omega) (all32_drop hl k) (by rw[ld];omega) (by rw[ld];omega)
    have hpl:(pathB l i).length=(pathB (l.drop k) (i-k)).length+1:=by rw[hp2];simp
    have hpd:dgL (pathB l i)=dgL (pathB (l.drop k) (i-k))++bys (treeB (l.take k)):=by rw[hp2,dgL_snoc]
    have hq32:=gn_ l.length (l.drop k) (i-k) (by rw[ld];omega)
    have lq:=aT_ hq32
    have e7:IntKind.i64.wrap ((i:Int)-k)=((i-k:Nat):Int):=by rw[IntWalk.i64_in _ (by omega)];omega
    have hql:(pathB (l.drop k) (i-k)).length≤65536:=by
     rw[(iw_ _ (l.drop k) (i-k) (Nat.le_refl _) (by rw[ld];omega)).1]
     have:=fX_ (l.drop k).length (i-k) (l.drop k).length (Nat.le_refl _)
     omega
    rw[hpl,hpd]
    generalize pathB (l.drop k) (i-k)=q at *
    generalize treeB (l.take k)=b at *
    refine ad_ (pn:=an_) ac_ Tryz.func229 rfl fun β0=>?_
    simp only[Tryz.f229]
    repeat(first|apply wG|(apply wR;simp -dsimp[slG])|refine aI ?_)
    refine cF (by simp;omega) ?_
    refine WP.skip ?_
    simp -dsimp
    repeat(first|apply wG|(apply wR;simp -dsimp[slG])|refine aI ?_)
    refine aa_ en_ hh rfl rfl (by simp) ?_
    simp -dsimp
    repeat(first|apply wG|(apply wR;simp -dsimp[slG])|refine aI ?_)
    refine cF (by simp;omega) ?_
    refine WP.skip ?_
    simp -dsimp
    repeat(first|apply wG|(apply wR;simp -dsimp[slG,e2,ld,e5,e6,e7])|refine aI ?_)
    refine vcStop.call eg_ (hr) (rl [(0,700)]) rfl rfl (by simp[slG,e2,ld,e5,e6,e7,BoxLeq]) (ag_ (by simp[slG,e2,ld,e5,e6,e7,BoxLeq]) rfl (by first|rfl|(simp[slG,e2,ld,e5,e6,e7,BoxLeq];done)) (by simp[slG,e2,ld,e5,e6,e7,BoxLeq]) (by simp[slG,e2,ld,e5,e6,e7,BoxLeq])) (fun _ h=>h.elim) (fun ⟨_,h⟩=>h.elim) (fun ⟨_,h⟩=>h.elim) (by simp[slG,e2,ld,e5,e6,e7,BoxLeq]) ?_
    simp -dsimp
    repeat(first|apply wG|(apply wR;simp -dsimp[slG])|refine aI ?_)
    refine aa_ b8_ ht1 rfl rfl (by simp[slG,e1,lt]) ?_
    simp -dsimp[dD,setL_whole,ah_,l1]
    refine And.intro (fun a h=>ap_ h) ?_
    refine sG ?_
    refine WP.ret (aj_ (S':=mkS 40 [(4,.row 0)] [(0,.row 87 32 (q.length+1) ((dgL q++bys b).map .d))]) (Wk.go [38] 39 0 (by decide) (by simp) (by simp) (by simp)) ?_)
    simp -dsimp
theorem rI_ (hsum:∀ b:List UInt8,b.length≤100000→Fn0 Tryz.prog 202 [slB b] (dD (gb_ b))) (l:List Dg) (hl:a9_ l) (hn:l.length≤65536) (i:Nat) (hi:i<l.length):Fn0 Tryz.prog 178 [slG l,.v (.int .i64 i)] (.tup [slG (pathB l i),.v (.int .i64 0)]):=by
 have hr:=tj_ hsum l.length l i (Nat.le_refl _) hl hi hn
 generalize pathB l i=q at *
 refine ad_ (pn:=an_) ac_ Tryz.func178 rfl fun β0=>?_
 simp only[Tryz.f178]
 repeat(first|apply wG|(apply wR;simp -dsimp[slG])|refine aI ?_)
 refine cF (by simp;omega) ?_
 refine WP.skip ?_
 simp -dsimp
 repeat(first|apply wG|(apply wR;simp -dsimp[slG])|refine aI ?_)
 refine vcStop.call eg_ (hr) (rl [(0,700)]) rfl rfl (by simp[slG,BoxLeq]) (ag_ (by simp[slG,BoxLeq]) rfl (by first|rfl|(simp[slG,BoxLeq];done)) (by simp[slG,BoxLeq]) (by simp[slG,BoxLeq])) (fun _ h=>h.elim) (fun ⟨_,h⟩=>h.elim) (fun ⟨_,h⟩=>h.elim) (by simp[slG,BoxLeq]) ?_
 simp -dsimp
 refine sG ?_
 refine WP.ret (aj_ (Wk.freeze (k:=700) (T:=87) (sz:=32) (n:=q.length) (ds:=dgL q) (by simp)) ?_)
 simp -dsimp[slG]
end Go.Proofs.YtfgcgagcpnbgmaaGreatDoor
set_option maxRecDepth 10000
set_option maxHeartbeats 4000000
namespace Go.Proofs.YtfgcgagcpnbgmaaGreatDoor
open Go.Xe Go.RowKit
abbrev rsS (seed:List UInt8) (m u:Int) (i:Nat) (f:Nat→Bool) (x:List Bool) (pb:List Dg) (j:Nat):St :=
 mkS 77 [(1,.d (.v (.int .i64 i))),(3,.ptr 3 0),(6,.ptr 6 0),(8,.d (slG pb)),(9,.ptr 9 0),(10,.d (.sl 1 (boD x) 64 false)),(11,.d (.v (.int .i64 j)))]
  [(3,.cells 24 [.d (slB seed),.d (.v (.int .i64 m)),.d (.v (.int .i64 u))]),(6,.cells 80 (zsC.map .d)),(9,.cells 80 [.d (.v (.int .i64 i)),.row 500,.row 501,.d (.v (.slice none 0 0))]),(500,.row 87 32 j ((dgL (openedB seed i f j)).map .d)),(501,.row 87 32 j ((dgL (closedB seed i f j)).map .d))]
theorem oU_ (hsum:∀ b:List UInt8,b.length≤100000→Fn0 Tryz.prog 202 [slB b] (dD (gb_ b))) (seed:List UInt8) (hs:seed.length≤1000) (m:Nat) (u:Int) (i:Nat) (him:i<m) (hv:keyV seed m u=true) (msg:List UInt8) (hm:msg.length≤65536) :
  Fn0 Tryz.prog 105 [keyD seed m u,.v (.int .i64 i),slB msg] (.tup [.agg (su_ seed m i msg),.v (.int .i64 0)]):=by
 have h18:=dq_ seed m u
 rw[hv] at h18
 have hm4:m≤4096:=by simp only[keyV,decide_eq_true_eq] at hv;omega
 have h20:=j3_ hsum seed hs m hm4 u
 have hpl:=bw_ seed m
 have h32:=ex_ seed m
 have h38:=rI_ hsum (pubsB seed m) h32 (by omega) i (by omega)
 have h19:=ev_ hsum (pubsB seed m) h32 (by omega) (by omega)
 have lT:=aO_ (pubsB seed m)
 have h39:=rN_ hsum (treeB (pubsB seed m)) lT i (by omega) msg hm
 have lx:=p8_ (treeB (pubsB seed m)) i msg
 have hxj:∀ j,j<64→(sgnB (treeB (pubsB seed m)) i msg).getD j false=kbB seed m i msg j:=fun j hj=>by
  rw[sgnB,List.getD_eq_getElem?_getD,List.getElem?_map,List.getElem?_range hj];rfl
 unfold su_
 generalize kbB seed m i msg=f at *
 generalize sgnB (treeB (pubsB seed m)) i msg=x at *
 generalize treeB (pubsB seed m)=T at *
 generalize pathB (pubsB seed m) i=pa at *
 generalize pubsB seed m=pb at *
 have w0:IntKind.i64.wrap 0=0:=by decide
 have w1:IntKind.i64.wrap 1=1:=by decide
 refine ad_ (pn:=an_) ac_ Tryz.func105 rfl fun β0=>?_
 simp only[Tryz.f105]
 repeat(first|apply wG|(apply wR;simp -dsimp[keyD,slB])|refine aI ?_)
 refine aa_ dD_ h18 rfl rfl (by simp[keyD,slB]) ?_
 simp -dsimp
 refine sG ?_
 refine cF (by simp) ?_
 refine WP.skip ?_
 simp -dsimp
 repeat(first|apply wG|(apply wR;simp -dsimp[slB])|refine aI ?_)
 refine cF (by simp;omega) ?_
 refine WP.skip ?_
 simp -dsimp
 refine sG ?_
 refine cF (by simp;omega) ?_
 refine WP.skip ?_
 simp -dsimp
 refine sG ?_
 refine aa_ je_ h20 rfl rfl (by simp[keyD,slB]) ?_
 simp -dsimp
 repeat(first|apply wG|(apply wR;simp -dsimp[slG])|refine aI ?_)
 refine aa_ b8_ h19 rfl rfl (by simp[slG]) ?_
 simp -dsimp
 refine sG ?_
 refine ao_ nL_ h39 rfl rfl (And.intro (.refl _) (And.intro (by simp) (And.intro (by simp[slB]) trivial))) ?_
 simp -dsimp
 refine sG ?_
 have hlo:∀ j,j≤64→(dgL (openedB seed i f j)).length=j*32:=fun j _=>by rw[aT_ (ez_ seed i f j),bx_]
 have hlc:∀ j,j≤64→(dgL (closedB seed i f j)).length=j*32:=fun j _=>by rw[aT_ (eH_ seed i f j),bA_]
 refine ai_ (fun q S=>∃ j:Nat,q=64-j∧j≤64∧S=rsS seed m u i f x pb j) 64 (S0:=rsS seed m u i f x pb 0) ((bf_ 9 1 500 87 32 (by simp;exact⟨rfl,rfl⟩) rfl (by simp)).trans ((bf_ 9 2 501 87 32 (by simp;exact⟨rfl,rfl⟩) rfl (by simp)).trans (af_ [] (by simp[slG]) (by simp[slB,openedB,closedB,dgL])))) ⟨0,rfl,by omega,rfl⟩ ?_
 rintro _ _ ⟨j,rfl,hj,rfl⟩
 simp -dsimp
 refine sG ?_
 by_cases hj64:j<64
 ·refine cT (by simp;omega) ?_
  refine WP.skip ?_
  have e1:IntKind.i64.wrap ((j:Int)+1)=((j+1:Nat):Int):=by rw[IntWalk.i64_in _ (by omega)];omega
  have ha:=x7_ x j (by omega)
  have hg:=x6_ x j (by omega)
  rw[hxj j hj64] at ha hg
  have h40:=cM_ hsum seed hs m u i (by omega) j hj64 (f j)
  have h41:=cM_ hsum seed hs m u i (by omega) j hj64 (!f j)
  have l40:(secretB seed i j (f j)).length=32:=aH_ _ _
  have l41:(secretB seed i j (!f j)).length=32:=aH_ _ _
  have h37:=gj_ hsum (secretB seed i j (!f j)) l41
  have l37:(keyH seed i j (!f j)).length=32:=aH_ _ _
  rw[show openB (secretB seed i j (!f j))=keyH seed i j (!f j) from rfl] at h37
  have ho1:openedB seed i f (j+1)=openedB seed i f j++[secretB seed i j (f j)]:=rfl
  have hc1:closedB seed i f (j+1)=closedB seed i f j++[keyH seed i j (!f j)]:=rfl
  have hlo1:=hlo j hj
  have hlc1:=hlc j hj
  generalize secretB seed i j (f j)=sc at *
  generalize keyH seed i j (!f j)=hc at *
  generalize secretB seed i j (!f j)=sd at *
  generalize f j=b at *
  simp -dsimp[slB]
  repeat(first|apply wG|(apply wR;simp -dsimp[ha,hg,gI_,lx,hj64,slB])|refine aI ?_)
  cases b with
  | true =>
   rw[show bI true=1 from rfl] at h40
   rw[show bI (!true)=0 from rfl] at h41
   refine cT (by simp) ?_
   repeat(first|apply wG|(apply wR;simp -dsimp[slB])|refine aI ?_)
   refine aa_ bU_ h40 rfl rfl (by simp[keyD,slB]) ?_
   simp -dsimp[dD,setL_whole,ah_,l40]
   refine And.intro (fun a h=>ap_ h) ?_
   repeat(first|apply wG|(apply wR;simp -dsimp[setL_whole,ah_,l40,slB,w0,w1])|refine aI ?_)
   refine aa_ bU_ h41 rfl rfl (by simp[keyD,slB,w0,w1]) ?_
   simp -dsimp
   refine sG ?_
   refine ao_ cY_ h37 rfl rfl (And.intro (.refl _) trivial) ?_
   simp -dsimp[dD,setL_whole,ah_,l37]
   refine And.intro (fun a h=>ap_ h) ?_
   repeat(first|apply wG|(apply wR;simp -dsimp[setL_whole,ah_,l37])|refine aI ?_)
   refine loopW.next (rsS seed m u i f x pb (j+1)) (vb_ [54,66] 55 500 67 501 (by decide) (by decide) (by simp[slG]) (by simp[slG]) (by simp[slG,e1]) (by simp[slB,ho1,hc1,dgL_snoc])) (64-(j+1)) (by omega) ⟨j+1,rfl,by omega,rfl⟩
  | false =>
   rw[show bI false=0 from rfl] at h40
   rw[show bI (!false)=1 from rfl] at h41
   refine cF (by simp) ?_
   refine WP.skip ?_
   simp -dsimp
   repeat(first|apply wG|(apply wR;simp -dsimp[slB])|refine aI ?_)
   refine aa_ bU_ h40 rfl rfl (by simp[keyD,slB]) ?_
   simp -dsimp[dD,setL_whole,ah_,l40]
   refine And.intro (fun a h=>ap_ h) ?_
   repeat(first|apply wG|(apply wR;simp -dsimp[setL_whole,ah_,l40,slB,w0,w1])|refine aI ?_)
   refine aa_ bU_ h41 rfl rfl (by simp[keyD,slB,w0,w1]) ?_
   simp -dsimp
   refine sG ?_
   refine ao_ cY_ h37 rfl rfl (And.intro (.refl _) trivial) ?_
   simp -dsimp[dD,setL_whole,ah_,l37]
   refine And.intro (fun a h=>ap_ h) ?_
   repeat(first|apply wG|(apply wR;simp -dsimp[setL_whole,ah_,l37])|refine aI ?_)
   refine loopW.next (rsS seed m u i f x pb (j+1)) (vb_ [54,66] 55 500 67 501 (by decide) (by decide) (by simp[slG]) (by simp[slG]) (by simp[slG,e1]) (by simp[slB,ho1,hc1,dgL_snoc])) (64-(j+1)) (by omega) ⟨j+1,rfl,by omega,rfl⟩
 ·refine cF (by simp;omega) ?_
  refine WP.exit ?_
  obtain rfl:j=64:=by omega
  have lo:=bx_ seed i f 64
  have lc:=bA_ seed i f 64
  generalize openedB seed i f 64=op at *
  generalize closedB seed i f 64=cl at *
  refine ar_ ((Wk.freeze (k:=500) (T:=87) (sz:=32) (n:=64) (ds:=dgL op) (by simp)).trans (Wk.freeze (k:=501) (T:=87) (sz:=32) (n:=64) (ds:=dgL cl) (by simp))) ?_
  simp -dsimp[slG]
  repeat(first|apply wG|(apply wR;simp -dsimp[slG])|refine aI ?_)
  refine aa_ nK_ h38 rfl rfl (by simp[slG]) ?_
  simp -dsimp[slG]
  repeat(first|apply wG|(apply wR;simp -dsimp[slG])|refine aI ?_)
  refine WP.ret (ab_ ?_)
  simp -dsimp
  rw[f3_,slG,slG,slG,lo,lc]
  exact st_ [.v (.int .i64 i),.sl 32 (dgL op) 64 false,.sl 32 (dgL cl) 64 false,.sl 32 (dgL pa) pa.length false] _
theorem oT_ (seed:List UInt8) (m u:Int) (i:Int) (hi:0≤i) (hno:keyV seed m u=true→m≤i) (msg:List UInt8) (hm:msg.length≤65536) :
  Fn0 Tryz.prog 105 [keyD seed m u,.v (.int .i64 i),slB msg] (.tup [.agg zsC,.v (.int .i64 40)]):=by
 have h18:=dq_ seed m u
 refine ad_ (pn:=an_) ac_ Tryz.func105 rfl fun β0=>?_
 simp only[Tryz.f105]
 repeat(first|apply wG|(apply wR;simp -dsimp[keyD,slB])|refine aI ?_)
 refine aa_ dD_ h18 rfl rfl (by simp[keyD,slB]) ?_
 simp -dsimp
 refine sG ?_
 by_cases hv:keyV seed m u=true
 ·have hmi:=hno hv
  refine cF (by simp[hv]) ?_
  refine WP.skip ?_
  simp -dsimp
  repeat(first|apply wG|(apply wR;simp -dsimp[slB])|refine aI ?_)
  refine cF (by simp;omega) ?_
  refine WP.skip ?_
  simp -dsimp
  refine sG ?_
  refine cT (by simp;omega) ?_
  refine sG ?_
  refine WP.ret (ab_ ?_)
  simp -dsimp
 ·refine cT (by simp[hv]) ?_
  refine sG ?_
  refine WP.ret (ab_ ?_)
  simp -dsimp
set_option maxRecDepth 10000 in
set_option maxHeartbeats 1000000 in
theorem mk_ (seed:List UInt8) (m u:Int) (f:Nat→Int) (hf:fOk f) :
  Fn0 Tryz.prog 60 [keyD seed m u,fD f] (.tup [.agg (sgnR seed m u f).1,.v (.int .i64 (sgnR seed m u f).2)]):=by
 have h72:=is_ f hf
 rw[← (tU_ hf).1] at h72
 have hl57:=a4_ f
 refine ad_ (pn:=an_) ac_ Tryz.func60 rfl fun β0=>?_
 simp only[Tryz.f60]
 repeat(first|apply wG|(apply wR;simp -dsimp[keyD,slB,fD])|refine aI ?_)
 refine ao_ hw_ h72 rfl rfl (And.intro (by simp[fD];try exact al_ _) trivial) ?_
 simp -dsimp
 refine sG ?_
 unfold sgnR
 by_cases hv:(numF f).2=true
 ·rw[if_pos hv]
  obtain⟨_,hf1,hf1'⟩:=xG_ hv
  refine cF (by simp[hv]) ?_
  refine WP.skip ?_
  have e1:IntKind.i64.wrap (f 1-1)=f 1-1:=IntWalk.i64_in _ (by omega)
  have hmsg:=tl_ fB_ f hf
  have hml:=h0_ f
  simp -dsimp
  repeat(first|apply wG|(apply wR;simp -dsimp[e1])|refine aI ?_)
  refine ao_ ob_ hmsg rfl rfl (And.intro (by simp[fD];try exact al_ _) trivial) ?_
  simp -dsimp
  repeat(first|apply wG|(apply wR;simp -dsimp[e1])|refine aI ?_)
  by_cases hk:keyV seed m u=true∧f 1-1<m
  ·rw[if_pos hk]
   obtain⟨hk1,hk2⟩:=hk
   obtain⟨M,rfl⟩:∃ M:Nat,m=M:=⟨m.toNat,by omega⟩
   obtain⟨N,hN⟩:∃ N:Nat,f 1-1=N:=⟨(f 1-1).toNat,by omega⟩
   rw[hN,Int.toNat_natCast,Int.toNat_natCast]
   have hs:seed.length≤1000:=by simp only[keyV,decide_eq_true_eq] at hk1;omega
   have h21:=oU_ fB_ seed hs M u N (by omega) hk1 (msgB f) (by omega)
   refine ao_ hv_ h21 rfl rfl (And.intro (by simp[keyD,slB];try exact al_ [.sl 1 (bys seed) seed.length false,.v (.int .i64 M),.v (.int .i64 u)]) (And.intro (by simp[hN]) (And.intro (by simp[slB]) trivial))) ?_
   simp -dsimp[su_,f3_,slG]
   repeat(first|apply wG|(apply wR;simp -dsimp[su_,f3_,slG])|refine aI ?_)
   refine cF (by simp) ?_
   refine WP.skip ?_
   have lo:=bx_ seed N (kbB seed M N (msgB f)) 64
   have lc:=bA_ seed N (kbB seed M N (msgB f)) 64
   unfold su_
   generalize openedB seed N (kbB seed M N (msgB f)) 64=op at *
   generalize closedB seed N (kbB seed M N (msgB f)) 64=cl at *
   generalize pathB (pubsB seed M) N=pa at *
   clear h72 hmsg hml e1 h21
   have t57:List.take 57 ((fcs f 0 57).map AV.d)=(fcs f 0 57).map .d:=List.take_of_length_le (by rw[List.length_map,hl57];exact Nat.le_refl _)
   simp -dsimp
   refine WP.seq ?_
   refine WP.region ac_ ?_
   simp -dsimp[hl57,t57,dp_,AK_]
   refine And.intro (fun a h=>fcs_side h) ?_
   refine And.intro (fun c h=>?_) ?_
   ·rcases h with⟨a,ha,rfl⟩|rfl|rfl|rfl|rfl
    ·exact fcs_side ha
    all_goals rfl
   refine WP.ret (ab_ ?_)
   have ht:=st_ (fcs f 0 57++f3_ N op cl pa) (.v (.int .i64 0))
   rw[List.map_append] at ht
   have h61:List.take 61 ((fcs f 0 57).map AV.d++[AV.d (D.v (Value.int IntKind.i64 ↑N)),AV.d (D.sl 32 (dgL op) op.length false),AV.d (D.sl 32 (dgL cl) cl.length false),AV.d (D.sl 32 (dgL pa) pa.length false)])=(fcs f 0 57).map AV.d++[AV.d (D.v (Value.int IntKind.i64 ↑N)),AV.d (D.sl 32 (dgL op) op.length false),AV.d (D.sl 32 (dgL cl) cl.length false),AV.d (D.sl 32 (dgL pa) pa.length false)]:=List.take_of_length_le (by simp[hl57])
   simp -dsimp[h61]
   exact ht
  ·rw[if_neg hk]
   have h21:=oT_ seed m u (f 1-1) (by omega) (fun h=>by
    by_cases hlt:f 1-1<m
    ·exact absurd ⟨h,hlt⟩ hk
    ·omega) (msgB f) (by omega)
   refine ao_ hv_ h21 rfl rfl (And.intro (by simp[keyD,slB];try exact al_ [.sl 1 (bys seed) seed.length false,.v (.int .i64 m),.v (.int .i64 u)]) (And.intro (by simp) (And.intro (by simp[slB]) trivial))) ?_
   simp -dsimp
   refine sG ?_
   refine cT (by simp) ?_
   refine sG ?_
   refine WP.ret (ab_ ?_)
   simp -dsimp
   exact st_ (fcs f0 0 57++zsC) _
 ·rw[if_neg hv]
  refine cT (by simp[hv]) ?_
  refine sG ?_
  refine WP.ret (ab_ ?_)
  simp -dsimp[hv]
  exact st_ (fcs f0 0 57++zsC) _
theorem LeqL.data:∀ {a b:List D},DLes a b→LeqL (a.map .d) (b.map .d)
 | [],[],_=>trivial
 | _::_,_::_,h=>⟨Leq.data h.1,LeqL.data h.2⟩
 | [],_::_,h=>h.elim
 | _::_,[],h=>h.elim
theorem vl_ (l:List D):Leq (.d (.tup l)) (.tup (l.map .d)):=fun w I β v hv=>by
 rw[DenA,Den] at hv;obtain⟨vs,e,hd⟩:=hv;exact⟨vs,e,.of_dens hd⟩
theorem yb_ {d d':D} (h:Leq (.d d) (.d d')):DLe d d':=fun w I v hv=>by
 have k:=h w I (fun _=>.bool false) v (by rw[DenA];exact hv)
 rw[DenA] at k
 exact k
theorem DLe.agg {a b:List D} (h:DLes a b):DLe (.agg a) (.agg b):=yb_ ((of_ a).trans ((Leq.agg (LeqL.data h)).trans (al_ b)))
theorem DLe.tup {a b:List D} (h:DLes a b):DLe (.tup a) (.tup b):=yb_ ((vl_ a).trans ((Leq.tup (LeqL.data h)).trans (f2_ b)))
end Go.Proofs.YtfgcgagcpnbgmaaGreatDoor
