/-
  Joined texts.
-/
import Derived.Test.YtfgcgagcpnbgmaaGreatDoorGFC
import Derived.Test.YtfgcgagcpnbgmaaGreatDoorG4
set_option linter.all false
set_option maxRecDepth 10000
set_option maxHeartbeats 4000000
namespace Go.Proofs.YtfgcgagcpnbgmaaGreatDoor
open Go.Xe Go.RowKit
abbrev inB (x lo hi:Int):Bool:=decide (lo≤x)&&decide (x≤hi)
theorem cD_ (x lo hi:Int):Fn0 Tryz.prog 174 [.v (.int .i64 x),.v (.int .i64 lo),.v (.int .i64 hi)] (.v (.bool (inB x lo hi))):=by
 refine ad_ (pn:=an_) ac_ Tryz.func174 rfl fun β0=>?_
 simp only[Tryz.f174]
 refine sG ?_
 refine WP.ret (ab_ ?_)
 simp -dsimp
theorem cl_ (x:Int):Fn0 Tryz.prog 223 [.v (.int .i64 x)] (.v (.bool (inB x (-1099511627776) 1099511627776))):=by
 refine ad_ (pn:=an_) ac_ Tryz.func223 rfl fun β0=>?_
 simp only[Tryz.f223]
 refine sG ?_
 refine aa_ as_ (cD_ x (-1099511627776) 1099511627776) rfl rfl (by simp) ?_
 simp -dsimp
 refine sG ?_
 refine WP.ret (ab_ ?_)
 simp -dsimp
theorem gZ_ (x:Int):Fn0 Tryz.prog 225 [.v (.int .i64 x)] (.v (.bool (inB x (1) 9999))):=by
 refine ad_ (pn:=an_) ac_ Tryz.func225 rfl fun β0=>?_
 simp only[Tryz.f225]
 refine sG ?_
 refine aa_ as_ (cD_ x (1) 9999) rfl rfl (by simp) ?_
 simp -dsimp
 refine sG ?_
 refine WP.ret (ab_ ?_)
 simp -dsimp
theorem mL_ (x:Int):Fn0 Tryz.prog 220 [.v (.int .i64 x)] (.v (.bool (inB x (0) 39))):=by
 refine ad_ (pn:=an_) ac_ Tryz.func220 rfl fun β0=>?_
 simp only[Tryz.f220]
 refine sG ?_
 refine aa_ as_ (cD_ x (0) 39) rfl rfl (by simp) ?_
 simp -dsimp
 refine sG ?_
 refine WP.ret (ab_ ?_)
 simp -dsimp
theorem fU_ (x:Int):Fn0 Tryz.prog 221 [.v (.int .i64 x)] (.v (.bool (inB x (0) 255))):=by
 refine ad_ (pn:=an_) ac_ Tryz.func221 rfl fun β0=>?_
 simp only[Tryz.f221]
 refine sG ?_
 refine aa_ as_ (cD_ x (0) 255) rfl rfl (by simp) ?_
 simp -dsimp
 refine sG ?_
 refine WP.ret (ab_ ?_)
 simp -dsimp
theorem uZ_ (x:Int):Fn0 Tryz.prog 222 [.v (.int .i64 x)] (.v (.bool (inB x (0) 1048576))):=by
 refine ad_ (pn:=an_) ac_ Tryz.func222 rfl fun β0=>?_
 simp only[Tryz.f222]
 refine sG ?_
 refine aa_ as_ (cD_ x (0) 1048576) rfl rfl (by simp) ?_
 simp -dsimp
 refine sG ?_
 refine WP.ret (ab_ ?_)
 simp -dsimp
theorem my_ (x:Int):Fn0 Tryz.prog 226 [.v (.int .i64 x)] (.v (.bool (inB x (0) 255))):=by
 refine ad_ (pn:=an_) ac_ Tryz.func226 rfl fun β0=>?_
 simp only[Tryz.f226]
 refine sG ?_
 refine aa_ as_ (cD_ x (0) 255) rfl rfl (by simp) ?_
 simp -dsimp
 refine sG ?_
 refine WP.ret (ab_ ?_)
 simp -dsimp
theorem lE_ (x:Int):Fn0 Tryz.prog 227 [.v (.int .i64 x)] (.v (.bool (inB x (1) 1048576))):=by
 refine ad_ (pn:=an_) ac_ Tryz.func227 rfl fun β0=>?_
 simp only[Tryz.f227]
 refine sG ?_
 refine aa_ as_ (cD_ x (1) 1048576) rfl rfl (by simp) ?_
 simp -dsimp
 refine sG ?_
 refine WP.ret (ab_ ?_)
 simp -dsimp
theorem mJ_ (x:Int):Fn0 Tryz.prog 173 [.v (.int .i64 x)] (.v (.bool (inB x (1) 1048576))):=by
 refine ad_ (pn:=an_) ac_ Tryz.func173 rfl fun β0=>?_
 simp only[Tryz.f173]
 refine sG ?_
 refine aa_ as_ (cD_ x (1) 1048576) rfl rfl (by simp) ?_
 simp -dsimp
 refine sG ?_
 refine WP.ret (ab_ ?_)
 simp -dsimp
theorem uJ_ (x:Int):Fn0 Tryz.prog 172 [.v (.int .i64 x)] (.v (.bool (inB x (0) 31))):=by
 refine ad_ (pn:=an_) ac_ Tryz.func172 rfl fun β0=>?_
 simp only[Tryz.f172]
 refine sG ?_
 refine aa_ as_ (cD_ x (0) 31) rfl rfl (by simp) ?_
 simp -dsimp
 refine sG ?_
 refine WP.ret (ab_ ?_)
 simp -dsimp
theorem rl_ (f:Nat→Int):Fn0 Tryz.prog 219 [.agg (fcs f 4 8)] (.v (.bool (inB (f 4) 1 9999&&inB (f 5) 0 7&&inB (f 6) 0 31&&inB (f 7) (-1099511627776) 1099511627776&&inB (f 8) 0 120&&inB (f 9) 0 1048576&&inB (f 10) 0 9999&&inB (f 11) 0 1048576))):=by
 refine ad_ (pn:=an_) ac_ Tryz.func219 rfl fun β0=>?_
 simp only[Tryz.f219]
 refine sG ?_
 refine aa_ bh_ (gZ_ (f 4)) rfl rfl (by simp) ?_
 simp -dsimp
 repeat refine aI ?_
 refine ae_ as_ (fun _=>cD_ (f 5) (0) (7)) rfl (fun _=>rfl) (fun _=>by simp) ?_
 simp -dsimp
 repeat refine aI ?_
 refine ae_ as_ (fun _=>cD_ (f 6) (0) (31)) rfl (fun _=>rfl) (fun _=>by simp) ?_
 simp -dsimp
 repeat refine aI ?_
 refine ae_ aL_ (fun _=>cl_ (f 7)) rfl (fun _=>rfl) (fun _=>by simp) ?_
 simp -dsimp
 repeat refine aI ?_
 refine ae_ as_ (fun _=>cD_ (f 8) (0) (120)) rfl (fun _=>rfl) (fun _=>by simp) ?_
 simp -dsimp
 repeat refine aI ?_
 refine ae_ g8_ (fun _=>uZ_ (f 9)) rfl (fun _=>rfl) (fun _=>by simp) ?_
 simp -dsimp
 repeat refine aI ?_
 refine ae_ as_ (fun _=>cD_ (f 10) (0) (9999)) rfl (fun _=>rfl) (fun _=>by simp) ?_
 simp -dsimp
 repeat refine aI ?_
 refine ae_ as_ (fun _=>cD_ (f 11) (0) (1048576)) rfl (fun _=>rfl) (fun _=>by simp) ?_
 simp -dsimp
 repeat refine aI ?_
 refine sG ?_
 refine WP.ret (ab_ ?_)
 simp -dsimp
theorem yn_ (f:Nat→Int):Fn0 Tryz.prog 224 [.agg (fcs f 21 8)] (.v (.bool (inB (f 21) 0 39&&inB (f 24) 0 39&&inB (f 22) 0 255&&inB (f 25) 0 255&&inB (f 23) (-1099511627776) 1099511627776&&inB (f 26) (-1099511627776) 1099511627776&&inB (f 27) (-1099511627776) 1099511627776&&inB (f 28) (-1099511627776) 1099511627776&&decide (f 27≤f 28)))):=by
 refine ad_ (pn:=an_) ac_ Tryz.func224 rfl fun β0=>?_
 simp only[Tryz.f224]
 refine sG ?_
 refine aa_ ch_ (mL_ (f 21)) rfl rfl (by simp) ?_
 simp -dsimp
 repeat refine aI ?_
 refine ae_ ch_ (fun _=>mL_ (f 24)) rfl (fun _=>rfl) (fun _=>by simp) ?_
 simp -dsimp
 repeat refine aI ?_
 refine ae_ cg_ (fun _=>fU_ (f 22)) rfl (fun _=>rfl) (fun _=>by simp) ?_
 simp -dsimp
 repeat refine aI ?_
 refine ae_ cg_ (fun _=>fU_ (f 25)) rfl (fun _=>rfl) (fun _=>by simp) ?_
 simp -dsimp
 repeat refine aI ?_
 refine ae_ aL_ (fun _=>cl_ (f 23)) rfl (fun _=>rfl) (fun _=>by simp) ?_
 simp -dsimp
 repeat refine aI ?_
 refine ae_ aL_ (fun _=>cl_ (f 26)) rfl (fun _=>rfl) (fun _=>by simp) ?_
 simp -dsimp
 repeat refine aI ?_
 refine ae_ aL_ (fun _=>cl_ (f 27)) rfl (fun _=>rfl) (fun _=>by simp) ?_
 simp -dsimp
 repeat refine aI ?_
 refine ae_ aL_ (fun _=>cl_ (f 28)) rfl (fun _=>rfl) (fun _=>by simp) ?_
 simp -dsimp
 repeat refine aI ?_
 refine sG ?_
 refine WP.ret (ab_ ?_)
 simp -dsimp
def rC_ (f:Nat→Int):Bool :=
 if f 49=1∨f 49=2 then decide (f 50=0)&&decide (f 51=0)&&decide (f 52=0)
 else if f 49=3 then inB (f 50) 1 9999&&inB (f 51) 0 255&&inB (f 52) 1 1099511627776
 else if f 49=4 then inB (f 50) 1 9999&&inB (f 51) 0 255&&inB (f 52) 1 64
 else if f 49=5 then inB (f 50) 1 9999&&inB (f 51) 0 255&&decide (f 52=0)
 else false
def ta_ (f:Nat→Int):Bool:=(inB (f 47) 1 1048576&&inB (f 48) 1 2)&&rC_ f
theorem s9_ (f:Nat→Int):Fn0 Tryz.prog 228 [.agg (fcs f 47 6)] (.v (.bool (ta_ f))):=by
 refine ad_ (pn:=an_) ac_ Tryz.func228 rfl fun β0=>?_
 simp only[Tryz.f228]
 refine sG ?_
 refine aa_ cW_ (lE_ (f 47)) rfl rfl (by simp) ?_
 simp -dsimp
 repeat refine aI ?_
 refine ae_ as_ (fun _=>cD_ (f 48) (1) (2)) rfl (fun _=>rfl) (fun _=>by simp) ?_
 simp -dsimp
 repeat refine aI ?_
 refine sG ?_
 refine WP.cond (b := !(inB (f 47) 1 1048576&&inB (f 48) 1 2)) (by simp) (fun hb=>?_) (fun hb=>?_)
 ·have hb:(inB (f 47) 1 1048576&&inB (f 48) 1 2)=false:=by simpa only[Bool.not_eq_true'] using hb
  refine sG ?_
  refine WP.ret (ab_ ?_)
  simp -dsimp[ta_,hb]
 have hb:(inB (f 47) 1 1048576&&inB (f 48) 1 2)=true:=by simpa only[Bool.not_eq_false'] using hb
 rw[ta_,hb,Bool.true_and]
 refine WP.skip ?_
 simp -dsimp
 refine sG ?_
 have hr:f 49=1∨f 49=2∨f 49=3∨f 49=4∨f 49=5∨(f 49≠1∧f 49≠2∧f 49≠3∧f 49≠4∧f 49≠5):=by omega
 rcases hr with hr|hr|hr|hr|hr|⟨hr1,hr2,hr3,hr4,hr5⟩
 ·rw[hr]
  refine cT (by simp) ?_
  refine WP.skip ?_
  simp -dsimp
  refine sG ?_
  refine cT (by simp) ?_
  refine sG ?_
  refine WP.ret (ab_ ?_)
  simp -dsimp[rC_,hr]
 ·rw[hr]
  refine cF (by simp) ?_
  refine sG ?_
  refine cT (by simp) ?_
  refine sG ?_
  refine WP.ret (ab_ ?_)
  simp -dsimp[rC_,hr]
 ·rw[hr]
  refine cF (by simp) ?_
  refine sG ?_
  refine cF (by simp) ?_
  refine sG ?_
  refine cT (by simp) ?_
  refine sG ?_
  refine aa_ bh_ (gZ_ (f 50)) rfl rfl (by simp) ?_
  simp -dsimp
  repeat refine aI ?_
  refine ae_ cf_ (fun _=>my_ (f 51)) rfl (fun _=>rfl) (fun _=>by simp) ?_
  simp -dsimp
  repeat refine aI ?_
  refine ae_ as_ (fun _=>cD_ (f 52) (1) (1099511627776)) rfl (fun _=>rfl) (fun _=>by simp) ?_
  simp -dsimp
  repeat refine aI ?_
  refine sG ?_
  refine WP.ret (ab_ ?_)
  simp -dsimp[rC_,hr]
 ·rw[hr]
  refine cF (by simp) ?_
  refine sG ?_
  refine cF (by simp) ?_
  refine sG ?_
  refine cF (by simp) ?_
  refine sG ?_
  refine cT (by simp) ?_
  refine sG ?_
  refine aa_ bh_ (gZ_ (f 50)) rfl rfl (by simp) ?_
  simp -dsimp
  repeat refine aI ?_
  refine ae_ cf_ (fun _=>my_ (f 51)) rfl (fun _=>rfl) (fun _=>by simp) ?_
  simp -dsimp
  repeat refine aI ?_
  refine ae_ as_ (fun _=>cD_ (f 52) (1) (64)) rfl (fun _=>rfl) (fun _=>by simp) ?_
  simp -dsimp
  repeat refine aI ?_
  refine sG ?_
  refine WP.ret (ab_ ?_)
  simp -dsimp[rC_,hr]
 ·rw[hr]
  refine cF (by simp) ?_
  refine sG ?_
  refine cF (by simp) ?_
  refine sG ?_
  refine cF (by simp) ?_
  refine sG ?_
  refine cF (by simp) ?_
  refine sG ?_
  refine cT (by simp) ?_
  refine sG ?_
  refine aa_ bh_ (gZ_ (f 50)) rfl rfl (by simp) ?_
  simp -dsimp
  repeat refine aI ?_
  refine ae_ cf_ (fun _=>my_ (f 51)) rfl (fun _=>rfl) (fun _=>by simp) ?_
  simp -dsimp
  repeat refine aI ?_
  refine sG ?_
  refine WP.ret (ab_ ?_)
  simp -dsimp[rC_,hr]
 ·refine cF (by simp[*]) ?_
  refine sG ?_
  refine cF (by simp[*]) ?_
  refine sG ?_
  refine cF (by simp[*]) ?_
  refine sG ?_
  refine cF (by simp[*]) ?_
  refine sG ?_
  refine cF (by simp[*]) ?_
  refine WP.skip ?_
  simp -dsimp
  refine sG ?_
  refine WP.ret (ab_ ?_)
  simp -dsimp[rC_,hr1,hr2,hr3,hr4,hr5]
def conF (f:Nat→Int):Bool :=
 if f 3=1 then inB (f 4) 1 9999&&inB (f 5) 0 7&&inB (f 6) 0 31&&inB (f 7) (-1099511627776) 1099511627776&&inB (f 8) 0 120&&inB (f 9) 0 1048576&&inB (f 10) 0 9999&&inB (f 11) 0 1048576
 else if f 3=2 then inB (f 12) 0 39&&inB (f 13) 0 255&&inB (f 14) 0 1048576&&inB (f 15) (-1099511627776) 1099511627776
 else if f 3=3 then inB (f 16) 0 39&&inB (f 17) 0 255&&inB (f 18) (-1099511627776) 1099511627776&&inB (f 19) (-1099511627776) 1099511627776&&inB (f 20) 0 1099511627776
 else if f 3=4 then inB (f 21) 0 39&&inB (f 24) 0 39&&inB (f 22) 0 255&&inB (f 25) 0 255&&inB (f 23) (-1099511627776) 1099511627776&&inB (f 26) (-1099511627776) 1099511627776&&inB (f 27) (-1099511627776) 1099511627776&&inB (f 28) (-1099511627776) 1099511627776&&decide (f 27≤f 28)
 else if f 3=5 then inB (f 29) 1 9999&&inB (f 30) 0 255&&inB (f 31) (-1099511627776) 1099511627776&&inB (f 32) (-1099511627776) 1099511627776&&decide (f 31≤f 32)
 else if f 3=6 then inB (f 33) 0 39&&inB (f 34) 0 255&&inB (f 35) (-1099511627776) 1099511627776&&inB (f 36) (-1099511627776) 1099511627776&&decide (f 35≤f 36)
 else if f 3=7 then inB (f 37) 1 9999&&inB (f 38) 1 9999&&decide (f 37<f 38)
 else if f 3=8 then inB (f 39) 1 1048576&&inB (f 40) 1 9999&&inB (f 41) 0 31&&inB (f 42) 0 255
 else if f 3=9 then inB (f 43) 1 1048576&&inB (f 44) 0 9999&&inB (f 45) 0 1125899906842624&&inB (f 46) 0 1
 else if f 3=10 then ta_ f
 else if f 3=11 then inB (f 53) 1 1048576
 else if f 3=12 then true
 else if f 3=13 then inB (f 55) 0 31&&inB (f 56) 1 1048576
 else false
theorem uT_ (f:Nat→Int) (hk:f 3=1):Fn0 Tryz.prog 175 [fD f] (.v (.bool (inB (f 4) 1 9999&&inB (f 5) 0 7&&inB (f 6) 0 31&&inB (f 7) (-1099511627776) 1099511627776&&inB (f 8) 0 120&&inB (f 9) 0 1048576&&inB (f 10) 0 9999&&inB (f 11) 0 1048576))):=by
 refine ad_ (pn:=an_) ac_ Tryz.func175 rfl fun β0=>?_
 simp only[Tryz.f175]
 rw[fD]
 refine sG ?_
 rw[hk]
 refine cT (by simp) ?_
 refine sG ?_
 refine aa_ nu_ (rl_ f) rfl rfl (by simp) ?_
 simp -dsimp
 repeat refine aI ?_
 refine sG ?_
 refine WP.ret (ab_ ?_)
 simp -dsimp
theorem uS_ (f:Nat→Int) (hk:f 3=2):Fn0 Tryz.prog 175 [fD f] (.v (.bool (inB (f 12) 0 39&&inB (f 13) 0 255&&inB (f 14) 0 1048576&&inB (f 15) (-1099511627776) 1099511627776))):=by
 refine ad_ (pn:=an_) ac_ Tryz.func175 rfl fun β0=>?_
 simp only[Tryz.f175]
 rw[fD]
 refine sG ?_
 rw[hk]
 refine cF (by simp) ?_
 refine sG ?_
 refine cT (by simp) ?_
 refine sG ?_
 refine aa_ ch_ (mL_ (f 12)) rfl rfl (by simp) ?_
 simp -dsimp
 repeat refine aI ?_
 refine ae_ cg_ (fun _=>fU_ (f 13)) rfl (fun _=>rfl) (fun _=>by simp) ?_
 simp -dsimp
 repeat refine aI ?_
 refine ae_ g8_ (fun _=>uZ_ (f 14)) rfl (fun _=>rfl) (fun _=>by simp) ?_
 simp -dsimp
 repeat refine aI ?_
 refine ae_ aL_ (fun _=>cl_ (f 15)) rfl (fun _=>rfl) (fun _=>by simp) ?_
 simp -dsimp
 repeat refine aI ?_
 refine sG ?_
 refine WP.ret (ab_ ?_)
 simp -dsimp
theorem uR_ (f:Nat→Int) (hk:f 3=3):Fn0 Tryz.prog 175 [fD f] (.v (.bool (inB (f 16) 0 39&&inB (f 17) 0 255&&inB (f 18) (-1099511627776) 1099511627776&&inB (f 19) (-1099511627776) 1099511627776&&inB (f 20) 0 1099511627776))):=by
 refine ad_ (pn:=an_) ac_ Tryz.func175 rfl fun β0=>?_
 simp only[Tryz.f175]
 rw[fD]
 refine sG ?_
 rw[hk]
 refine cF (by simp) ?_
 refine sG ?_
 refine cF (by simp) ?_
 refine sG ?_
 refine cT (by simp) ?_
 refine sG ?_
 refine aa_ ch_ (mL_ (f 16)) rfl rfl (by simp) ?_
 simp -dsimp
 repeat refine aI ?_
 refine ae_ cg_ (fun _=>fU_ (f 17)) rfl (fun _=>rfl) (fun _=>by simp) ?_
 simp -dsimp
 repeat refine aI ?_
 refine ae_ aL_ (fun _=>cl_ (f 18)) rfl (fun _=>rfl) (fun _=>by simp) ?_
 simp -dsimp
 repeat refine aI ?_
 refine ae_ aL_ (fun _=>cl_ (f 19)) rfl (fun _=>rfl) (fun _=>by simp) ?_
 simp -dsimp
 repeat refine aI ?_
 refine ae_ as_ (fun _=>cD_ (f 20) (0) (1099511627776)) rfl (fun _=>rfl) (fun _=>by simp) ?_
 simp -dsimp
 repeat refine aI ?_
 refine sG ?_
 refine WP.ret (ab_ ?_)
 simp -dsimp
theorem uQ_ (f:Nat→Int) (hk:f 3=4):Fn0 Tryz.prog 175 [fD f] (.v (.bool (inB (f 21) 0 39&&inB (f 24) 0 39&&inB (f 22) 0 255&&inB (f 25) 0 255&&inB (f 23) (-1099511627776) 1099511627776&&inB (f 26) (-1099511627776) 1099511627776&&inB (f 27) (-1099511627776) 1099511627776&&inB (f 28) (-1099511627776) 1099511627776&&decide (f 27≤f 28)))):=by
 refine ad_ (pn:=an_) ac_ Tryz.func175 rfl fun β0=>?_
 simp only[Tryz.f175]
 rw[fD]
 refine sG ?_
 rw[hk]
 refine cF (by simp) ?_
 refine sG ?_
 refine cF (by simp) ?_
 refine sG ?_
 refine cF (by simp) ?_
 refine sG ?_
 refine cT (by simp) ?_
 refine sG ?_
 refine aa_ nt_ (yn_ f) rfl rfl (by simp) ?_
 simp -dsimp
 repeat refine aI ?_
 refine sG ?_
 refine WP.ret (ab_ ?_)
 simp -dsimp
theorem uP_ (f:Nat→Int) (hk:f 3=5):Fn0 Tryz.prog 175 [fD f] (.v (.bool (inB (f 29) 1 9999&&inB (f 30) 0 255&&inB (f 31) (-1099511627776) 1099511627776&&inB (f 32) (-1099511627776) 1099511627776&&decide (f 31≤f 32)))):=by
 refine ad_ (pn:=an_) ac_ Tryz.func175 rfl fun β0=>?_
 simp only[Tryz.f175]
 rw[fD]
 refine sG ?_
 rw[hk]
 refine cF (by simp) ?_
 refine sG ?_
 refine cF (by simp) ?_
 refine sG ?_
 refine cF (by simp) ?_
 refine sG ?_
 refine cF (by simp) ?_
 refine sG ?_
 refine cT (by simp) ?_
 refine sG ?_
 refine aa_ bh_ (gZ_ (f 29)) rfl rfl (by simp) ?_
 simp -dsimp
 repeat refine aI ?_
 refine ae_ cf_ (fun _=>my_ (f 30)) rfl (fun _=>rfl) (fun _=>by simp) ?_
 simp -dsimp
 repeat refine aI ?_
 refine ae_ aL_ (fun _=>cl_ (f 31)) rfl (fun _=>rfl) (fun _=>by simp) ?_
 simp -dsimp
 repeat refine aI ?_
 refine ae_ aL_ (fun _=>cl_ (f 32)) rfl (fun _=>rfl) (fun _=>by simp) ?_
 simp -dsimp
 repeat refine aI ?_
 refine sG ?_
 refine WP.ret (ab_ ?_)
 simp -dsimp
theorem uO_ (f:Nat→Int) (hk:f 3=6):Fn0 Tryz.prog 175 [fD f] (.v (.bool (inB (f 33) 0 39&&inB (f 34) 0 255&&inB (f 35) (-1099511627776) 1099511627776&&inB (f 36) (-1099511627776) 1099511627776&&decide (f 35≤f 36)))):=by
 refine ad_ (pn:=an_) ac_ Tryz.func175 rfl fun β0=>?_
 simp only[Tryz.f175]
 rw[fD]
 refine sG ?_
 rw[hk]
 refine cF (by simp) ?_
 refine sG ?_
 refine cF (by simp) ?_
 refine sG ?_
 refine cF (by simp) ?_
 refine sG ?_
 refine cF (by simp) ?_
 refine sG ?_
 refine cF (by simp) ?_
 refine sG ?_
 refine cT (by simp) ?_
 refine sG ?_
 refine aa_ ch_ (mL_ (f 33)) rfl rfl (by simp) ?_
 simp -dsimp
 repeat refine aI ?_
 refine ae_ cg_ (fun _=>fU_ (f 34)) rfl (fun _=>rfl) (fun _=>by simp) ?_
 simp -dsimp
 repeat refine aI ?_
 refine ae_ aL_ (fun _=>cl_ (f 35)) rfl (fun _=>rfl) (fun _=>by simp) ?_
 simp -dsimp
 repeat refine aI ?_
 refine ae_ aL_ (fun _=>cl_ (f 36)) rfl (fun _=>rfl) (fun _=>by simp) ?_
 simp -dsimp
 repeat refine aI ?_
 refine sG ?_
 refine WP.ret (ab_ ?_)
 simp -dsimp
theorem uN_ (f:Nat→Int) (hk:f 3=7):Fn0 Tryz.prog 175 [fD f] (.v (.bool (inB (f 37) 1 9999&&inB (f 38) 1 9999&&decide (f 37<f 38)))):=by
 refine ad_ (pn:=an_) ac_ Tryz.func175 rfl fun β0=>?_
 simp only[Tryz.f175]
 rw[fD]
 refine sG ?_
 rw[hk]
 refine cF (by simp) ?_
 refine sG ?_
 refine cF (by simp) ?_
 refine sG ?_
 refine cF (by simp) ?_
 refine sG ?_
 refine cF (by simp) ?_
 refine sG ?_
 refine cF (by simp) ?_
 refine sG ?_
 refine cF (by simp) ?_
 refine sG ?_
 refine cT (by simp) ?_
 refine sG ?_
 refine aa_ bh_ (gZ_ (f 37)) rfl rfl (by simp) ?_
 simp -dsimp
 repeat refine aI ?_
 refine ae_ bh_ (fun _=>gZ_ (f 38)) rfl (fun _=>rfl) (fun _=>by simp) ?_
 simp -dsimp
 repeat refine aI ?_
 refine sG ?_
 refine WP.ret (ab_ ?_)
 simp -dsimp
theorem uM_ (f:Nat→Int) (hk:f 3=8):Fn0 Tryz.prog 175 [fD f] (.v (.bool (inB (f 39) 1 1048576&&inB (f 40) 1 9999&&inB (f 41) 0 31&&inB (f 42) 0 255))):=by
 refine ad_ (pn:=an_) ac_ Tryz.func175 rfl fun β0=>?_
 simp only[Tryz.f175]
 rw[fD]
 refine sG ?_
 rw[hk]
 refine cF (by simp) ?_
 refine sG ?_
 refine cF (by simp) ?_
 refine sG ?_
 refine cF (by simp) ?_
 refine sG ?_
 refine cF (by simp) ?_
 refine sG ?_
 refine cF (by simp) ?_
 refine sG ?_
 refine cF (by simp) ?_
 refine sG ?_
 refine cF (by simp) ?_
 refine sG ?_
 refine cT (by simp) ?_
 refine sG ?_
 refine aa_ cW_ (lE_ (f 39)) rfl rfl (by simp) ?_
 simp -dsimp
 repeat refine aI ?_
 refine ae_ bh_ (fun _=>gZ_ (f 40)) rfl (fun _=>rfl) (fun _=>by simp) ?_
 simp -dsimp
 repeat refine aI ?_
 refine ae_ as_ (fun _=>cD_ (f 41) (0) (31)) rfl (fun _=>rfl) (fun _=>by simp) ?_
 simp -dsimp
 repeat refine aI ?_
 refine ae_ cf_ (fun _=>my_ (f 42)) rfl (fun _=>rfl) (fun _=>by simp) ?_
 simp -dsimp
 repeat refine aI ?_
 refine sG ?_
 refine WP.ret (ab_ ?_)
 simp -dsimp
theorem uL_ (f:Nat→Int) (hk:f 3=9):Fn0 Tryz.prog 175 [fD f] (.v (.bool (inB (f 43) 1 1048576&&inB (f 44) 0 9999&&inB (f 45) 0 1125899906842624&&inB (f 46) 0 1))):=by
 refine ad_ (pn:=an_) ac_ Tryz.func175 rfl fun β0=>?_
 simp only[Tryz.f175]
 rw[fD]
 refine sG ?_
 rw[hk]
 refine cF (by simp) ?_
 refine sG ?_
 refine cF (by simp) ?_
 refine sG ?_
 refine cF (by simp) ?_
 refine sG ?_
 refine cF (by simp) ?_
 refine sG ?_
 refine cF (by simp) ?_
 refine sG ?_
 refine cF (by simp) ?_
 refine sG ?_
 refine cF (by simp) ?_
 refine sG ?_
 refine cF (by simp) ?_
 refine sG ?_
 refine cT (by simp) ?_
 refine sG ?_
 refine aa_ cW_ (lE_ (f 43)) rfl rfl (by simp) ?_
 simp -dsimp
 repeat refine aI ?_
 refine ae_ as_ (fun _=>cD_ (f 44) (0) (9999)) rfl (fun _=>rfl) (fun _=>by simp) ?_
 simp -dsimp
 repeat refine aI ?_
 refine ae_ as_ (fun _=>cD_ (f 45) (0) (1125899906842624)) rfl (fun _=>rfl) (fun _=>by simp) ?_
 simp -dsimp
 repeat refine aI ?_
 refine ae_ as_ (fun _=>cD_ (f 46) (0) (1)) rfl (fun _=>rfl) (fun _=>by simp) ?_
 simp -dsimp
 repeat refine aI ?_
 refine sG ?_
 refine WP.ret (ab_ ?_)
 simp -dsimp
theorem si_ (f:Nat→Int) (hk:f 3=10):Fn0 Tryz.prog 175 [fD f] (.v (.bool (ta_ f))):=by
 refine ad_ (pn:=an_) ac_ Tryz.func175 rfl fun β0=>?_
 simp only[Tryz.f175]
 rw[fD]
 refine sG ?_
 rw[hk]
 refine cF (by simp) ?_
 refine sG ?_
 refine cF (by simp) ?_
 refine sG ?_
 refine cF (by simp) ?_
 refine sG ?_
 refine cF (by simp) ?_
 refine sG ?_
 refine cF (by simp) ?_
 refine sG ?_
 refine cF (by simp) ?_
 refine sG ?_
 refine cF (by simp) ?_
 refine sG ?_
 refine cF (by simp) ?_
 refine sG ?_
 refine cF (by simp) ?_
 refine sG ?_
 refine cT (by simp) ?_
 refine sG ?_
 refine aa_ ns_ (s9_ f) rfl rfl (by simp) ?_
 simp -dsimp
 repeat refine aI ?_
 refine sG ?_
 refine WP.ret (ab_ ?_)
 simp -dsimp
theorem sh_ (f:Nat→Int) (hk:f 3=11):Fn0 Tryz.prog 175 [fD f] (.v (.bool (inB (f 53) 1 1048576))):=by
 refine ad_ (pn:=an_) ac_ Tryz.func175 rfl fun β0=>?_
 simp only[Tryz.f175]
 rw[fD]
 refine sG ?_
 rw[hk]
 refine cF (by simp) ?_
 refine sG ?_
 refine cF (by simp) ?_
 refine sG ?_
 refine cF (by simp) ?_
 refine sG ?_
 refine cF (by simp) ?_
 refine sG ?_
 refine cF (by simp) ?_
 refine sG ?_
 refine cF (by simp) ?_
 refine sG ?_
 refine cF (by simp) ?_
 refine sG ?_
 refine cF (by simp) ?_
 refine sG ?_
 refine cF (by simp) ?_
 refine sG ?_
 refine cF (by simp) ?_
 refine sG ?_
 refine cT (by simp) ?_
 refine sG ?_
 refine aa_ cW_ (lE_ (f 53)) rfl rfl (by simp) ?_
 simp -dsimp
 repeat refine aI ?_
 refine sG ?_
 refine WP.ret (ab_ ?_)
 simp -dsimp
theorem sg_ (f:Nat→Int) (hk:f 3=12):Fn0 Tryz.prog 175 [fD f] (.v (.bool (true))):=by
 refine ad_ (pn:=an_) ac_ Tryz.func175 rfl fun β0=>?_
 simp only[Tryz.f175]
 rw[fD]
 refine sG ?_
 rw[hk]
 refine cF (by simp) ?_
 refine sG ?_
 refine cF (by simp) ?_
 refine sG ?_
 refine cF (by simp) ?_
 refine sG ?_
 refine cF (by simp) ?_
 refine sG ?_
 refine cF (by simp) ?_
 refine sG ?_
 refine cF (by simp) ?_
 refine sG ?_
 refine cF (by simp) ?_
 refine sG ?_
 refine cF (by simp) ?_
 refine sG ?_
 refine cF (by simp) ?_
 refine sG ?_
 refine cF (by simp) ?_
 refine sG ?_
 refine cF (by simp) ?_
 refine sG ?_
 refine cT (by simp) ?_
 refine sG ?_
 refine WP.ret (ab_ ?_)
 simp -dsimp
theorem sf_ (f:Nat→Int) (hk:f 3=13):Fn0 Tryz.prog 175 [fD f] (.v (.bool (inB (f 55) 0 31&&inB (f 56) 1 1048576))):=by
 refine ad_ (pn:=an_) ac_ Tryz.func175 rfl fun β0=>?_
 simp only[Tryz.f175]
 rw[fD]
 refine sG ?_
 rw[hk]
 refine cF (by simp) ?_
 refine sG ?_
 refine cF (by simp) ?_
 refine sG ?_
 refine cF (by simp) ?_
 refine sG ?_
 refine cF (by simp) ?_
 refine sG ?_
 refine cF (by simp) ?_
 refine sG ?_
 refine cF (by simp) ?_
 refine sG ?_
 refine cF (by simp) ?_
 refine sG ?_
 refine cF (by simp) ?_
 refine sG ?_
 refine cF (by simp) ?_
 refine sG ?_
 refine cF (by simp) ?_
 refine sG ?_
 refine cF (by simp) ?_
 refine sG ?_
 refine cF (by simp) ?_
 refine sG ?_
 refine cT (by simp) ?_
 refine sG ?_
 refine aa_ hm_ (uJ_ (f 55)) rfl rfl (by simp) ?_
 simp -dsimp
 repeat refine aI ?_
 refine ae_ hl_ (fun _=>mJ_ (f 56)) rfl (fun _=>rfl) (fun _=>by simp) ?_
 simp -dsimp
 repeat refine aI ?_
 refine sG ?_
 refine WP.ret (ab_ ?_)
 simp -dsimp
theorem se_ (f:Nat→Int) (hk:f 3<1∨13<f 3):Fn0 Tryz.prog 175 [fD f] (.v (.bool false)):=by
 refine ad_ (pn:=an_) ac_ Tryz.func175 rfl fun β0=>?_
 simp only[Tryz.f175]
 rw[fD]
 refine sG ?_
 refine cF (by simp;omega) ?_
 refine sG ?_
 refine cF (by simp;omega) ?_
 refine sG ?_
 refine cF (by simp;omega) ?_
 refine sG ?_
 refine cF (by simp;omega) ?_
 refine sG ?_
 refine cF (by simp;omega) ?_
 refine sG ?_
 refine cF (by simp;omega) ?_
 refine sG ?_
 refine cF (by simp;omega) ?_
 refine sG ?_
 refine cF (by simp;omega) ?_
 refine sG ?_
 refine cF (by simp;omega) ?_
 refine sG ?_
 refine cF (by simp;omega) ?_
 refine sG ?_
 refine cF (by simp;omega) ?_
 refine sG ?_
 refine cF (by simp;omega) ?_
 refine sG ?_
 refine cF (by simp;omega) ?_
 refine WP.skip ?_
 simp -dsimp
 refine sG ?_
 refine WP.ret (ab_ ?_)
 simp -dsimp
theorem sd_ (f:Nat→Int):Fn0 Tryz.prog 175 [fD f] (.v (.bool (conF f))):=by
 have h:(f 3<1∨13<f 3)∨f 3=1∨f 3=2∨f 3=3∨f 3=4∨f 3=5∨f 3=6∨f 3=7∨f 3=8∨f 3=9∨f 3=10∨f 3=11∨f 3=12∨f 3=13:=by omega
 rcases h with h|h|h|h|h|h|h|h|h|h|h|h|h|h
 ·have:conF f=false:=by
   unfold conF
   rw[if_neg (by omega)]
   rw[if_neg (by omega)]
   rw[if_neg (by omega)]
   rw[if_neg (by omega)]
   rw[if_neg (by omega)]
   rw[if_neg (by omega)]
   rw[if_neg (by omega)]
   rw[if_neg (by omega)]
   rw[if_neg (by omega)]
   rw[if_neg (by omega)]
   rw[if_neg (by omega)]
   rw[if_neg (by omega)]
   rw[if_neg (by omega)]
  rw[this];exact se_ f h
 ·have:=uT_ f h;simpa only[conF,h,Int.reduceEq,if_true,if_false] using this
 ·have:=uS_ f h;simpa only[conF,h,Int.reduceEq,if_true,if_false] using this
 ·have:=uR_ f h;simpa only[conF,h,Int.reduceEq,if_true,if_false] using this
 ·have:=uQ_ f h;simpa only[conF,h,Int.reduceEq,if_true,if_false] using this
 ·have:=uP_ f h;simpa only[conF,h,Int.reduceEq,if_true,if_false] using this
 ·have:=uO_ f h;simpa only[conF,h,Int.reduceEq,if_true,if_false] using this
 ·have:=uN_ f h;simpa only[conF,h,Int.reduceEq,if_true,if_false] using this
 ·have:=uM_ f h;simpa only[conF,h,Int.reduceEq,if_true,if_false] using this
 ·have:=uL_ f h;simpa only[conF,h,Int.reduceEq,if_true,if_false] using this
 ·have:=si_ f h;simpa only[conF,h,Int.reduceEq,if_true,if_false] using this
 ·have:=sh_ f h;simpa only[conF,h,Int.reduceEq,if_true,if_false] using this
 ·have:=sg_ f h;simpa only[conF,h,Int.reduceEq,if_true,if_false] using this
 ·have:=sf_ f h;simpa only[conF,h,Int.reduceEq,if_true,if_false] using this
def partF (k:Int):Nat×Nat :=
 if k=1 then (4,8) else if k=2 then (12,4) else if k=3 then (16,5) else if k=4 then (21,8) else if k=5 then (29,4) else if k=6 then (33,4) else if k=7 then (37,2)
 else if k=8 then (39,4) else if k=9 then (43,4) else if k=10 then (47,6) else if k=11 then (53,2) else if k=13 then (55,2) else (0,0)
def c5_ (f:Nat→Int):Nat→Int:=fup (fup (fup (fup f0 0 (f 0)) 1 (f 1)) 2 (f 2)) 3 (f 3)
def bt_ (f:Nat→Int):Nat→Int:=fcp (c5_ f) f (partF (f 3)).1 (partF (f 3)).2
theorem wc_ {f:Nat→Int} (hf:fOk f):fOk (bt_ f):=by
 have hb:fOk (c5_ f):=by
  refine⟨d7_ (d7_ (d7_ (d7_ (fun _=>t9_) (hf.1 0)) (hf.1 1)) (hf.1 2)) (hf.1 3),.inl rfl,fun i hi=>?_⟩
  have h0:i≠0:=by omega
  have h1:i≠1:=by omega
  have h2:i≠2:=by omega
  have h3:i≠3:=by omega
  simp[c5_,fup,f0,h0,h1,h2,h3]
 refine⟨fun i=>?_,?_,fun i hi=>?_⟩
 ·unfold bt_ fcp;split;exact hf.1 i;exact hb.1 i
 ·unfold bt_ fcp;split;exact hf.2.1;exact hb.2.1
 ·unfold bt_ fcp;split;exact hf.2.2 i hi;exact hb.2.2 i hi
@[simp] theorem DL_ (g f:Nat→Int):fcp g f 0 0=g:=by funext i;simp only[fcp];rw[if_neg (by omega)]
theorem Bo_ (f:Nat→Int) (hk:f 3=1):Fn0 Tryz.prog 176 [fD f] (fD (bt_ f)):=by
 refine ad_ (pn:=an_) ac_ Tryz.func176 rfl fun β0=>?_
 simp only[Tryz.f176]
 unfold fD
 repeat(first|apply wG|(apply wR;simp -dsimp[az_])|refine aI ?_)
 rw[hk]
 refine cT (by simp) ?_
 refine sG ?_
 refine WP.ret (ab_ ?_)
 simp -dsimp[bt_,partF,hk,c5_]
 all_goals exact al_ _
theorem Bn_ (f:Nat→Int) (hk:f 3=2):Fn0 Tryz.prog 176 [fD f] (fD (bt_ f)):=by
 refine ad_ (pn:=an_) ac_ Tryz.func176 rfl fun β0=>?_
 simp only[Tryz.f176]
 unfold fD
 repeat(first|apply wG|(apply wR;simp -dsimp[az_])|refine aI ?_)
 rw[hk]
 refine cF (by simp) ?_
 refine sG ?_
 refine cT (by simp) ?_
 refine sG ?_
 refine WP.ret (ab_ ?_)
 simp -dsimp[bt_,partF,hk,c5_]
 all_goals exact al_ _
theorem Bm_ (f:Nat→Int) (hk:f 3=3):Fn0 Tryz.prog 176 [fD f] (fD (bt_ f)):=by
 refine ad_ (pn:=an_) ac_ Tryz.func176 rfl fun β0=>?_
 simp only[Tryz.f176]
 unfold fD
 repeat(first|apply wG|(apply wR;simp -dsimp[az_])|refine aI ?_)
 rw[hk]
 refine cF (by simp) ?_
 refine sG ?_
 refine cF (by simp) ?_
 refine sG ?_
 refine cT (by simp) ?_
 refine sG ?_
 refine WP.ret (ab_ ?_)
 simp -dsimp[bt_,partF,hk,c5_]
 all_goals exact al_ _
theorem Bl_ (f:Nat→Int) (hk:f 3=4):Fn0 Tryz.prog 176 [fD f] (fD (bt_ f)):=by
 refine ad_ (pn:=an_) ac_ Tryz.func176 rfl fun β0=>?_
 simp only[Tryz.f176]
 unfold fD
 repeat(first|apply wG|(apply wR;simp -dsimp[az_])|refine aI ?_)
 rw[hk]
 refine cF (by simp) ?_
 refine sG ?_
 refine cF (by simp) ?_
 refine sG ?_
 refine cF (by simp) ?_
 refine sG ?_
 refine cT (by simp) ?_
 refine sG ?_
 refine WP.ret (ab_ ?_)
 simp -dsimp[bt_,partF,hk,c5_]
 all_goals exact al_ _
theorem Bk_ (f:Nat→Int) (hk:f 3=5):Fn0 Tryz.prog 176 [fD f] (fD (bt_ f)):=by
 refine ad_ (pn:=an_) ac_ Tryz.func176 rfl fun β0=>?_
 simp only[Tryz.f176]
 unfold fD
 repeat(first|apply wG|(apply wR;simp -dsimp[az_])|refine aI ?_)
 rw[hk]
 refine cF (by simp) ?_
 refine sG ?_
 refine cF (by simp) ?_
 refine sG ?_
 refine cF (by simp) ?_
 refine sG ?_
 refine cF (by simp) ?_
 refine sG ?_
 refine cT (by simp) ?_
 refine sG ?_
 refine WP.ret (ab_ ?_)
 simp -dsimp[bt_,partF,hk,c5_]
 all_goals exact al_ _
theorem Bj_ (f:Nat→Int) (hk:f 3=6):Fn0 Tryz.prog 176 [fD f] (fD (bt_ f)):=by
 refine ad_ (pn:=an_) ac_ Tryz.func176 rfl fun β0=>?_
 simp only[Tryz.f176]
 unfold fD
 repeat(first|apply wG|(apply wR;simp -dsimp[az_])|refine aI ?_)
 rw[hk]
 refine cF (by simp) ?_
 refine sG ?_
 refine cF (by simp) ?_
 refine sG ?_
 refine cF (by simp) ?_
 refine sG ?_
 refine cF (by simp) ?_
 refine sG ?_
 refine cF (by simp) ?_
 refine sG ?_
 refine cT (by simp) ?_
 refine sG ?_
 refine WP.ret (ab_ ?_)
 simp -dsimp[bt_,partF,hk,c5_]
 all_goals exact al_ _
theorem Bi_ (f:Nat→Int) (hk:f 3=7):Fn0 Tryz.prog 176 [fD f] (fD (bt_ f)):=by
 refine ad_ (pn:=an_) ac_ Tryz.func176 rfl fun β0=>?_
 simp only[Tryz.f176]
 unfold fD
 repeat(first|apply wG|(apply wR;simp -dsimp[az_])|refine aI ?_)
 rw[hk]
 refine cF (by simp) ?_
 refine sG ?_
 refine cF (by simp) ?_
 refine sG ?_
 refine cF (by simp) ?_
 refine sG ?_
 refine cF (by simp) ?_
 refine sG ?_
 refine cF (by simp) ?_
 refine sG ?_
 refine cF (by simp) ?_
 refine sG ?_
 refine cT (by simp) ?_
 refine sG ?_
 refine WP.ret (ab_ ?_)
 simp -dsimp[bt_,partF,hk,c5_]
 all_goals exact al_ _
theorem Bh_ (f:Nat→Int) (hk:f 3=8):Fn0 Tryz.prog 176 [fD f] (fD (bt_ f)):=by
 refine ad_ (pn:=an_) ac_ Tryz.func176 rfl fun β0=>?_
 simp only[Tryz.f176]
 unfold fD
 repeat(first|apply wG|(apply wR;simp -dsimp[az_])|refine aI ?_)
 rw[hk]
 refine cF (by simp) ?_
 refine sG ?_
 refine cF (by simp) ?_
 refine sG ?_
 refine cF (by simp) ?_
 refine sG ?_
 refine cF (by simp) ?_
 refine sG ?_
 refine cF (by simp) ?_
 refine sG ?_
 refine cF (by simp) ?_
 refine sG ?_
 refine cF (by simp) ?_
 refine sG ?_
 refine cT (by simp) ?_
 refine sG ?_
 refine WP.ret (ab_ ?_)
 simp -dsimp[bt_,partF,hk,c5_]
 all_goals exact al_ _
theorem Bg_ (f:Nat→Int) (hk:f 3=9):Fn0 Tryz.prog 176 [fD f] (fD (bt_ f)):=by
 refine ad_ (pn:=an_) ac_ Tryz.func176 rfl fun β0=>?_
 simp only[Tryz.f176]
 unfold fD
 repeat(first|apply wG|(apply wR;simp -dsimp[az_])|refine aI ?_)
 rw[hk]
 refine cF (by simp) ?_
 refine sG ?_
 refine cF (by simp) ?_
 refine sG ?_
 refine cF (by simp) ?_
 refine sG ?_
 refine cF (by simp) ?_
 refine sG ?_
 refine cF (by simp) ?_
 refine sG ?_
 refine cF (by simp) ?_
 refine sG ?_
 refine cF (by simp) ?_
 refine sG ?_
 refine cF (by simp) ?_
 refine sG ?_
 refine cT (by simp) ?_
 refine sG ?_
 refine WP.ret (ab_ ?_)
 simp -dsimp[bt_,partF,hk,c5_]
 all_goals exact al_ _
theorem y1_ (f:Nat→Int) (hk:f 3=10):Fn0 Tryz.prog 176 [fD f] (fD (bt_ f)):=by
 refine ad_ (pn:=an_) ac_ Tryz.func176 rfl fun β0=>?_
 simp only[Tryz.f176]
 unfold fD
 repeat(first|apply wG|(apply wR;simp -dsimp[az_])|refine aI ?_)
 rw[hk]
 refine cF (by simp) ?_
 refine sG ?_
 refine cF (by simp) ?_
 refine sG ?_
 refine cF (by simp) ?_
 refine sG ?_
 refine cF (by simp) ?_
 refine sG ?_
 refine cF (by simp) ?_
 refine sG ?_
 refine cF (by simp) ?_
 refine sG ?_
 refine cF (by simp) ?_
 refine sG ?_
 refine cF (by simp) ?_
 refine sG ?_
 refine cF (by simp) ?_
 refine sG ?_
 refine cT (by simp) ?_
 refine sG ?_
 refine WP.ret (ab_ ?_)
 simp -dsimp[bt_,partF,hk,c5_]
 all_goals exact al_ _
theorem y0_ (f:Nat→Int) (hk:f 3=11):Fn0 Tryz.prog 176 [fD f] (fD (bt_ f)):=by
 refine ad_ (pn:=an_) ac_ Tryz.func176 rfl fun β0=>?_
 simp only[Tryz.f176]
 unfold fD
 repeat(first|apply wG|(apply wR;simp -dsimp[az_])|refine aI ?_)
 rw[hk]
 refine cF (by simp) ?_
 refine sG ?_
 refine cF (by simp) ?_
 refine sG ?_
 refine cF (by simp) ?_
 refine sG ?_
 refine cF (by simp) ?_
 refine sG ?_
 refine cF (by simp) ?_
 refine sG ?_
 refine cF (by simp) ?_
 refine sG ?_
 refine cF (by simp) ?_
 refine sG ?_
 refine cF (by simp) ?_
 refine sG ?_
 refine cF (by simp) ?_
 refine sG ?_
 refine cF (by simp) ?_
 refine sG ?_
 refine cT (by simp) ?_
 refine sG ?_
 refine WP.ret (ab_ ?_)
 simp -dsimp[bt_,partF,hk,c5_]
 all_goals exact al_ _
theorem yZ_ (f:Nat→Int) (hk:f 3=13):Fn0 Tryz.prog 176 [fD f] (fD (bt_ f)):=by
 refine ad_ (pn:=an_) ac_ Tryz.func176 rfl fun β0=>?_
 simp only[Tryz.f176]
 unfold fD
 repeat(first|apply wG|(apply wR;simp -dsimp[az_])|refine aI ?_)
 rw[hk]
 refine cF (by simp) ?_
 refine sG ?_
 refine cF (by simp) ?_
 refine sG ?_
 refine cF (by simp) ?_
 refine sG ?_
 refine cF (by simp) ?_
 refine sG ?_
 refine cF (by simp) ?_
 refine sG ?_
 refine cF (by simp) ?_
 refine sG ?_
 refine cF (by simp) ?_
 refine sG ?_
 refine cF (by simp) ?_
 refine sG ?_
 refine cF (by simp) ?_
 refine sG ?_
 refine cF (by simp) ?_
 refine sG ?_
 refine cF (by simp) ?_
 refine sG ?_
 refine cT (by simp) ?_
 refine sG ?_
 refine WP.ret (ab_ ?_)
 simp -dsimp[bt_,partF,hk,c5_]
 all_goals exact al_ _
theorem yY_ (f:Nat→Int) (hk:f 3<1∨13<f 3∨f 3=12):Fn0 Tryz.prog 176 [fD f] (fD (bt_ f)):=by
 have hp:partF (f 3)=(0,0):=by
  unfold partF
  rw[if_neg (by omega)]
  rw[if_neg (by omega)]
  rw[if_neg (by omega)]
  rw[if_neg (by omega)]
  rw[if_neg (by omega)]
  rw[if_neg (by omega)]
  rw[if_neg (by omega)]
  rw[if_neg (by omega)]
  rw[if_neg (by omega)]
  rw[if_neg (by omega)]
  rw[if_neg (by omega)]
  rw[if_neg (by omega)]
 refine ad_ (pn:=an_) ac_ Tryz.func176 rfl fun β0=>?_
 simp only[Tryz.f176]
 unfold fD
 repeat(first|apply wG|(apply wR;simp -dsimp[az_])|refine aI ?_)
 refine cF (by simp;omega) ?_
 refine sG ?_
 refine cF (by simp;omega) ?_
 refine sG ?_
 refine cF (by simp;omega) ?_
 refine sG ?_
 refine cF (by simp;omega) ?_
 refine sG ?_
 refine cF (by simp;omega) ?_
 refine sG ?_
 refine cF (by simp;omega) ?_
 refine sG ?_
 refine cF (by simp;omega) ?_
 refine sG ?_
 refine cF (by simp;omega) ?_
 refine sG ?_
 refine cF (by simp;omega) ?_
 refine sG ?_
 refine cF (by simp;omega) ?_
 refine sG ?_
 refine cF (by simp;omega) ?_
 refine sG ?_
 refine cF (by simp;omega) ?_
 refine WP.skip ?_
 simp -dsimp
 refine sG ?_
 refine WP.ret (ab_ ?_)
 simp -dsimp[bt_,hp,c5_]
 all_goals exact al_ _
theorem yX_ (f:Nat→Int):Fn0 Tryz.prog 176 [fD f] (fD (bt_ f)):=by
 have h:(f 3<1∨13<f 3∨f 3=12)∨f 3=1∨f 3=2∨f 3=3∨f 3=4∨f 3=5∨f 3=6∨f 3=7∨f 3=8∨f 3=9∨f 3=10∨f 3=11∨f 3=13:=by omega
 rcases h with h|h|h|h|h|h|h|h|h|h|h|h|h
 ·exact yY_ f h
 ·exact Bo_ f h
 ·exact Bn_ f h
 ·exact Bm_ f h
 ·exact Bl_ f h
 ·exact Bk_ f h
 ·exact Bj_ f h
 ·exact Bi_ f h
 ·exact Bh_ f h
 ·exact Bg_ f h
 ·exact y1_ f h
 ·exact y0_ f h
 ·exact yZ_ f h
def dj_ (f:Nat→Int):Bool:=inB (f 0) 0 31&&inB (f 1) 1 1048576&&inB (f 2) 0 1099511627776&&conF f&&eqF f (bt_ f)
theorem is_ (f:Nat→Int) (hf:fOk f):Fn0 Tryz.prog 104 [fD f] (.v (.int .i64 (if dj_ f=true then 0 else 120))):=by
 have h28:=sd_ f
 have h29:=yX_ f
 have ho:=wc_ hf
 refine ad_ (pn:=an_) ac_ Tryz.func104 rfl fun β0=>?_
 simp only[Tryz.f104]
 rw[fD]
 refine sG ?_
 refine aa_ hm_ (uJ_ (f 0)) rfl rfl (by simp) ?_
 simp -dsimp
 repeat refine aI ?_
 refine ae_ hl_ (fun _=>mJ_ (f 1)) rfl (fun _=>rfl) (fun _=>by simp) ?_
 simp -dsimp
 repeat refine aI ?_
 refine ae_ as_ (fun _=>cD_ (f 2) 0 1099511627776) rfl (fun _=>rfl) (fun _=>by simp) ?_
 simp -dsimp
 repeat refine aI ?_
 refine ae_ nN_ (fun _=>h28) rfl (fun _=>rfl) (fun _=>by simp[fD]) ?_
 simp -dsimp
 repeat refine aI ?_
 refine ae_ nM_ (fun _=>h29) rfl (fun _=>rfl) (fun _=>by simp[fD]) ?_
 simp -dsimp[fD]
 repeat refine aI ?_
 refine oB_ ac_ BJ_ mK_ rfl (.inr rfl) (m:=5) (by omega) dh_ (by decide) ee_ AF_ (cs:=fcs f 0 57) (es:=fcs (bt_ f) 0 57) (fun _=>by simp) (fun _=>by simp) (okF hf.1) (okF ho.1) (fP_ hf ho) ?_
 simp -dsimp[eqRes]
 refine sG ?_
 refine WP.cond (b := !dj_ f) (by simp[dj_]) (fun hb=>?_) (fun hb=>?_)
 ·have hb:dj_ f=false:=by simpa using hb
  refine sG ?_
  refine WP.ret (ab_ ?_)
  simp -dsimp[hb]
 ·have hb:dj_ f=true:=by simpa using hb
  refine WP.skip ?_
  simp -dsimp
  refine sG ?_
  refine WP.ret (ab_ ?_)
  simp -dsimp[hb]
theorem wV_ (f:Nat→Int) (hf:fOk f):Fn0 Tryz.prog 74 [fD f] (.v (.int .i64 (if (numF f).2=true then 0 else 120))):=by
 have h24:=j8_ f hf
 rw[qy_] at h24
 generalize numF f=R at *
 obtain⟨l,b⟩:=R
 refine ad_ (pn:=an_) ac_ Tryz.func74 rfl fun β0=>?_
 simp only[Tryz.f74]
 rw[fD]
 refine sG ?_
 refine aa_ jb_ h24 rfl rfl (by simp[fD]) ?_
 simp -dsimp
 refine sG ?_
 cases b with
 | true =>
  refine cF (by simp) ?_
  refine WP.skip ?_
  simp -dsimp
  refine sG ?_
  refine WP.ret (ab_ ?_)
  simp -dsimp
 | false =>
  refine cT (by simp) ?_
  refine sG ?_
  refine WP.ret (ab_ ?_)
  simp -dsimp
def qF_ (x:Int):V:=.mk 1 x ⟨#[]⟩ []
def b3_ (l:List Int):V:=.mk 3 0 ⟨#[]⟩ (l.map qF_)
theorem dt_:∀ {l:List Int},(∀ x∈l,isI x)→co_ (l.map qF_)=true∧aX_ (l.map qF_)=0∧(ax_ (l.map qF_)).length≤11*l.length∧bm_ (l.map qF_)=true
 | [],_=>by simp[co_,aX_,ax_,bm_]
 | x::l,h=>by
  obtain⟨h1,h2,h3,h4⟩:=dt_ (l:=l) fun y hy=>h y (by simp[hy])
  have hx:=h x (by simp)
  have h10:=bd_ (lW_ hx)
  unfold isI at hx
  rw[List.map_cons,co_,aX_,ax_,bm_,h1,h2,h4]
  simp only[qF_,V.ok,V.dep,V.enc,V.rng,bm_,show (⟨#[]⟩:ByteArray).size=0 from rfl]
  simp
  omega
theorem e3_ {l:List Int} (h:∀ x∈l,isI x) (hl:l.length≤1000):V.chk (b3_ l)=0∧V.rng (b3_ l)=true∧V.dep (b3_ l)=1∧(V.enc (b3_ l)).length≤100000:=by
 obtain⟨h1,h2,h3,h4⟩:=dt_ h
 have h5:V.dep (b3_ l)=1:=by rw[b3_,V.dep,if_pos rfl,h2]
 have h10:=bd_ (u:=l.length) (by unfold isU;omega)
 refine⟨?_,?_,h5,?_⟩
 ·rw[V.chk,if_pos (by rw[b3_,V.ok];simp[h1]),if_neg (by omega)]
 ·simp[b3_,V.rng,h4,show (⟨#[]⟩:ByteArray).size=0 from rfl]
 ·rw[b3_,V.enc]
  simp
  omega
theorem ld_ {f:Nat→Int} (hf:fOk f):(∀ x∈(numF f).1,isI x)∧(numF f).1.length≤12:=by
 unfold numF
 split
 ·simp
 ·rename_i E hE
  split
  ·refine⟨fun x hx=>?_,by have:=du_ hE;simp;omega⟩
   obtain⟨e,_,rfl⟩:=List.mem_map.1 hx
   unfold valE
   split
   ·exact hf.1 _
   ·exact yo_
  ·simp
def encF (f:Nat→Int):List UInt8:=V.enc (b3_ (numF f).1)
def encR (f:Nat→Int):List UInt8×Int:=if (numF f).2=true then (encF f,0) else ([],120)
def Ce_ (f:Nat→Int):D:=.tup [slB (encR f).1,.v (.int .i64 (encR f).2)]
theorem BG_ (a:List Int) (x:Int) (b:List Int):(iD (a++x::b)).drop a.length=.v (.int .i64 x)::iD b:=by
 rw[mS_,← mR_ a,List.drop_left];rfl
def ics:List Int→List D
 | []=>[]
 | x::l=>.v (.int .i64 1) :: .v (.int .i64 x) :: .v (.string ⟨#[]⟩) :: .v (.slice none 0 0)::ics l
@[simp] theorem r0_:∀ a b:List Int,ics (a++b)=ics a++ics b
 | [],_=>rfl
 | x::a,b=>by rw[List.cons_append,ics,ics,r0_ a b];rfl
@[simp] theorem rZ_:∀ a:List Int,(ics a).length=a.length*4
 | []=>rfl
 | x::a=>by rw[ics];simp[rZ_ a];omega
theorem xL_:∀ l:List Int,DLes (ics l) (aq_ (l.map qF_))
 | []=>trivial
 | x::l=>⟨DLe.refl _,DLe.refl _,DLe.refl _,DLe.nil 4,xL_ l⟩
theorem ints_arg (l:List Int):Leq (.agg [.d (.v (.int .i64 3)),.d (.v (.int .i64 0)),.d (.v (.string ⟨#[]⟩)),.d (.sl 4 (ics l) l.length false)]) (.d (b3_ l).d):=by
 have hle:Leq (.d (.sl 4 (ics l) l.length false)) (.d (.sl 4 (aq_ (l.map qF_)) l.length false)):=Leq.data (DLe.sl (xL_ l))
 have h1:LeqL [.d (.v (.int .i64 3)),.d (.v (.int .i64 0)),.d (.v (.string ⟨#[]⟩)),.d (.sl 4 (ics l) l.length false)] ([D.v (.int .i64 3),.v (.int .i64 0),.v (.string ⟨#[]⟩),.sl 4 (aq_ (l.map qF_)) l.length false].map .d) :=
  ⟨Leq.refl _,Leq.refl _,Leq.refl _,hle,trivial⟩
 have h2:=(Leq.agg h1).trans (al_ _)
 rw[b3_,V.d,V.cells,List.length_map]
 exact h2
def sE (l:List Int) (l1:List Int):St :=
 mkS 35 [(6,.ptr 6 0),(17,.d (slI l)),(18,.d (.v (.int .i64 l.length))),(19,.d (.v (.int .i64 l1.length)))]
  [(6,.cells 166 [.d (.v (.int .i64 3)),.d (.v (.int .i64 0)),.d (.v (.string ⟨#[]⟩)),.row 500]),(500,.row 166 4 l1.length ((ics l1).map .d))]
theorem iY_ (f:Nat→Int) (hf:fOk f):Fn0 Tryz.prog 55 [fD f] (Ce_ f):=by
 have h24:=j8_ f hf
 rw[qy_] at h24
 obtain⟨hin,hlen⟩:=ld_ hf
 unfold Ce_ encR encF
 generalize numF f=R at *
 obtain⟨l,b⟩:=R
 simp only at hin hlen
 obtain⟨c1,c2,c3,c4⟩:=e3_ hin (by omega)
 have h12:=Cc_ (b3_ l) (by omega) c2 (by omega)
 rw[show V.encB (b3_ l)=V.enc (b3_ l) from if_pos c1,c1] at h12
 refine ad_ (pn:=an_) ac_ Tryz.func55 rfl fun β0=>?_
 simp only[Tryz.f55]
 rw[fD]
 refine sG ?_
 refine aa_ jb_ h24 rfl rfl (by simp[fD]) ?_
 simp -dsimp
 refine sG ?_
 cases b with
 | false =>
  refine cT (by simp) ?_
  refine sG ?_
  refine WP.ret (ab_ ?_)
  simp -dsimp
 | true =>
  refine cF (by simp) ?_
  refine WP.skip ?_
  simp -dsimp
  refine sG ?_
  refine ai_ (fun m S=>∃ l1 l2,l=l1++l2∧m=l2.length∧S=sE l l1) l.length (S0:=sE l [])
   ((bf_ 6 3 500 166 4 (by simp;exact⟨rfl,rfl⟩) rfl (by simp)).trans (af_ [] (by simp[sE]) (by simp[sE,ics]))) ⟨[],l,rfl,rfl,rfl⟩ ?_
  rintro _ _ ⟨l1,l2,hl12,rfl,rfl⟩
  simp -dsimp[sE]
  refine sG ?_
  cases l2 with
  | nil =>
   simp only[List.append_nil] at hl12
   subst hl12
   refine cF (by simp) ?_
   refine WP.exit ?_
   simp -dsimp
   refine ar_ (Wk.freeze (k:=500) (T:=166) (sz:=4) (ds:=ics l) (by simp;rfl)) ?_
   simp -dsimp
   refine sG ?_
   refine ao_ pw_ h12 rfl rfl (And.intro (ints_arg l) trivial) ?_
   simp -dsimp
   refine sG ?_
   refine WP.ret (ab_ ?_)
   simp -dsimp
  | cons x l2 =>
   have hll:l.length=l1.length+(l2.length+1):=by rw[hl12];simp
   have e1:IntKind.i64.wrap ((l1.length:Int)+1)=(l1.length:Int)+1:=IntWalk.i64_in _ (by omega)
   have h1:=BG_ l1 x l2
   rw[← hl12] at h1
   refine cT (by simp;omega) ?_
   refine WP.skip ?_
   simp -dsimp
   refine WP.seq (WP.block ?_)
   repeat(first|apply wG|(apply wR;simp -dsimp[h1])|refine aI ?_)
   refine loopW.next (sE l (l1++[x])) (Wk.go [27] 28 500 (by decide) (by simp[sE]) (by simp[sE,e1]) (by simp[sE,ics])) l2.length (by simp) ⟨l1++[x],l2,by simp[hl12],rfl,rfl⟩
def Fj_ (x y:Int):Int:=if x<y then -1 else if y<x then 1 else 0
def orL:List Int→Int
 | []=>0
 | x::l=>if x=0 then orL l else x
theorem dy_ (a b:List UInt8):Fn0 Tryz.prog 88 [slB a,slB b] (.v (.bool (decide (a=b)))):=by
 refine ad_ (pn:=an_) ac_ Tryz.func88 rfl fun β0=>?_
 simp only[Tryz.f88]
 refine sG ?_
 refine WP.ret (ab_ ?_)
 simp -dsimp
theorem yy_ (f g:Nat→Int) (hf:fOk f) (hg:fOk g):Fn0 Tryz.prog 27 [fD f,fD g] (.v (.bool (eqF f g))):=by
 refine ad_ (pn:=an_) ac_ Tryz.func27 rfl fun β0=>?_
 simp only[Tryz.f27]
 simp only[fD]
 refine sG ?_
 refine er_ ac_ BJ_ mK_ rfl (.inl rfl) (m:=5) (by omega) dh_ (by decide) ee_ AF_ (cs:=fcs f 0 57) (es:=fcs g 0 57) (by simp) (by simp) (okF hf.1) (okF hg.1) (fP_ hf hg) ?_
 simp -dsimp[eqRes]
 refine sG ?_
 refine WP.ret (ab_ ?_)
 simp -dsimp
theorem j2_ (f g:Nat→Int) (hf:fOk f) (hg:fOk g):Fn0 Tryz.prog 68 [fD f,fD g] (.v (.bool (eqF f g))):=by
 refine ad_ (pn:=an_) ac_ Tryz.func68 rfl fun β0=>?_
 simp only[Tryz.f68]
 simp only[fD]
 refine sG ?_
 refine er_ ac_ BJ_ mK_ rfl (.inl rfl) (m:=5) (by omega) dh_ (by decide) ee_ AF_ (cs:=fcs f 0 57) (es:=fcs g 0 57) (by simp) (by simp) (okF hf.1) (okF hg.1) (fP_ hf hg) ?_
 simp -dsimp[eqRes]
 refine sG ?_
 refine WP.ret (ab_ ?_)
 simp -dsimp
@[simp] theorem Dw_ (cs xs:List AV) (h:cs.length=xs.length):setL cs 0 xs=xs:=by
 refine List.ext_getElem? fun i=>?_
 rw[kA_ _ _ _ _ (by omega)]
 split
 ·simp
 ·rw[List.getElem?_eq_none (by omega),List.getElem?_eq_none (by omega)]
def aN_ (f:Nat→Int):List Int:=[f 3,f 0,f 1,f 2] ++
 (
 if f 3=1 then [f 4,f 5,f 6,f 7,f 8,f 9,f 10,f 11]
 else if f 3=2 then [f 12,f 13,f 14,f 15]
 else if f 3=3 then [f 16,f 17,f 18,f 19,f 20]
 else if f 3=4 then [f 21,f 22,f 23,f 24,f 25,f 26,f 27,f 28]
 else if f 3=5 then [f 29,f 30,f 31,f 32]
 else if f 3=6 then [f 33,f 34,f 35,f 36]
 else if f 3=7 then [f 37,f 38]
 else if f 3=8 then [f 39,f 40,f 41,f 42]
 else if f 3=9 then [f 43,f 44,f 45,f 46]
 else if f 3=10 then [f 47,f 48,f 49,f 50,f 51,f 52]
 else if f 3=11 then [f 53,if f 54=1 then 1 else 0]
 else if f 3=13 then [f 55,f 56]
 else [])
theorem mu_ (f:Nat→Int) (hk:f 3=1):Fn0 Tryz.prog 109 [fD f] (slI (aN_ f)):=by
 refine ad_ (pn:=an_) ac_ Tryz.func109 rfl fun β0=>?_
 simp only[Tryz.f109]
 rw[fD]
 refine sG ?_
 rw[hk]
 refine cT (by simp) ?_
 refine sG ?_
 refine WP.ret (aj_ (Wk.freeze (k:=46) (T:=3) (sz:=1) (n:=12) (ds:=iD (aN_ f)) (by simp[aN_,hk,iD])) ?_)
 simp[aN_,hk,iD]
theorem mt_ (f:Nat→Int) (hk:f 3=2):Fn0 Tryz.prog 109 [fD f] (slI (aN_ f)):=by
 refine ad_ (pn:=an_) ac_ Tryz.func109 rfl fun β0=>?_
 simp only[Tryz.f109]
 rw[fD]
 refine sG ?_
 rw[hk]
 refine cF (by simp) ?_
 refine sG ?_
 refine cT (by simp) ?_
 refine sG ?_
 refine WP.ret (aj_ (Wk.freeze (k:=61) (T:=3) (sz:=1) (n:=8) (ds:=iD (aN_ f)) (by simp[aN_,hk,iD])) ?_)
 simp[aN_,hk,iD]
theorem ms_ (f:Nat→Int) (hk:f 3=3):Fn0 Tryz.prog 109 [fD f] (slI (aN_ f)):=by
 refine ad_ (pn:=an_) ac_ Tryz.func109 rfl fun β0=>?_
 simp only[Tryz.f109]
 rw[fD]
 refine sG ?_
 rw[hk]
 refine cF (by simp) ?_
 refine sG ?_
 refine cF (by simp) ?_
 refine sG ?_
 refine cT (by simp) ?_
 refine sG ?_
 refine WP.ret (aj_ (Wk.freeze (k:=78) (T:=3) (sz:=1) (n:=9) (ds:=iD (aN_ f)) (by simp[aN_,hk,iD])) ?_)
 simp[aN_,hk,iD]
theorem mr_ (f:Nat→Int) (hk:f 3=4):Fn0 Tryz.prog 109 [fD f] (slI (aN_ f)):=by
 refine ad_ (pn:=an_) ac_ Tryz.func109 rfl fun β0=>?_
 simp only[Tryz.f109]
 rw[fD]
 refine sG ?_
 rw[hk]
 refine cF (by simp) ?_
 refine sG ?_
 refine cF (by simp) ?_
 refine sG ?_
 refine cF (by simp) ?_
 refine sG ?_
 refine cT (by simp) ?_
 refine sG ?_
 refine WP.ret (aj_ (Wk.freeze (k:=101) (T:=3) (sz:=1) (n:=12) (ds:=iD (aN_ f)) (by simp[aN_,hk,iD])) ?_)
 simp[aN_,hk,iD]
theorem mq_ (f:Nat→Int) (hk:f 3=5):Fn0 Tryz.prog 109 [fD f] (slI (aN_ f)):=by
 refine ad_ (pn:=an_) ac_ Tryz.func109 rfl fun β0=>?_
 simp only[Tryz.f109]
 rw[fD]
 refine sG ?_
 rw[hk]
 refine cF (by simp) ?_
 refine sG ?_
 refine cF (by simp) ?_
 refine sG ?_
 refine cF (by simp) ?_
 refine sG ?_
 refine cF (by simp) ?_
 refine sG ?_
 refine cT (by simp) ?_
 refine sG ?_
 refine WP.ret (aj_ (Wk.freeze (k:=116) (T:=3) (sz:=1) (n:=8) (ds:=iD (aN_ f)) (by simp[aN_,hk,iD])) ?_)
 simp[aN_,hk,iD]
theorem mp_ (f:Nat→Int) (hk:f 3=6):Fn0 Tryz.prog 109 [fD f] (slI (aN_ f)):=by
 refine ad_ (pn:=an_) ac_ Tryz.func109 rfl fun β0=>?_
 simp only[Tryz.f109]
 rw[fD]
 refine sG ?_
 rw[hk]
 refine cF (by simp) ?_
 refine sG ?_
 refine cF (by simp) ?_
 refine sG ?_
 refine cF (by simp) ?_
 refine sG ?_
 refine cF (by simp) ?_
 refine sG ?_
 refine cF (by simp) ?_
 refine sG ?_
 refine cT (by simp) ?_
 refine sG ?_
 refine WP.ret (aj_ (Wk.freeze (k:=131) (T:=3) (sz:=1) (n:=8) (ds:=iD (aN_ f)) (by simp[aN_,hk,iD])) ?_)
 simp[aN_,hk,iD]
theorem mo_ (f:Nat→Int) (hk:f 3=7):Fn0 Tryz.prog 109 [fD f] (slI (aN_ f)):=by
 refine ad_ (pn:=an_) ac_ Tryz.func109 rfl fun β0=>?_
 simp only[Tryz.f109]
 rw[fD]
 refine sG ?_
 rw[hk]
 refine cF (by simp) ?_
 refine sG ?_
 refine cF (by simp) ?_
 refine sG ?_
 refine cF (by simp) ?_
 refine sG ?_
 refine cF (by simp) ?_
 refine sG ?_
 refine cF (by simp) ?_
 refine sG ?_
 refine cF (by simp) ?_
 refine sG ?_
 refine cT (by simp) ?_
 refine sG ?_
 refine WP.ret (aj_ (Wk.freeze (k:=142) (T:=3) (sz:=1) (n:=6) (ds:=iD (aN_ f)) (by simp[aN_,hk,iD])) ?_)
 simp[aN_,hk,iD]
theorem mn_ (f:Nat→Int) (hk:f 3=8):Fn0 Tryz.prog 109 [fD f] (slI (aN_ f)):=by
 refine ad_ (pn:=an_) ac_ Tryz.func109 rfl fun β0=>?_
 simp only[Tryz.f109]
 rw[fD]
 refine sG ?_
 rw[hk]
 refine cF (by simp) ?_
 refine sG ?_
 refine cF (by simp) ?_
 refine sG ?_
 refine cF (by simp) ?_
 refine sG ?_
 refine cF (by simp) ?_
 refine sG ?_
 refine cF (by simp) ?_
 refine sG ?_
 refine cF (by simp) ?_
 refine sG ?_
 refine cF (by simp) ?_
 refine sG ?_
 refine cT (by simp) ?_
 refine sG ?_
 refine WP.ret (aj_ (Wk.freeze (k:=157) (T:=3) (sz:=1) (n:=8) (ds:=iD (aN_ f)) (by simp[aN_,hk,iD])) ?_)
 simp[aN_,hk,iD]
theorem mm_ (f:Nat→Int) (hk:f 3=9):Fn0 Tryz.prog 109 [fD f] (slI (aN_ f)):=by
 refine ad_ (pn:=an_) ac_ Tryz.func109 rfl fun β0=>?_
 simp only[Tryz.f109]
 rw[fD]
 refine sG ?_
 rw[hk]
 refine cF (by simp) ?_
 refine sG ?_
 refine cF (by simp) ?_
 refine sG ?_
 refine cF (by simp) ?_
 refine sG ?_
 refine cF (by simp) ?_
 refine sG ?_
 refine cF (by simp) ?_
 refine sG ?_
 refine cF (by simp) ?_
 refine sG ?_
 refine cF (by simp) ?_
 refine sG ?_
 refine cF (by simp) ?_
 refine sG ?_
 refine cT (by simp) ?_
 refine sG ?_
 refine WP.ret (aj_ (Wk.freeze (k:=172) (T:=3) (sz:=1) (n:=8) (ds:=iD (aN_ f)) (by simp[aN_,hk,iD])) ?_)
 simp[aN_,hk,iD]
theorem kQ_ (f:Nat→Int) (hk:f 3=10):Fn0 Tryz.prog 109 [fD f] (slI (aN_ f)):=by
 refine ad_ (pn:=an_) ac_ Tryz.func109 rfl fun β0=>?_
 simp only[Tryz.f109]
 rw[fD]
 refine sG ?_
 rw[hk]
 refine cF (by simp) ?_
 refine sG ?_
 refine cF (by simp) ?_
 refine sG ?_
 refine cF (by simp) ?_
 refine sG ?_
 refine cF (by simp) ?_
 refine sG ?_
 refine cF (by simp) ?_
 refine sG ?_
 refine cF (by simp) ?_
 refine sG ?_
 refine cF (by simp) ?_
 refine sG ?_
 refine cF (by simp) ?_
 refine sG ?_
 refine cF (by simp) ?_
 refine sG ?_
 refine cT (by simp) ?_
 refine sG ?_
 refine WP.ret (aj_ (Wk.freeze (k:=191) (T:=3) (sz:=1) (n:=10) (ds:=iD (aN_ f)) (by simp[aN_,hk,iD])) ?_)
 simp[aN_,hk,iD]
theorem kP_ (f:Nat→Int) (hk:f 3=11):Fn0 Tryz.prog 109 [fD f] (slI (aN_ f)):=by
 refine ad_ (pn:=an_) ac_ Tryz.func109 rfl fun β0=>?_
 simp only[Tryz.f109]
 rw[fD]
 refine sG ?_
 rw[hk]
 refine cF (by simp) ?_
 refine sG ?_
 refine cF (by simp) ?_
 refine sG ?_
 refine cF (by simp) ?_
 refine sG ?_
 refine cF (by simp) ?_
 refine sG ?_
 refine cF (by simp) ?_
 refine sG ?_
 refine cF (by simp) ?_
 refine sG ?_
 refine cF (by simp) ?_
 refine sG ?_
 refine cF (by simp) ?_
 refine sG ?_
 refine cF (by simp) ?_
 refine sG ?_
 refine cF (by simp) ?_
 refine sG ?_
 refine cT (by simp) ?_
 refine sG ?_
 refine WP.cond (b:=decide (f 54=1)) (by simp) (fun hb=>?_) (fun hb=>?_)
 ·have hb:=of_decide_eq_true hb
  refine sG ?_
  refine WP.ret (aj_ (Wk.freeze (k:=202) (T:=3) (sz:=1) (n:=6) (ds:=iD (aN_ f)) (by simp[aN_,hk,hb,iD])) ?_)
  simp[aN_,hk,hb,iD]
 ·have hb:=of_decide_eq_false hb
  refine WP.skip ?_
  simp -dsimp
  refine sG ?_
  refine WP.ret (aj_ (Wk.freeze (k:=208) (T:=3) (sz:=1) (n:=6) (ds:=iD (aN_ f)) (by simp[aN_,hk,hb,iD])) ?_)
  simp[aN_,hk,hb,iD]
theorem kO_ (f:Nat→Int) (hk:f 3=13):Fn0 Tryz.prog 109 [fD f] (slI (aN_ f)):=by
 refine ad_ (pn:=an_) ac_ Tryz.func109 rfl fun β0=>?_
 simp only[Tryz.f109]
 rw[fD]
 refine sG ?_
 rw[hk]
 refine cF (by simp) ?_
 refine sG ?_
 refine cF (by simp) ?_
 refine sG ?_
 refine cF (by simp) ?_
 refine sG ?_
 refine cF (by simp) ?_
 refine sG ?_
 refine cF (by simp) ?_
 refine sG ?_
 refine cF (by simp) ?_
 refine sG ?_
 refine cF (by simp) ?_
 refine sG ?_
 refine cF (by simp) ?_
 refine sG ?_
 refine cF (by simp) ?_
 refine sG ?_
 refine cF (by simp) ?_
 refine sG ?_
 refine cF (by simp) ?_
 refine sG ?_
 refine cT (by simp) ?_
 refine sG ?_
 refine WP.ret (aj_ (Wk.freeze (k:=219) (T:=3) (sz:=1) (n:=6) (ds:=iD (aN_ f)) (by simp[aN_,hk,iD])) ?_)
 simp[aN_,hk,iD]
theorem kN_ (f:Nat→Int) (hk:f 3<1∨13<f 3∨f 3=12):Fn0 Tryz.prog 109 [fD f] (slI (aN_ f)):=by
 have hr:aN_ f=[f 3,f 0,f 1,f 2]:=by
  unfold aN_
  rw[if_neg (by omega)]
  rw[if_neg (by omega)]
  rw[if_neg (by omega)]
  rw[if_neg (by omega)]
  rw[if_neg (by omega)]
  rw[if_neg (by omega)]
  rw[if_neg (by omega)]
  rw[if_neg (by omega)]
  rw[if_neg (by omega)]
  rw[if_neg (by omega)]
  rw[if_neg (by omega)]
  rw[if_neg (by omega)]
  rfl
 refine ad_ (pn:=an_) ac_ Tryz.func109 rfl fun β0=>?_
 simp only[Tryz.f109]
 rw[fD]
 refine sG ?_
 refine cF (by simp;omega) ?_
 refine sG ?_
 refine cF (by simp;omega) ?_
 refine sG ?_
 refine cF (by simp;omega) ?_
 refine sG ?_
 refine cF (by simp;omega) ?_
 refine sG ?_
 refine cF (by simp;omega) ?_
 refine sG ?_
 refine cF (by simp;omega) ?_
 refine sG ?_
 refine cF (by simp;omega) ?_
 refine sG ?_
 refine cF (by simp;omega) ?_
 refine sG ?_
 refine cF (by simp;omega) ?_
 refine sG ?_
 refine cF (by simp;omega) ?_
 refine sG ?_
 refine cF (by simp;omega) ?_
 refine sG ?_
 refine cF (by simp;omega) ?_
 refine WP.skip ?_
 simp -dsimp
 refine sG ?_
 refine WP.ret (aj_ (Wk.freeze (k:=21) (T:=3) (sz:=1) (n:=4) (ds:=iD (aN_ f)) (by simp[hr,iD])) ?_)
 simp[hr,iD]
theorem kM_ (f:Nat→Int):Fn0 Tryz.prog 109 [fD f] (slI (aN_ f)):=by
 have h:(f 3<1∨13<f 3∨f 3=12)∨f 3=1∨f 3=2∨f 3=3∨f 3=4∨f 3=5∨f 3=6∨f 3=7∨f 3=8∨f 3=9∨f 3=10∨f 3=11∨f 3=13:=by omega
 rcases h with h|h|h|h|h|h|h|h|h|h|h|h|h
 ·exact kN_ f h
 ·exact mu_ f h
 ·exact mt_ f h
 ·exact ms_ f h
 ·exact mr_ f h
 ·exact mq_ f h
 ·exact mp_ f h
 ·exact mo_ f h
 ·exact mn_ f h
 ·exact mm_ f h
 ·exact kQ_ f h
 ·exact kP_ f h
 ·exact kO_ f h
def sI (l l1:List Int):St :=
 mkS 23 [(0,.d (slI l)),(2,.ptr 2 0),(3,.ptr 3 0),(4,.d (.v (.int .i64 l1.length)))]
  [(2,.cells 166 [.d (.v (.int .i64 0)),.d (.v (.int .i64 0)),.d (.v (.string ⟨#[]⟩)),.d (.v (.slice none 0 0))]),(3,.cells 166 [.d (.v (.int .i64 3)),.d (.v (.int .i64 0)),.d (.v (.string ⟨#[]⟩)),.row 500]),(500,.row 166 4 l1.length ((aq_ (l1.map qF_)).map .d))]
theorem intV_d (x:Int):(qF_ x).cells=[.v (.int .i64 1),.v (.int .i64 x),.v (.string ⟨#[]⟩),.sl 4 [] 0 false]:=by simp[qF_,V.cells,aq_]
theorem zl_ (l:List Int) (hl:l.length≤1000):Fn0 Tryz.prog 108 [slI l] (b3_ l).d:=by
 refine ad_ (pn:=an_) ac_ Tryz.func108 rfl fun β0=>?_
 simp only[Tryz.f108]
 refine sG ?_
 refine ai_ (fun m S=>∃ l1 l2,l=l1++l2∧m=l2.length∧S=sI l l1) l.length (S0:=sI l [])
  ((bf_ 3 3 500 166 4 (by simp;exact⟨rfl,rfl⟩) rfl (by simp)).trans (af_ [] (by simp[sI]) (by simp[sI,aq_]))) ⟨[],l,rfl,rfl,rfl⟩ ?_
 rintro _ _ ⟨l1,l2,hl12,rfl,rfl⟩
 simp -dsimp[sI]
 refine sG ?_
 cases l2 with
 | nil =>
  simp only[List.append_nil] at hl12
  subst hl12
  refine cF (by simp) ?_
  refine WP.exit ?_
  simp -dsimp
  refine sG ?_
  refine WP.ret (aj_ (Wk.freeze (k:=500) (T:=166) (sz:=4) (n:=l.length) (ds:=aq_ (l.map qF_)) (by simp)) ?_)
  simp[b3_,V.d,V.cells]
 | cons x l2 =>
  have hll:l.length=l1.length+(l2.length+1):=by rw[hl12];simp
  have e1:IntKind.i64.wrap ((l1.length:Int)+1)=(l1.length:Int)+1:=IntWalk.i64_in _ (by omega)
  have h1:=BG_ l1 x l2
  rw[← hl12] at h1
  refine cT (by simp;omega) ?_
  refine WP.skip ?_
  simp -dsimp
  refine WP.seq (WP.block ?_)
  repeat(first|apply wG|(apply wR;simp -dsimp[h1])|refine aI ?_)
  refine aa_ nJ_ (B7_ x) rfl rfl (by simp) ?_
  simp -dsimp[V.d,V.cells,aq_]
  refine sG ?_
  refine loopW.next (sI l (l1++[x])) (Wk.go [19] 20 500 (by decide) (by simp[sI]) (by simp[sI,e1]) (by simp[sI,bC_,aq_,intV_d])) l2.length (by simp) ⟨l1++[x],l2,by simp[hl12],rfl,rfl⟩
theorem yI_ {f:Nat→Int} (hf:fOk f):(∀ x∈aN_ f,isI x)∧(aN_ f).length≤12:=by
 have h:=hf.1
 have key:∀ L:List Nat,L.length≤12→aN_ f=L.map f→(∀ x∈aN_ f,isI x)∧(aN_ f).length≤12:=fun L h1 h2=>by
  rw[h2]
  refine⟨fun x hx=>?_,by simpa using h1⟩
  obtain⟨i,_,rfl⟩:=List.mem_map.1 hx
  exact h i
 have hk:(f 3<1∨13<f 3∨f 3=12)∨f 3=1∨f 3=2∨f 3=3∨f 3=4∨f 3=5∨f 3=6∨f 3=7∨f 3=8∨f 3=9∨f 3=10∨f 3=11∨f 3=13:=by omega
 rcases hk with hk|hk|hk|hk|hk|hk|hk|hk|hk|hk|hk|hk|hk
 ·refine key [3,0,1,2] (by decide) ?_
  unfold aN_
  rw[if_neg (by omega)]
  rw[if_neg (by omega)]
  rw[if_neg (by omega)]
  rw[if_neg (by omega)]
  rw[if_neg (by omega)]
  rw[if_neg (by omega)]
  rw[if_neg (by omega)]
  rw[if_neg (by omega)]
  rw[if_neg (by omega)]
  rw[if_neg (by omega)]
  rw[if_neg (by omega)]
  rw[if_neg (by omega)]
  rfl
 ·exact key [3,0,1,2,4,5,6,7,8,9,10,11] (by decide) (by simp[aN_,hk])
 ·exact key [3,0,1,2,12,13,14,15] (by decide) (by simp[aN_,hk])
 ·exact key [3,0,1,2,16,17,18,19,20] (by decide) (by simp[aN_,hk])
 ·exact key [3,0,1,2,21,22,23,24,25,26,27,28] (by decide) (by simp[aN_,hk])
 ·exact key [3,0,1,2,29,30,31,32] (by decide) (by simp[aN_,hk])
 ·exact key [3,0,1,2,33,34,35,36] (by decide) (by simp[aN_,hk])
 ·exact key [3,0,1,2,37,38] (by decide) (by simp[aN_,hk])
 ·exact key [3,0,1,2,39,40,41,42] (by decide) (by simp[aN_,hk])
 ·exact key [3,0,1,2,43,44,45,46] (by decide) (by simp[aN_,hk])
 ·exact key [3,0,1,2,47,48,49,50,51,52] (by decide) (by simp[aN_,hk])
 ·have e:aN_ f=[f 3,f 0,f 1,f 2,f 53,if f 54=1 then 1 else 0]:=by simp[aN_,hk]
  rw[e]
  refine⟨fun x hx=>?_,by simp⟩
  simp only[List.mem_cons,List.not_mem_nil,or_false] at hx
  rcases hx with rfl|rfl|rfl|rfl|rfl|rfl<;>first|exact h _|(split<;>simp[isI])
 ·exact key [3,0,1,2,55,56] (by decide) (by simp[aN_,hk])
def Aj_ (f:Nat→Int):List UInt8×Int:=if dj_ f=true then (V.enc (b3_ (aN_ f)),0) else ([],120)
theorem gR_ (f:Nat→Int) (hf:fOk f):Fn0 Tryz.prog 61 [fD f] (.tup [slB (Aj_ f).1,.v (.int .i64 (Aj_ f).2)]):=by
 have h12:=is_ f hf
 have h35:=kM_ f
 obtain⟨hin,hlen⟩:=yI_ hf
 have h34:=zl_ (aN_ f) (by omega)
 obtain⟨c1,c2,c3,c4⟩:=e3_ hin (by omega)
 have h33:=Cb_ (b3_ (aN_ f)) (by omega) c2 (by omega)
 rw[show V.encB (b3_ (aN_ f))=V.enc (b3_ (aN_ f)) from if_pos c1,c1] at h33
 refine ad_ (pn:=an_) ac_ Tryz.func61 rfl fun β0=>?_
 simp only[Tryz.f61]
 rw[fD]
 refine sG ?_
 refine aa_ hw_ h12 rfl rfl (by simp[fD]) ?_
 simp -dsimp
 refine sG ?_
 cases hc:dj_ f with
 | false =>
  refine cT (by simp) ?_
  refine sG ?_
  refine WP.ret (ab_ ?_)
  simp -dsimp[Aj_,hc]
 | true =>
  refine cF (by simp) ?_
  refine WP.skip ?_
  simp -dsimp
  refine sG ?_
  refine aa_ n8_ h35 rfl rfl (by simp[fD]) ?_
  simp -dsimp
  repeat refine aI ?_
  refine aa_ n9_ h34 rfl rfl (by simp) ?_
  simp -dsimp
  repeat refine aI ?_
  refine aa_ oa_ h33 rfl rfl (by simp[b3_,V.d,V.cells]) ?_
  simp -dsimp
  refine sG ?_
  refine WP.ret (ab_ ?_)
  simp -dsimp[Aj_,hc]
def BI_ (f g:Nat→Int):Int:=orL [Fj_ (f 2) (g 2),Fj_ (f 0) (g 0),Fj_ (f 1) (g 1)]
def FM_ (f g:Nat→Int):Int:=if BI_ f g=0 then Lib.compareBytes (encR f).1 (encR g).1 else BI_ f g
end Go.Proofs.YtfgcgagcpnbgmaaGreatDoor
