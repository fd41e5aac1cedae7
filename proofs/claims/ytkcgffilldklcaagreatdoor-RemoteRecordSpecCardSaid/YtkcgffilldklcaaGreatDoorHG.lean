/-
  Joined texts.
-/
import Derived.Test.YtkcgffilldklcaaGreatDoorHFC
import Derived.Test.YtkcgffilldklcaaGreatDoorH4
set_option linter.all false
set_option maxRecDepth 10000
set_option maxHeartbeats 4000000
namespace Go.Proofs.YtkcgffilldklcaaGreatDoor
open Go.Xe Go.RowKit
abbrev inB (x lo hi:Int):Bool:=decide (lo≤x)&&decide (x≤hi)
theorem cC_ (x lo hi:Int):Fn0 Tryz.prog 121 [.v (.int .i64 x),.v (.int .i64 lo),.v (.int .i64 hi)] (.v (.bool (inB x lo hi))):=by
 refine ad_ (pn:=an_) ac_ Tryz.func121 rfl fun β0=>?_
 simp only[Tryz.f121]
 refine sG ?_
 refine WP.ret (ab_ ?_)
 simp -dsimp
theorem co_ (x:Int):Fn0 Tryz.prog 176 [.v (.int .i64 x)] (.v (.bool (inB x (-1099511627776) 1099511627776))):=by
 refine ad_ (pn:=an_) ac_ Tryz.func176 rfl fun β0=>?_
 simp only[Tryz.f176]
 refine sG ?_
 refine aa_ au_ (cC_ x (-1099511627776) 1099511627776) rfl rfl (by simp) ?_
 refine sH ?_
 refine WP.ret (ab_ ?_)
 simp -dsimp
theorem g5_ (x:Int):Fn0 Tryz.prog 178 [.v (.int .i64 x)] (.v (.bool (inB x (1) 9999))):=by
 refine ad_ (pn:=an_) ac_ Tryz.func178 rfl fun β0=>?_
 simp only[Tryz.f178]
 refine sG ?_
 refine aa_ au_ (cC_ x (1) 9999) rfl rfl (by simp) ?_
 refine sH ?_
 refine WP.ret (ab_ ?_)
 simp -dsimp
theorem mN_ (x:Int):Fn0 Tryz.prog 173 [.v (.int .i64 x)] (.v (.bool (inB x (0) 39))):=by
 refine ad_ (pn:=an_) ac_ Tryz.func173 rfl fun β0=>?_
 simp only[Tryz.f173]
 refine sG ?_
 refine aa_ au_ (cC_ x (0) 39) rfl rfl (by simp) ?_
 refine sH ?_
 refine WP.ret (ab_ ?_)
 simp -dsimp
theorem fW_ (x:Int):Fn0 Tryz.prog 174 [.v (.int .i64 x)] (.v (.bool (inB x (0) 255))):=by
 refine ad_ (pn:=an_) ac_ Tryz.func174 rfl fun β0=>?_
 simp only[Tryz.f174]
 refine sG ?_
 refine aa_ au_ (cC_ x (0) 255) rfl rfl (by simp) ?_
 refine sH ?_
 refine WP.ret (ab_ ?_)
 simp -dsimp
theorem uW_ (x:Int):Fn0 Tryz.prog 175 [.v (.int .i64 x)] (.v (.bool (inB x (0) 1048576))):=by
 refine ad_ (pn:=an_) ac_ Tryz.func175 rfl fun β0=>?_
 simp only[Tryz.f175]
 refine sG ?_
 refine aa_ au_ (cC_ x (0) 1048576) rfl rfl (by simp) ?_
 refine sH ?_
 refine WP.ret (ab_ ?_)
 simp -dsimp
theorem my_ (x:Int):Fn0 Tryz.prog 179 [.v (.int .i64 x)] (.v (.bool (inB x (0) 255))):=by
 refine ad_ (pn:=an_) ac_ Tryz.func179 rfl fun β0=>?_
 simp only[Tryz.f179]
 refine sG ?_
 refine aa_ au_ (cC_ x (0) 255) rfl rfl (by simp) ?_
 refine sH ?_
 refine WP.ret (ab_ ?_)
 simp -dsimp
theorem lF_ (x:Int):Fn0 Tryz.prog 180 [.v (.int .i64 x)] (.v (.bool (inB x (1) 1048576))):=by
 refine ad_ (pn:=an_) ac_ Tryz.func180 rfl fun β0=>?_
 simp only[Tryz.f180]
 refine sG ?_
 refine aa_ au_ (cC_ x (1) 1048576) rfl rfl (by simp) ?_
 refine sH ?_
 refine WP.ret (ab_ ?_)
 simp -dsimp
theorem mL_ (x:Int):Fn0 Tryz.prog 120 [.v (.int .i64 x)] (.v (.bool (inB x (1) 1048576))):=by
 refine ad_ (pn:=an_) ac_ Tryz.func120 rfl fun β0=>?_
 simp only[Tryz.f120]
 refine sG ?_
 refine aa_ au_ (cC_ x (1) 1048576) rfl rfl (by simp) ?_
 refine sH ?_
 refine WP.ret (ab_ ?_)
 simp -dsimp
theorem uF_ (x:Int):Fn0 Tryz.prog 119 [.v (.int .i64 x)] (.v (.bool (inB x (0) 31))):=by
 refine ad_ (pn:=an_) ac_ Tryz.func119 rfl fun β0=>?_
 simp only[Tryz.f119]
 refine sG ?_
 refine aa_ au_ (cC_ x (0) 31) rfl rfl (by simp) ?_
 refine sH ?_
 refine WP.ret (ab_ ?_)
 simp -dsimp
theorem rh_ (f:Nat→Int):Fn0 Tryz.prog 172 [.agg (fcs f 4 8)] (.v (.bool (inB (f 4) 1 9999&&inB (f 5) 0 7&&inB (f 6) 0 31&&inB (f 7) (-1099511627776) 1099511627776&&inB (f 8) 0 120&&inB (f 9) 0 1048576&&inB (f 10) 0 9999&&inB (f 11) 0 1048576))):=by
 refine ad_ (pn:=an_) ac_ Tryz.func172 rfl fun β0=>?_
 simp only[Tryz.f172]
 refine sG ?_
 refine aa_ bi_ (g5_ (f 4)) rfl rfl (by simp) ?_
 simp -dsimp
 repeat refine aI ?_
 refine af_ au_ (fun _=>cC_ (f 5) (0) (7)) rfl (fun _=>rfl) (fun _=>by simp) ?_
 simp -dsimp
 repeat refine aI ?_
 refine af_ au_ (fun _=>cC_ (f 6) (0) (31)) rfl (fun _=>rfl) (fun _=>by simp) ?_
 simp -dsimp
 repeat refine aI ?_
 refine af_ aN_ (fun _=>co_ (f 7)) rfl (fun _=>rfl) (fun _=>by simp) ?_
 simp -dsimp
 repeat refine aI ?_
 refine af_ au_ (fun _=>cC_ (f 8) (0) (120)) rfl (fun _=>rfl) (fun _=>by simp) ?_
 simp -dsimp
 repeat refine aI ?_
 refine af_ hg_ (fun _=>uW_ (f 9)) rfl (fun _=>rfl) (fun _=>by simp) ?_
 simp -dsimp
 repeat refine aI ?_
 refine af_ au_ (fun _=>cC_ (f 10) (0) (9999)) rfl (fun _=>rfl) (fun _=>by simp) ?_
 simp -dsimp
 repeat refine aI ?_
 refine af_ au_ (fun _=>cC_ (f 11) (0) (1048576)) rfl (fun _=>rfl) (fun _=>by simp) ?_
 simp -dsimp
 repeat refine aI ?_
 refine sG ?_
 refine WP.ret (ab_ ?_)
 simp -dsimp
theorem yo_ (f:Nat→Int):Fn0 Tryz.prog 177 [.agg (fcs f 21 8)] (.v (.bool (inB (f 21) 0 39&&inB (f 24) 0 39&&inB (f 22) 0 255&&inB (f 25) 0 255&&inB (f 23) (-1099511627776) 1099511627776&&inB (f 26) (-1099511627776) 1099511627776&&inB (f 27) (-1099511627776) 1099511627776&&inB (f 28) (-1099511627776) 1099511627776&&decide (f 27≤f 28)))):=by
 refine ad_ (pn:=an_) ac_ Tryz.func177 rfl fun β0=>?_
 simp only[Tryz.f177]
 refine sG ?_
 refine aa_ ck_ (mN_ (f 21)) rfl rfl (by simp) ?_
 simp -dsimp
 repeat refine aI ?_
 refine af_ ck_ (fun _=>mN_ (f 24)) rfl (fun _=>rfl) (fun _=>by simp) ?_
 simp -dsimp
 repeat refine aI ?_
 refine af_ cj_ (fun _=>fW_ (f 22)) rfl (fun _=>rfl) (fun _=>by simp) ?_
 simp -dsimp
 repeat refine aI ?_
 refine af_ cj_ (fun _=>fW_ (f 25)) rfl (fun _=>rfl) (fun _=>by simp) ?_
 simp -dsimp
 repeat refine aI ?_
 refine af_ aN_ (fun _=>co_ (f 23)) rfl (fun _=>rfl) (fun _=>by simp) ?_
 simp -dsimp
 repeat refine aI ?_
 refine af_ aN_ (fun _=>co_ (f 26)) rfl (fun _=>rfl) (fun _=>by simp) ?_
 simp -dsimp
 repeat refine aI ?_
 refine af_ aN_ (fun _=>co_ (f 27)) rfl (fun _=>rfl) (fun _=>by simp) ?_
 simp -dsimp
 repeat refine aI ?_
 refine af_ aN_ (fun _=>co_ (f 28)) rfl (fun _=>rfl) (fun _=>by simp) ?_
 simp -dsimp
 repeat refine aI ?_
 refine sG ?_
 refine WP.ret (ab_ ?_)
 simp -dsimp
def rz_ (f:Nat→Int):Bool :=
 if f 49=1∨f 49=2 then decide (f 50=0)&&decide (f 51=0)&&decide (f 52=0)
 else if f 49=3 then inB (f 50) 1 9999&&inB (f 51) 0 255&&inB (f 52) 1 1099511627776
 else if f 49=4 then inB (f 50) 1 9999&&inB (f 51) 0 255&&inB (f 52) 1 64
 else if f 49=5 then inB (f 50) 1 9999&&inB (f 51) 0 255&&decide (f 52=0)
 else false
def tb_ (f:Nat→Int):Bool:=(inB (f 47) 1 1048576&&inB (f 48) 1 2)&&rz_ f
theorem ta_ (f:Nat→Int):Fn0 Tryz.prog 181 [.agg (fcs f 47 6)] (.v (.bool (tb_ f))):=by
 refine ad_ (pn:=an_) ac_ Tryz.func181 rfl fun β0=>?_
 simp only[Tryz.f181]
 refine sG ?_
 refine aa_ cV_ (lF_ (f 47)) rfl rfl (by simp) ?_
 simp -dsimp
 repeat refine aI ?_
 refine af_ au_ (fun _=>cC_ (f 48) (1) (2)) rfl (fun _=>rfl) (fun _=>by simp) ?_
 simp -dsimp
 repeat refine aI ?_
 refine sG ?_
 refine WP.cond (b := !(inB (f 47) 1 1048576&&inB (f 48) 1 2)) (by simp) (fun hb=>?_) (fun hb=>?_)
 ·have hb:(inB (f 47) 1 1048576&&inB (f 48) 1 2)=false:=by simpa only[Bool.not_eq_true'] using hb
  refine sG ?_
  refine WP.ret (ab_ ?_)
  simp -dsimp[tb_,hb]
 have hb:(inB (f 47) 1 1048576&&inB (f 48) 1 2)=true:=by simpa only[Bool.not_eq_false'] using hb
 rw[tb_,hb,Bool.true_and]
 refine WP.skip ?_
 refine sH ?_
 have hr:f 49=1∨f 49=2∨f 49=3∨f 49=4∨f 49=5∨(f 49≠1∧f 49≠2∧f 49≠3∧f 49≠4∧f 49≠5):=by omega
 rcases hr with hr|hr|hr|hr|hr|⟨hr1,hr2,hr3,hr4,hr5⟩
 ·rw[hr]
  refine cU ?_
  refine WP.skip ?_
  refine sH ?_
  refine cU ?_
  refine sG ?_
  refine WP.ret (ab_ ?_)
  simp -dsimp[rz_,hr]
 ·rw[hr]
  refine cE ?_
  refine sG ?_
  refine cU ?_
  refine sG ?_
  refine WP.ret (ab_ ?_)
  simp -dsimp[rz_,hr]
 ·rw[hr]
  refine cE ?_
  refine sG ?_
  refine cE ?_
  refine sG ?_
  refine cU ?_
  refine sG ?_
  refine aa_ bi_ (g5_ (f 50)) rfl rfl (by simp) ?_
  simp -dsimp
  repeat refine aI ?_
  refine af_ ci_ (fun _=>my_ (f 51)) rfl (fun _=>rfl) (fun _=>by simp) ?_
  simp -dsimp
  repeat refine aI ?_
  refine af_ au_ (fun _=>cC_ (f 52) (1) (1099511627776)) rfl (fun _=>rfl) (fun _=>by simp) ?_
  simp -dsimp
  repeat refine aI ?_
  refine sG ?_
  refine WP.ret (ab_ ?_)
  simp -dsimp[rz_,hr]
 ·rw[hr]
  refine cE ?_
  refine sG ?_
  refine cE ?_
  refine sG ?_
  refine cE ?_
  refine sG ?_
  refine cU ?_
  refine sG ?_
  refine aa_ bi_ (g5_ (f 50)) rfl rfl (by simp) ?_
  simp -dsimp
  repeat refine aI ?_
  refine af_ ci_ (fun _=>my_ (f 51)) rfl (fun _=>rfl) (fun _=>by simp) ?_
  simp -dsimp
  repeat refine aI ?_
  refine af_ au_ (fun _=>cC_ (f 52) (1) (64)) rfl (fun _=>rfl) (fun _=>by simp) ?_
  simp -dsimp
  repeat refine aI ?_
  refine sG ?_
  refine WP.ret (ab_ ?_)
  simp -dsimp[rz_,hr]
 ·rw[hr]
  refine cE ?_
  refine sG ?_
  refine cE ?_
  refine sG ?_
  refine cE ?_
  refine sG ?_
  refine cE ?_
  refine sG ?_
  refine cU ?_
  refine sG ?_
  refine aa_ bi_ (g5_ (f 50)) rfl rfl (by simp) ?_
  simp -dsimp
  repeat refine aI ?_
  refine af_ ci_ (fun _=>my_ (f 51)) rfl (fun _=>rfl) (fun _=>by simp) ?_
  simp -dsimp
  repeat refine aI ?_
  refine sG ?_
  refine WP.ret (ab_ ?_)
  simp -dsimp[rz_,hr]
 ·refine cF (by simp[*]) ?_
  refine sG ?_
  refine cF (by simp[*]) ?_
  refine sG ?_
  refine cF (by simp[*]) ?_
  refine sG ?_
  refine cF (by simp[*]) ?_
  refine sG ?_
  refine cF (by simp[*]) ?_
  refine WP.skip ?_
  refine sH ?_
  refine WP.ret (ab_ ?_)
  simp -dsimp[rz_,hr1,hr2,hr3,hr4,hr5]
def conF (f:Nat→Int):Bool :=
 if f 3=1 then inB (f 4) 1 9999&&inB (f 5) 0 7&&inB (f 6) 0 31&&inB (f 7) (-1099511627776) 1099511627776&&inB (f 8) 0 120&&inB (f 9) 0 1048576&&inB (f 10) 0 9999&&inB (f 11) 0 1048576
 else if f 3=2 then inB (f 12) 0 39&&inB (f 13) 0 255&&inB (f 14) 0 1048576&&inB (f 15) (-1099511627776) 1099511627776
 else if f 3=3 then inB (f 16) 0 39&&inB (f 17) 0 255&&inB (f 18) (-1099511627776) 1099511627776&&inB (f 19) (-1099511627776) 1099511627776&&inB (f 20) 0 1099511627776
 else if f 3=4 then inB (f 21) 0 39&&inB (f 24) 0 39&&inB (f 22) 0 255&&inB (f 25) 0 255&&inB (f 23) (-1099511627776) 1099511627776&&inB (f 26) (-1099511627776) 1099511627776&&inB (f 27) (-1099511627776) 1099511627776&&inB (f 28) (-1099511627776) 1099511627776&&decide (f 27≤f 28)
 else if f 3=5 then inB (f 29) 1 9999&&inB (f 30) 0 255&&inB (f 31) (-1099511627776) 1099511627776&&inB (f 32) (-1099511627776) 1099511627776&&decide (f 31≤f 32)
 else if f 3=6 then inB (f 33) 0 39&&inB (f 34) 0 255&&inB (f 35) (-1099511627776) 1099511627776&&inB (f 36) (-1099511627776) 1099511627776&&decide (f 35≤f 36)
 else if f 3=7 then inB (f 37) 1 9999&&inB (f 38) 1 9999&&decide (f 37<f 38)
 else if f 3=8 then inB (f 39) 1 1048576&&inB (f 40) 1 9999&&inB (f 41) 0 31&&inB (f 42) 0 255
 else if f 3=9 then inB (f 43) 1 1048576&&inB (f 44) 0 9999&&inB (f 45) 0 1125899906842624&&inB (f 46) 0 1
 else if f 3=10 then tb_ f
 else if f 3=11 then inB (f 53) 1 1048576
 else if f 3=12 then true
 else if f 3=13 then inB (f 55) 0 31&&inB (f 56) 1 1048576
 else false
theorem uP_ (f:Nat→Int) (hk:f 3=1):Fn0 Tryz.prog 122 [fD f] (.v (.bool (inB (f 4) 1 9999&&inB (f 5) 0 7&&inB (f 6) 0 31&&inB (f 7) (-1099511627776) 1099511627776&&inB (f 8) 0 120&&inB (f 9) 0 1048576&&inB (f 10) 0 9999&&inB (f 11) 0 1048576))):=by
 refine ad_ (pn:=an_) ac_ Tryz.func122 rfl fun β0=>?_
 simp only[Tryz.f122]
 rw[fD]
 refine sG ?_
 rw[hk]
 refine cU ?_
 refine sG ?_
 refine aa_ nC_ (rh_ f) rfl rfl (by simp) ?_
 simp -dsimp
 repeat refine aI ?_
 refine sG ?_
 refine WP.ret (ab_ ?_)
 simp -dsimp
theorem uO_ (f:Nat→Int) (hk:f 3=2):Fn0 Tryz.prog 122 [fD f] (.v (.bool (inB (f 12) 0 39&&inB (f 13) 0 255&&inB (f 14) 0 1048576&&inB (f 15) (-1099511627776) 1099511627776))):=by
 refine ad_ (pn:=an_) ac_ Tryz.func122 rfl fun β0=>?_
 simp only[Tryz.f122]
 rw[fD]
 refine sG ?_
 rw[hk]
 refine cE ?_
 refine sG ?_
 refine cU ?_
 refine sG ?_
 refine aa_ ck_ (mN_ (f 12)) rfl rfl (by simp) ?_
 simp -dsimp
 repeat refine aI ?_
 refine af_ cj_ (fun _=>fW_ (f 13)) rfl (fun _=>rfl) (fun _=>by simp) ?_
 simp -dsimp
 repeat refine aI ?_
 refine af_ hg_ (fun _=>uW_ (f 14)) rfl (fun _=>rfl) (fun _=>by simp) ?_
 simp -dsimp
 repeat refine aI ?_
 refine af_ aN_ (fun _=>co_ (f 15)) rfl (fun _=>rfl) (fun _=>by simp) ?_
 simp -dsimp
 repeat refine aI ?_
 refine sG ?_
 refine WP.ret (ab_ ?_)
 simp -dsimp
theorem uN_ (f:Nat→Int) (hk:f 3=3):Fn0 Tryz.prog 122 [fD f] (.v (.bool (inB (f 16) 0 39&&inB (f 17) 0 255&&inB (f 18) (-1099511627776) 1099511627776&&inB (f 19) (-1099511627776) 1099511627776&&inB (f 20) 0 1099511627776))):=by
 refine ad_ (pn:=an_) ac_ Tryz.func122 rfl fun β0=>?_
 simp only[Tryz.f122]
 rw[fD]
 refine sG ?_
 rw[hk]
 refine cE ?_
 refine sG ?_
 refine cE ?_
 refine sG ?_
 refine cU ?_
 refine sG ?_
 refine aa_ ck_ (mN_ (f 16)) rfl rfl (by simp) ?_
 simp -dsimp
 repeat refine aI ?_
 refine af_ cj_ (fun _=>fW_ (f 17)) rfl (fun _=>rfl) (fun _=>by simp) ?_
 simp -dsimp
 repeat refine aI ?_
 refine af_ aN_ (fun _=>co_ (f 18)) rfl (fun _=>rfl) (fun _=>by simp) ?_
 simp -dsimp
 repeat refine aI ?_
 refine af_ aN_ (fun _=>co_ (f 19)) rfl (fun _=>rfl) (fun _=>by simp) ?_
 simp -dsimp
 repeat refine aI ?_
 refine af_ au_ (fun _=>cC_ (f 20) (0) (1099511627776)) rfl (fun _=>rfl) (fun _=>by simp) ?_
 simp -dsimp
 repeat refine aI ?_
 refine sG ?_
 refine WP.ret (ab_ ?_)
 simp -dsimp
theorem uM_ (f:Nat→Int) (hk:f 3=4):Fn0 Tryz.prog 122 [fD f] (.v (.bool (inB (f 21) 0 39&&inB (f 24) 0 39&&inB (f 22) 0 255&&inB (f 25) 0 255&&inB (f 23) (-1099511627776) 1099511627776&&inB (f 26) (-1099511627776) 1099511627776&&inB (f 27) (-1099511627776) 1099511627776&&inB (f 28) (-1099511627776) 1099511627776&&decide (f 27≤f 28)))):=by
 refine ad_ (pn:=an_) ac_ Tryz.func122 rfl fun β0=>?_
 simp only[Tryz.f122]
 rw[fD]
 refine sG ?_
 rw[hk]
 refine cE ?_
 refine sG ?_
 refine cE ?_
 refine sG ?_
 refine cE ?_
 refine sG ?_
 refine cU ?_
 refine sG ?_
 refine aa_ nB_ (yo_ f) rfl rfl (by simp) ?_
 simp -dsimp
 repeat refine aI ?_
 refine sG ?_
 refine WP.ret (ab_ ?_)
 simp -dsimp
theorem uL_ (f:Nat→Int) (hk:f 3=5):Fn0 Tryz.prog 122 [fD f] (.v (.bool (inB (f 29) 1 9999&&inB (f 30) 0 255&&inB (f 31) (-1099511627776) 1099511627776&&inB (f 32) (-1099511627776) 1099511627776&&decide (f 31≤f 32)))):=by
 refine ad_ (pn:=an_) ac_ Tryz.func122 rfl fun β0=>?_
 simp only[Tryz.f122]
 rw[fD]
 refine sG ?_
 rw[hk]
 refine cE ?_
 refine sG ?_
 refine cE ?_
 refine sG ?_
 refine cE ?_
 refine sG ?_
 refine cE ?_
 refine sG ?_
 refine cU ?_
 refine sG ?_
 refine aa_ bi_ (g5_ (f 29)) rfl rfl (by simp) ?_
 simp -dsimp
 repeat refine aI ?_
 refine af_ ci_ (fun _=>my_ (f 30)) rfl (fun _=>rfl) (fun _=>by simp) ?_
 simp -dsimp
 repeat refine aI ?_
 refine af_ aN_ (fun _=>co_ (f 31)) rfl (fun _=>rfl) (fun _=>by simp) ?_
 simp -dsimp
 repeat refine aI ?_
 refine af_ aN_ (fun _=>co_ (f 32)) rfl (fun _=>rfl) (fun _=>by simp) ?_
 simp -dsimp
 repeat refine aI ?_
 refine sG ?_
 refine WP.ret (ab_ ?_)
 simp -dsimp
theorem uK_ (f:Nat→Int) (hk:f 3=6):Fn0 Tryz.prog 122 [fD f] (.v (.bool (inB (f 33) 0 39&&inB (f 34) 0 255&&inB (f 35) (-1099511627776) 1099511627776&&inB (f 36) (-1099511627776) 1099511627776&&decide (f 35≤f 36)))):=by
 refine ad_ (pn:=an_) ac_ Tryz.func122 rfl fun β0=>?_
 simp only[Tryz.f122]
 rw[fD]
 refine sG ?_
 rw[hk]
 refine cE ?_
 refine sG ?_
 refine cE ?_
 refine sG ?_
 refine cE ?_
 refine sG ?_
 refine cE ?_
 refine sG ?_
 refine cE ?_
 refine sG ?_
 refine cU ?_
 refine sG ?_
 refine aa_ ck_ (mN_ (f 33)) rfl rfl (by simp) ?_
 simp -dsimp
 repeat refine aI ?_
 refine af_ cj_ (fun _=>fW_ (f 34)) rfl (fun _=>rfl) (fun _=>by simp) ?_
 simp -dsimp
 repeat refine aI ?_
 refine af_ aN_ (fun _=>co_ (f 35)) rfl (fun _=>rfl) (fun _=>by simp) ?_
 simp -dsimp
 repeat refine aI ?_
 refine af_ aN_ (fun _=>co_ (f 36)) rfl (fun _=>rfl) (fun _=>by simp) ?_
 simp -dsimp
 repeat refine aI ?_
 refine sG ?_
 refine WP.ret (ab_ ?_)
 simp -dsimp
theorem uJ_ (f:Nat→Int) (hk:f 3=7):Fn0 Tryz.prog 122 [fD f] (.v (.bool (inB (f 37) 1 9999&&inB (f 38) 1 9999&&decide (f 37<f 38)))):=by
 refine ad_ (pn:=an_) ac_ Tryz.func122 rfl fun β0=>?_
 simp only[Tryz.f122]
 rw[fD]
 refine sG ?_
 rw[hk]
 refine cE ?_
 refine sG ?_
 refine cE ?_
 refine sG ?_
 refine cE ?_
 refine sG ?_
 refine cE ?_
 refine sG ?_
 refine cE ?_
 refine sG ?_
 refine cE ?_
 refine sG ?_
 refine cU ?_
 refine sG ?_
 refine aa_ bi_ (g5_ (f 37)) rfl rfl (by simp) ?_
 simp -dsimp
 repeat refine aI ?_
 refine af_ bi_ (fun _=>g5_ (f 38)) rfl (fun _=>rfl) (fun _=>by simp) ?_
 simp -dsimp
 repeat refine aI ?_
 refine sG ?_
 refine WP.ret (ab_ ?_)
 simp -dsimp
theorem uI_ (f:Nat→Int) (hk:f 3=8):Fn0 Tryz.prog 122 [fD f] (.v (.bool (inB (f 39) 1 1048576&&inB (f 40) 1 9999&&inB (f 41) 0 31&&inB (f 42) 0 255))):=by
 refine ad_ (pn:=an_) ac_ Tryz.func122 rfl fun β0=>?_
 simp only[Tryz.f122]
 rw[fD]
 refine sG ?_
 rw[hk]
 refine cE ?_
 refine sG ?_
 refine cE ?_
 refine sG ?_
 refine cE ?_
 refine sG ?_
 refine cE ?_
 refine sG ?_
 refine cE ?_
 refine sG ?_
 refine cE ?_
 refine sG ?_
 refine cE ?_
 refine sG ?_
 refine cU ?_
 refine sG ?_
 refine aa_ cV_ (lF_ (f 39)) rfl rfl (by simp) ?_
 simp -dsimp
 repeat refine aI ?_
 refine af_ bi_ (fun _=>g5_ (f 40)) rfl (fun _=>rfl) (fun _=>by simp) ?_
 simp -dsimp
 repeat refine aI ?_
 refine af_ au_ (fun _=>cC_ (f 41) (0) (31)) rfl (fun _=>rfl) (fun _=>by simp) ?_
 simp -dsimp
 repeat refine aI ?_
 refine af_ ci_ (fun _=>my_ (f 42)) rfl (fun _=>rfl) (fun _=>by simp) ?_
 simp -dsimp
 repeat refine aI ?_
 refine sG ?_
 refine WP.ret (ab_ ?_)
 simp -dsimp
theorem uH_ (f:Nat→Int) (hk:f 3=9):Fn0 Tryz.prog 122 [fD f] (.v (.bool (inB (f 43) 1 1048576&&inB (f 44) 0 9999&&inB (f 45) 0 1125899906842624&&inB (f 46) 0 1))):=by
 refine ad_ (pn:=an_) ac_ Tryz.func122 rfl fun β0=>?_
 simp only[Tryz.f122]
 rw[fD]
 refine sG ?_
 rw[hk]
 refine cE ?_
 refine sG ?_
 refine cE ?_
 refine sG ?_
 refine cE ?_
 refine sG ?_
 refine cE ?_
 refine sG ?_
 refine cE ?_
 refine sG ?_
 refine cE ?_
 refine sG ?_
 refine cE ?_
 refine sG ?_
 refine cE ?_
 refine sG ?_
 refine cU ?_
 refine sG ?_
 refine aa_ cV_ (lF_ (f 43)) rfl rfl (by simp) ?_
 simp -dsimp
 repeat refine aI ?_
 refine af_ au_ (fun _=>cC_ (f 44) (0) (9999)) rfl (fun _=>rfl) (fun _=>by simp) ?_
 simp -dsimp
 repeat refine aI ?_
 refine af_ au_ (fun _=>cC_ (f 45) (0) (1125899906842624)) rfl (fun _=>rfl) (fun _=>by simp) ?_
 simp -dsimp
 repeat refine aI ?_
 refine af_ au_ (fun _=>cC_ (f 46) (0) (1)) rfl (fun _=>rfl) (fun _=>by simp) ?_
 simp -dsimp
 repeat refine aI ?_
 refine sG ?_
 refine WP.ret (ab_ ?_)
 simp -dsimp
theorem sh_ (f:Nat→Int) (hk:f 3=10):Fn0 Tryz.prog 122 [fD f] (.v (.bool (tb_ f))):=by
 refine ad_ (pn:=an_) ac_ Tryz.func122 rfl fun β0=>?_
 simp only[Tryz.f122]
 rw[fD]
 refine sG ?_
 rw[hk]
 refine cE ?_
 refine sG ?_
 refine cE ?_
 refine sG ?_
 refine cE ?_
 refine sG ?_
 refine cE ?_
 refine sG ?_
 refine cE ?_
 refine sG ?_
 refine cE ?_
 refine sG ?_
 refine cE ?_
 refine sG ?_
 refine cE ?_
 refine sG ?_
 refine cE ?_
 refine sG ?_
 refine cU ?_
 refine sG ?_
 refine aa_ nA_ (ta_ f) rfl rfl (by simp) ?_
 simp -dsimp
 repeat refine aI ?_
 refine sG ?_
 refine WP.ret (ab_ ?_)
 simp -dsimp
theorem sg_ (f:Nat→Int) (hk:f 3=11):Fn0 Tryz.prog 122 [fD f] (.v (.bool (inB (f 53) 1 1048576))):=by
 refine ad_ (pn:=an_) ac_ Tryz.func122 rfl fun β0=>?_
 simp only[Tryz.f122]
 rw[fD]
 refine sG ?_
 rw[hk]
 refine cE ?_
 refine sG ?_
 refine cE ?_
 refine sG ?_
 refine cE ?_
 refine sG ?_
 refine cE ?_
 refine sG ?_
 refine cE ?_
 refine sG ?_
 refine cE ?_
 refine sG ?_
 refine cE ?_
 refine sG ?_
 refine cE ?_
 refine sG ?_
 refine cE ?_
 refine sG ?_
 refine cE ?_
 refine sG ?_
 refine cU ?_
 refine sG ?_
 refine aa_ cV_ (lF_ (f 53)) rfl rfl (by simp) ?_
 simp -dsimp
 repeat refine aI ?_
 refine sG ?_
 refine WP.ret (ab_ ?_)
 simp -dsimp
theorem sf_ (f:Nat→Int) (hk:f 3=12):Fn0 Tryz.prog 122 [fD f] (.v (.bool (true))):=by
 refine ad_ (pn:=an_) ac_ Tryz.func122 rfl fun β0=>?_
 simp only[Tryz.f122]
 rw[fD]
 refine sG ?_
 rw[hk]
 refine cE ?_
 refine sG ?_
 refine cE ?_
 refine sG ?_
 refine cE ?_
 refine sG ?_
 refine cE ?_
 refine sG ?_
 refine cE ?_
 refine sG ?_
 refine cE ?_
 refine sG ?_
 refine cE ?_
 refine sG ?_
 refine cE ?_
 refine sG ?_
 refine cE ?_
 refine sG ?_
 refine cE ?_
 refine sG ?_
 refine cE ?_
 refine sG ?_
 refine cU ?_
 refine sG ?_
 refine WP.ret (ab_ ?_)
 simp -dsimp
theorem se_ (f:Nat→Int) (hk:f 3=13):Fn0 Tryz.prog 122 [fD f] (.v (.bool (inB (f 55) 0 31&&inB (f 56) 1 1048576))):=by
 refine ad_ (pn:=an_) ac_ Tryz.func122 rfl fun β0=>?_
 simp only[Tryz.f122]
 rw[fD]
 refine sG ?_
 rw[hk]
 refine cE ?_
 refine sG ?_
 refine cE ?_
 refine sG ?_
 refine cE ?_
 refine sG ?_
 refine cE ?_
 refine sG ?_
 refine cE ?_
 refine sG ?_
 refine cE ?_
 refine sG ?_
 refine cE ?_
 refine sG ?_
 refine cE ?_
 refine sG ?_
 refine cE ?_
 refine sG ?_
 refine cE ?_
 refine sG ?_
 refine cE ?_
 refine sG ?_
 refine cE ?_
 refine sG ?_
 refine cU ?_
 refine sG ?_
 refine aa_ hv_ (uF_ (f 55)) rfl rfl (by simp) ?_
 simp -dsimp
 repeat refine aI ?_
 refine af_ hu_ (fun _=>mL_ (f 56)) rfl (fun _=>rfl) (fun _=>by simp) ?_
 simp -dsimp
 repeat refine aI ?_
 refine sG ?_
 refine WP.ret (ab_ ?_)
 simp -dsimp
theorem sd_ (f:Nat→Int) (hk:f 3<1∨13<f 3):Fn0 Tryz.prog 122 [fD f] (.v (.bool false)):=by
 refine ad_ (pn:=an_) ac_ Tryz.func122 rfl fun β0=>?_
 simp only[Tryz.f122]
 rw[fD]
 refine sG ?_
 refine cF (by simp;omega) ?_
 refine sG ?_
 refine cF (by simp;omega) ?_
 refine sG ?_
 refine cF (by simp;omega) ?_
 refine sG ?_
 refine cF (by simp;omega) ?_
 refine sG ?_
 refine cF (by simp;omega) ?_
 refine sG ?_
 refine cF (by simp;omega) ?_
 refine sG ?_
 refine cF (by simp;omega) ?_
 refine sG ?_
 refine cF (by simp;omega) ?_
 refine sG ?_
 refine cF (by simp;omega) ?_
 refine sG ?_
 refine cF (by simp;omega) ?_
 refine sG ?_
 refine cF (by simp;omega) ?_
 refine sG ?_
 refine cF (by simp;omega) ?_
 refine sG ?_
 refine cF (by simp;omega) ?_
 refine WP.skip ?_
 refine sH ?_
 refine WP.ret (ab_ ?_)
 simp -dsimp
theorem sc_ (f:Nat→Int):Fn0 Tryz.prog 122 [fD f] (.v (.bool (conF f))):=by
 have h:(f 3<1∨13<f 3)∨f 3=1∨f 3=2∨f 3=3∨f 3=4∨f 3=5∨f 3=6∨f 3=7∨f 3=8∨f 3=9∨f 3=10∨f 3=11∨f 3=12∨f 3=13:=by omega
 rcases h with h|h|h|h|h|h|h|h|h|h|h|h|h|h
 ·have:conF f=false:=by
   unfold conF
   rw[if_neg (by omega)]
   rw[if_neg (by omega)]
   rw[if_neg (by omega)]
   rw[if_neg (by omega)]
   rw[if_neg (by omega)]
   rw[if_neg (by omega)]
   rw[if_neg (by omega)]
   rw[if_neg (by omega)]
   rw[if_neg (by omega)]
   rw[if_neg (by omega)]
   rw[if_neg (by omega)]
   rw[if_neg (by omega)]
   rw[if_neg (by omega)]
  rw[this];exact sd_ f h
 ·have:=uP_ f h;simpa only[conF,h,Int.reduceEq,if_true,if_false] using this
 ·have:=uO_ f h;simpa only[conF,h,Int.reduceEq,if_true,if_false] using this
 ·have:=uN_ f h;simpa only[conF,h,Int.reduceEq,if_true,if_false] using this
 ·have:=uM_ f h;simpa only[conF,h,Int.reduceEq,if_true,if_false] using this
 ·have:=uL_ f h;simpa only[conF,h,Int.reduceEq,if_true,if_false] using this
 ·have:=uK_ f h;simpa only[conF,h,Int.reduceEq,if_true,if_false] using this
 ·have:=uJ_ f h;simpa only[conF,h,Int.reduceEq,if_true,if_false] using this
 ·have:=uI_ f h;simpa only[conF,h,Int.reduceEq,if_true,if_false] using this
 ·have:=uH_ f h;simpa only[conF,h,Int.reduceEq,if_true,if_false] using this
 ·have:=sh_ f h;simpa only[conF,h,Int.reduceEq,if_true,if_false] using this
 ·have:=sg_ f h;simpa only[conF,h,Int.reduceEq,if_true,if_false] using this
 ·have:=sf_ f h;simpa only[conF,h,Int.reduceEq,if_true,if_false] using this
 ·have:=se_ f h;simpa only[conF,h,Int.reduceEq,if_true,if_false] using this
def partF (k:Int):Nat×Nat :=
 if k=1 then (4,8) else if k=2 then (12,4) else if k=3 then (16,5) else if k=4 then (21,8) else if k=5 then (29,4) else if k=6 then (33,4) else if k=7 then (37,2)
 else if k=8 then (39,4) else if k=9 then (43,4) else if k=10 then (47,6) else if k=11 then (53,2) else if k=13 then (55,2) else (0,0)
def c5_ (f:Nat→Int):Nat→Int:=fup (fup (fup (fup f0 0 (f 0)) 1 (f 1)) 2 (f 2)) 3 (f 3)
def bt_ (f:Nat→Int):Nat→Int:=fcp (c5_ f) f (partF (f 3)).1 (partF (f 3)).2
theorem wa_ {f:Nat→Int} (hf:fOk f):fOk (bt_ f):=by
 have hb:fOk (c5_ f):=by
  refine⟨d9_ (d9_ (d9_ (d9_ (fun _=>t9_) (hf.1 0)) (hf.1 1)) (hf.1 2)) (hf.1 3),.inl rfl,fun i hi=>?_⟩
  have h0:i≠0:=by omega
  have h1:i≠1:=by omega
  have h2:i≠2:=by omega
  have h3:i≠3:=by omega
  simp[c5_,fup,f0,h0,h1,h2,h3]
 refine⟨fun i=>?_,?_,fun i hi=>?_⟩
 ·unfold bt_ fcp;split;exact hf.1 i;exact hb.1 i
 ·unfold bt_ fcp;split;exact hf.2.1;exact hb.2.1
 ·unfold bt_ fcp;split;exact hf.2.2 i hi;exact hb.2.2 i hi
@[simp] theorem DU_ (g f:Nat→Int):fcp g f 0 0=g:=by funext i;simp only[fcp];rw[if_neg (by omega)]
theorem Bv_ (f:Nat→Int) (hk:f 3=1):Fn0 Tryz.prog 123 [fD f] (fD (bt_ f)):=by
 refine ad_ (pn:=an_) ac_ Tryz.func123 rfl fun β0=>?_
 simp only[Tryz.f123]
 unfold fD
 repeat(first|apply wG|(apply wR;simp -dsimp[aA_])|refine aI ?_)
 rw[hk]
 refine cU ?_
 refine sG ?_
 refine WP.ret (ab_ ?_)
 simp -dsimp[bt_,partF,hk,c5_]
 all_goals exact al_ _
theorem Bu_ (f:Nat→Int) (hk:f 3=2):Fn0 Tryz.prog 123 [fD f] (fD (bt_ f)):=by
 refine ad_ (pn:=an_) ac_ Tryz.func123 rfl fun β0=>?_
 simp only[Tryz.f123]
 unfold fD
 repeat(first|apply wG|(apply wR;simp -dsimp[aA_])|refine aI ?_)
 rw[hk]
 refine cE ?_
 refine sG ?_
 refine cU ?_
 refine sG ?_
 refine WP.ret (ab_ ?_)
 simp -dsimp[bt_,partF,hk,c5_]
 all_goals exact al_ _
theorem Bt_ (f:Nat→Int) (hk:f 3=3):Fn0 Tryz.prog 123 [fD f] (fD (bt_ f)):=by
 refine ad_ (pn:=an_) ac_ Tryz.func123 rfl fun β0=>?_
 simp only[Tryz.f123]
 unfold fD
 repeat(first|apply wG|(apply wR;simp -dsimp[aA_])|refine aI ?_)
 rw[hk]
 refine cE ?_
 refine sG ?_
 refine cE ?_
 refine sG ?_
 refine cU ?_
 refine sG ?_
 refine WP.ret (ab_ ?_)
 simp -dsimp[bt_,partF,hk,c5_]
 all_goals exact al_ _
theorem Bs_ (f:Nat→Int) (hk:f 3=4):Fn0 Tryz.prog 123 [fD f] (fD (bt_ f)):=by
 refine ad_ (pn:=an_) ac_ Tryz.func123 rfl fun β0=>?_
 simp only[Tryz.f123]
 unfold fD
 repeat(first|apply wG|(apply wR;simp -dsimp[aA_])|refine aI ?_)
 rw[hk]
 refine cE ?_
 refine sG ?_
 refine cE ?_
 refine sG ?_
 refine cE ?_
 refine sG ?_
 refine cU ?_
 refine sG ?_
 refine WP.ret (ab_ ?_)
 simp -dsimp[bt_,partF,hk,c5_]
 all_goals exact al_ _
theorem Br_ (f:Nat→Int) (hk:f 3=5):Fn0 Tryz.prog 123 [fD f] (fD (bt_ f)):=by
 refine ad_ (pn:=an_) ac_ Tryz.func123 rfl fun β0=>?_
 simp only[Tryz.f123]
 unfold fD
 repeat(first|apply wG|(apply wR;simp -dsimp[aA_])|refine aI ?_)
 rw[hk]
 refine cE ?_
 refine sG ?_
 refine cE ?_
 refine sG ?_
 refine cE ?_
 refine sG ?_
 refine cE ?_
 refine sG ?_
 refine cU ?_
 refine sG ?_
 refine WP.ret (ab_ ?_)
 simp -dsimp[bt_,partF,hk,c5_]
 all_goals exact al_ _
theorem Bq_ (f:Nat→Int) (hk:f 3=6):Fn0 Tryz.prog 123 [fD f] (fD (bt_ f)):=by
 refine ad_ (pn:=an_) ac_ Tryz.func123 rfl fun β0=>?_
 simp only[Tryz.f123]
 unfold fD
 repeat(first|apply wG|(apply wR;simp -dsimp[aA_])|refine aI ?_)
 rw[hk]
 refine cE ?_
 refine sG ?_
 refine cE ?_
 refine sG ?_
 refine cE ?_
 refine sG ?_
 refine cE ?_
 refine sG ?_
 refine cE ?_
 refine sG ?_
 refine cU ?_
 refine sG ?_
 refine WP.ret (ab_ ?_)
 simp -dsimp[bt_,partF,hk,c5_]
 all_goals exact al_ _
theorem Bp_ (f:Nat→Int) (hk:f 3=7):Fn0 Tryz.prog 123 [fD f] (fD (bt_ f)):=by
 refine ad_ (pn:=an_) ac_ Tryz.func123 rfl fun β0=>?_
 simp only[Tryz.f123]
 unfold fD
 repeat(first|apply wG|(apply wR;simp -dsimp[aA_])|refine aI ?_)
 rw[hk]
 refine cE ?_
 refine sG ?_
 refine cE ?_
 refine sG ?_
 refine cE ?_
 refine sG ?_
 refine cE ?_
 refine sG ?_
 refine cE ?_
 refine sG ?_
 refine cE ?_
 refine sG ?_
 refine cU ?_
 refine sG ?_
 refine WP.ret (ab_ ?_)
 simp -dsimp[bt_,partF,hk,c5_]
 all_goals exact al_ _
theorem Bo_ (f:Nat→Int) (hk:f 3=8):Fn0 Tryz.prog 123 [fD f] (fD (bt_ f)):=by
 refine ad_ (pn:=an_) ac_ Tryz.func123 rfl fun β0=>?_
 simp only[Tryz.f123]
 unfold fD
 repeat(first|apply wG|(apply wR;simp -dsimp[aA_])|refine aI ?_)
 rw[hk]
 refine cE ?_
 refine sG ?_
 refine cE ?_
 refine sG ?_
 refine cE ?_
 refine sG ?_
 refine cE ?_
 refine sG ?_
 refine cE ?_
 refine sG ?_
 refine cE ?_
 refine sG ?_
 refine cE ?_
 refine sG ?_
 refine cU ?_
 refine sG ?_
 refine WP.ret (ab_ ?_)
 simp -dsimp[bt_,partF,hk,c5_]
 all_goals exact al_ _
theorem Bn_ (f:Nat→Int) (hk:f 3=9):Fn0 Tryz.prog 123 [fD f] (fD (bt_ f)):=by
 refine ad_ (pn:=an_) ac_ Tryz.func123 rfl fun β0=>?_
 simp only[Tryz.f123]
 unfold fD
 repeat(first|apply wG|(apply wR;simp -dsimp[aA_])|refine aI ?_)
 rw[hk]
 refine cE ?_
 refine sG ?_
 refine cE ?_
 refine sG ?_
 refine cE ?_
 refine sG ?_
 refine cE ?_
 refine sG ?_
 refine cE ?_
 refine sG ?_
 refine cE ?_
 refine sG ?_
 refine cE ?_
 refine sG ?_
 refine cE ?_
 refine sG ?_
 refine cU ?_
 refine sG ?_
 refine WP.ret (ab_ ?_)
 simp -dsimp[bt_,partF,hk,c5_]
 all_goals exact al_ _
theorem y1_ (f:Nat→Int) (hk:f 3=10):Fn0 Tryz.prog 123 [fD f] (fD (bt_ f)):=by
 refine ad_ (pn:=an_) ac_ Tryz.func123 rfl fun β0=>?_
 simp only[Tryz.f123]
 unfold fD
 repeat(first|apply wG|(apply wR;simp -dsimp[aA_])|refine aI ?_)
 rw[hk]
 refine cE ?_
 refine sG ?_
 refine cE ?_
 refine sG ?_
 refine cE ?_
 refine sG ?_
 refine cE ?_
 refine sG ?_
 refine cE ?_
 refine sG ?_
 refine cE ?_
 refine sG ?_
 refine cE ?_
 refine sG ?_
 refine cE ?_
 refine sG ?_
 refine cE ?_
 refine sG ?_
 refine cU ?_
 refine sG ?_
 refine WP.ret (ab_ ?_)
 simp -dsimp[bt_,partF,hk,c5_]
 all_goals exact al_ _
theorem y0_ (f:Nat→Int) (hk:f 3=11):Fn0 Tryz.prog 123 [fD f] (fD (bt_ f)):=by
 refine ad_ (pn:=an_) ac_ Tryz.func123 rfl fun β0=>?_
 simp only[Tryz.f123]
 unfold fD
 repeat(first|apply wG|(apply wR;simp -dsimp[aA_])|refine aI ?_)
 rw[hk]
 refine cE ?_
 refine sG ?_
 refine cE ?_
 refine sG ?_
 refine cE ?_
 refine sG ?_
 refine cE ?_
 refine sG ?_
 refine cE ?_
 refine sG ?_
 refine cE ?_
 refine sG ?_
 refine cE ?_
 refine sG ?_
 refine cE ?_
 refine sG ?_
 refine cE ?_
 refine sG ?_
 refine cE ?_
 refine sG ?_
 refine cU ?_
 refine sG ?_
 refine WP.ret (ab_ ?_)
 simp -dsimp[bt_,partF,hk,c5_]
 all_goals exact al_ _
theorem yZ_ (f:Nat→Int) (hk:f 3=13):Fn0 Tryz.prog 123 [fD f] (fD (bt_ f)):=by
 refine ad_ (pn:=an_) ac_ Tryz.func123 rfl fun β0=>?_
 simp only[Tryz.f123]
 unfold fD
 repeat(first|apply wG|(apply wR;simp -dsimp[aA_])|refine aI ?_)
 rw[hk]
 refine cE ?_
 refine sG ?_
 refine cE ?_
 refine sG ?_
 refine cE ?_
 refine sG ?_
 refine cE ?_
 refine sG ?_
 refine cE ?_
 refine sG ?_
 refine cE ?_
 refine sG ?_
 refine cE ?_
 refine sG ?_
 refine cE ?_
 refine sG ?_
 refine cE ?_
 refine sG ?_
 refine cE ?_
 refine sG ?_
 refine cE ?_
 refine sG ?_
 refine cU ?_
 refine sG ?_
 refine WP.ret (ab_ ?_)
 simp -dsimp[bt_,partF,hk,c5_]
 all_goals exact al_ _
theorem yY_ (f:Nat→Int) (hk:f 3<1∨13<f 3∨f 3=12):Fn0 Tryz.prog 123 [fD f] (fD (bt_ f)):=by
 have hp:partF (f 3)=(0,0):=by
  unfold partF
  rw[if_neg (by omega)]
  rw[if_neg (by omega)]
  rw[if_neg (by omega)]
  rw[if_neg (by omega)]
  rw[if_neg (by omega)]
  rw[if_neg (by omega)]
  rw[if_neg (by omega)]
  rw[if_neg (by omega)]
  rw[if_neg (by omega)]
  rw[if_neg (by omega)]
  rw[if_neg (by omega)]
  rw[if_neg (by omega)]
 refine ad_ (pn:=an_) ac_ Tryz.func123 rfl fun β0=>?_
 simp only[Tryz.f123]
 unfold fD
 repeat(first|apply wG|(apply wR;simp -dsimp[aA_])|refine aI ?_)
 refine cF (by simp;omega) ?_
 refine sG ?_
 refine cF (by simp;omega) ?_
 refine sG ?_
 refine cF (by simp;omega) ?_
 refine sG ?_
 refine cF (by simp;omega) ?_
 refine sG ?_
 refine cF (by simp;omega) ?_
 refine sG ?_
 refine cF (by simp;omega) ?_
 refine sG ?_
 refine cF (by simp;omega) ?_
 refine sG ?_
 refine cF (by simp;omega) ?_
 refine sG ?_
 refine cF (by simp;omega) ?_
 refine sG ?_
 refine cF (by simp;omega) ?_
 refine sG ?_
 refine cF (by simp;omega) ?_
 refine sG ?_
 refine cF (by simp;omega) ?_
 refine WP.skip ?_
 refine sH ?_
 refine WP.ret (ab_ ?_)
 simp -dsimp[bt_,hp,c5_]
 all_goals exact al_ _
theorem yX_ (f:Nat→Int):Fn0 Tryz.prog 123 [fD f] (fD (bt_ f)):=by
 have h:(f 3<1∨13<f 3∨f 3=12)∨f 3=1∨f 3=2∨f 3=3∨f 3=4∨f 3=5∨f 3=6∨f 3=7∨f 3=8∨f 3=9∨f 3=10∨f 3=11∨f 3=13:=by omega
 rcases h with h|h|h|h|h|h|h|h|h|h|h|h|h
 ·exact yY_ f h
 ·exact Bv_ f h
 ·exact Bu_ f h
 ·exact Bt_ f h
 ·exact Bs_ f h
 ·exact Br_ f h
 ·exact Bq_ f h
 ·exact Bp_ f h
 ·exact Bo_ f h
 ·exact Bn_ f h
 ·exact y1_ f h
 ·exact y0_ f h
 ·exact yZ_ f h
def dn_ (f:Nat→Int):Bool:=inB (f 0) 0 31&&inB (f 1) 1 1048576&&inB (f 2) 0 1099511627776&&conF f&&eqF f (bt_ f)
theorem it_ (f:Nat→Int) (hf:fOk f):Fn0 Tryz.prog 68 [fD f] (.v (.int .i64 (if dn_ f=true then 0 else 120))):=by
 have h28:=sc_ f
 have h29:=yX_ f
 have ho:=wa_ hf
 refine ad_ (pn:=an_) ac_ Tryz.func68 rfl fun β0=>?_
 simp only[Tryz.f68]
 rw[fD]
 refine sG ?_
 refine aa_ hv_ (uF_ (f 0)) rfl rfl (by simp) ?_
 simp -dsimp
 repeat refine aI ?_
 refine af_ hu_ (fun _=>mL_ (f 1)) rfl (fun _=>rfl) (fun _=>by simp) ?_
 simp -dsimp
 repeat refine aI ?_
 refine af_ au_ (fun _=>cC_ (f 2) 0 1099511627776) rfl (fun _=>rfl) (fun _=>by simp) ?_
 simp -dsimp
 repeat refine aI ?_
 refine af_ nZ_ (fun _=>h28) rfl (fun _=>rfl) (fun _=>by simp[fD]) ?_
 simp -dsimp
 repeat refine aI ?_
 refine af_ nY_ (fun _=>h29) rfl (fun _=>rfl) (fun _=>by simp[fD]) ?_
 simp -dsimp[fD]
 repeat refine aI ?_
 refine ot_ ac_ BT_ mM_ rfl (.inr rfl) (m:=5) (by omega) dl_ (by decide) eg_ AM_ (cs:=fcs f 0 57) (es:=fcs (bt_ f) 0 57) (fun _=>by simp) (fun _=>by simp) (okF hf.1) (okF ho.1) (fR_ hf ho) ?_
 simp -dsimp[eqRes]
 refine sG ?_
 refine WP.cond (b := !dn_ f) (by simp[dn_]) (fun hb=>?_) (fun hb=>?_)
 ·have hb:dn_ f=false:=by simpa using hb
  refine sG ?_
  refine WP.ret (ab_ ?_)
  simp -dsimp[hb]
 ·have hb:dn_ f=true:=by simpa using hb
  refine WP.skip ?_
  refine sH ?_
  refine WP.ret (ab_ ?_)
  simp -dsimp[hb]
theorem wT_ (f:Nat→Int) (hf:fOk f):Fn0 Tryz.prog 46 [fD f] (.v (.int .i64 (if (numF f).2=true then 0 else 120))):=by
 have h24:=ke_ f hf
 rw[qy_] at h24
 generalize numF f=R at *
 obtain⟨l,b⟩:=R
 refine ad_ (pn:=an_) ac_ Tryz.func46 rfl fun β0=>?_
 simp only[Tryz.f46]
 rw[fD]
 refine sG ?_
 refine aa_ jp_ h24 rfl rfl (by simp[fD]) ?_
 refine sH ?_
 cases b with
 | true =>
  refine cE ?_
  refine WP.skip ?_
  refine sH ?_
  refine WP.ret (ab_ ?_)
  simp -dsimp
 | false =>
  refine cU ?_
  refine sG ?_
  refine WP.ret (ab_ ?_)
  simp -dsimp
def qD_ (x:Int):V:=.mk 1 x ⟨#[]⟩ []
def b5_ (l:List Int):V:=.mk 3 0 ⟨#[]⟩ (l.map qD_)
theorem dx_:∀ {l:List Int},(∀ x∈l,isI x)→cq_ (l.map qD_)=true∧a2_ (l.map qD_)=0∧(az_ (l.map qD_)).length≤11*l.length∧bk_ (l.map qD_)=true
 | [],_=>by simp[cq_,a2_,az_,bk_]
 | x::l,h=>by
  obtain⟨h1,h2,h3,h4⟩:=dx_ (l:=l) fun y hy=>h y (by simp[hy])
  have hx:=h x (by simp)
  have h10:=bf_ (lX_ hx)
  unfold isI at hx
  rw[List.map_cons,cq_,a2_,az_,bk_,h1,h2,h4]
  simp only[qD_,V.ok,V.dep,V.enc,V.rng,bk_,show (⟨#[]⟩:ByteArray).size=0 from rfl]
  simp
  omega
theorem e9_ {l:List Int} (h:∀ x∈l,isI x) (hl:l.length≤1000):V.chk (b5_ l)=0∧V.rng (b5_ l)=true∧V.dep (b5_ l)=1∧(V.enc (b5_ l)).length≤100000:=by
 obtain⟨h1,h2,h3,h4⟩:=dx_ h
 have h5:V.dep (b5_ l)=1:=by rw[b5_,V.dep,if_pos rfl,h2]
 have h10:=bf_ (u:=l.length) (by unfold isU;omega)
 refine⟨?_,?_,h5,?_⟩
 ·rw[V.chk,if_pos (by rw[b5_,V.ok];simp[h1]),if_neg (by omega)]
 ·simp[b5_,V.rng,h4,show (⟨#[]⟩:ByteArray).size=0 from rfl]
 ·rw[b5_,V.enc]
  simp
  omega
theorem lf_ {f:Nat→Int} (hf:fOk f):(∀ x∈(numF f).1,isI x)∧(numF f).1.length≤12:=by
 unfold numF
 split
 ·simp
 ·rename_i E hE
  split
  ·refine⟨fun x hx=>?_,by have:=dy_ hE;simp;omega⟩
   obtain⟨e,_,rfl⟩:=List.mem_map.1 hx
   unfold valE
   split
   ·exact hf.1 _
   ·exact yp_
  ·simp
def encF (f:Nat→Int):List UInt8:=V.enc (b5_ (numF f).1)
def encR (f:Nat→Int):List UInt8×Int:=if (numF f).2=true then (encF f,0) else ([],120)
def Cp_ (f:Nat→Int):D:=.tup [slB (encR f).1,.v (.int .i64 (encR f).2)]
theorem BQ_ (a:List Int) (x:Int) (b:List Int):(iD (a++x::b)).drop a.length=.v (.int .i64 x)::iD b:=by
 rw[mU_,← mT_ a,List.drop_left];rfl
def ics:List Int→List D
 | []=>[]
 | x::l=>.v (.int .i64 1) :: .v (.int .i64 x) :: .v (.string ⟨#[]⟩) :: .v (.slice none 0 0)::ics l
@[simp] theorem rX_:∀ a b:List Int,ics (a++b)=ics a++ics b
 | [],_=>rfl
 | x::a,b=>by rw[List.cons_append,ics,ics,rX_ a b];rfl
@[simp] theorem rW_:∀ a:List Int,(ics a).length=a.length*4
 | []=>rfl
 | x::a=>by rw[ics];simp[rW_ a];omega
theorem xL_:∀ l:List Int,DLes (ics l) (ar_ (l.map qD_))
 | []=>trivial
 | x::l=>⟨DLe.refl _,DLe.refl _,DLe.refl _,DLe.nil 4,xL_ l⟩
theorem ints_arg (l:List Int):Leq (.agg [.d (.v (.int .i64 3)),.d (.v (.int .i64 0)),.d (.v (.string ⟨#[]⟩)),.d (.sl 4 (ics l) l.length false)]) (.d (b5_ l).d):=by
 have hle:Leq (.d (.sl 4 (ics l) l.length false)) (.d (.sl 4 (ar_ (l.map qD_)) l.length false)):=Leq.data (DLe.sl (xL_ l))
 have h1:LeqL [.d (.v (.int .i64 3)),.d (.v (.int .i64 0)),.d (.v (.string ⟨#[]⟩)),.d (.sl 4 (ics l) l.length false)] ([D.v (.int .i64 3),.v (.int .i64 0),.v (.string ⟨#[]⟩),.sl 4 (ar_ (l.map qD_)) l.length false].map .d) :=
  ⟨Leq.refl _,Leq.refl _,Leq.refl _,hle,trivial⟩
 have h2:=(Leq.agg h1).trans (al_ _)
 rw[b5_,V.d,V.cells,List.length_map]
 exact h2
def sE (l:List Int) (l1:List Int):St :=
 mkS 35 [(6,.ptr 6 0),(17,.d (slI l)),(18,.d (.v (.int .i64 l.length))),(19,.d (.v (.int .i64 l1.length)))]
  [(6,.cells 121 [.d (.v (.int .i64 3)),.d (.v (.int .i64 0)),.d (.v (.string ⟨#[]⟩)),.row 500]),(500,.row 121 4 l1.length ((ics l1).map .d))]
theorem i1_ (f:Nat→Int) (hf:fOk f):Fn0 Tryz.prog 19 [fD f] (Cp_ f):=by
 have h24:=ke_ f hf
 rw[qy_] at h24
 obtain⟨hin,hlen⟩:=lf_ hf
 unfold Cp_ encR encF
 generalize numF f=R at *
 obtain⟨l,b⟩:=R
 simp only at hin hlen
 obtain⟨c1,c2,c3,c4⟩:=e9_ hin (by omega)
 have h12:=Cn_ (b5_ l) (by omega) c2 (by omega)
 rw[show V.encB (b5_ l)=V.enc (b5_ l) from if_pos c1,c1] at h12
 refine ad_ (pn:=an_) ac_ Tryz.func19 rfl fun β0=>?_
 simp only[Tryz.f19]
 rw[fD]
 refine sG ?_
 refine aa_ jp_ h24 rfl rfl (by simp[fD]) ?_
 refine sH ?_
 cases b with
 | false =>
  refine cU ?_
  refine sG ?_
  refine WP.ret (ab_ ?_)
  simp -dsimp
 | true =>
  refine cE ?_
  refine WP.skip ?_
  refine sH ?_
  refine ai_ (fun m S=>∃ l1 l2,l=l1++l2∧m=l2.length∧S=sE l l1) l.length (S0:=sE l [])
   ((bo_ 6 3 500 121 4 (by simp;exact⟨rfl,rfl⟩) rfl (by simp)).trans (ae_ [] (by simp[sE]) (by simp[sE,ics]))) ⟨[],l,rfl,rfl,rfl⟩ ?_
  rintro _ _ ⟨l1,l2,hl12,rfl,rfl⟩
  simp -dsimp[sE]
  refine sG ?_
  cases l2 with
  | nil =>
   simp only[List.append_nil] at hl12
   subst hl12
   refine cE ?_
   refine WP.exit ?_
   simp -dsimp
   refine aq_ (Wk.freeze (k:=500) (T:=121) (sz:=4) (ds:=ics l) (by simp;rfl)) ?_
   refine sH ?_
   refine ao_ pF_ h12 rfl rfl (And.intro (ints_arg l) trivial) ?_
   refine sH ?_
   refine WP.ret (ab_ ?_)
   simp -dsimp
  | cons x l2 =>
   have hll:l.length=l1.length+(l2.length+1):=by rw[hl12];simp
   have e1:IntKind.i64.wrap ((l1.length:Int)+1)=(l1.length:Int)+1:=IntWalk.i64_in _ (by omega)
   have h1:=BQ_ l1 x l2
   rw[← hl12] at h1
   refine cT (by simp;omega) ?_
   refine WP.skip ?_
   simp -dsimp
   refine WP.seq (WP.block ?_)
   repeat(first|apply wG|(apply wR;simp -dsimp[h1])|refine aI ?_)
   refine loopW.next (sE l (l1++[x])) (Wk.go [27] 28 500 (by decide) (by simp[sE]) (by simp[sE,e1]) (by simp[sE,ics])) l2.length (by simp) ⟨l1++[x],l2,by simp[hl12],rfl,rfl⟩
def Fo_ (x y:Int):Int:=if x<y then -1 else if y<x then 1 else 0
def orL:List Int→Int
 | []=>0
 | x::l=>if x=0 then orL l else x
theorem dC_ (a b:List UInt8):Fn0 Tryz.prog 59 [slB a,slB b] (.v (.bool (decide (a=b)))):=by
 refine ad_ (pn:=an_) ac_ Tryz.func59 rfl fun β0=>?_
 simp only[Tryz.f59]
 refine sG ?_
 refine WP.ret (ab_ ?_)
 simp -dsimp
theorem yz_ (f g:Nat→Int) (hf:fOk f) (hg:fOk g):Fn0 Tryz.prog 148 [fD f,fD g] (.v (.bool (eqF f g))):=by
 refine ad_ (pn:=an_) ac_ Tryz.func148 rfl fun β0=>?_
 simp only[Tryz.f148]
 simp only[fD]
 refine sG ?_
 refine es_ ac_ BT_ mM_ rfl (.inl rfl) (m:=5) (by omega) dl_ (by decide) eg_ AM_ (cs:=fcs f 0 57) (es:=fcs g 0 57) (by simp) (by simp) (okF hf.1) (okF hg.1) (fR_ hf hg) ?_
 simp -dsimp[eqRes]
 refine sG ?_
 refine WP.ret (ab_ ?_)
 simp -dsimp
theorem j6_ (f g:Nat→Int) (hf:fOk f) (hg:fOk g):Fn0 Tryz.prog 117 [fD f,fD g] (.v (.bool (eqF f g))):=by
 refine ad_ (pn:=an_) ac_ Tryz.func117 rfl fun β0=>?_
 simp only[Tryz.f117]
 simp only[fD]
 refine sG ?_
 refine es_ ac_ BT_ mM_ rfl (.inl rfl) (m:=5) (by omega) dl_ (by decide) eg_ AM_ (cs:=fcs f 0 57) (es:=fcs g 0 57) (by simp) (by simp) (okF hf.1) (okF hg.1) (fR_ hf hg) ?_
 simp -dsimp[eqRes]
 refine sG ?_
 refine WP.ret (ab_ ?_)
 simp -dsimp
@[simp] theorem DF_ (cs xs:List AV) (h:cs.length=xs.length):setL cs 0 xs=xs:=by
 refine List.ext_getElem? fun i=>?_
 rw[kG_ _ _ _ _ (by omega)]
 split
 ·simp
 ·rw[List.getElem?_eq_none (by omega),List.getElem?_eq_none (by omega)]
def aO_ (f:Nat→Int):List Int:=[f 3,f 0,f 1,f 2] ++
 (
 if f 3=1 then [f 4,f 5,f 6,f 7,f 8,f 9,f 10,f 11]
 else if f 3=2 then [f 12,f 13,f 14,f 15]
 else if f 3=3 then [f 16,f 17,f 18,f 19,f 20]
 else if f 3=4 then [f 21,f 22,f 23,f 24,f 25,f 26,f 27,f 28]
 else if f 3=5 then [f 29,f 30,f 31,f 32]
 else if f 3=6 then [f 33,f 34,f 35,f 36]
 else if f 3=7 then [f 37,f 38]
 else if f 3=8 then [f 39,f 40,f 41,f 42]
 else if f 3=9 then [f 43,f 44,f 45,f 46]
 else if f 3=10 then [f 47,f 48,f 49,f 50,f 51,f 52]
 else if f 3=11 then [f 53,if f 54=1 then 1 else 0]
 else if f 3=13 then [f 55,f 56]
 else [])
theorem ms_ (f:Nat→Int) (hk:f 3=1):Fn0 Tryz.prog 73 [fD f] (slI (aO_ f)):=by
 refine ad_ (pn:=an_) ac_ Tryz.func73 rfl fun β0=>?_
 simp only[Tryz.f73]
 rw[fD]
 refine sG ?_
 rw[hk]
 refine cU ?_
 refine sG ?_
 refine WP.ret (aj_ (Wk.freeze (k:=46) (T:=3) (sz:=1) (n:=12) (ds:=iD (aO_ f)) (by simp[aO_,hk,iD])) ?_)
 simp[aO_,hk,iD]
theorem mr_ (f:Nat→Int) (hk:f 3=2):Fn0 Tryz.prog 73 [fD f] (slI (aO_ f)):=by
 refine ad_ (pn:=an_) ac_ Tryz.func73 rfl fun β0=>?_
 simp only[Tryz.f73]
 rw[fD]
 refine sG ?_
 rw[hk]
 refine cE ?_
 refine sG ?_
 refine cU ?_
 refine sG ?_
 refine WP.ret (aj_ (Wk.freeze (k:=61) (T:=3) (sz:=1) (n:=8) (ds:=iD (aO_ f)) (by simp[aO_,hk,iD])) ?_)
 simp[aO_,hk,iD]
theorem mq_ (f:Nat→Int) (hk:f 3=3):Fn0 Tryz.prog 73 [fD f] (slI (aO_ f)):=by
 refine ad_ (pn:=an_) ac_ Tryz.func73 rfl fun β0=>?_
 simp only[Tryz.f73]
 rw[fD]
 refine sG ?_
 rw[hk]
 refine cE ?_
 refine sG ?_
 refine cE ?_
 refine sG ?_
 refine cU ?_
 refine sG ?_
 refine WP.ret (aj_ (Wk.freeze (k:=78) (T:=3) (sz:=1) (n:=9) (ds:=iD (aO_ f)) (by simp[aO_,hk,iD])) ?_)
 simp[aO_,hk,iD]
theorem mp_ (f:Nat→Int) (hk:f 3=4):Fn0 Tryz.prog 73 [fD f] (slI (aO_ f)):=by
 refine ad_ (pn:=an_) ac_ Tryz.func73 rfl fun β0=>?_
 simp only[Tryz.f73]
 rw[fD]
 refine sG ?_
 rw[hk]
 refine cE ?_
 refine sG ?_
 refine cE ?_
 refine sG ?_
 refine cE ?_
 refine sG ?_
 refine cU ?_
 refine sG ?_
 refine WP.ret (aj_ (Wk.freeze (k:=101) (T:=3) (sz:=1) (n:=12) (ds:=iD (aO_ f)) (by simp[aO_,hk,iD])) ?_)
 simp[aO_,hk,iD]
theorem mo_ (f:Nat→Int) (hk:f 3=5):Fn0 Tryz.prog 73 [fD f] (slI (aO_ f)):=by
 refine ad_ (pn:=an_) ac_ Tryz.func73 rfl fun β0=>?_
 simp only[Tryz.f73]
 rw[fD]
 refine sG ?_
 rw[hk]
 refine cE ?_
 refine sG ?_
 refine cE ?_
 refine sG ?_
 refine cE ?_
 refine sG ?_
 refine cE ?_
 refine sG ?_
 refine cU ?_
 refine sG ?_
 refine WP.ret (aj_ (Wk.freeze (k:=116) (T:=3) (sz:=1) (n:=8) (ds:=iD (aO_ f)) (by simp[aO_,hk,iD])) ?_)
 simp[aO_,hk,iD]
theorem mn_ (f:Nat→Int) (hk:f 3=6):Fn0 Tryz.prog 73 [fD f] (slI (aO_ f)):=by
 refine ad_ (pn:=an_) ac_ Tryz.func73 rfl fun β0=>?_
 simp only[Tryz.f73]
 rw[fD]
 refine sG ?_
 rw[hk]
 refine cE ?_
 refine sG ?_
 refine cE ?_
 refine sG ?_
 refine cE ?_
 refine sG ?_
 refine cE ?_
 refine sG ?_
 refine cE ?_
 refine sG ?_
 refine cU ?_
 refine sG ?_
 refine WP.ret (aj_ (Wk.freeze (k:=131) (T:=3) (sz:=1) (n:=8) (ds:=iD (aO_ f)) (by simp[aO_,hk,iD])) ?_)
 simp[aO_,hk,iD]
theorem mm_ (f:Nat→Int) (hk:f 3=7):Fn0 Tryz.prog 73 [fD f] (slI (aO_ f)):=by
 refine ad_ (pn:=an_) ac_ Tryz.func73 rfl fun β0=>?_
 simp only[Tryz.f73]
 rw[fD]
 refine sG ?_
 rw[hk]
 refine cE ?_
 refine sG ?_
 refine cE ?_
 refine sG ?_
 refine cE ?_
 refine sG ?_
 refine cE ?_
 refine sG ?_
 refine cE ?_
 refine sG ?_
 refine cE ?_
 refine sG ?_
 refine cU ?_
 refine sG ?_
 refine WP.ret (aj_ (Wk.freeze (k:=142) (T:=3) (sz:=1) (n:=6) (ds:=iD (aO_ f)) (by simp[aO_,hk,iD])) ?_)
 simp[aO_,hk,iD]
theorem ml_ (f:Nat→Int) (hk:f 3=8):Fn0 Tryz.prog 73 [fD f] (slI (aO_ f)):=by
 refine ad_ (pn:=an_) ac_ Tryz.func73 rfl fun β0=>?_
 simp only[Tryz.f73]
 rw[fD]
 refine sG ?_
 rw[hk]
 refine cE ?_
 refine sG ?_
 refine cE ?_
 refine sG ?_
 refine cE ?_
 refine sG ?_
 refine cE ?_
 refine sG ?_
 refine cE ?_
 refine sG ?_
 refine cE ?_
 refine sG ?_
 refine cE ?_
 refine sG ?_
 refine cU ?_
 refine sG ?_
 refine WP.ret (aj_ (Wk.freeze (k:=157) (T:=3) (sz:=1) (n:=8) (ds:=iD (aO_ f)) (by simp[aO_,hk,iD])) ?_)
 simp[aO_,hk,iD]
theorem mk_ (f:Nat→Int) (hk:f 3=9):Fn0 Tryz.prog 73 [fD f] (slI (aO_ f)):=by
 refine ad_ (pn:=an_) ac_ Tryz.func73 rfl fun β0=>?_
 simp only[Tryz.f73]
 rw[fD]
 refine sG ?_
 rw[hk]
 refine cE ?_
 refine sG ?_
 refine cE ?_
 refine sG ?_
 refine cE ?_
 refine sG ?_
 refine cE ?_
 refine sG ?_
 refine cE ?_
 refine sG ?_
 refine cE ?_
 refine sG ?_
 refine cE ?_
 refine sG ?_
 refine cE ?_
 refine sG ?_
 refine cU ?_
 refine sG ?_
 refine WP.ret (aj_ (Wk.freeze (k:=172) (T:=3) (sz:=1) (n:=8) (ds:=iD (aO_ f)) (by simp[aO_,hk,iD])) ?_)
 simp[aO_,hk,iD]
theorem kT_ (f:Nat→Int) (hk:f 3=10):Fn0 Tryz.prog 73 [fD f] (slI (aO_ f)):=by
 refine ad_ (pn:=an_) ac_ Tryz.func73 rfl fun β0=>?_
 simp only[Tryz.f73]
 rw[fD]
 refine sG ?_
 rw[hk]
 refine cE ?_
 refine sG ?_
 refine cE ?_
 refine sG ?_
 refine cE ?_
 refine sG ?_
 refine cE ?_
 refine sG ?_
 refine cE ?_
 refine sG ?_
 refine cE ?_
 refine sG ?_
 refine cE ?_
 refine sG ?_
 refine cE ?_
 refine sG ?_
 refine cE ?_
 refine sG ?_
 refine cU ?_
 refine sG ?_
 refine WP.ret (aj_ (Wk.freeze (k:=191) (T:=3) (sz:=1) (n:=10) (ds:=iD (aO_ f)) (by simp[aO_,hk,iD])) ?_)
 simp[aO_,hk,iD]
theorem kS_ (f:Nat→Int) (hk:f 3=11):Fn0 Tryz.prog 73 [fD f] (slI (aO_ f)):=by
 refine ad_ (pn:=an_) ac_ Tryz.func73 rfl fun β0=>?_
 simp only[Tryz.f73]
 rw[fD]
 refine sG ?_
 rw[hk]
 refine cE ?_
 refine sG ?_
 refine cE ?_
 refine sG ?_
 refine cE ?_
 refine sG ?_
 refine cE ?_
 refine sG ?_
 refine cE ?_
 refine sG ?_
 refine cE ?_
 refine sG ?_
 refine cE ?_
 refine sG ?_
 refine cE ?_
 refine sG ?_
 refine cE ?_
 refine sG ?_
 refine cE ?_
 refine sG ?_
 refine cU ?_
 refine sG ?_
 refine WP.cond (b:=decide (f 54=1)) (by simp) (fun hb=>?_) (fun hb=>?_)
 ·have hb:=of_decide_eq_true hb
  refine sG ?_
  refine WP.ret (aj_ (Wk.freeze (k:=202) (T:=3) (sz:=1) (n:=6) (ds:=iD (aO_ f)) (by simp[aO_,hk,hb,iD])) ?_)
  simp[aO_,hk,hb,iD]
 ·have hb:=of_decide_eq_false hb
  refine WP.skip ?_
  refine sH ?_
  refine WP.ret (aj_ (Wk.freeze (k:=208) (T:=3) (sz:=1) (n:=6) (ds:=iD (aO_ f)) (by simp[aO_,hk,hb,iD])) ?_)
  simp[aO_,hk,hb,iD]
theorem kR_ (f:Nat→Int) (hk:f 3=13):Fn0 Tryz.prog 73 [fD f] (slI (aO_ f)):=by
 refine ad_ (pn:=an_) ac_ Tryz.func73 rfl fun β0=>?_
 simp only[Tryz.f73]
 rw[fD]
 refine sG ?_
 rw[hk]
 refine cE ?_
 refine sG ?_
 refine cE ?_
 refine sG ?_
 refine cE ?_
 refine sG ?_
 refine cE ?_
 refine sG ?_
 refine cE ?_
 refine sG ?_
 refine cE ?_
 refine sG ?_
 refine cE ?_
 refine sG ?_
 refine cE ?_
 refine sG ?_
 refine cE ?_
 refine sG ?_
 refine cE ?_
 refine sG ?_
 refine cE ?_
 refine sG ?_
 refine cU ?_
 refine sG ?_
 refine WP.ret (aj_ (Wk.freeze (k:=219) (T:=3) (sz:=1) (n:=6) (ds:=iD (aO_ f)) (by simp[aO_,hk,iD])) ?_)
 simp[aO_,hk,iD]
theorem kQ_ (f:Nat→Int) (hk:f 3<1∨13<f 3∨f 3=12):Fn0 Tryz.prog 73 [fD f] (slI (aO_ f)):=by
 have hr:aO_ f=[f 3,f 0,f 1,f 2]:=by
  unfold aO_
  rw[if_neg (by omega)]
  rw[if_neg (by omega)]
  rw[if_neg (by omega)]
  rw[if_neg (by omega)]
  rw[if_neg (by omega)]
  rw[if_neg (by omega)]
  rw[if_neg (by omega)]
  rw[if_neg (by omega)]
  rw[if_neg (by omega)]
  rw[if_neg (by omega)]
  rw[if_neg (by omega)]
  rw[if_neg (by omega)]
  rfl
 refine ad_ (pn:=an_) ac_ Tryz.func73 rfl fun β0=>?_
 simp only[Tryz.f73]
 rw[fD]
 refine sG ?_
 refine cF (by simp;omega) ?_
 refine sG ?_
 refine cF (by simp;omega) ?_
 refine sG ?_
 refine cF (by simp;omega) ?_
 refine sG ?_
 refine cF (by simp;omega) ?_
 refine sG ?_
 refine cF (by simp;omega) ?_
 refine sG ?_
 refine cF (by simp;omega) ?_
 refine sG ?_
 refine cF (by simp;omega) ?_
 refine sG ?_
 refine cF (by simp;omega) ?_
 refine sG ?_
 refine cF (by simp;omega) ?_
 refine sG ?_
 refine cF (by simp;omega) ?_
 refine sG ?_
 refine cF (by simp;omega) ?_
 refine sG ?_
 refine cF (by simp;omega) ?_
 refine WP.skip ?_
 refine sH ?_
 refine WP.ret (aj_ (Wk.freeze (k:=21) (T:=3) (sz:=1) (n:=4) (ds:=iD (aO_ f)) (by simp[hr,iD])) ?_)
 simp[hr,iD]
theorem kP_ (f:Nat→Int):Fn0 Tryz.prog 73 [fD f] (slI (aO_ f)):=by
 have h:(f 3<1∨13<f 3∨f 3=12)∨f 3=1∨f 3=2∨f 3=3∨f 3=4∨f 3=5∨f 3=6∨f 3=7∨f 3=8∨f 3=9∨f 3=10∨f 3=11∨f 3=13:=by omega
 rcases h with h|h|h|h|h|h|h|h|h|h|h|h|h
 ·exact kQ_ f h
 ·exact ms_ f h
 ·exact mr_ f h
 ·exact mq_ f h
 ·exact mp_ f h
 ·exact mo_ f h
 ·exact mn_ f h
 ·exact mm_ f h
 ·exact ml_ f h
 ·exact mk_ f h
 ·exact kT_ f h
 ·exact kS_ f h
 ·exact kR_ f h
def sI (l l1:List Int):St :=
 mkS 23 [(0,.d (slI l)),(2,.ptr 2 0),(3,.ptr 3 0),(4,.d (.v (.int .i64 l1.length)))]
  [(2,.cells 121 [.d (.v (.int .i64 0)),.d (.v (.int .i64 0)),.d (.v (.string ⟨#[]⟩)),.d (.v (.slice none 0 0))]),(3,.cells 121 [.d (.v (.int .i64 3)),.d (.v (.int .i64 0)),.d (.v (.string ⟨#[]⟩)),.row 500]),(500,.row 121 4 l1.length ((ar_ (l1.map qD_)).map .d))]
theorem intV_d (x:Int):(qD_ x).cells=[.v (.int .i64 1),.v (.int .i64 x),.v (.string ⟨#[]⟩),.sl 4 [] 0 false]:=by simp[qD_,V.cells,ar_]
theorem zo_ (l:List Int) (hl:l.length≤1000):Fn0 Tryz.prog 72 [slI l] (b5_ l).d:=by
 refine ad_ (pn:=an_) ac_ Tryz.func72 rfl fun β0=>?_
 simp only[Tryz.f72]
 refine sG ?_
 refine ai_ (fun m S=>∃ l1 l2,l=l1++l2∧m=l2.length∧S=sI l l1) l.length (S0:=sI l [])
  ((bo_ 3 3 500 121 4 (by simp;exact⟨rfl,rfl⟩) rfl (by simp)).trans (ae_ [] (by simp[sI]) (by simp[sI,ar_]))) ⟨[],l,rfl,rfl,rfl⟩ ?_
 rintro _ _ ⟨l1,l2,hl12,rfl,rfl⟩
 simp -dsimp[sI]
 refine sG ?_
 cases l2 with
 | nil =>
  simp only[List.append_nil] at hl12
  subst hl12
  refine cE ?_
  refine WP.exit ?_
  refine sH ?_
  refine WP.ret (aj_ (Wk.freeze (k:=500) (T:=121) (sz:=4) (n:=l.length) (ds:=ar_ (l.map qD_)) (by simp)) ?_)
  simp[b5_,V.d,V.cells]
 | cons x l2 =>
  have hll:l.length=l1.length+(l2.length+1):=by rw[hl12];simp
  have e1:IntKind.i64.wrap ((l1.length:Int)+1)=(l1.length:Int)+1:=IntWalk.i64_in _ (by omega)
  have h1:=BQ_ l1 x l2
  rw[← hl12] at h1
  refine cT (by simp;omega) ?_
  refine WP.skip ?_
  simp -dsimp
  refine WP.seq (WP.block ?_)
  repeat(first|apply wG|(apply wR;simp -dsimp[h1])|refine aI ?_)
  refine aa_ nV_ (Ci_ x) rfl rfl (by simp) ?_
  simp -dsimp[V.d,V.cells,ar_]
  refine sG ?_
  refine loopW.next (sI l (l1++[x])) (Wk.go [19] 20 500 (by decide) (by simp[sI]) (by simp[sI,e1]) (by simp[sI,bA_,ar_,intV_d])) l2.length (by simp) ⟨l1++[x],l2,by simp[hl12],rfl,rfl⟩
theorem yH_ {f:Nat→Int} (hf:fOk f):(∀ x∈aO_ f,isI x)∧(aO_ f).length≤12:=by
 have h:=hf.1
 have key:∀ L:List Nat,L.length≤12→aO_ f=L.map f→(∀ x∈aO_ f,isI x)∧(aO_ f).length≤12:=fun L h1 h2=>by
  rw[h2]
  refine⟨fun x hx=>?_,by simpa using h1⟩
  obtain⟨i,_,rfl⟩:=List.mem_map.1 hx
  exact h i
 have hk:(f 3<1∨13<f 3∨f 3=12)∨f 3=1∨f 3=2∨f 3=3∨f 3=4∨f 3=5∨f 3=6∨f 3=7∨f 3=8∨f 3=9∨f 3=10∨f 3=11∨f 3=13:=by omega
 rcases hk with hk|hk|hk|hk|hk|hk|hk|hk|hk|hk|hk|hk|hk
 ·refine key [3,0,1,2] (by decide) ?_
  unfold aO_
  rw[if_neg (by omega)]
  rw[if_neg (by omega)]
  rw[if_neg (by omega)]
  rw[if_neg (by omega)]
  rw[if_neg (by omega)]
  rw[if_neg (by omega)]
  rw[if_neg (by omega)]
  rw[if_neg (by omega)]
  rw[if_neg (by omega)]
  rw[if_neg (by omega)]
  rw[if_neg (by omega)]
  rw[if_neg (by omega)]
  rfl
 ·exact key [3,0,1,2,4,5,6,7,8,9,10,11] (by decide) (by simp[aO_,hk])
 ·exact key [3,0,1,2,12,13,14,15] (by decide) (by simp[aO_,hk])
 ·exact key [3,0,1,2,16,17,18,19,20] (by decide) (by simp[aO_,hk])
 ·exact key [3,0,1,2,21,22,23,24,25,26,27,28] (by decide) (by simp[aO_,hk])
 ·exact key [3,0,1,2,29,30,31,32] (by decide) (by simp[aO_,hk])
 ·exact key [3,0,1,2,33,34,35,36] (by decide) (by simp[aO_,hk])
 ·exact key [3,0,1,2,37,38] (by decide) (by simp[aO_,hk])
 ·exact key [3,0,1,2,39,40,41,42] (by decide) (by simp[aO_,hk])
 ·exact key [3,0,1,2,43,44,45,46] (by decide) (by simp[aO_,hk])
 ·exact key [3,0,1,2,47,48,49,50,51,52] (by decide) (by simp[aO_,hk])
 ·have e:aO_ f=[f 3,f 0,f 1,f 2,f 53,if f 54=1 then 1 else 0]:=by simp[aO_,hk]
  rw[e]
  refine⟨fun x hx=>?_,by simp⟩
  simp only[List.mem_cons,List.not_mem_nil,or_false] at hx
  rcases hx with rfl|rfl|rfl|rfl|rfl|rfl<;>first|exact h _|(split<;>simp[isI])
 ·exact key [3,0,1,2,55,56] (by decide) (by simp[aO_,hk])
def Ao_ (f:Nat→Int):List UInt8×Int:=if dn_ f=true then (V.enc (b5_ (aO_ f)),0) else ([],120)
theorem d1_ (f:Nat→Int) (hf:fOk f):Fn0 Tryz.prog 26 [fD f] (.tup [slB (Ao_ f).1,.v (.int .i64 (Ao_ f).2)]):=by
 have h12:=it_ f hf
 have h35:=kP_ f
 obtain⟨hin,hlen⟩:=yH_ hf
 have h34:=zo_ (aO_ f) (by omega)
 obtain⟨c1,c2,c3,c4⟩:=e9_ hin (by omega)
 have h33:=Cm_ (b5_ (aO_ f)) (by omega) c2 (by omega)
 rw[show V.encB (b5_ (aO_ f))=V.enc (b5_ (aO_ f)) from if_pos c1,c1] at h33
 refine ad_ (pn:=an_) ac_ Tryz.func26 rfl fun β0=>?_
 simp only[Tryz.f26]
 rw[fD]
 refine sG ?_
 refine aa_ ji_ h12 rfl rfl (by simp[fD]) ?_
 refine sH ?_
 cases hc:dn_ f with
 | false =>
  refine cU ?_
  refine sG ?_
  refine WP.ret (ab_ ?_)
  simp -dsimp[Ao_,hc]
 | true =>
  refine cE ?_
  refine WP.skip ?_
  refine sH ?_
  refine aa_ py_ h35 rfl rfl (by simp[fD]) ?_
  simp -dsimp
  repeat refine aI ?_
  refine aa_ pz_ h34 rfl rfl (by simp) ?_
  simp -dsimp
  repeat refine aI ?_
  refine aa_ pA_ h33 rfl rfl (by simp[b5_,V.d,V.cells]) ?_
  refine sH ?_
  refine WP.ret (ab_ ?_)
  simp -dsimp[Ao_,hc]
def BS_ (f g:Nat→Int):Int:=orL [Fo_ (f 2) (g 2),Fo_ (f 0) (g 0),Fo_ (f 1) (g 1)]
def FS_ (f g:Nat→Int):Int:=if BS_ f g=0 then Lib.compareBytes (encR f).1 (encR g).1 else BS_ f g
end Go.Proofs.YtkcgffilldklcaaGreatDoor
