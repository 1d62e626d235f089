/-
  WalCrashes: the law at whatever numbers.
-/
import Derived.Test.YtljmmkjdlcfkpaaGreatDoorQWxI
set_option maxRecDepth 100000
set_option maxHeartbeats 4000000
namespace Go.Proofs.YtljmmkjdlcfkpaaGreatDoor
open Go Go.RowKit
theorem walCrashes_walk(x:Int){Ls:List CallW}{A0:Option Addr}{N c0:Nat}{w:World}(hL:Els 23 CallW.cells w (.slice A0 N c0) Ls)(hN:Ls.length=N)(hold:∀c∈Ls,c.old w)(hW:HalfW w)(hw0:0<w.heap.size):
 Calls Tryz.prog 5 #[.int .i64 x,.slice A0 N c0] w fun e w'=>e= .returned (.bool true)∧Below w.heap.size w w':=by
 by_cases h:8≤x∧x≤40
 ·obtain⟨c,rfl⟩:=Int.eq_ofNat_of_zero_le (show 0≤x by omega)
  exact walCrashes_in c (by omega) (by omega) hL hN hold hW hw0
 have hlg:=long_ok hL hN hold;have HLG:=qh hlg;have HA:Hid (∀w1,Upd Nowhere w w1→Calls Tryz.prog 8 #[] w1 fun e w'=>e= .returned (.bool true)∧Upd Nowhere w1 w'):=qh fun w1 hu=>awake_walk (hW.upd hu id) (by have:=hu.size;omega)
 clear hlg hL hN hold hW hw0;go_enter Tryz.func5,Tryz.ntmps5
 go_wp2_with fail
 refine HLG.out.mono ?_;rintro e w1 ⟨lb,rfl,_,hU1⟩;have HU1:=qh hU1;clear hU1 HLG;have HC:=qh (HA.out w1 HU1.out);clear HA
 cases lb with
 | true=>
   clear h;go_wp2_with fail
   refine HC.out.mono ?_;rintro e w3 ⟨rfl,hU3⟩;have HU3:=qh (HU1.out.same hU3);clear hU3 HC;go_wp2_with fail
   go_ret;exact⟨rfl,HU3.out.toBelow fun _ _=>id⟩
 | false=>
   by_cases h1:x<8
   ·clear h;go_wp2_with fail
    refine HC.out.mono ?_;rintro e w3 ⟨rfl,hU3⟩;have HU3:=qh (HU1.out.same hU3);clear hU3 HC;go_wp2_with fail
    go_ret;exact⟨rfl,HU3.out.toBelow fun _ _=>id⟩
   ·have h2:40<x:=by omega
    clear h;go_wp2_with fail
    refine HC.out.mono ?_;rintro e w3 ⟨rfl,hU3⟩;have HU3:=qh (HU1.out.same hU3);clear hU3 HC;go_wp2_with fail
    go_ret;exact⟨rfl,HU3.out.toBelow fun _ _=>id⟩
end Go.Proofs.YtljmmkjdlcfkpaaGreatDoor
