/-
  WalMarks: the law at whatever numbers.
-/
import Derived.Test.YtljmmkjdlcfkpaaGreatDoorMWvG
set_option maxRecDepth 100000
set_option maxHeartbeats 4000000
namespace Go.Proofs.YtljmmkjdlcfkpaaGreatDoor
open Go Go.RowKit
theorem walMarks_out(x:Int){A0:Option Addr}{N c0:Nat}{w:World}(every keep:Int)(hW:HalfW w)(hw0:0<w.heap.size)(h:¬(8≤x∧x≤40∧(N:Int)≤60∧1≤every)):
 Calls Tryz.prog 6 #[.int .i64 x,.slice A0 N c0,.int .i64 every,.int .i64 keep] w fun e w'=>e= .returned (.bool true)∧Below w.heap.size w w':=by
 have HA:=qh (awake_walk hW hw0);clear hW hw0;by_cases h1:x<8
 ·clear h;go_enter Tryz.func6,Tryz.ntmps6
  go_wp2_with fail
  refine HA.out.mono ?_;rintro e w1 ⟨rfl,hU⟩;have HU:=qh hU;clear hU;go_wp2_with fail
  go_ret;exact⟨rfl,HU.out.toBelow fun _ _=>id⟩
 by_cases h2:40<x
 ·clear h;go_enter Tryz.func6,Tryz.ntmps6
  go_wp2_with fail
  refine HA.out.mono ?_;rintro e w1 ⟨rfl,hU⟩;have HU:=qh hU;clear hU;go_wp2_with fail
  go_ret;exact⟨rfl,HU.out.toBelow fun _ _=>id⟩
 by_cases h3:(60:Int)<(N:Int)
 ·clear h;go_enter Tryz.func6,Tryz.ntmps6
  go_wp2_with fail
  refine HA.out.mono ?_;rintro e w1 ⟨rfl,hU⟩;have HU:=qh hU;clear hU;go_wp2_with fail
  go_ret;exact⟨rfl,HU.out.toBelow fun _ _=>id⟩
 have h4:every<1:=by omega
 clear h;go_enter Tryz.func6,Tryz.ntmps6
 go_wp2_with fail
 refine HA.out.mono ?_;rintro e w1 ⟨rfl,hU⟩;have HU:=qh hU;clear hU;go_wp2_with fail
 go_ret;exact⟨rfl,HU.out.toBelow fun _ _=>id⟩
theorem walMarks_walk(x:Int){L:List RcW}{A0:Option Addr}{N c0:Nat}{w:World}(hL:Els 16 RcW.cells w (.slice A0 N c0) L)(hN:L.length=N)(hold:∀r∈L,r.old w)(every keep:Int)(hW:HalfW w)(hw0:0<w.heap.size):
 Calls Tryz.prog 6 #[.int .i64 x,.slice A0 N c0,.int .i64 every,.int .i64 keep] w fun e w'=>e= .returned (.bool true)∧Below w.heap.size w w':=by
 by_cases h:8≤x∧x≤40∧(N:Int)≤60∧1≤every
 ·obtain⟨c,rfl⟩:=Int.eq_ofNat_of_zero_le (show 0≤x by omega)
  exact walMarks_in c (by omega) (by omega) hL hN (by omega) hold every keep (by omega) hW hw0
 ·exact walMarks_out x every keep hW hw0 h
end Go.Proofs.YtljmmkjdlcfkpaaGreatDoor
