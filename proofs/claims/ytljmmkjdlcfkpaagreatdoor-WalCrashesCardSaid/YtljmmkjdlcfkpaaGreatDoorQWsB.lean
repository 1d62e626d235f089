/-
  The law's scrawl: it writes into a record's own lists alone. trothref07.Same of equal records.
-/
import Derived.Test.YtljmmkjdlcfkpaaGreatDoorQWrC
import Derived.Test.YtljmmkjdlcfkpaaGreatDoorQWqA
set_option maxRecDepth 100000
set_option maxHeartbeats 4000000
namespace Go.Proofs.YtljmmkjdlcfkpaaGreatDoor
open Go Go.RowKit
theorem sameints_eq{w:World}{v1 v2:Value}{L:List Int}(h1:Els 1 intC w v1 L)(h2:Els 1 intC w v2 L)(hl:L.length≤90000):Calls Tryz.prog 50 #[v1,v2] w (BoolP true w):=by
 obtain⟨A1,c1,rfl,_⟩:=h1.val;obtain⟨A2,c2,rfl,_⟩:=h2.val;have H1:=qh h1;have H2:=qh h2;clear h1 h2;go_enter Tryz.func50,Tryz.ntmps50
 go_wp2_with fail
 go_loopw [5] (fun t wr=>∃j:Nat,j≤L.length∧t= .int .i64 j∧Upd Nowhere w wr) (fun t _=>L.length - (intOf t).toNat)
 case atStart=>exact⟨0,by omega,rfl,Upd.refl _ _⟩
 case round=>
  obtain⟨j,hj,rfl,hu⟩:=hrel;by_cases hlt:j<L.length
  ·obtain⟨n,hp⟩:∃p,L[j]? =some p:=⟨_,qeg hlt⟩;obtain⟨b1,o1,c1',e1,_,hc1⟩:=(H1.out.upd hu fun _ _ e=>e).get (fun _=>rfl) hp
   obtain⟨b2,o2,c2',e2,_,hc2⟩:=(H2.out.upd hu fun _ _ e=>e).get (fun _=>rfl) hp
   cases e1
   cases e2;have p0:=hc1 0 (by omega)
   have q0:=hc2 0 (by omega)
   simp only[intC,qZ,Nat.add_zero,Nat.mul_one]at p0 q0;have hi:(j:Int)<(L.length:Nat):=by omega
   have HU:=qh hu;clear hu hp hc1 hc2;go_upto_region 6 with(fail)
   go_cut [25] (fun t wz=>t= .bool false∧Upd Nowhere w wz)
   case first=>
    go_region_held3 (fun w'=>w'.cell? ⟨b1,o1+j,none⟩=some (.int .i64 n)∧w'.cell? ⟨b2,o2+j,none⟩=some (.int .i64 n)) (exact⟨p0,q0⟩) (fail)
    all_goals
     go_wp2_with fail
     go_meet;exact⟨rfl,HU.out.drew⟩
   case rest=>
    obtain⟨rfl,hu⟩:=hcut;have HW:=qh hu;clear hu p0 q0;go_wp2_with fail
    go_roundw
    case rel=>exact⟨j+1,by omega,by go_num,HW.out⟩
    case measure=>simp[intOf];omega
  ·have e:¬(j:Int)<(L.length:Nat):=by omega
   have HU:=qh hu;clear hu;go_wp2_with fail
   go_ret;exact⟨rfl,HU.out⟩
theorem samelocks_eq{w:World}{v1 v2:Value}{L:List LockP}(h1:Els 2 lockC w v1 L)(h2:Els 2 lockC w v2 L)(hl:L.length≤90000):Calls Tryz.prog 51 #[v1,v2] w (BoolP true w):=by
 obtain⟨A1,c1,rfl,_⟩:=h1.val;obtain⟨A2,c2,rfl,_⟩:=h2.val;have H1:=qh h1;have H2:=qh h2;clear h1 h2;go_enter Tryz.func51,Tryz.ntmps51
 go_wp2_with fail
 go_loopw [5] (fun t wr=>∃j:Nat,j≤L.length∧t= .int .i64 j∧Upd Nowhere w wr) (fun t _=>L.length - (intOf t).toNat)
 case atStart=>exact⟨0,by omega,rfl,Upd.refl _ _⟩
 case round=>
  obtain⟨j,hj,rfl,hu⟩:=hrel;by_cases hlt:j<L.length
  ·obtain⟨⟨kk,kx⟩,hp⟩:∃p,L[j]? =some p:=⟨_,qeg hlt⟩;obtain⟨b1,o1,c1',e1,_,hc1⟩:=(H1.out.upd hu fun _ _ e=>e).get (fun _=>rfl) hp
   obtain⟨b2,o2,c2',e2,_,hc2⟩:=(H2.out.upd hu fun _ _ e=>e).get (fun _=>rfl) hp
   cases e1
   cases e2;have p0:=hc1 0 (by omega)
   have q0:=hc2 0 (by omega)
   have p1:=hc1 1 (by omega)
   have q1:=hc2 1 (by omega)
   simp only[lockC,qZ,qS,Nat.add_zero]at p0 p1 q0 q1;have hi:(j:Int)<(L.length:Nat):=by omega
   have HU:=qh hu;clear hu hp hc1 hc2;go_upto_region 6 with(fail)
   go_cut [25] (fun t wz=>t= .bool false∧Upd Nowhere w wz)
   case first=>
    go_region_held3 (fun w'=>w'.cell? ⟨b1,o1+j * 2,none⟩=some (strV kk)∧w'.cell? ⟨b1,o1+j * 2+1,none⟩=some (.bool kx)∧w'.cell? ⟨b2,o2+j * 2,none⟩=some (strV kk)∧w'.cell? ⟨b2,o2+j * 2+1,none⟩=some (.bool kx)) (exact⟨p0,p1,q0,q1⟩) (fail)
    all_goals
     go_wp2_with fail
     go_meet;exact⟨rfl,HU.out.drew⟩
   case rest=>
    obtain⟨rfl,hu⟩:=hcut;have HW:=qh hu;clear hu p0 p1 q0 q1;go_wp2_with fail
    go_roundw
    case rel=>exact⟨j+1,by omega,by go_num,HW.out⟩
    case measure=>simp[intOf];omega
  ·have e:¬(j:Int)<(L.length:Nat):=by omega
   have HU:=qh hu;clear hu;go_wp2_with fail
   go_ret;exact⟨rfl,HU.out⟩
theorem samerow_eq{w:World}{r q:RowW}(hr:r.old w)(hq:q.old w)(he:r.p=q.p)(hm:r.p.mem.length≤90000)(hl:r.p.loc.length≤90000):Calls Tryz.prog 87 #[.agg r.cells.toArray,.agg q.cells.toArray] w (BoolP true w):=by
 obtain⟨p,⟨x1,x1n,x1c⟩,⟨x2,x2n,x2c⟩⟩:=r;obtain⟨p',⟨y1,y1n,y1c⟩,⟨y2,y2n,y2c⟩⟩:=q;simp only at he;subst he;have hI:∀w',Upd Nowhere w w'→Calls Tryz.prog 50 #[.slice x1 x1n x1c,.slice y1 y1n y1c] w' (BoolP true w'):=fun w' hu=>sameints_eq (hr.1.upd hu fun _ _ e=>e) (hq.1.upd hu fun _ _ e=>e) hm
 have hL:∀w',Upd Nowhere w w'→Calls Tryz.prog 51 #[.slice x2 x2n x2c,.slice y2 y2n y2c] w' (BoolP true w'):=fun w' hu=>samelocks_eq (hr.2.upd hu fun _ _ e=>e) (hq.2.upd hu fun _ _ e=>e) hl
 have HI:=qh hI;have HL:=qh hL;clear hr hq hm hl hI hL
 show Calls Tryz.prog 87 #[.agg #[.int .i64 p.tx,.int .i64 p.state,.int .i64 p.first,.int .i64 p.last,.int .i64 p.undo,.int .i64 p.coord,.slice x1 x1n x1c,.slice x2 x2n x2c],.agg #[.int .i64 p.tx,.int .i64 p.state,.int .i64 p.first,.int .i64 p.last,.int .i64 p.undo,.int .i64 p.coord,.slice y1 y1n y1c,.slice y2 y2n y2c]] w _
 have HU:=qh (((Upd.refl Nowhere w).alloc (.cells #[.int .i64 p.tx,.int .i64 p.state,.int .i64 p.first,.int .i64 p.last,.int .i64 p.undo,.int .i64 p.coord,.slice x1 x1n x1c,.slice x2 x2n x2c] 105)).alloc (.cells #[.int .i64 p.tx,.int .i64 p.state,.int .i64 p.first,.int .i64 p.last,.int .i64 p.undo,.int .i64 p.coord,.slice y1 y1n y1c,.slice y2 y2n y2c] 105));have HB1:=qh ((Blk.new w 105 #[.int .i64 p.tx,.int .i64 p.state,.int .i64 p.first,.int .i64 p.last,.int .i64 p.undo,.int .i64 p.coord,.slice x1 x1n x1c,.slice x2 x2n x2c]).alloc (.cells #[.int .i64 p.tx,.int .i64 p.state,.int .i64 p.first,.int .i64 p.last,.int .i64 p.undo,.int .i64 p.coord,.slice y1 y1n y1c,.slice y2 y2n y2c] 105));have HB2:=qh (Blk.new' (w.alloc (.cells #[.int .i64 p.tx,.int .i64 p.state,.int .i64 p.first,.int .i64 p.last,.int .i64 p.undo,.int .i64 p.coord,.slice x1 x1n x1c,.slice x2 x2n x2c] 105)) (g:=w.heap.size+1) 105 #[.int .i64 p.tx,.int .i64 p.state,.int .i64 p.first,.int .i64 p.last,.int .i64 p.undo,.int .i64 p.coord,.slice y1 y1n y1c,.slice y2 y2n y2c] (by simp))
 go_enter Tryz.func87,Tryz.ntmps87
 go_wp2_with fail
 refine Calls.mono (HI.out _ HU.out) ?_;rintro e w2 ⟨rfl,hU2⟩;have u7:=(HB1.out.upd hU2 id).cell 7;have v7:=(HB2.out.upd hU2 id).cell 7;simp only[qA,qZ,qS]at u7 v7;have HU2:=qh (HU.out.same hU2);clear hU2;go_wp2_with fail
 refine Calls.mono (HL.out _ HU2.out) ?_;rintro e w3 ⟨rfl,hU3⟩;have HU3:=qh (HU2.out.same hU3);clear hU3;go_wp2_with fail
 go_ret;exact⟨rfl,HU3.out⟩
end Go.Proofs.YtljmmkjdlcfkpaaGreatDoor
