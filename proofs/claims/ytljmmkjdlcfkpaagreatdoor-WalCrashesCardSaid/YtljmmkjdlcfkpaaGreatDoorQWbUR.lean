/-
  Layer 7: a list whose items rise: rows.
-/
import Derived.Test.YtljmmkjdlcfkpaaGreatDoorQWqA
set_option maxRecDepth 100000
set_option maxHeartbeats 4000000
namespace Go.Proofs.YtljmmkjdlcfkpaaGreatDoor
open Go Go.RowKit
def elemR(x:RowW):Value:= .agg #[.int .i64 x.p.tx,.int .i64 x.p.state,.int .i64 x.p.first,.int .i64 x.p.last,.int .i64 x.p.undo,.int .i64 x.p.coord,.slice x.mem.1 x.mem.2.1 x.mem.2.2,.slice x.loc.1 x.loc.2.1 x.loc.2.2]
theorem risingR_ok{w:World}{v:Value}{L:List RowW}(hE:Els 8 RowW.cells w v L)(hn:L.length≤90000)(most:Nat)(hm:most≤1000)(may:RowW→Bool)(less:RowW→RowW→Bool)
 (hmay:∀x∈L,∀w',Upd Nowhere w w'→Calls Tryz.prog 142 #[elemR x] w' (BoolP (may x) w')) (hless:∀x∈L,∀y∈L,∀w',Upd Nowhere w w'→Calls Tryz.prog 143 #[elemR x,elemR y] w' (BoolP (less x y) w')):
 Calls Tryz.prog 141 #[v,.int .i64 (most:Int),.func (.func 142) #[] #[],.func (.func 143) #[] #[]] w (BoolP (risingP most may less L) w):=by
 obtain⟨A,cc,rfl,hcc⟩:=hE.val;have hmI:(most:Int)≤1000:=by omega
 have hnI:((L.length:Nat):Int)≤90000:=by omega
 obtain⟨N,hN⟩:∃N,L.length=N:=⟨_,rfl⟩;have HNN:=qh hN;by_cases hlm:L.length≤most
 ·have hR:risingP most may less L=risesP may less (prevO L 0) (L.drop 0):=by unfold risingP;simp[hlm,prevO]
  rw[hR];have hlI:((N:Nat):Int)≤(most:Int):=by omega
  have hlN:¬most<N:=by omega
  have hlD:decide (most<N)=false:=by simpa using hlN
  have HE:=qh hE;have HMAY:=qh hmay;have HLESS:=qh hless;rw[hN]at hnI HE ⊢;clear hE hmay hless hn hm hcc hN hlm hR;go_enter Tryz.func141,Tryz.ntmps141
  go_wp2_with fail
  go_loopw [17] (fun s17 wr=>∃k:Nat,s17= .int .i64 (k:Int)∧k≤N∧risesP may less (prevO L 0) (L.drop 0)=risesP may less (prevO L k) (L.drop k)∧Upd Nowhere w wr) (fun s17 _=>N - (intOf s17).toNat)
  case atStart=>exact⟨0,rfl,by omega,rfl,Upd.refl _ _⟩
  case round=>
   obtain⟨k,rfl,hk,hr,hu⟩:=hrel;by_cases hkN:k<N
   ·obtain⟨x,hx⟩:∃x,L[k]? =some x:=⟨_,qeg (by rw[HNN.out];exact hkN)⟩
    have hst:=rises_step may less hx;obtain⟨bb,oo,ccc,he,hbb,hq⟩:=(HE.out.upd hu fun _ _=>id).get (fun _=>rfl) hx
    injection he with he1 he2 he3
    subst he1;have hua:=((Upd.refl Nowhere wr).alloc (.cells #[.int .i64 x.p.tx,.int .i64 x.p.state,.int .i64 x.p.first,.int .i64 x.p.last,.int .i64 x.p.undo,.int .i64 x.p.coord,.slice x.mem.1 x.mem.2.1 x.mem.2.2,.slice x.loc.1 x.loc.2.1 x.loc.2.2] 105)).drew;have hua0:=(Upd.refl Nowhere wr).alloc (.cells #[.int .i64 x.p.tx,.int .i64 x.p.state,.int .i64 x.p.first,.int .i64 x.p.last,.int .i64 x.p.undo,.int .i64 x.p.coord,.slice x.mem.1 x.mem.2.1 x.mem.2.2,.slice x.loc.1 x.loc.2.1 x.loc.2.2] 105);have HUX:=qh (hu.same hua0);have hm1:∀w',Upd Nowhere (wr.alloc (.cells #[.int .i64 x.p.tx,.int .i64 x.p.state,.int .i64 x.p.first,.int .i64 x.p.last,.int .i64 x.p.undo,.int .i64 x.p.coord,.slice x.mem.1 x.mem.2.1 x.mem.2.2,.slice x.loc.1 x.loc.2.1 x.loc.2.2] 105)) w'→Calls Tryz.prog 142 #[elemR x] w' fun e w''=>e= .returned (.bool (may x))∧Upd Nowhere (wr.alloc (.cells #[.int .i64 x.p.tx,.int .i64 x.p.state,.int .i64 x.p.first,.int .i64 x.p.last,.int .i64 x.p.undo,.int .i64 x.p.coord,.slice x.mem.1 x.mem.2.1 x.mem.2.2,.slice x.loc.1 x.loc.2.1 x.loc.2.2] 105)) w'':=fun w' h'=>(HMAY.out x (qmg hx) w' ((hu.same hua0).same h')).mono fun e w'' h''=>⟨h''.1,h'.same h''.2⟩
    have hbn:=Blk.new wr 105 #[.int .i64 x.p.tx,.int .i64 x.p.state,.int .i64 x.p.first,.int .i64 x.p.last,.int .i64 x.p.undo,.int .i64 x.p.coord,.slice x.mem.1 x.mem.2.1 x.mem.2.2,.slice x.loc.1 x.loc.2.1 x.loc.2.2];have a0:=hq 0 (by omega)
    have n0:=hbn.cell 0;have a1:=hq 1 (by omega)
    have n1:=hbn.cell 1;have a2:=hq 2 (by omega)
    have n2:=hbn.cell 2;have a3:=hq 3 (by omega)
    have n3:=hbn.cell 3;have a4:=hq 4 (by omega)
    have n4:=hbn.cell 4;have a5:=hq 5 (by omega)
    have n5:=hbn.cell 5;have a6:=hq 6 (by omega)
    have n6:=hbn.cell 6;have a7:=hq 7 (by omega)
    have n7:=hbn.cell 7;simp only[RowW.cells,slV,qA,qZ,qS,Nat.add_zero]at a0 n0 a1 n1 a2 n2 a3 n3 a4 n4 a5 n5 a6 n6 a7 n7;have hk1:∀w',Upd Nowhere (wr.alloc (.cells #[.int .i64 x.p.tx,.int .i64 x.p.state,.int .i64 x.p.first,.int .i64 x.p.last,.int .i64 x.p.undo,.int .i64 x.p.coord,.slice x.mem.1 x.mem.2.1 x.mem.2.2,.slice x.loc.1 x.loc.2.1 x.loc.2.2] 105)).drew w'→w'.cell? ⟨wr.heap.size,0,none⟩=some (.int .i64 x.p.tx)∧w'.cell? ⟨wr.heap.size,1,none⟩=some (.int .i64 x.p.state)∧w'.cell? ⟨wr.heap.size,2,none⟩=some (.int .i64 x.p.first)∧w'.cell? ⟨wr.heap.size,3,none⟩=some (.int .i64 x.p.last)∧w'.cell? ⟨wr.heap.size,4,none⟩=some (.int .i64 x.p.undo)∧w'.cell? ⟨wr.heap.size,5,none⟩=some (.int .i64 x.p.coord)∧w'.cell? ⟨wr.heap.size,6,none⟩=some (.slice x.mem.1 x.mem.2.1 x.mem.2.2)∧w'.cell? ⟨wr.heap.size,7,none⟩=some (.slice x.loc.1 x.loc.2.1 x.loc.2.2):=fun w' hu'=>⟨(hu'.cell (p:=⟨wr.heap.size,0,none⟩) hbn.lt id).trans n0,(hu'.cell (p:=⟨wr.heap.size,1,none⟩) hbn.lt id).trans n1,(hu'.cell (p:=⟨wr.heap.size,2,none⟩) hbn.lt id).trans n2,(hu'.cell (p:=⟨wr.heap.size,3,none⟩) hbn.lt id).trans n3,(hu'.cell (p:=⟨wr.heap.size,4,none⟩) hbn.lt id).trans n4,(hu'.cell (p:=⟨wr.heap.size,5,none⟩) hbn.lt id).trans n5,(hu'.cell (p:=⟨wr.heap.size,6,none⟩) hbn.lt id).trans n6,(hu'.cell (p:=⟨wr.heap.size,7,none⟩) hbn.lt id).trans n7⟩
    have HGX:Hid (∀w',Upd Nowhere (wr.alloc (.cells #[.int .i64 x.p.tx,.int .i64 x.p.state,.int .i64 x.p.first,.int .i64 x.p.last,.int .i64 x.p.undo,.int .i64 x.p.coord,.slice x.mem.1 x.mem.2.1 x.mem.2.2,.slice x.loc.1 x.loc.2.1 x.loc.2.2] 105)) w'→(Instr.loadAt 105 (.pointer (some ⟨wr.heap.size,0,none⟩))).run Tryz.prog w'= .ok (.agg #[.int .i64 x.p.tx,.int .i64 x.p.state,.int .i64 x.p.first,.int .i64 x.p.last,.int .i64 x.p.undo,.int .i64 x.p.coord,.slice x.mem.1 x.mem.2.1 x.mem.2.2,.slice x.loc.1 x.loc.2.1 x.loc.2.2]) w'):=qh fun w' h'=>run_loadAt_mid _ _ _ _ [.int .i64 x.p.tx,.int .i64 x.p.state,.int .i64 x.p.first,.int .i64 x.p.last,.int .i64 x.p.undo,.int .i64 x.p.coord,.slice x.mem.1 x.mem.2.1 x.mem.2.2,.slice x.loc.1 x.loc.2.1 x.loc.2.2] _ (fun i v hv=>by rw[Nat.zero_add,(hbn.upd h' id).cell i,qA];exact hv) Tryz.underlying105 rfl (by kernel_rfl)
    have HK1:=qh hk1;have HM1:=qh hm1;have HST:=qh hst;have HU:=qh hu;have HUA:=qh (hu.same hua);have HRR:=qh hr;have hkI:(k:Int)<(N:Int):=by omega
    have HKN:=qh hkN;have hxm:=qmg hx;have HXM:=qh hxm;have hbl:=hbb;unfold elemR at HM1
    cases hb:may x with
    | false=>
      rw[hb]at HM1;have HB:=qh hb;clear hk hr hu hx hst he2 he3 hq hm1 hkN hxm hbb hb hua hua0 hk1 hbn;go_wp2_with fail
      refine wp_region_grown (w0:=(wr.alloc (.cells #[.int .i64 x.p.tx,.int .i64 x.p.state,.int .i64 x.p.first,.int .i64 x.p.last,.int .i64 x.p.undo,.int .i64 x.p.coord,.slice x.mem.1 x.mem.2.1 x.mem.2.2,.slice x.loc.1 x.loc.2.1 x.loc.2.2] 105))) (by kernel_rfl) (by kernel_rfl) (Upd.refl _ _) ?_
      go_big_quiet_want
      refine BigFrame.quiet_move (.tmp 2) rfl ?_;go_simp
      go_big_quiet_on
      go_big_quiet_want
      refine quiet_load 105 (.tmp 10) rfl rfl HGX.out ?_;go_simp
      go_big_quiet_on
      go_big_quiet_want
      refine quiet_call (f:=142) (args:=#[.agg #[.int .i64 x.p.tx,.int .i64 x.p.state,.int .i64 x.p.first,.int .i64 x.p.last,.int .i64 x.p.undo,.int .i64 x.p.coord,.slice x.mem.1 x.mem.2.1 x.mem.2.2,.slice x.loc.1 x.loc.2.1 x.loc.2.2]]) (v:= .bool false) (fun w' hw'=>by go_simp) (fun w' hw'=>HM1.out w' hw') ?_
      go_simp
      go_big_quiet_on
      go_big_quiet_want
      refine quiet_val (v:= .bool true) (fun w' hw'=>by go_simp) ?_
      go_simp
      go_big_quiet_on
      go_big_quiet_want
      refine BigFrame.quiet_move (.tmp 25) rfl ?_;go_simp
      go_big_quiet_on
      go_big_quiet_skip
      go_big_quiet_skip
      go_big_quiet_skip
      go_big_quiet_skip
      go_big_quiet_skip
      go_big_quiet_skip
      go_big_quiet_skip
      go_big_quiet_skip
      go_big_quiet_skip
      go_big_quiet_skip
      go_big_quiet_skip
      go_big_quiet_skip
      go_big_quiet_skip
      go_big_quiet_want
      refine quiet_val (v:= .bool true) (fun w' hw'=>by go_simp) ?_
      go_simp
      go_big_quiet_on
      refine wpQuiet_nil ?_;intro w9 hw9;have HU9:=qh (HUX.out.same hw9);clear hw9;go_wp2_with fail
      go_ret;refine⟨?_,HU9.out⟩;rw[HRR.out,HST.out,HB.out];rfl
    | true=>
      rw[hb]at HM1;have HB:=qh hb
      rcases k with _ | j
      ·simp only[Nat.zero_mul,Nat.add_zero]at a0 a1 a2 a3 a4 a5 a6 a7;clear hk hr hu hx hst he2 he3 hq hm1 hkN hxm hbb hb hua hua0 hk1 hbn;go_wp2_with fail
       refine wp_region_grown (w0:=(wr.alloc (.cells #[.int .i64 x.p.tx,.int .i64 x.p.state,.int .i64 x.p.first,.int .i64 x.p.last,.int .i64 x.p.undo,.int .i64 x.p.coord,.slice x.mem.1 x.mem.2.1 x.mem.2.2,.slice x.loc.1 x.loc.2.1 x.loc.2.2] 105))) (by kernel_rfl) (by kernel_rfl) (Upd.refl _ _) ?_
       go_big_quiet_want
       refine BigFrame.quiet_move (.tmp 2) rfl ?_;go_simp
       go_big_quiet_on
       go_big_quiet_want
       refine quiet_load 105 (.tmp 10) rfl rfl HGX.out ?_;go_simp
       go_big_quiet_on
       go_big_quiet_want
       refine quiet_call (f:=142) (args:=#[.agg #[.int .i64 x.p.tx,.int .i64 x.p.state,.int .i64 x.p.first,.int .i64 x.p.last,.int .i64 x.p.undo,.int .i64 x.p.coord,.slice x.mem.1 x.mem.2.1 x.mem.2.2,.slice x.loc.1 x.loc.2.1 x.loc.2.2]]) (v:= .bool true) (fun w' hw'=>by go_simp) (fun w' hw'=>HM1.out w' hw') ?_
       go_simp
       go_big_quiet_on
       go_big_quiet_want
       refine quiet_val (v:= .bool false) (fun w' hw'=>by go_simp) ?_
       go_simp
       go_big_quiet_on
       go_big_quiet_want
       refine BigFrame.quiet_move (.tmp 25) rfl ?_;go_simp
       go_big_quiet_on
       go_big_quiet_want
       refine BigFrame.quiet_move (.tmp 9) rfl ?_;go_simp
       go_big_quiet_on
       go_big_quiet_want
       refine quiet_val (v:= .bool false) (fun w' hw'=>by go_simp) ?_
       go_simp
       go_big_quiet_on
       go_big_quiet_want
       refine BigFrame.quiet_move (.tmp 28) rfl ?_;go_simp
       go_big_quiet_on
       go_big_quiet_skip
       go_big_quiet_skip
       go_big_quiet_skip
       go_big_quiet_skip
       go_big_quiet_skip
       go_big_quiet_skip
       go_big_quiet_skip
       go_big_quiet_skip
       go_big_quiet_skip
       go_big_quiet_want
       refine quiet_val (v:= .bool false) (fun w' hw'=>by go_simp) ?_
       go_simp
       go_big_quiet_on
       go_big_quiet_want
       refine quiet_val (v:= .bool false) (fun w' hw'=>by go_simp) ?_
       go_simp
       go_big_quiet_on
       refine wpQuiet_nil ?_;intro w9 hw9;have HU9:=qh (HUX.out.same hw9);clear hw9;go_wp2_with fail
       go_roundw
       case rel=>exact⟨1,by go_num,HKN.out,by rw[HST.out,HB.out];simp[prevO],HU9.out⟩
       case measure=>
        have:=HKN.out;simp only[intOf];omega
      ·obtain⟨y,hy⟩:∃y,L[j]? =some y:=⟨_,qeg (by rw[HNN.out];omega)⟩
       obtain⟨bb',oo',ccc',he',_,hq'⟩:=(HE.out.upd hu fun _ _=>id).get (fun _=>rfl) hy
       injection he' with he1' he2' he3'
       injection he1' with he1'
       injection he1' with e1' e2' _
       subst e1' e2';have b0:=(hua.cell (p:=⟨bb,oo+j * 8,none⟩) hbb id).trans (hq' 0 (by omega))
       have b1:=(hua.cell (p:=⟨bb,oo+j * 8+1,none⟩) hbb id).trans (hq' 1 (by omega))
       have b2:=(hua.cell (p:=⟨bb,oo+j * 8+2,none⟩) hbb id).trans (hq' 2 (by omega))
       have b3:=(hua.cell (p:=⟨bb,oo+j * 8+3,none⟩) hbb id).trans (hq' 3 (by omega))
       have b4:=(hua.cell (p:=⟨bb,oo+j * 8+4,none⟩) hbb id).trans (hq' 4 (by omega))
       have b5:=(hua.cell (p:=⟨bb,oo+j * 8+5,none⟩) hbb id).trans (hq' 5 (by omega))
       have b6:=(hua.cell (p:=⟨bb,oo+j * 8+6,none⟩) hbb id).trans (hq' 6 (by omega))
       have b7:=(hua.cell (p:=⟨bb,oo+j * 8+7,none⟩) hbb id).trans (hq' 7 (by omega))
       simp only[RowW.cells,qZ,qS]at b0 b1 b2 b3 b4 b5 b6 b7;have hbl5:bb<(wr.alloc (.cells #[.int .i64 x.p.tx,.int .i64 x.p.state,.int .i64 x.p.first,.int .i64 x.p.last,.int .i64 x.p.undo,.int .i64 x.p.coord,.slice x.mem.1 x.mem.2.1 x.mem.2.2,.slice x.loc.1 x.loc.2.1 x.loc.2.2] 105)).drew.heap.size:=Nat.lt_of_lt_of_le hbb hua.size;have hk2:∀w',Upd Nowhere (wr.alloc (.cells #[.int .i64 x.p.tx,.int .i64 x.p.state,.int .i64 x.p.first,.int .i64 x.p.last,.int .i64 x.p.undo,.int .i64 x.p.coord,.slice x.mem.1 x.mem.2.1 x.mem.2.2,.slice x.loc.1 x.loc.2.1 x.loc.2.2] 105)).drew w'→w'.cell? ⟨wr.heap.size,0,none⟩=some (.int .i64 x.p.tx)∧w'.cell? ⟨wr.heap.size,1,none⟩=some (.int .i64 x.p.state)∧w'.cell? ⟨wr.heap.size,2,none⟩=some (.int .i64 x.p.first)∧w'.cell? ⟨wr.heap.size,3,none⟩=some (.int .i64 x.p.last)∧w'.cell? ⟨wr.heap.size,4,none⟩=some (.int .i64 x.p.undo)∧w'.cell? ⟨wr.heap.size,5,none⟩=some (.int .i64 x.p.coord)∧w'.cell? ⟨wr.heap.size,6,none⟩=some (.slice x.mem.1 x.mem.2.1 x.mem.2.2)∧w'.cell? ⟨wr.heap.size,7,none⟩=some (.slice x.loc.1 x.loc.2.1 x.loc.2.2)∧w'.cell? ⟨bb,oo+j * 8,none⟩=some (.int .i64 y.p.tx)∧w'.cell? ⟨bb,oo+j * 8+1,none⟩=some (.int .i64 y.p.state)∧w'.cell? ⟨bb,oo+j * 8+2,none⟩=some (.int .i64 y.p.first)∧w'.cell? ⟨bb,oo+j * 8+3,none⟩=some (.int .i64 y.p.last)∧w'.cell? ⟨bb,oo+j * 8+4,none⟩=some (.int .i64 y.p.undo)∧w'.cell? ⟨bb,oo+j * 8+5,none⟩=some (.int .i64 y.p.coord)∧w'.cell? ⟨bb,oo+j * 8+6,none⟩=some (.slice y.mem.1 y.mem.2.1 y.mem.2.2)∧w'.cell? ⟨bb,oo+j * 8+7,none⟩=some (.slice y.loc.1 y.loc.2.1 y.loc.2.2):=fun w' hu'=>⟨(hu'.cell (p:=⟨wr.heap.size,0,none⟩) hbn.lt id).trans n0,(hu'.cell (p:=⟨wr.heap.size,1,none⟩) hbn.lt id).trans n1,(hu'.cell (p:=⟨wr.heap.size,2,none⟩) hbn.lt id).trans n2,(hu'.cell (p:=⟨wr.heap.size,3,none⟩) hbn.lt id).trans n3,(hu'.cell (p:=⟨wr.heap.size,4,none⟩) hbn.lt id).trans n4,(hu'.cell (p:=⟨wr.heap.size,5,none⟩) hbn.lt id).trans n5,(hu'.cell (p:=⟨wr.heap.size,6,none⟩) hbn.lt id).trans n6,(hu'.cell (p:=⟨wr.heap.size,7,none⟩) hbn.lt id).trans n7,(hu'.cell (p:=⟨bb,oo+j * 8,none⟩) hbl5 id).trans b0,(hu'.cell (p:=⟨bb,oo+j * 8+1,none⟩) hbl5 id).trans b1,(hu'.cell (p:=⟨bb,oo+j * 8+2,none⟩) hbl5 id).trans b2,(hu'.cell (p:=⟨bb,oo+j * 8+3,none⟩) hbl5 id).trans b3,(hu'.cell (p:=⟨bb,oo+j * 8+4,none⟩) hbl5 id).trans b4,(hu'.cell (p:=⟨bb,oo+j * 8+5,none⟩) hbl5 id).trans b5,(hu'.cell (p:=⟨bb,oo+j * 8+6,none⟩) hbl5 id).trans b6,(hu'.cell (p:=⟨bb,oo+j * 8+7,none⟩) hbl5 id).trans b7⟩
       have hk3:∀w2,Upd Nowhere (wr.alloc (.cells #[.int .i64 x.p.tx,.int .i64 x.p.state,.int .i64 x.p.first,.int .i64 x.p.last,.int .i64 x.p.undo,.int .i64 x.p.coord,.slice x.mem.1 x.mem.2.1 x.mem.2.2,.slice x.loc.1 x.loc.2.1 x.loc.2.2] 105)).drew w2→∀w',Upd Nowhere w2 w'→w'.cell? ⟨wr.heap.size,0,none⟩=some (.int .i64 x.p.tx)∧w'.cell? ⟨wr.heap.size,1,none⟩=some (.int .i64 x.p.state)∧w'.cell? ⟨wr.heap.size,2,none⟩=some (.int .i64 x.p.first)∧w'.cell? ⟨wr.heap.size,3,none⟩=some (.int .i64 x.p.last)∧w'.cell? ⟨wr.heap.size,4,none⟩=some (.int .i64 x.p.undo)∧w'.cell? ⟨wr.heap.size,5,none⟩=some (.int .i64 x.p.coord)∧w'.cell? ⟨wr.heap.size,6,none⟩=some (.slice x.mem.1 x.mem.2.1 x.mem.2.2)∧w'.cell? ⟨wr.heap.size,7,none⟩=some (.slice x.loc.1 x.loc.2.1 x.loc.2.2)∧w'.cell? ⟨bb,oo+j * 8,none⟩=some (.int .i64 y.p.tx)∧w'.cell? ⟨bb,oo+j * 8+1,none⟩=some (.int .i64 y.p.state)∧w'.cell? ⟨bb,oo+j * 8+2,none⟩=some (.int .i64 y.p.first)∧w'.cell? ⟨bb,oo+j * 8+3,none⟩=some (.int .i64 y.p.last)∧w'.cell? ⟨bb,oo+j * 8+4,none⟩=some (.int .i64 y.p.undo)∧w'.cell? ⟨bb,oo+j * 8+5,none⟩=some (.int .i64 y.p.coord)∧w'.cell? ⟨bb,oo+j * 8+6,none⟩=some (.slice y.mem.1 y.mem.2.1 y.mem.2.2)∧w'.cell? ⟨bb,oo+j * 8+7,none⟩=some (.slice y.loc.1 y.loc.2.1 y.loc.2.2):=fun w2 hu2 w' hu'=>hk2 w' (hu2.same hu')
       have HGY:Hid (∀w',Upd Nowhere (wr.alloc (.cells #[.int .i64 x.p.tx,.int .i64 x.p.state,.int .i64 x.p.first,.int .i64 x.p.last,.int .i64 x.p.undo,.int .i64 x.p.coord,.slice x.mem.1 x.mem.2.1 x.mem.2.2,.slice x.loc.1 x.loc.2.1 x.loc.2.2] 105)) w'→(Instr.loadAt 105 (.pointer (some ⟨bb,oo+j * 8,none⟩))).run Tryz.prog w'= .ok (.agg #[.int .i64 y.p.tx,.int .i64 y.p.state,.int .i64 y.p.first,.int .i64 y.p.last,.int .i64 y.p.undo,.int .i64 y.p.coord,.slice y.mem.1 y.mem.2.1 y.mem.2.2,.slice y.loc.1 y.loc.2.1 y.loc.2.2]) w'):=qh fun w' h'=>run_loadAt_mid _ _ _ _ [.int .i64 y.p.tx,.int .i64 y.p.state,.int .i64 y.p.first,.int .i64 y.p.last,.int .i64 y.p.undo,.int .i64 y.p.coord,.slice y.mem.1 y.mem.2.1 y.mem.2.2,.slice y.loc.1 y.loc.2.1 y.loc.2.2] _ (fun i v hv=>by
        have hi:i<8:=(qei.1 hv).1;have e:=(h'.cell (p:=⟨bb,oo+j * 8+i,none⟩) (Nat.lt_of_lt_of_le hbb hua0.size) id).trans ((hua0.cell (p:=⟨bb,oo+j * 8+i,none⟩) hbb id).trans (hq' i hi));rw[e];exact hv) Tryz.underlying105 rfl (by kernel_rfl)
       have HYX:Hid (∀w',Upd Nowhere (wr.alloc (.cells #[.int .i64 x.p.tx,.int .i64 x.p.state,.int .i64 x.p.first,.int .i64 x.p.last,.int .i64 x.p.undo,.int .i64 x.p.coord,.slice x.mem.1 x.mem.2.1 x.mem.2.2,.slice x.loc.1 x.loc.2.1 x.loc.2.2] 105)) w'→Calls Tryz.prog 143 #[elemR y,elemR x] w' fun e w''=>e= .returned (.bool (less y x))∧Upd Nowhere (wr.alloc (.cells #[.int .i64 x.p.tx,.int .i64 x.p.state,.int .i64 x.p.first,.int .i64 x.p.last,.int .i64 x.p.undo,.int .i64 x.p.coord,.slice x.mem.1 x.mem.2.1 x.mem.2.2,.slice x.loc.1 x.loc.2.1 x.loc.2.2] 105)) w''):=qh fun w' h'=>(HLESS.out y (qmg hy) x HXM.out w' ((hu.same hua0).same h')).mono fun e w'' h''=>⟨h''.1,h'.same h''.2⟩
       have HK2:=qh hk2;have HK3:=qh hk3;have hpv:prevO L (j+1)=some y:=by unfold prevO;simpa using hy
       have HPV:=qh hpv;have HYM:=qh (qmg hy);have hw1:IntKind.i64.wrap (((j+1:Nat):Int) - 1)=(j:Int):=by rw[IntWalk.i64_in _ (by omega)];omega
       have hjI:(j:Int)<(N:Int):=by omega
       have hj0:(0:Int)<((j+1:Nat):Int):=by omega
       obtain⟨k,hkj⟩:∃k,j+1=k:=⟨_,rfl⟩;have HKJ:=qh hkj;have hkp:0<k:=by omega
       rw[hkj]at a0 a1 a2 a3 a4 a5 a6 a7 hkI hw1 hj0 HST HRR HKN HPV ⊢;clear hk hr hu hx hst he2 he3 hq hm1 hkN hxm hbb hb hua hua0 hk1 hbn hy hq' he2' he3' hpv hkj hk2 hk3
       cases hb3:less y x with
       | false=>
         have HL2:=HYX;rw[hb3]at HL2;unfold elemR at HL2;have HB3:=qh hb3;clear hb3;go_wp2_with fail
         refine wp_region_grown (w0:=(wr.alloc (.cells #[.int .i64 x.p.tx,.int .i64 x.p.state,.int .i64 x.p.first,.int .i64 x.p.last,.int .i64 x.p.undo,.int .i64 x.p.coord,.slice x.mem.1 x.mem.2.1 x.mem.2.2,.slice x.loc.1 x.loc.2.1 x.loc.2.2] 105))) (by kernel_rfl) (by kernel_rfl) (Upd.refl _ _) ?_
         go_big_quiet_want
         refine BigFrame.quiet_move (.tmp 2) rfl ?_;go_simp
         go_big_quiet_on
         go_big_quiet_want
         refine quiet_load 105 (.tmp 10) rfl rfl HGX.out ?_;go_simp
         go_big_quiet_on
         go_big_quiet_want
         refine quiet_call (f:=142) (args:=#[.agg #[.int .i64 x.p.tx,.int .i64 x.p.state,.int .i64 x.p.first,.int .i64 x.p.last,.int .i64 x.p.undo,.int .i64 x.p.coord,.slice x.mem.1 x.mem.2.1 x.mem.2.2,.slice x.loc.1 x.loc.2.1 x.loc.2.2]]) (v:= .bool true) (fun w' hw'=>by go_simp) (fun w' hw'=>HM1.out w' hw') ?_
         go_simp
         go_big_quiet_on
         go_big_quiet_want
         refine quiet_val (v:= .bool false) (fun w' hw'=>by go_simp) ?_
         go_simp
         go_big_quiet_on
         go_big_quiet_want
         refine BigFrame.quiet_move (.tmp 25) rfl ?_;go_simp
         go_big_quiet_on
         go_big_quiet_want
         refine BigFrame.quiet_move (.tmp 9) rfl ?_;go_simp
         go_big_quiet_on
         go_big_quiet_want
         refine quiet_val (v:= .bool true) (fun w' hw'=>by go_simp) ?_
         go_simp
         go_big_quiet_on
         go_big_quiet_want
         refine BigFrame.quiet_move (.tmp 28) rfl ?_;go_simp
         go_big_quiet_on
         go_big_quiet_want
         refine BigFrame.quiet_move (.tmp 3) rfl ?_;go_simp
         go_big_quiet_on
         go_big_quiet_want
         refine BigFrame.quiet_move (.tmp 0) rfl ?_;go_simp
         go_big_quiet_on
         go_big_quiet_want
         refine BigFrame.quiet_move (.tmp 9) rfl ?_;go_simp
         go_big_quiet_on
         go_big_quiet_want
         refine quiet_val (v:= .int .i64 (j:Int)) (fun w' hw'=>by go_simp) ?_
         go_simp
         go_big_quiet_on
         go_big_quiet_want
         refine quiet_val (v:= .pointer (some ⟨bb,oo+j * 8,none⟩)) (fun w' hw'=>by go_simp) ?_
         go_simp
         go_big_quiet_on
         go_big_quiet_want
         refine quiet_load 105 (.tmp 34) rfl rfl HGY.out ?_;go_simp
         go_big_quiet_on
         go_big_quiet_want
         refine quiet_load 105 (.tmp 10) rfl rfl HGX.out ?_;go_simp
         go_big_quiet_on
         go_big_quiet_want
         refine quiet_call (f:=143) (args:=#[.agg #[.int .i64 y.p.tx,.int .i64 y.p.state,.int .i64 y.p.first,.int .i64 y.p.last,.int .i64 y.p.undo,.int .i64 y.p.coord,.slice y.mem.1 y.mem.2.1 y.mem.2.2,.slice y.loc.1 y.loc.2.1 y.loc.2.2],.agg #[.int .i64 x.p.tx,.int .i64 x.p.state,.int .i64 x.p.first,.int .i64 x.p.last,.int .i64 x.p.undo,.int .i64 x.p.coord,.slice x.mem.1 x.mem.2.1 x.mem.2.2,.slice x.loc.1 x.loc.2.1 x.loc.2.2]]) (v:= .bool false) (fun w' hw'=>by go_simp) (fun w' hw'=>HL2.out w' hw') ?_
         go_simp
         go_big_quiet_on
         go_big_quiet_want
         refine quiet_val (v:= .bool true) (fun w' hw'=>by go_simp) ?_
         go_simp
         go_big_quiet_on
         go_big_quiet_want
         refine quiet_val (v:= .bool true) (fun w' hw'=>by go_simp) ?_
         go_simp
         go_big_quiet_on
         go_big_quiet_want
         refine quiet_val (v:= .bool true) (fun w' hw'=>by go_simp) ?_
         go_simp
         go_big_quiet_on
         refine wpQuiet_nil ?_;intro w9 hw9;have HU9:=qh (HUX.out.same hw9);clear hw9;go_wp2_with fail
         go_ret;refine⟨?_,HU9.out⟩;rw[HRR.out,HST.out,HB.out,HPV.out];simp only[HB3.out];rfl
       | true=>
         have HL2:=HYX;rw[hb3]at HL2;unfold elemR at HL2;have HB3:=qh hb3;clear hb3;go_wp2_with fail
         refine wp_region_grown (w0:=(wr.alloc (.cells #[.int .i64 x.p.tx,.int .i64 x.p.state,.int .i64 x.p.first,.int .i64 x.p.last,.int .i64 x.p.undo,.int .i64 x.p.coord,.slice x.mem.1 x.mem.2.1 x.mem.2.2,.slice x.loc.1 x.loc.2.1 x.loc.2.2] 105))) (by kernel_rfl) (by kernel_rfl) (Upd.refl _ _) ?_
         go_big_quiet_want
         refine BigFrame.quiet_move (.tmp 2) rfl ?_;go_simp
         go_big_quiet_on
         go_big_quiet_want
         refine quiet_load 105 (.tmp 10) rfl rfl HGX.out ?_;go_simp
         go_big_quiet_on
         go_big_quiet_want
         refine quiet_call (f:=142) (args:=#[.agg #[.int .i64 x.p.tx,.int .i64 x.p.state,.int .i64 x.p.first,.int .i64 x.p.last,.int .i64 x.p.undo,.int .i64 x.p.coord,.slice x.mem.1 x.mem.2.1 x.mem.2.2,.slice x.loc.1 x.loc.2.1 x.loc.2.2]]) (v:= .bool true) (fun w' hw'=>by go_simp) (fun w' hw'=>HM1.out w' hw') ?_
         go_simp
         go_big_quiet_on
         go_big_quiet_want
         refine quiet_val (v:= .bool false) (fun w' hw'=>by go_simp) ?_
         go_simp
         go_big_quiet_on
         go_big_quiet_want
         refine BigFrame.quiet_move (.tmp 25) rfl ?_;go_simp
         go_big_quiet_on
         go_big_quiet_want
         refine BigFrame.quiet_move (.tmp 9) rfl ?_;go_simp
         go_big_quiet_on
         go_big_quiet_want
         refine quiet_val (v:= .bool true) (fun w' hw'=>by go_simp) ?_
         go_simp
         go_big_quiet_on
         go_big_quiet_want
         refine BigFrame.quiet_move (.tmp 28) rfl ?_;go_simp
         go_big_quiet_on
         go_big_quiet_want
         refine BigFrame.quiet_move (.tmp 3) rfl ?_;go_simp
         go_big_quiet_on
         go_big_quiet_want
         refine BigFrame.quiet_move (.tmp 0) rfl ?_;go_simp
         go_big_quiet_on
         go_big_quiet_want
         refine BigFrame.quiet_move (.tmp 9) rfl ?_;go_simp
         go_big_quiet_on
         go_big_quiet_want
         refine quiet_val (v:= .int .i64 (j:Int)) (fun w' hw'=>by go_simp) ?_
         go_simp
         go_big_quiet_on
         go_big_quiet_want
         refine quiet_val (v:= .pointer (some ⟨bb,oo+j * 8,none⟩)) (fun w' hw'=>by go_simp) ?_
         go_simp
         go_big_quiet_on
         go_big_quiet_want
         refine quiet_load 105 (.tmp 34) rfl rfl HGY.out ?_;go_simp
         go_big_quiet_on
         go_big_quiet_want
         refine quiet_load 105 (.tmp 10) rfl rfl HGX.out ?_;go_simp
         go_big_quiet_on
         go_big_quiet_want
         refine quiet_call (f:=143) (args:=#[.agg #[.int .i64 y.p.tx,.int .i64 y.p.state,.int .i64 y.p.first,.int .i64 y.p.last,.int .i64 y.p.undo,.int .i64 y.p.coord,.slice y.mem.1 y.mem.2.1 y.mem.2.2,.slice y.loc.1 y.loc.2.1 y.loc.2.2],.agg #[.int .i64 x.p.tx,.int .i64 x.p.state,.int .i64 x.p.first,.int .i64 x.p.last,.int .i64 x.p.undo,.int .i64 x.p.coord,.slice x.mem.1 x.mem.2.1 x.mem.2.2,.slice x.loc.1 x.loc.2.1 x.loc.2.2]]) (v:= .bool true) (fun w' hw'=>by go_simp) (fun w' hw'=>HL2.out w' hw') ?_
         go_simp
         go_big_quiet_on
         go_big_quiet_want
         refine quiet_val (v:= .bool false) (fun w' hw'=>by go_simp) ?_
         go_simp
         go_big_quiet_on
         go_big_quiet_want
         refine quiet_val (v:= .bool false) (fun w' hw'=>by go_simp) ?_
         go_simp
         go_big_quiet_on
         go_big_quiet_want
         refine quiet_val (v:= .bool false) (fun w' hw'=>by go_simp) ?_
         go_simp
         go_big_quiet_on
         refine wpQuiet_nil ?_;intro w9 hw9;have HU9:=qh (HUX.out.same hw9);clear hw9;go_wp2_with fail
         go_roundw
         case rel=>exact⟨k+1,by go_num,HKN.out,by rw[HRR.out,HST.out,HB.out,HPV.out];simp[HB3.out],HU9.out⟩
         case measure=>
          have:=HKN.out;simp only[intOf];omega
   ·obtain rfl:k=N:=by omega
    have HU:=qh hu;have HRR:=qh hr;clear hu hr hk;go_wp2_with fail
    go_ret;refine⟨?_,HU.out⟩;rw[HRR.out,List.drop_eq_nil_of_le (by rw[HNN.out];exact qlr _)]
    rfl
 ·have hR:risingP most may less L=false:=by unfold risingP;simp[hlm]
  rw[hR];have hlI:(most:Int)<((N:Nat):Int):=by omega
  rw[hN]at hnI ⊢;clear hE hmay hless hn hm hcc hN hlm hR;go_enter Tryz.func141,Tryz.ntmps141
  go_wp2_with fail
  go_ret;exact⟨rfl,Upd.refl _ _⟩
end Go.Proofs.YtljmmkjdlcfkpaaGreatDoor
