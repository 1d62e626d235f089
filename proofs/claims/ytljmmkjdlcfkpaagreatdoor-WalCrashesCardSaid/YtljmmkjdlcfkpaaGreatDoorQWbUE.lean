/-
  Layer 7: a list whose items rise: deeds.
-/
import Derived.Test.YtljmmkjdlcfkpaaGreatDoorQWqA
set_option maxRecDepth 100000
set_option maxHeartbeats 4000000
namespace Go.Proofs.YtljmmkjdlcfkpaaGreatDoor
open Go Go.RowKit
def elemE(x:DeedV):Value:= .agg #[.int .i64 x.p.1,.slice x.mem.1 x.mem.2.1 x.mem.2.2]
theorem risingE_ok{w:World}{v:Value}{L:List DeedV}(hE:Els 2 DeedV.cells w v L)(hn:L.length≤90000)(most:Nat)(hm:most≤1000)(may:DeedV→Bool)(less:DeedV→DeedV→Bool)
 (hmay:∀x∈L,∀w',Upd Nowhere w w'→Calls Tryz.prog 148 #[elemE x] w' (BoolP (may x) w')) (hless:∀x∈L,∀y∈L,∀w',Upd Nowhere w w'→Calls Tryz.prog 149 #[elemE x,elemE y] w' (BoolP (less x y) w')):
 Calls Tryz.prog 147 #[v,.int .i64 (most:Int),.func (.func 148) #[] #[],.func (.func 149) #[] #[]] w (BoolP (risingP most may less L) w):=by
 obtain⟨A,cc,rfl,hcc⟩:=hE.val;have hmI:(most:Int)≤1000:=by omega
 have hnI:((L.length:Nat):Int)≤90000:=by omega
 obtain⟨N,hN⟩:∃N,L.length=N:=⟨_,rfl⟩;have HNN:=qh hN;by_cases hlm:L.length≤most
 ·have hR:risingP most may less L=risesP may less (prevO L 0) (L.drop 0):=by unfold risingP;simp[hlm,prevO]
  rw[hR];have hlI:((N:Nat):Int)≤(most:Int):=by omega
  have hlN:¬most<N:=by omega
  have hlD:decide (most<N)=false:=by simpa using hlN
  have HE:=qh hE;have HMAY:=qh hmay;have HLESS:=qh hless;rw[hN]at hnI HE ⊢;clear hE hmay hless hn hm hcc hN hlm hR;go_enter Tryz.func147,Tryz.ntmps147
  go_wp2_with fail
  go_loopw [17] (fun s17 wr=>∃k:Nat,s17= .int .i64 (k:Int)∧k≤N∧risesP may less (prevO L 0) (L.drop 0)=risesP may less (prevO L k) (L.drop k)∧Upd Nowhere w wr) (fun s17 _=>N - (intOf s17).toNat)
  case atStart=>exact⟨0,rfl,by omega,rfl,Upd.refl _ _⟩
  case round=>
   obtain⟨k,rfl,hk,hr,hu⟩:=hrel;by_cases hkN:k<N
   ·obtain⟨x,hx⟩:∃x,L[k]? =some x:=⟨_,qeg (by rw[HNN.out];exact hkN)⟩
    have hst:=rises_step may less hx;obtain⟨bb,oo,ccc,he,hbb,hq⟩:=(HE.out.upd hu fun _ _=>id).get (fun _=>rfl) hx
    injection he with he1 he2 he3
    subst he1;have hua:=((Upd.refl Nowhere wr).alloc (.cells #[.int .i64 x.p.1,.slice x.mem.1 x.mem.2.1 x.mem.2.2] 107)).drew;have hua0:=(Upd.refl Nowhere wr).alloc (.cells #[.int .i64 x.p.1,.slice x.mem.1 x.mem.2.1 x.mem.2.2] 107);have HUX:=qh (hu.same hua0);have hm1:∀w',Upd Nowhere (wr.alloc (.cells #[.int .i64 x.p.1,.slice x.mem.1 x.mem.2.1 x.mem.2.2] 107)) w'→Calls Tryz.prog 148 #[elemE x] w' fun e w''=>e= .returned (.bool (may x))∧Upd Nowhere (wr.alloc (.cells #[.int .i64 x.p.1,.slice x.mem.1 x.mem.2.1 x.mem.2.2] 107)) w'':=fun w' h'=>(HMAY.out x (qmg hx) w' ((hu.same hua0).same h')).mono fun e w'' h''=>⟨h''.1,h'.same h''.2⟩
    have hbn:=Blk.new wr 107 #[.int .i64 x.p.1,.slice x.mem.1 x.mem.2.1 x.mem.2.2];have a0:=hq 0 (by omega)
    have n0:=hbn.cell 0;have a1:=hq 1 (by omega)
    have n1:=hbn.cell 1;simp only[DeedV.cells,slV,qA,qZ,qS,Nat.add_zero]at a0 n0 a1 n1;have hk1:∀w',Upd Nowhere (wr.alloc (.cells #[.int .i64 x.p.1,.slice x.mem.1 x.mem.2.1 x.mem.2.2] 107)).drew w'→w'.cell? ⟨wr.heap.size,0,none⟩=some (.int .i64 x.p.1)∧w'.cell? ⟨wr.heap.size,1,none⟩=some (.slice x.mem.1 x.mem.2.1 x.mem.2.2):=fun w' hu'=>⟨(hu'.cell (p:=⟨wr.heap.size,0,none⟩) hbn.lt id).trans n0,(hu'.cell (p:=⟨wr.heap.size,1,none⟩) hbn.lt id).trans n1⟩
    have HGX:Hid (∀w',Upd Nowhere (wr.alloc (.cells #[.int .i64 x.p.1,.slice x.mem.1 x.mem.2.1 x.mem.2.2] 107)) w'→(Instr.loadAt 107 (.pointer (some ⟨wr.heap.size,0,none⟩))).run Tryz.prog w'= .ok (.agg #[.int .i64 x.p.1,.slice x.mem.1 x.mem.2.1 x.mem.2.2]) w'):=qh fun w' h'=>run_loadAt_mid _ _ _ _ [.int .i64 x.p.1,.slice x.mem.1 x.mem.2.1 x.mem.2.2] _ (fun i v hv=>by rw[Nat.zero_add,(hbn.upd h' id).cell i,qA];exact hv) Tryz.underlying107 rfl (by kernel_rfl)
    have HK1:=qh hk1;have HM1:=qh hm1;have HST:=qh hst;have HU:=qh hu;have HUA:=qh (hu.same hua);have HRR:=qh hr;have hkI:(k:Int)<(N:Int):=by omega
    have HKN:=qh hkN;have hxm:=qmg hx;have HXM:=qh hxm;have hbl:=hbb;unfold elemE at HM1
    cases hb:may x with
    | false=>
      rw[hb]at HM1;have HB:=qh hb;clear hk hr hu hx hst he2 he3 hq hm1 hkN hxm hbb hb hua hua0 hk1 hbn;go_wp2_with fail
      refine wp_region_grown (w0:=(wr.alloc (.cells #[.int .i64 x.p.1,.slice x.mem.1 x.mem.2.1 x.mem.2.2] 107))) (by kernel_rfl) (by kernel_rfl) (Upd.refl _ _) ?_
      go_big_quiet_want
      refine BigFrame.quiet_move (.tmp 2) rfl ?_;go_simp
      go_big_quiet_on
      go_big_quiet_want
      refine quiet_load 107 (.tmp 10) rfl rfl HGX.out ?_;go_simp
      go_big_quiet_on
      go_big_quiet_want
      refine quiet_call (f:=148) (args:=#[.agg #[.int .i64 x.p.1,.slice x.mem.1 x.mem.2.1 x.mem.2.2]]) (v:= .bool false) (fun w' hw'=>by go_simp) (fun w' hw'=>HM1.out w' hw') ?_
      go_simp
      go_big_quiet_on
      go_big_quiet_want
      refine quiet_val (v:= .bool true) (fun w' hw'=>by go_simp) ?_
      go_simp
      go_big_quiet_on
      go_big_quiet_want
      refine BigFrame.quiet_move (.tmp 25) rfl ?_;go_simp
      go_big_quiet_on
      go_big_quiet_skip
      go_big_quiet_skip
      go_big_quiet_skip
      go_big_quiet_skip
      go_big_quiet_skip
      go_big_quiet_skip
      go_big_quiet_skip
      go_big_quiet_skip
      go_big_quiet_skip
      go_big_quiet_skip
      go_big_quiet_skip
      go_big_quiet_skip
      go_big_quiet_skip
      go_big_quiet_want
      refine quiet_val (v:= .bool true) (fun w' hw'=>by go_simp) ?_
      go_simp
      go_big_quiet_on
      refine wpQuiet_nil ?_;intro w9 hw9;have HU9:=qh (HUX.out.same hw9);clear hw9;go_wp2_with fail
      go_ret;refine⟨?_,HU9.out⟩;rw[HRR.out,HST.out,HB.out];rfl
    | true=>
      rw[hb]at HM1;have HB:=qh hb
      rcases k with _ | j
      ·simp only[Nat.zero_mul,Nat.add_zero]at a0 a1;clear hk hr hu hx hst he2 he3 hq hm1 hkN hxm hbb hb hua hua0 hk1 hbn;go_wp2_with fail
       refine wp_region_grown (w0:=(wr.alloc (.cells #[.int .i64 x.p.1,.slice x.mem.1 x.mem.2.1 x.mem.2.2] 107))) (by kernel_rfl) (by kernel_rfl) (Upd.refl _ _) ?_
       go_big_quiet_want
       refine BigFrame.quiet_move (.tmp 2) rfl ?_;go_simp
       go_big_quiet_on
       go_big_quiet_want
       refine quiet_load 107 (.tmp 10) rfl rfl HGX.out ?_;go_simp
       go_big_quiet_on
       go_big_quiet_want
       refine quiet_call (f:=148) (args:=#[.agg #[.int .i64 x.p.1,.slice x.mem.1 x.mem.2.1 x.mem.2.2]]) (v:= .bool true) (fun w' hw'=>by go_simp) (fun w' hw'=>HM1.out w' hw') ?_
       go_simp
       go_big_quiet_on
       go_big_quiet_want
       refine quiet_val (v:= .bool false) (fun w' hw'=>by go_simp) ?_
       go_simp
       go_big_quiet_on
       go_big_quiet_want
       refine BigFrame.quiet_move (.tmp 25) rfl ?_;go_simp
       go_big_quiet_on
       go_big_quiet_want
       refine BigFrame.quiet_move (.tmp 9) rfl ?_;go_simp
       go_big_quiet_on
       go_big_quiet_want
       refine quiet_val (v:= .bool false) (fun w' hw'=>by go_simp) ?_
       go_simp
       go_big_quiet_on
       go_big_quiet_want
       refine BigFrame.quiet_move (.tmp 28) rfl ?_;go_simp
       go_big_quiet_on
       go_big_quiet_skip
       go_big_quiet_skip
       go_big_quiet_skip
       go_big_quiet_skip
       go_big_quiet_skip
       go_big_quiet_skip
       go_big_quiet_skip
       go_big_quiet_skip
       go_big_quiet_skip
       go_big_quiet_want
       refine quiet_val (v:= .bool false) (fun w' hw'=>by go_simp) ?_
       go_simp
       go_big_quiet_on
       go_big_quiet_want
       refine quiet_val (v:= .bool false) (fun w' hw'=>by go_simp) ?_
       go_simp
       go_big_quiet_on
       refine wpQuiet_nil ?_;intro w9 hw9;have HU9:=qh (HUX.out.same hw9);clear hw9;go_wp2_with fail
       go_roundw
       case rel=>exact⟨1,by go_num,HKN.out,by rw[HST.out,HB.out];simp[prevO],HU9.out⟩
       case measure=>
        have:=HKN.out;simp only[intOf];omega
      ·obtain⟨y,hy⟩:∃y,L[j]? =some y:=⟨_,qeg (by rw[HNN.out];omega)⟩
       obtain⟨bb',oo',ccc',he',_,hq'⟩:=(HE.out.upd hu fun _ _=>id).get (fun _=>rfl) hy
       injection he' with he1' he2' he3'
       injection he1' with he1'
       injection he1' with e1' e2' _
       subst e1' e2';have b0:=(hua.cell (p:=⟨bb,oo+j * 2,none⟩) hbb id).trans (hq' 0 (by omega))
       have b1:=(hua.cell (p:=⟨bb,oo+j * 2+1,none⟩) hbb id).trans (hq' 1 (by omega))
       simp only[DeedV.cells,qZ,qS]at b0 b1;have hbl5:bb<(wr.alloc (.cells #[.int .i64 x.p.1,.slice x.mem.1 x.mem.2.1 x.mem.2.2] 107)).drew.heap.size:=Nat.lt_of_lt_of_le hbb hua.size;have hk2:∀w',Upd Nowhere (wr.alloc (.cells #[.int .i64 x.p.1,.slice x.mem.1 x.mem.2.1 x.mem.2.2] 107)).drew w'→w'.cell? ⟨wr.heap.size,0,none⟩=some (.int .i64 x.p.1)∧w'.cell? ⟨wr.heap.size,1,none⟩=some (.slice x.mem.1 x.mem.2.1 x.mem.2.2)∧w'.cell? ⟨bb,oo+j * 2,none⟩=some (.int .i64 y.p.1)∧w'.cell? ⟨bb,oo+j * 2+1,none⟩=some (.slice y.mem.1 y.mem.2.1 y.mem.2.2):=fun w' hu'=>⟨(hu'.cell (p:=⟨wr.heap.size,0,none⟩) hbn.lt id).trans n0,(hu'.cell (p:=⟨wr.heap.size,1,none⟩) hbn.lt id).trans n1,(hu'.cell (p:=⟨bb,oo+j * 2,none⟩) hbl5 id).trans b0,(hu'.cell (p:=⟨bb,oo+j * 2+1,none⟩) hbl5 id).trans b1⟩
       have hk3:∀w2,Upd Nowhere (wr.alloc (.cells #[.int .i64 x.p.1,.slice x.mem.1 x.mem.2.1 x.mem.2.2] 107)).drew w2→∀w',Upd Nowhere w2 w'→w'.cell? ⟨wr.heap.size,0,none⟩=some (.int .i64 x.p.1)∧w'.cell? ⟨wr.heap.size,1,none⟩=some (.slice x.mem.1 x.mem.2.1 x.mem.2.2)∧w'.cell? ⟨bb,oo+j * 2,none⟩=some (.int .i64 y.p.1)∧w'.cell? ⟨bb,oo+j * 2+1,none⟩=some (.slice y.mem.1 y.mem.2.1 y.mem.2.2):=fun w2 hu2 w' hu'=>hk2 w' (hu2.same hu')
       have HGY:Hid (∀w',Upd Nowhere (wr.alloc (.cells #[.int .i64 x.p.1,.slice x.mem.1 x.mem.2.1 x.mem.2.2] 107)) w'→(Instr.loadAt 107 (.pointer (some ⟨bb,oo+j * 2,none⟩))).run Tryz.prog w'= .ok (.agg #[.int .i64 y.p.1,.slice y.mem.1 y.mem.2.1 y.mem.2.2]) w'):=qh fun w' h'=>run_loadAt_mid _ _ _ _ [.int .i64 y.p.1,.slice y.mem.1 y.mem.2.1 y.mem.2.2] _ (fun i v hv=>by
        have hi:i<2:=(qei.1 hv).1;have e:=(h'.cell (p:=⟨bb,oo+j * 2+i,none⟩) (Nat.lt_of_lt_of_le hbb hua0.size) id).trans ((hua0.cell (p:=⟨bb,oo+j * 2+i,none⟩) hbb id).trans (hq' i hi));rw[e];exact hv) Tryz.underlying107 rfl (by kernel_rfl)
       have HYX:Hid (∀w',Upd Nowhere (wr.alloc (.cells #[.int .i64 x.p.1,.slice x.mem.1 x.mem.2.1 x.mem.2.2] 107)) w'→Calls Tryz.prog 149 #[elemE y,elemE x] w' fun e w''=>e= .returned (.bool (less y x))∧Upd Nowhere (wr.alloc (.cells #[.int .i64 x.p.1,.slice x.mem.1 x.mem.2.1 x.mem.2.2] 107)) w''):=qh fun w' h'=>(HLESS.out y (qmg hy) x HXM.out w' ((hu.same hua0).same h')).mono fun e w'' h''=>⟨h''.1,h'.same h''.2⟩
       have HK2:=qh hk2;have HK3:=qh hk3;have hpv:prevO L (j+1)=some y:=by unfold prevO;simpa using hy
       have HPV:=qh hpv;have HYM:=qh (qmg hy);have hw1:IntKind.i64.wrap (((j+1:Nat):Int) - 1)=(j:Int):=by rw[IntWalk.i64_in _ (by omega)];omega
       have hjI:(j:Int)<(N:Int):=by omega
       have hj0:(0:Int)<((j+1:Nat):Int):=by omega
       obtain⟨k,hkj⟩:∃k,j+1=k:=⟨_,rfl⟩;have HKJ:=qh hkj;have hkp:0<k:=by omega
       rw[hkj]at a0 a1 hkI hw1 hj0 HST HRR HKN HPV ⊢;clear hk hr hu hx hst he2 he3 hq hm1 hkN hxm hbb hb hua hua0 hk1 hbn hy hq' he2' he3' hpv hkj hk2 hk3
       cases hb3:less y x with
       | false=>
         have HL2:=HYX;rw[hb3]at HL2;unfold elemE at HL2;have HB3:=qh hb3;clear hb3;go_wp2_with fail
         refine wp_region_grown (w0:=(wr.alloc (.cells #[.int .i64 x.p.1,.slice x.mem.1 x.mem.2.1 x.mem.2.2] 107))) (by kernel_rfl) (by kernel_rfl) (Upd.refl _ _) ?_
         go_big_quiet_want
         refine BigFrame.quiet_move (.tmp 2) rfl ?_;go_simp
         go_big_quiet_on
         go_big_quiet_want
         refine quiet_load 107 (.tmp 10) rfl rfl HGX.out ?_;go_simp
         go_big_quiet_on
         go_big_quiet_want
         refine quiet_call (f:=148) (args:=#[.agg #[.int .i64 x.p.1,.slice x.mem.1 x.mem.2.1 x.mem.2.2]]) (v:= .bool true) (fun w' hw'=>by go_simp) (fun w' hw'=>HM1.out w' hw') ?_
         go_simp
         go_big_quiet_on
         go_big_quiet_want
         refine quiet_val (v:= .bool false) (fun w' hw'=>by go_simp) ?_
         go_simp
         go_big_quiet_on
         go_big_quiet_want
         refine BigFrame.quiet_move (.tmp 25) rfl ?_;go_simp
         go_big_quiet_on
         go_big_quiet_want
         refine BigFrame.quiet_move (.tmp 9) rfl ?_;go_simp
         go_big_quiet_on
         go_big_quiet_want
         refine quiet_val (v:= .bool true) (fun w' hw'=>by go_simp) ?_
         go_simp
         go_big_quiet_on
         go_big_quiet_want
         refine BigFrame.quiet_move (.tmp 28) rfl ?_;go_simp
         go_big_quiet_on
         go_big_quiet_want
         refine BigFrame.quiet_move (.tmp 3) rfl ?_;go_simp
         go_big_quiet_on
         go_big_quiet_want
         refine BigFrame.quiet_move (.tmp 0) rfl ?_;go_simp
         go_big_quiet_on
         go_big_quiet_want
         refine BigFrame.quiet_move (.tmp 9) rfl ?_;go_simp
         go_big_quiet_on
         go_big_quiet_want
         refine quiet_val (v:= .int .i64 (j:Int)) (fun w' hw'=>by go_simp) ?_
         go_simp
         go_big_quiet_on
         go_big_quiet_want
         refine quiet_val (v:= .pointer (some ⟨bb,oo+j * 2,none⟩)) (fun w' hw'=>by go_simp) ?_
         go_simp
         go_big_quiet_on
         go_big_quiet_want
         refine quiet_load 107 (.tmp 34) rfl rfl HGY.out ?_;go_simp
         go_big_quiet_on
         go_big_quiet_want
         refine quiet_load 107 (.tmp 10) rfl rfl HGX.out ?_;go_simp
         go_big_quiet_on
         go_big_quiet_want
         refine quiet_call (f:=149) (args:=#[.agg #[.int .i64 y.p.1,.slice y.mem.1 y.mem.2.1 y.mem.2.2],.agg #[.int .i64 x.p.1,.slice x.mem.1 x.mem.2.1 x.mem.2.2]]) (v:= .bool false) (fun w' hw'=>by go_simp) (fun w' hw'=>HL2.out w' hw') ?_
         go_simp
         go_big_quiet_on
         go_big_quiet_want
         refine quiet_val (v:= .bool true) (fun w' hw'=>by go_simp) ?_
         go_simp
         go_big_quiet_on
         go_big_quiet_want
         refine quiet_val (v:= .bool true) (fun w' hw'=>by go_simp) ?_
         go_simp
         go_big_quiet_on
         go_big_quiet_want
         refine quiet_val (v:= .bool true) (fun w' hw'=>by go_simp) ?_
         go_simp
         go_big_quiet_on
         refine wpQuiet_nil ?_;intro w9 hw9;have HU9:=qh (HUX.out.same hw9);clear hw9;go_wp2_with fail
         go_ret;refine⟨?_,HU9.out⟩;rw[HRR.out,HST.out,HB.out,HPV.out];simp only[HB3.out];rfl
       | true=>
         have HL2:=HYX;rw[hb3]at HL2;unfold elemE at HL2;have HB3:=qh hb3;clear hb3;go_wp2_with fail
         refine wp_region_grown (w0:=(wr.alloc (.cells #[.int .i64 x.p.1,.slice x.mem.1 x.mem.2.1 x.mem.2.2] 107))) (by kernel_rfl) (by kernel_rfl) (Upd.refl _ _) ?_
         go_big_quiet_want
         refine BigFrame.quiet_move (.tmp 2) rfl ?_;go_simp
         go_big_quiet_on
         go_big_quiet_want
         refine quiet_load 107 (.tmp 10) rfl rfl HGX.out ?_;go_simp
         go_big_quiet_on
         go_big_quiet_want
         refine quiet_call (f:=148) (args:=#[.agg #[.int .i64 x.p.1,.slice x.mem.1 x.mem.2.1 x.mem.2.2]]) (v:= .bool true) (fun w' hw'=>by go_simp) (fun w' hw'=>HM1.out w' hw') ?_
         go_simp
         go_big_quiet_on
         go_big_quiet_want
         refine quiet_val (v:= .bool false) (fun w' hw'=>by go_simp) ?_
         go_simp
         go_big_quiet_on
         go_big_quiet_want
         refine BigFrame.quiet_move (.tmp 25) rfl ?_;go_simp
         go_big_quiet_on
         go_big_quiet_want
         refine BigFrame.quiet_move (.tmp 9) rfl ?_;go_simp
         go_big_quiet_on
         go_big_quiet_want
         refine quiet_val (v:= .bool true) (fun w' hw'=>by go_simp) ?_
         go_simp
         go_big_quiet_on
         go_big_quiet_want
         refine BigFrame.quiet_move (.tmp 28) rfl ?_;go_simp
         go_big_quiet_on
         go_big_quiet_want
         refine BigFrame.quiet_move (.tmp 3) rfl ?_;go_simp
         go_big_quiet_on
         go_big_quiet_want
         refine BigFrame.quiet_move (.tmp 0) rfl ?_;go_simp
         go_big_quiet_on
         go_big_quiet_want
         refine BigFrame.quiet_move (.tmp 9) rfl ?_;go_simp
         go_big_quiet_on
         go_big_quiet_want
         refine quiet_val (v:= .int .i64 (j:Int)) (fun w' hw'=>by go_simp) ?_
         go_simp
         go_big_quiet_on
         go_big_quiet_want
         refine quiet_val (v:= .pointer (some ⟨bb,oo+j * 2,none⟩)) (fun w' hw'=>by go_simp) ?_
         go_simp
         go_big_quiet_on
         go_big_quiet_want
         refine quiet_load 107 (.tmp 34) rfl rfl HGY.out ?_;go_simp
         go_big_quiet_on
         go_big_quiet_want
         refine quiet_load 107 (.tmp 10) rfl rfl HGX.out ?_;go_simp
         go_big_quiet_on
         go_big_quiet_want
         refine quiet_call (f:=149) (args:=#[.agg #[.int .i64 y.p.1,.slice y.mem.1 y.mem.2.1 y.mem.2.2],.agg #[.int .i64 x.p.1,.slice x.mem.1 x.mem.2.1 x.mem.2.2]]) (v:= .bool true) (fun w' hw'=>by go_simp) (fun w' hw'=>HL2.out w' hw') ?_
         go_simp
         go_big_quiet_on
         go_big_quiet_want
         refine quiet_val (v:= .bool false) (fun w' hw'=>by go_simp) ?_
         go_simp
         go_big_quiet_on
         go_big_quiet_want
         refine quiet_val (v:= .bool false) (fun w' hw'=>by go_simp) ?_
         go_simp
         go_big_quiet_on
         go_big_quiet_want
         refine quiet_val (v:= .bool false) (fun w' hw'=>by go_simp) ?_
         go_simp
         go_big_quiet_on
         refine wpQuiet_nil ?_;intro w9 hw9;have HU9:=qh (HUX.out.same hw9);clear hw9;go_wp2_with fail
         go_roundw
         case rel=>exact⟨k+1,by go_num,HKN.out,by rw[HRR.out,HST.out,HB.out,HPV.out];simp[HB3.out],HU9.out⟩
         case measure=>
          have:=HKN.out;simp only[intOf];omega
   ·obtain rfl:k=N:=by omega
    have HU:=qh hu;have HRR:=qh hr;clear hu hr hk;go_wp2_with fail
    go_ret;refine⟨?_,HU.out⟩;rw[HRR.out,List.drop_eq_nil_of_le (by rw[HNN.out];exact qlr _)]
    rfl
 ·have hR:risingP most may less L=false:=by unfold risingP;simp[hlm]
  rw[hR];have hlI:(most:Int)<((N:Nat):Int):=by omega
  rw[hN]at hnI ⊢;clear hE hmay hless hn hm hcc hN hlm hR;go_enter Tryz.func147,Tryz.ntmps147
  go_wp2_with fail
  go_ret;exact⟨rfl,Upd.refl _ _⟩
end Go.Proofs.YtljmmkjdlcfkpaaGreatDoor
