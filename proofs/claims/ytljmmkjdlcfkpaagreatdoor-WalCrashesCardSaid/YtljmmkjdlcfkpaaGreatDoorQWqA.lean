/-
  Regions that draw and whose callees make memory but change none: one walk in the order of the text, in the class of all worlds that grew out of one. Layer 7: a list whose items rise: locks. Layer 7: locks may be.
-/
import Derived.Test.YtljmmkjdlcfkpaaGreatDoorQWm8
set_option maxRecDepth 100000
set_option maxHeartbeats 4000000
namespace Go.Proofs.YtljmmkjdlcfkpaaGreatDoor
open Go Go.RowKit
section
variable {P:Program} {ops:Array Oper} {C:World→Prop} {Q:Act→Prop} {K:Act→Prop} {a:Act} {o:Oper} {rest:List Oper}
theorem quiet_val{v:Value}(h:∀w,C w→(execOp a.eval o).run P w= .ok (.value v) w)(hk:K (a.put o.dst v)):o.quiet P a C K:=
 ⟨v,fun w hw=>by unfold Oper.quietAt;rw[h w hw];exact⟨rfl,rfl⟩,hk⟩
theorem quiet_load(ty:TypeId)(x:Operand)(ho:o.op= .load ty x){p v:Value}(hx:a.eval x=p)(h:∀w,C w→(Instr.loadAt ty p).run P w= .ok v w)(hk:K (a.put o.dst v)):o.quiet P a C K:=
 quiet_val (fun w hw=>by
  unfold execOp;simp only[ho,hx,Sem.run_bind,Sem.run_pure,h w hw,Result.andThen_ok]) hk
theorem quiet_call{f:FuncId}{args:Array Value}{v:Value}(hr:∀w,C w→(execOp a.eval o).run P w= .ok (.enter f args) w)(h:∀w,C w→Calls P f args w fun e w'=>e= .returned v∧C w')(hk:K (a.put o.dst v)):o.quiet P a C K:=
 ⟨v,fun w hw=>by unfold Oper.quietAt;rw[hr w hw];exact⟨rfl,h w hw⟩,hk⟩
theorem wp_region_grown{id:Nat}{Q':Exit→Act→World→Prop}{w0 w:World}{l:List Oper}(hm:P.follows .mixedOrders=true)(hB:Region.lexB .any l.toArray=true)(hw:Upd Nowhere w0 w)
 (h:wpQuiet P l.toArray (fun w'=>Upd Nowhere w0 w') (fun a'=>∀w',Upd Nowhere w0 w'→Q' .normal a' w') l a):(Code.region id l.toArray true).wp P Q' a w:=
 wp_region_quiet (C:=fun w'=>Upd Nowhere w0 w') hm hB hw.drew (by simpa using h)
end
def elemL(x:LockP):Value:= .agg #[strV x.1,.bool x.2]
theorem risingL_ok{w:World}{v:Value}{L:List LockP}(hE:Els 2 lockC w v L)(hn:L.length≤90000)(most:Nat)(hm:most≤1000)(may:LockP→Bool)(less:LockP→LockP→Bool)
 (hmay:∀x∈L,∀w',Upd Nowhere w w'→Calls Tryz.prog 154 #[elemL x] w' (BoolP (may x) w')) (hless:∀x∈L,∀y∈L,∀w',Upd Nowhere w w'→Calls Tryz.prog 155 #[elemL x,elemL y] w' (BoolP (less x y) w')):
 Calls Tryz.prog 153 #[v,.int .i64 (most:Int),.func (.func 154) #[] #[],.func (.func 155) #[] #[]] w (BoolP (risingP most may less L) w):=by
 obtain⟨A,cc,rfl,hcc⟩:=hE.val;have hmI:(most:Int)≤1000:=by omega
 have hnI:((L.length:Nat):Int)≤90000:=by omega
 obtain⟨N,hN⟩:∃N,L.length=N:=⟨_,rfl⟩;have HNN:=qh hN;by_cases hlm:L.length≤most
 ·have hR:risingP most may less L=risesP may less (prevO L 0) (L.drop 0):=by unfold risingP;simp[hlm,prevO]
  rw[hR];have hlI:((N:Nat):Int)≤(most:Int):=by omega
  have hlN:¬most<N:=by omega
  have hlD:decide (most<N)=false:=by simpa using hlN
  have HE:=qh hE;have HMAY:=qh hmay;have HLESS:=qh hless;rw[hN]at hnI HE ⊢;clear hE hmay hless hn hm hcc hN hlm hR;go_enter Tryz.func153,Tryz.ntmps153
  go_wp2_with fail
  go_loopw [17] (fun s17 wr=>∃k:Nat,s17= .int .i64 (k:Int)∧k≤N∧risesP may less (prevO L 0) (L.drop 0)=risesP may less (prevO L k) (L.drop k)∧Upd Nowhere w wr) (fun s17 _=>N - (intOf s17).toNat)
  case atStart=>exact⟨0,rfl,by omega,rfl,Upd.refl _ _⟩
  case round=>
   obtain⟨k,rfl,hk,hr,hu⟩:=hrel;by_cases hkN:k<N
   ·obtain⟨x,hx⟩:∃x,L[k]? =some x:=⟨_,qeg (by rw[HNN.out];exact hkN)⟩
    have hst:=rises_step may less hx;obtain⟨bb,oo,ccc,he,hbb,hq⟩:=(HE.out.upd hu fun _ _=>id).get (fun _=>rfl) hx
    injection he with he1 he2 he3
    subst he1;have hua:=((Upd.refl Nowhere wr).alloc (.cells #[strV x.1,.bool x.2] 103)).drew;have hua0:=(Upd.refl Nowhere wr).alloc (.cells #[strV x.1,.bool x.2] 103);have HUX:=qh (hu.same hua0);have hm1:∀w',Upd Nowhere (wr.alloc (.cells #[strV x.1,.bool x.2] 103)) w'→Calls Tryz.prog 154 #[elemL x] w' fun e w''=>e= .returned (.bool (may x))∧Upd Nowhere (wr.alloc (.cells #[strV x.1,.bool x.2] 103)) w'':=fun w' h'=>(HMAY.out x (qmg hx) w' ((hu.same hua0).same h')).mono fun e w'' h''=>⟨h''.1,h'.same h''.2⟩
    have hbn:=Blk.new wr 103 #[strV x.1,.bool x.2];have a0:=hq 0 (by omega)
    have n0:=hbn.cell 0;have a1:=hq 1 (by omega)
    have n1:=hbn.cell 1;simp only[lockC,qA,qZ,qS,Nat.add_zero]at a0 n0 a1 n1;have hk1:∀w',Upd Nowhere (wr.alloc (.cells #[strV x.1,.bool x.2] 103)).drew w'→w'.cell? ⟨wr.heap.size,0,none⟩=some (strV x.1)∧w'.cell? ⟨wr.heap.size,1,none⟩=some (.bool x.2):=fun w' hu'=>⟨(hu'.cell (p:=⟨wr.heap.size,0,none⟩) hbn.lt id).trans n0,(hu'.cell (p:=⟨wr.heap.size,1,none⟩) hbn.lt id).trans n1⟩
    have HGX:Hid (∀w',Upd Nowhere (wr.alloc (.cells #[strV x.1,.bool x.2] 103)) w'→(Instr.loadAt 103 (.pointer (some ⟨wr.heap.size,0,none⟩))).run Tryz.prog w'= .ok (.agg #[strV x.1,.bool x.2]) w'):=qh fun w' h'=>run_loadAt_mid _ _ _ _ [strV x.1,.bool x.2] _ (fun i v hv=>by rw[Nat.zero_add,(hbn.upd h' id).cell i,qA];exact hv) Tryz.underlying103 rfl (by kernel_rfl)
    have HK1:=qh hk1;have HM1:=qh hm1;have HST:=qh hst;have HU:=qh hu;have HUA:=qh (hu.same hua);have HRR:=qh hr;have hkI:(k:Int)<(N:Int):=by omega
    have HKN:=qh hkN;have hxm:=qmg hx;have HXM:=qh hxm;have hbl:=hbb;unfold elemL at HM1
    cases hb:may x with
    | false=>
      rw[hb]at HM1;have HB:=qh hb;clear hk hr hu hx hst he2 he3 hq hm1 hkN hxm hbb hb hua hua0 hk1 hbn;go_wp2_with fail
      refine wp_region_grown (w0:=(wr.alloc (.cells #[strV x.1,.bool x.2] 103))) (by kernel_rfl) (by kernel_rfl) (Upd.refl _ _) ?_
      go_big_quiet_want
      refine BigFrame.quiet_move (.tmp 2) rfl ?_;go_simp
      go_big_quiet_on
      go_big_quiet_want
      refine quiet_load 103 (.tmp 10) rfl rfl HGX.out ?_;go_simp
      go_big_quiet_on
      go_big_quiet_want
      refine quiet_call (f:=154) (args:=#[.agg #[strV x.1,.bool x.2]]) (v:= .bool false) (fun w' hw'=>by go_simp) (fun w' hw'=>HM1.out w' hw') ?_
      go_simp
      go_big_quiet_on
      go_big_quiet_want
      refine quiet_val (v:= .bool true) (fun w' hw'=>by go_simp) ?_
      go_simp
      go_big_quiet_on
      go_big_quiet_want
      refine BigFrame.quiet_move (.tmp 25) rfl ?_;go_simp
      go_big_quiet_on
      go_big_quiet_skip
      go_big_quiet_skip
      go_big_quiet_skip
      go_big_quiet_skip
      go_big_quiet_skip
      go_big_quiet_skip
      go_big_quiet_skip
      go_big_quiet_skip
      go_big_quiet_skip
      go_big_quiet_skip
      go_big_quiet_skip
      go_big_quiet_skip
      go_big_quiet_skip
      go_big_quiet_want
      refine quiet_val (v:= .bool true) (fun w' hw'=>by go_simp) ?_
      go_simp
      go_big_quiet_on
      refine wpQuiet_nil ?_;intro w9 hw9;have HU9:=qh (HUX.out.same hw9);clear hw9;go_wp2_with fail
      go_ret;refine⟨?_,HU9.out⟩;rw[HRR.out,HST.out,HB.out];rfl
    | true=>
      rw[hb]at HM1;have HB:=qh hb
      rcases k with _ | j
      ·simp only[Nat.zero_mul,Nat.add_zero]at a0 a1;clear hk hr hu hx hst he2 he3 hq hm1 hkN hxm hbb hb hua hua0 hk1 hbn;go_wp2_with fail
       refine wp_region_grown (w0:=(wr.alloc (.cells #[strV x.1,.bool x.2] 103))) (by kernel_rfl) (by kernel_rfl) (Upd.refl _ _) ?_
       go_big_quiet_want
       refine BigFrame.quiet_move (.tmp 2) rfl ?_;go_simp
       go_big_quiet_on
       go_big_quiet_want
       refine quiet_load 103 (.tmp 10) rfl rfl HGX.out ?_;go_simp
       go_big_quiet_on
       go_big_quiet_want
       refine quiet_call (f:=154) (args:=#[.agg #[strV x.1,.bool x.2]]) (v:= .bool true) (fun w' hw'=>by go_simp) (fun w' hw'=>HM1.out w' hw') ?_
       go_simp
       go_big_quiet_on
       go_big_quiet_want
       refine quiet_val (v:= .bool false) (fun w' hw'=>by go_simp) ?_
       go_simp
       go_big_quiet_on
       go_big_quiet_want
       refine BigFrame.quiet_move (.tmp 25) rfl ?_;go_simp
       go_big_quiet_on
       go_big_quiet_want
       refine BigFrame.quiet_move (.tmp 9) rfl ?_;go_simp
       go_big_quiet_on
       go_big_quiet_want
       refine quiet_val (v:= .bool false) (fun w' hw'=>by go_simp) ?_
       go_simp
       go_big_quiet_on
       go_big_quiet_want
       refine BigFrame.quiet_move (.tmp 28) rfl ?_;go_simp
       go_big_quiet_on
       go_big_quiet_skip
       go_big_quiet_skip
       go_big_quiet_skip
       go_big_quiet_skip
       go_big_quiet_skip
       go_big_quiet_skip
       go_big_quiet_skip
       go_big_quiet_skip
       go_big_quiet_skip
       go_big_quiet_want
       refine quiet_val (v:= .bool false) (fun w' hw'=>by go_simp) ?_
       go_simp
       go_big_quiet_on
       go_big_quiet_want
       refine quiet_val (v:= .bool false) (fun w' hw'=>by go_simp) ?_
       go_simp
       go_big_quiet_on
       refine wpQuiet_nil ?_;intro w9 hw9;have HU9:=qh (HUX.out.same hw9);clear hw9;go_wp2_with fail
       go_roundw
       case rel=>exact⟨1,by go_num,HKN.out,by rw[HST.out,HB.out];simp[prevO],HU9.out⟩
       case measure=>
        have:=HKN.out;simp only[intOf];omega
      ·obtain⟨y,hy⟩:∃y,L[j]? =some y:=⟨_,qeg (by rw[HNN.out];omega)⟩
       obtain⟨bb',oo',ccc',he',_,hq'⟩:=(HE.out.upd hu fun _ _=>id).get (fun _=>rfl) hy
       injection he' with he1' he2' he3'
       injection he1' with he1'
       injection he1' with e1' e2' _
       subst e1' e2';have b0:=(hua.cell (p:=⟨bb,oo+j * 2,none⟩) hbb id).trans (hq' 0 (by omega))
       have b1:=(hua.cell (p:=⟨bb,oo+j * 2+1,none⟩) hbb id).trans (hq' 1 (by omega))
       simp only[lockC,qZ,qS]at b0 b1;have hbl5:bb<(wr.alloc (.cells #[strV x.1,.bool x.2] 103)).drew.heap.size:=Nat.lt_of_lt_of_le hbb hua.size;have hk2:∀w',Upd Nowhere (wr.alloc (.cells #[strV x.1,.bool x.2] 103)).drew w'→w'.cell? ⟨wr.heap.size,0,none⟩=some (strV x.1)∧w'.cell? ⟨wr.heap.size,1,none⟩=some (.bool x.2)∧w'.cell? ⟨bb,oo+j * 2,none⟩=some (strV y.1)∧w'.cell? ⟨bb,oo+j * 2+1,none⟩=some (.bool y.2):=fun w' hu'=>⟨(hu'.cell (p:=⟨wr.heap.size,0,none⟩) hbn.lt id).trans n0,(hu'.cell (p:=⟨wr.heap.size,1,none⟩) hbn.lt id).trans n1,(hu'.cell (p:=⟨bb,oo+j * 2,none⟩) hbl5 id).trans b0,(hu'.cell (p:=⟨bb,oo+j * 2+1,none⟩) hbl5 id).trans b1⟩
       have hk3:∀w2,Upd Nowhere (wr.alloc (.cells #[strV x.1,.bool x.2] 103)).drew w2→∀w',Upd Nowhere w2 w'→w'.cell? ⟨wr.heap.size,0,none⟩=some (strV x.1)∧w'.cell? ⟨wr.heap.size,1,none⟩=some (.bool x.2)∧w'.cell? ⟨bb,oo+j * 2,none⟩=some (strV y.1)∧w'.cell? ⟨bb,oo+j * 2+1,none⟩=some (.bool y.2):=fun w2 hu2 w' hu'=>hk2 w' (hu2.same hu')
       have HGY:Hid (∀w',Upd Nowhere (wr.alloc (.cells #[strV x.1,.bool x.2] 103)) w'→(Instr.loadAt 103 (.pointer (some ⟨bb,oo+j * 2,none⟩))).run Tryz.prog w'= .ok (.agg #[strV y.1,.bool y.2]) w'):=qh fun w' h'=>run_loadAt_mid _ _ _ _ [strV y.1,.bool y.2] _ (fun i v hv=>by
        have hi:i<2:=(qei.1 hv).1;have e:=(h'.cell (p:=⟨bb,oo+j * 2+i,none⟩) (Nat.lt_of_lt_of_le hbb hua0.size) id).trans ((hua0.cell (p:=⟨bb,oo+j * 2+i,none⟩) hbb id).trans (hq' i hi));rw[e];exact hv) Tryz.underlying103 rfl (by kernel_rfl)
       have HYX:Hid (∀w',Upd Nowhere (wr.alloc (.cells #[strV x.1,.bool x.2] 103)) w'→Calls Tryz.prog 155 #[elemL y,elemL x] w' fun e w''=>e= .returned (.bool (less y x))∧Upd Nowhere (wr.alloc (.cells #[strV x.1,.bool x.2] 103)) w''):=qh fun w' h'=>(HLESS.out y (qmg hy) x HXM.out w' ((hu.same hua0).same h')).mono fun e w'' h''=>⟨h''.1,h'.same h''.2⟩
       have HK2:=qh hk2;have HK3:=qh hk3;have hpv:prevO L (j+1)=some y:=by unfold prevO;simpa using hy
       have HPV:=qh hpv;have HYM:=qh (qmg hy);have hw1:IntKind.i64.wrap (((j+1:Nat):Int) - 1)=(j:Int):=by rw[IntWalk.i64_in _ (by omega)];omega
       have hjI:(j:Int)<(N:Int):=by omega
       have hj0:(0:Int)<((j+1:Nat):Int):=by omega
       obtain⟨k,hkj⟩:∃k,j+1=k:=⟨_,rfl⟩;have HKJ:=qh hkj;have hkp:0<k:=by omega
       rw[hkj]at a0 a1 hkI hw1 hj0 HST HRR HKN HPV ⊢;clear hk hr hu hx hst he2 he3 hq hm1 hkN hxm hbb hb hua hua0 hk1 hbn hy hq' he2' he3' hpv hkj hk2 hk3
       cases hb3:less y x with
       | false=>
         have HL2:=HYX;rw[hb3]at HL2;unfold elemL at HL2;have HB3:=qh hb3;clear hb3;go_wp2_with fail
         refine wp_region_grown (w0:=(wr.alloc (.cells #[strV x.1,.bool x.2] 103))) (by kernel_rfl) (by kernel_rfl) (Upd.refl _ _) ?_
         go_big_quiet_want
         refine BigFrame.quiet_move (.tmp 2) rfl ?_;go_simp
         go_big_quiet_on
         go_big_quiet_want
         refine quiet_load 103 (.tmp 10) rfl rfl HGX.out ?_;go_simp
         go_big_quiet_on
         go_big_quiet_want
         refine quiet_call (f:=154) (args:=#[.agg #[strV x.1,.bool x.2]]) (v:= .bool true) (fun w' hw'=>by go_simp) (fun w' hw'=>HM1.out w' hw') ?_
         go_simp
         go_big_quiet_on
         go_big_quiet_want
         refine quiet_val (v:= .bool false) (fun w' hw'=>by go_simp) ?_
         go_simp
         go_big_quiet_on
         go_big_quiet_want
         refine BigFrame.quiet_move (.tmp 25) rfl ?_;go_simp
         go_big_quiet_on
         go_big_quiet_want
         refine BigFrame.quiet_move (.tmp 9) rfl ?_;go_simp
         go_big_quiet_on
         go_big_quiet_want
         refine quiet_val (v:= .bool true) (fun w' hw'=>by go_simp) ?_
         go_simp
         go_big_quiet_on
         go_big_quiet_want
         refine BigFrame.quiet_move (.tmp 28) rfl ?_;go_simp
         go_big_quiet_on
         go_big_quiet_want
         refine BigFrame.quiet_move (.tmp 3) rfl ?_;go_simp
         go_big_quiet_on
         go_big_quiet_want
         refine BigFrame.quiet_move (.tmp 0) rfl ?_;go_simp
         go_big_quiet_on
         go_big_quiet_want
         refine BigFrame.quiet_move (.tmp 9) rfl ?_;go_simp
         go_big_quiet_on
         go_big_quiet_want
         refine quiet_val (v:= .int .i64 (j:Int)) (fun w' hw'=>by go_simp) ?_
         go_simp
         go_big_quiet_on
         go_big_quiet_want
         refine quiet_val (v:= .pointer (some ⟨bb,oo+j * 2,none⟩)) (fun w' hw'=>by go_simp) ?_
         go_simp
         go_big_quiet_on
         go_big_quiet_want
         refine quiet_load 103 (.tmp 34) rfl rfl HGY.out ?_;go_simp
         go_big_quiet_on
         go_big_quiet_want
         refine quiet_load 103 (.tmp 10) rfl rfl HGX.out ?_;go_simp
         go_big_quiet_on
         go_big_quiet_want
         refine quiet_call (f:=155) (args:=#[.agg #[strV y.1,.bool y.2],.agg #[strV x.1,.bool x.2]]) (v:= .bool false) (fun w' hw'=>by go_simp) (fun w' hw'=>HL2.out w' hw') ?_
         go_simp
         go_big_quiet_on
         go_big_quiet_want
         refine quiet_val (v:= .bool true) (fun w' hw'=>by go_simp) ?_
         go_simp
         go_big_quiet_on
         go_big_quiet_want
         refine quiet_val (v:= .bool true) (fun w' hw'=>by go_simp) ?_
         go_simp
         go_big_quiet_on
         go_big_quiet_want
         refine quiet_val (v:= .bool true) (fun w' hw'=>by go_simp) ?_
         go_simp
         go_big_quiet_on
         refine wpQuiet_nil ?_;intro w9 hw9;have HU9:=qh (HUX.out.same hw9);clear hw9;go_wp2_with fail
         go_ret;refine⟨?_,HU9.out⟩;rw[HRR.out,HST.out,HB.out,HPV.out];simp only[HB3.out];rfl
       | true=>
         have HL2:=HYX;rw[hb3]at HL2;unfold elemL at HL2;have HB3:=qh hb3;clear hb3;go_wp2_with fail
         refine wp_region_grown (w0:=(wr.alloc (.cells #[strV x.1,.bool x.2] 103))) (by kernel_rfl) (by kernel_rfl) (Upd.refl _ _) ?_
         go_big_quiet_want
         refine BigFrame.quiet_move (.tmp 2) rfl ?_;go_simp
         go_big_quiet_on
         go_big_quiet_want
         refine quiet_load 103 (.tmp 10) rfl rfl HGX.out ?_;go_simp
         go_big_quiet_on
         go_big_quiet_want
         refine quiet_call (f:=154) (args:=#[.agg #[strV x.1,.bool x.2]]) (v:= .bool true) (fun w' hw'=>by go_simp) (fun w' hw'=>HM1.out w' hw') ?_
         go_simp
         go_big_quiet_on
         go_big_quiet_want
         refine quiet_val (v:= .bool false) (fun w' hw'=>by go_simp) ?_
         go_simp
         go_big_quiet_on
         go_big_quiet_want
         refine BigFrame.quiet_move (.tmp 25) rfl ?_;go_simp
         go_big_quiet_on
         go_big_quiet_want
         refine BigFrame.quiet_move (.tmp 9) rfl ?_;go_simp
         go_big_quiet_on
         go_big_quiet_want
         refine quiet_val (v:= .bool true) (fun w' hw'=>by go_simp) ?_
         go_simp
         go_big_quiet_on
         go_big_quiet_want
         refine BigFrame.quiet_move (.tmp 28) rfl ?_;go_simp
         go_big_quiet_on
         go_big_quiet_want
         refine BigFrame.quiet_move (.tmp 3) rfl ?_;go_simp
         go_big_quiet_on
         go_big_quiet_want
         refine BigFrame.quiet_move (.tmp 0) rfl ?_;go_simp
         go_big_quiet_on
         go_big_quiet_want
         refine BigFrame.quiet_move (.tmp 9) rfl ?_;go_simp
         go_big_quiet_on
         go_big_quiet_want
         refine quiet_val (v:= .int .i64 (j:Int)) (fun w' hw'=>by go_simp) ?_
         go_simp
         go_big_quiet_on
         go_big_quiet_want
         refine quiet_val (v:= .pointer (some ⟨bb,oo+j * 2,none⟩)) (fun w' hw'=>by go_simp) ?_
         go_simp
         go_big_quiet_on
         go_big_quiet_want
         refine quiet_load 103 (.tmp 34) rfl rfl HGY.out ?_;go_simp
         go_big_quiet_on
         go_big_quiet_want
         refine quiet_load 103 (.tmp 10) rfl rfl HGX.out ?_;go_simp
         go_big_quiet_on
         go_big_quiet_want
         refine quiet_call (f:=155) (args:=#[.agg #[strV y.1,.bool y.2],.agg #[strV x.1,.bool x.2]]) (v:= .bool true) (fun w' hw'=>by go_simp) (fun w' hw'=>HL2.out w' hw') ?_
         go_simp
         go_big_quiet_on
         go_big_quiet_want
         refine quiet_val (v:= .bool false) (fun w' hw'=>by go_simp) ?_
         go_simp
         go_big_quiet_on
         go_big_quiet_want
         refine quiet_val (v:= .bool false) (fun w' hw'=>by go_simp) ?_
         go_simp
         go_big_quiet_on
         go_big_quiet_want
         refine quiet_val (v:= .bool false) (fun w' hw'=>by go_simp) ?_
         go_simp
         go_big_quiet_on
         refine wpQuiet_nil ?_;intro w9 hw9;have HU9:=qh (HUX.out.same hw9);clear hw9;go_wp2_with fail
         go_roundw
         case rel=>exact⟨k+1,by go_num,HKN.out,by rw[HRR.out,HST.out,HB.out,HPV.out];simp[HB3.out],HU9.out⟩
         case measure=>
          have:=HKN.out;simp only[intOf];omega
   ·obtain rfl:k=N:=by omega
    have HU:=qh hu;have HRR:=qh hr;clear hu hr hk;go_wp2_with fail
    go_ret;refine⟨?_,HU.out⟩;rw[HRR.out,List.drop_eq_nil_of_le (by rw[HNN.out];exact qlr _)]
    rfl
 ·have hR:risingP most may less L=false:=by unfold risingP;simp[hlm]
  rw[hR];have hlI:(most:Int)<((N:Nat):Int):=by omega
  rw[hN]at hnI ⊢;clear hE hmay hless hn hm hcc hN hlm hR;go_enter Tryz.func153,Tryz.ntmps153
  go_wp2_with fail
  go_ret;exact⟨rfl,Upd.refl _ _⟩
theorem reckey_ok2(s:Bs)(w:World):Calls Tryz.prog 104 #[strV s] w (BoolP (keyP s) w):=by
 by_cases h0:s=[]
 ·subst h0;go_enter Tryz.func104,Tryz.ntmps104
  go_wp2_with fail
  go_ret;exact⟨by simp[keyP],Upd.refl _ _⟩
 ·have hb:(s == [])=false:=by
   rw[beq_eq_false_iff_ne];exact h0
  by_cases h1:s.length≤16
  ·have h2:((s.length:Nat):Int)≤16:=by omega
   go_enter Tryz.func104,Tryz.ntmps104
   go_wp2_with fail
   go_ret;exact⟨by simp[keyP,h0,h1],Upd.refl _ _⟩
  ·have h2:(16:Int)<((s.length:Nat):Int):=by omega
   go_enter Tryz.func104,Tryz.ntmps104
   go_wp2_with fail
   go_ret;exact⟨by simp[keyP,h0,h1,h2],Upd.refl _ _⟩
theorem recvalue_ok2(h:Bool)(d:Bs)(w:World):Calls Tryz.prog 105 #[.agg #[.bool h,strV d]] w (BoolP (valueP h d) w):=by
 have hu:=(Upd.refl Nowhere w).alloc (.cells #[.bool h,strV d] 31);have HU:=qh hu;clear hu;by_cases h1:d.length≤32
 ·have h2:((d.length:Nat):Int)≤32:=by omega
  cases h with
  | true=>
    go_enter Tryz.func105,Tryz.ntmps105
    go_wp2_with fail
    go_ret;exact⟨by simp[valueP,h1],HU.out⟩
  | false=>
    by_cases h0:d=[]
    ·subst h0;go_enter Tryz.func105,Tryz.ntmps105
     go_wp2_with fail
     go_ret;exact⟨by simp[valueP],HU.out⟩
    ·have hb:(d == [])=false:=by
      rw[beq_eq_false_iff_ne];exact h0
     go_enter Tryz.func105,Tryz.ntmps105
     go_wp2_with fail
     go_ret;exact⟨by simp[valueP,h0,h1],HU.out⟩
 ·have h2:(32:Int)<((d.length:Nat):Int):=by omega
  go_enter Tryz.func105,Tryz.ntmps105
  go_wp2_with fail
  go_ret;exact⟨by simp[valueP,h1],HU.out⟩
theorem lockmay_ok(x:LockP)(w:World):Calls Tryz.prog 154 #[elemL x] w (BoolP (lockMay x) w):=by
 unfold elemL;have hc:=reckey_ok2 x.1 (w.alloc (.cells #[strV x.1,.bool x.2] 103));have HC:=qh hc;have HU:=qh ((Upd.refl Nowhere w).alloc (.cells #[strV x.1,.bool x.2] 103));clear hc;go_enter Tryz.func154,Tryz.ntmps154
 go_wp2_with fail
 refine HC.out.mono ?_;rintro e w2 ⟨rfl,hU2⟩;have HU2:=qh (HU.out.same hU2);clear hU2;go_wp2_with fail
 go_ret;exact⟨rfl,HU2.out⟩
theorem lockless_ok(x y:LockP)(w:World):Calls Tryz.prog 155 #[elemL x,elemL y] w (BoolP (lockLess x y) w):=by
 have HU:=qh (((Upd.refl Nowhere w).alloc (.cells #[strV x.1,.bool x.2] 103)).alloc (.cells #[strV y.1,.bool y.2] 103));unfold elemL
 cases hb:Op.bytesLess x.1 y.1<;>
  (go_enter Tryz.func155,Tryz.ntmps155
   go_wp2_with fail
   go_ret;exact⟨by simp[lockLess,lessP,hb],HU.out⟩)
theorem reclocks_ok{w:World}{v:Value}{L:List LockP}(hE:Els 2 lockC w v L)(hn:L.length≤90000):Calls Tryz.prog 109 #[v] w (BoolP (locksP L) w):=by
 have hc:=risingL_ok hE hn 64 (by omega) lockMay lockLess (fun x _ w' _=>lockmay_ok x w') (fun x _ y _ w' _=>lockless_ok x y w')
 have HC:=qh hc;have HU:=qh (Upd.refl Nowhere w);clear hc;go_enter Tryz.func109,Tryz.ntmps109
 go_wp2_with fail
 refine HC.out.mono ?_;rintro e w2 ⟨rfl,hU2⟩;have HU2:=qh (HU.out.same hU2);clear hU2;go_wp2_with fail
 go_ret;exact⟨rfl,HU2.out⟩
end Go.Proofs.YtljmmkjdlcfkpaaGreatDoor
