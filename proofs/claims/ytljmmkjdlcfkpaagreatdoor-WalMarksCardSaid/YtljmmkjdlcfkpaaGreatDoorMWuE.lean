/-
  trothlaw09.firsts: a log's records are the first ones of a list.
-/
import Derived.Test.YtljmmkjdlcfkpaaGreatDoorMWsE
set_option maxRecDepth 100000
set_option maxHeartbeats 8000000
namespace Go.Proofs.YtljmmkjdlcfkpaaGreatDoor
open Go Go.RowKit
structure RcW where
 p:RecP
 s:Sls
def RcW.cells(r:RcW):List Value:=(r.p.rv r.s).cells
def RcW.old(w:World)(r:RcW):Prop:=RecE w r.p r.s
theorem RcW.len(r:RcW):r.cells.length=16:=rfl
theorem rkRec:RowK Tryz.prog 51 38 RcW.cells 16:=⟨Tryz.underlying51,⟨.agg #[.int .i64 0,.int .i64 0,.int .i64 0,.int .i64 0,.string ⟨#[]⟩,.bool false,.string ⟨#[]⟩,.bool false,.string ⟨#[]⟩,.int .i64 0,.slice none 0 0,.slice none 0 0,.slice none 0 0,.slice none 0 0,.slice none 0 0,.slice none 0 0],248,by kernel_rfl,rfl,by omega⟩,fun _=>rfl,fun a u hu=>(a.p.rv a.s).cells_one u hu,by omega⟩
theorem firsts_ok{bz:Nat}{w:World}{l k:Nat}{p:DkP}{S:LogS}(h:LogAt bz w l p S)(hB:LogB k S)(hk:k≤80)(hd:S.down=false){all:List RcW}{A:Option Addr}{n c:Nat}(hA:Els 16 RcW.cells w (.slice A n c) all)(hn:all.length=n)(hnb:n≤100000)(hold:∀r∈all,r.old w)(hmild:∀r∈all,r.p.mild){first forced:Int}(hf1:first=S.m.lsn)(hf2:forced≤S.m.lsn+(S.items.length:Nat) - 1)(hla:S.m.lsn+(S.items.length:Nat) - 1≤(n:Nat))
 (hrec:∀(i:Nat) (b:Bs) (q:Nat),S.items[i]? =some (b,q)→∃(a:Nat) (r:RcW),S.m.lsn+(i:Nat) - 1=(a:Nat)∧all[a]? =some r∧DecTo b r.p):
 Calls Tryz.prog 29 #[.pointer (some ⟨l,0,none⟩),.slice A n c,.int .i64 first,.int .i64 forced] w fun e w'=>e= .returned (.bool true)∧Upd Nowhere w w':=by
 have hfi:=wfirst_ok h hd;have hls:∀w',Upd Nowhere w w'→_:=fun w' hu=>wlast_ok (h.up hu) hB hk hd
 have hlb:=hB.lsn;have hlen:=hB.len;subst hf1;obtain⟨lsn,hlsn⟩:=Int.eq_ofNat_of_zero_le (show 0≤S.m.lsn by omega)
 obtain⟨M,hM⟩:∃M,S.items.length=M:=⟨_,rfl⟩;rw[hlsn,hM]at hls hf2 hla;rw[hlsn]at hfi ⊢;obtain⟨la,hlaq⟩:∃la:Int,(lsn:Int)+(M:Int) - 1=la:=⟨_,rfl⟩;rw[hlaq]at hls hf2 hla;have g1:(lsn:Int)≤100000:=by omega
 have g2:1≤(lsn:Int):=by omega
 have g3:(n:Int)≤100000:=by omega
 have g4:¬la<forced:=by omega
 have g5:¬(n:Int)<la:=by omega
 have HFI:=qh hfi;have HLS:=qh hls;have HH:=qh h;have HB:=qh hB;have HA:=qh hA;have HN:=qh hn;have HOLD:=qh hold;have HMILD:=qh hmild;have HREC:=qh hrec;have HLSN:=qh hlsn;have HM:=qh hM;have HLA:=qh hlaq;have HMB:Hid (M≤100000):=qh (by omega)
 clear hfi hls h hB hA hn hold hmild hrec hlsn hM hlaq hlb hlen hf2 hla hnb;go_enter Tryz.func29,Tryz.ntmps29
 go_wp2_with fail
 refine HFI.out.mono ?_;rintro e w1 ⟨rfl,hU1⟩;have HC:=qh (HLS.out w1 hU1);have HU1:=qh hU1;clear hU1 HFI;go_wp2_with fail
 refine HC.out.mono ?_;rintro e w2 ⟨rfl,hU2⟩;have HU2:=qh (HU1.out.same hU2);have HC:=qh (HLS.out w2 HU2.out);clear hU2 HU1;go_wp2_with fail
 refine HC.out.mono ?_;rintro e w3 ⟨rfl,hU3⟩;have HU3:=qh (HU2.out.same hU3);clear hU3 HU2 HC;go_wp2_with fail
 go_loopw [9] (fun s9 wr=>∃j:Nat,s9= .int .i64 ((lsn:Int)+(j:Int))∧j≤M∧Upd Nowhere w wr) (fun s9 _=>M - (intOf s9 - (lsn:Int)).toNat)
 case atStart=>exact⟨0,by simp,Nat.zero_le _,HU3.out⟩
 case round=>
  obtain⟨j,rfl,hj,hU⟩:=hrel;have HC:=qh (HLS.out wr hU);have HU:=qh hU;have HJ:=qh hj;clear hU hj;go_wp2_with fail
  refine HC.out.mono ?_;rintro e w4 ⟨rfl,hU4⟩;have HU4:=qh (HU.out.same hU4);clear hU4 HU HC;by_cases hjM:j<M
  ·have hle:(lsn:Int)+(j:Int)≤la:=by have:=HLA.out;omega
   obtain⟨x,hx⟩:∃x,S.items[j]? =some x:=⟨_,qeg (by rw[HM.out];exact hjM)⟩
   obtain⟨b,q⟩:=x;obtain⟨a,r,ha,hr,hdt⟩:=HREC.out j b q hx;rw[HLSN.out]at ha;have hget:=wget_ok (HH.out.up HU4.out) HB.out hk hd hx hdt (lsn:=(lsn:Int)+(j:Int)) (by rw[HLSN.out])
   have HGT:=qh hget;have HR:=qh hr;have HAQ:=qh ha;have HJM:=qh hjM;clear hget hx hr ha hjM hdt;go_wp2_with fail
   refine HGT.out.mono ?_;rintro e w5 ⟨t,rfl,hN5,hU5⟩;obtain⟨d,hde⟩:∃d:List Value,(r.p.rv t).cells=d:=⟨_,rfl⟩;have HDS:=qh hde;have HONE:Hid (∀v∈d,v.oneCell'=true):=qh (by rw[←hde];exact(r.p.rv t).cells_one)
   have hl16:d.length=16:=by rw[←hde];rfl
   have HIS:Hid ((Tryz.prog.info? 38).map (·.size)=some d.length):=qh (by rw[hl16];exact rec_size)
   have hz16:zeroA.size=d.length:=by rw[hl16];rfl
   unfold zeroA at hz16;have HZS:=qh hz16;rw[hde];have HN5:=qh hN5;have HU5:=qh hU5;clear hde hl16 hz16 hN5 hU5 HGT;go_upto_region 7 with(first | (refine wpList_store_new rfl 38 _ _ rfl rfl rfl HIS.out HZS.out HONE.out ?_))
   have hB7:Blk (w5.alloc (.cells d.toArray 38)) w5.heap.size 38 d.toArray:=Blk.new w5 _ _;have hU57:Upd Nowhere w5 (w5.alloc (.cells d.toArray 38)):=(Upd.refl _ w5).alloc _;generalize w5.alloc (.cells d.toArray 38)=w7 at*;generalize w5.heap.size=g7 at*;have hU7:Upd Nowhere w w7:=HU4.out.same (HU5.out.same hU57);have HGX:Hid (∀W,Upd Nowhere w7 W→(Instr.loadAt 38 (.pointer (some ⟨g7,0,none⟩))).run Tryz.prog W= .ok (.agg d.toArray) W):=qh fun W hW=>run_loadAt_mid _ _ _ _ _ _ (hB7.upd hW id).rng Tryz.underlying38 rfl HIS.out
   have hal:=HA.out;obtain⟨g,off,c',hsl,hg,_⟩:=hal.get RcW.len HR.out;injection hsl with hsl1 hsl2 hsl3
   subst hsl1;obtain⟨y,hy⟩:∃y:List Value,r.cells=y:=⟨_,rfl⟩;have HISy:Hid ((Tryz.prog.info? 38).map (·.size)=some y.length):=qh (by rw[←hy,RcW.len];exact rec_size)
   have HGY:Hid (∀W,Upd Nowhere w7 W→(Instr.loadAt 38 (.pointer (some ⟨g,off+a * 16,none⟩))).run Tryz.prog W= .ok (.agg y.toArray) W):=qh fun W hW=>by
    have hr:=(hal.upd (hU7.same hW) fun _ _=>id).range RcW.len HR.out
    rw[hy]at hr;exact run_loadAt_mid _ _ _ _ _ _ hr Tryz.underlying38 rfl HISy.out
   have HSE:Hid (∀W,Upd Nowhere w7 W→Calls Tryz.prog 19 #[.agg d.toArray,.agg y.toArray] W fun e w''=>e= .returned (.bool true)∧Upd Nowhere w7 w''):=qh fun W hW=>by
    have hrm:=qmg HR.out;have hs:=same_eq ((HN5.out.upd (hU57.same hW) fun _ _ _=>id).recE) ((HOLD.out r hrm).up (hU7.same hW)) (HMILD.out r hrm)
    rw[HDS.out]at hs;rw[show(r.p.rv r.s).cells=y from hy]at hs;exact hs.mono fun e w' hh=>⟨hh.1,hW.same hh.2⟩
   have hidx:IntKind.i64.wrap ((lsn:Int)+(j:Int) - 1)=(a:Int):=by
    have:=HMB.out;have:=HJM.out;rw[IntWalk.i64_in _ (by omega)]
    exact HAQ.out
   have han:a<n:=by
    have:=(qei.1 HR.out).1;rw[HN.out]at this;exact this
   have hanI:(a:Int)<(n:Int):=by omega
   have HU7:=qh hU7;clear hB7 hU57 hal hsl2 hsl3 hy hU7 han;refine wp_region_grown (w0:=w7) (by kernel_rfl) (by kernel_rfl) (Upd.refl _ _) ?_
   go_big_quiet_want
   refine BigFrame.quiet_move (.tmp 11) rfl ?_;go_simp
   go_big_quiet_on
   go_big_quiet_want
   refine quiet_val (v:= .bool false) (fun w' hw'=>by go_simp) ?_
   go_simp
   go_big_quiet_on
   go_big_quiet_want
   refine BigFrame.quiet_move (.tmp 43) rfl ?_;go_simp
   go_big_quiet_on
   go_big_quiet_want
   refine quiet_load 38 (.tmp 10) rfl rfl HGX.out ?_;go_simp
   go_big_quiet_on
   go_big_quiet_want
   refine BigFrame.quiet_move (.tmp 1) rfl ?_;go_simp
   go_big_quiet_on
   go_big_quiet_want
   refine BigFrame.quiet_move (.tmp 9) rfl ?_;go_simp
   go_big_quiet_on
   go_big_quiet_want
   refine quiet_val (v:= .int .i64 (a:Int)) (fun w' hw'=>by go_simp) ?_
   go_simp
   go_big_quiet_on
   go_big_quiet_want
   refine quiet_val (v:= .pointer (some ⟨g,off+a * 16,none⟩)) (fun w' hw'=>by go_simp) ?_
   go_simp
   go_big_quiet_on
   go_big_quiet_want
   refine quiet_load 38 (.tmp 49) rfl rfl HGY.out ?_;go_simp
   go_big_quiet_on
   go_big_quiet_want
   refine quiet_call (f:=19) (args:=#[.agg d.toArray,.agg y.toArray]) (v:= .bool true) (fun w' hw'=>by go_simp) HSE.out ?_
   go_simp
   go_big_quiet_on
   go_big_quiet_want
   refine quiet_val (v:= .bool false) (fun w' hw'=>by go_simp) ?_
   go_simp
   go_big_quiet_on
   go_big_quiet_want
   refine quiet_val (v:= .bool false) (fun w' hw'=>by go_simp) ?_
   go_simp
   go_big_quiet_on
   refine wpQuiet_nil ?_;intro w9 hw9;have HU9:=qh (HU7.out.same hw9);clear hw9;go_wp2_with fail
   have hjm:=HJM.out;refine⟨⟨j+1,?_,hjm,HU9.out⟩,?_⟩
   ·rw[show(lsn:Int)+((j+1:Nat):Int)=(lsn:Int)+(j:Int)+1 by omega]
   ·simp only[intOf];omega
  ·have hje:j=M:=by have:=HJ.out;omega
   subst hje;have hle:¬(lsn:Int)+(j:Int)≤la:=by have:=HLA.out;omega
   go_wp2_with fail
   go_ret;exact⟨rfl,HU4.out⟩
end Go.Proofs.YtljmmkjdlcfkpaaGreatDoor
