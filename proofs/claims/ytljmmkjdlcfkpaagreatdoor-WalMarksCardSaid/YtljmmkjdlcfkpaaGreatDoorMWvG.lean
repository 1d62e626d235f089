/-
  WalMarks: the law, walked for records in memory.
-/
import Derived.Test.YtljmmkjdlcfkpaaGreatDoorMWuE
import Derived.Test.YtljmmkjdlcfkpaaGreatDoorMWuD
import Derived.Test.YtljmmkjdlcfkpaaGreatDoorMWuB
import Derived.Test.YtljmmkjdlcfkpaaGreatDoorMWvC
set_option maxRecDepth 100000
set_option maxHeartbeats 8000000
namespace Go.Proofs.YtljmmkjdlcfkpaaGreatDoor
open Go Go.RowKit
theorem wpList_row1_run{P:Program}{ops:Array Oper}{rest:List Oper}{o:Oper}{a:Act}{Q:Exit→Act→World→Prop}(hg:o.guard=none)(ty:TypeId)(x:Operand)(ho:o.op= .buildSlice ty 1 #[(0,x)]){v0 v:Value}{w w':World}(hx:a.eval x=v0)(hrun:(Instr.buildSlice ty 1 #[(0,v0)]).run P w= .ok v w')(h:wpList P ops Q rest (a.put o.dst v) w'):wpList P ops Q (o::rest) a w:=by
 refine wpList_plain hg fun K hK=> ?_
 unfold Oper.wp execOp;simp only[ho,List.map_toArray,List.map_cons,List.map_nil,hx,Sem.run_bind,Sem.run_pure,hrun,Result.andThen_ok];exact hK _ _ h
theorem build_rec1(x:RecP)(s:Sls)(w:World):(Instr.buildSlice 51 1 #[(0,.agg (x.rv s).cells.toArray)]).run Tryz.prog w= .ok (.slice (some ⟨w.heap.size,0,none⟩) 1 1) (w.alloc (.cells (x.rv s).cells.toArray 38)):=by
 kernel_rfl
structure MLp(w:World)(l:Nat)(p:DkP)(L:List RcW)(count i:Nat)(S:LogS)(X:List RcW)(A:Option Addr)(c n:Nat)(wr:World):Prop where
 ex:∃(p':DkP) (Z:List SheetS) (F:List (Bs×Nat)),LogAt w.heap.size wr l p' S∧p'.d=p.d∧MkI count i S Z F
 hx:Holds S (X.map (·.p))
 own:OwnR 38 RcW.cells 16 w.heap.size wr (.slice A n c) X
 len:X.length=n
 sub:∀r∈X,r∈L∧r.p.tame
 upd:Upd Nowhere w wr
theorem MLp.le{w:World}{l:Nat}{p:DkP}{L:List RcW}{count i:Nat}{S:LogS}{X:List RcW}{A:Option Addr}{c n:Nat}{wr:World}(h:MLp w l p L count i S X A c n wr):n≤i:=by
 obtain⟨_,_,_,_,_,hm⟩:=h.ex;have:=hm.len;have:=h.hx.1;rw[qlm,h.len]at this;omega
theorem walMarks_in(count:Nat)(h1:8≤count)(h2:count≤40){L:List RcW}{A0:Option Addr}{N c0:Nat}{w:World}(hL:Els 16 RcW.cells w (.slice A0 N c0) L)(hN:L.length=N)(hNb:N≤60)(hold:∀r∈L,r.old w)(every keep:Int)(hev:1≤every)(hW:HalfW w)(hw0:0<w.heap.size):
 Calls Tryz.prog 6 #[.int .i64 (count:Int),.slice A0 N c0,.int .i64 every,.int .i64 keep] w fun e w'=>e= .returned (.bool true)∧Below w.heap.size w w':=by
 have hmd:=made_ok (bz:=w.heap.size) w count (by omega) (by omega) hW hw0 (qlr _)
 have g1:¬(count:Int)<8:=by omega
 have g2:¬(40:Int)<(count:Int):=by omega
 have g3:¬(60:Int)<(N:Int):=by omega
 have g4:¬every<1:=by omega
 have g5:(N:Int)≤60:=by omega
 have HMD:=qh hmd;have HL:=qh hL;have HN:=qh hN;have HOLD:=qh hold;have HW:=qh hW;have HW0:=qh hw0;have H1:=qh h1;have H2:=qh h2;clear hmd hL hN hold hW hw0 h1 h2;go_enter Tryz.func6,Tryz.ntmps6
 go_wp2_with fail
 refine HMD.out.mono ?_;rintro e w1 ⟨l,p,rfl,hL1,hU1,hf1,hl1⟩;have HM1:Hid (MLp w l p L count 0 (log0 count) [] none 0 0 w1):=qh ⟨⟨p,[],[],hL1,rfl,MkI.start count⟩,Holds.nil rfl,OwnR.nil _ _ _ _ _,rfl,(fun r hr=>by cases hr),hU1⟩
 clear hL1 hU1 hf1 hl1 HMD g1 g2 g3 g4;go_wp2_with fail
 go_loopw [11,12] (fun s11 s12 wr=>∃(i:Nat) (S:LogS) (X:List RcW) (A:Option Addr) (c n:Nat),s12= .int .i64 (i:Int)∧i≤N∧s11= .slice A n c∧MLp w l p L count (2 * i) S X A c n wr) (fun _ s12 _=>N - (intOf s12).toNat)
 case atStart=>exact⟨0,log0 count,[],none,0,0,rfl,Nat.zero_le _,rfl,HM1.out⟩
 case round=>
  obtain⟨i,S,X,A,c,n,rfl,hi,rfl,hM⟩:=hrel;by_cases hiN:i<N
  ·have hiI:(i:Int)<(N:Int):=by omega
   have hiI2:(i:Int)≤60:=by omega
   obtain⟨r,hr⟩:∃r,L[i]? =some r:=⟨_,qeg (by rw[HN.out];exact hiN)⟩
   obtain⟨g,off,cc,hsl,hg,_⟩:=HL.out.get RcW.len hr;injection hsl with hsl1 hsl2 hsl3
   subst hsl1;have hrg:=(HL.out.upd hM.upd fun _ _=>id).range RcW.len hr
   obtain⟨y,hy⟩:∃y:List Value,(r.p.rv r.s).cells=y:=⟨_,rfl⟩;have HY:=qh hy;rw[show r.cells=y from hy]at hrg;have hl16:y.length=16:=by rw[←hy];rfl
   have HIS:Hid ((Tryz.prog.info? 38).map (·.size)=some y.length):=qh (by rw[hl16];exact rec_size)
   have hgr:=great_ok r.p r.s wr ((HOLD.out r (qmg hr)).up hM.upd);rw[hy]at hgr;have HGR:=qh hgr;have HRG:=qh hrg;have HM:=qh hM;have HR:=qh hr;have HIN:=qh hiN;clear hgr hrg hM hr hiN hy hl16 hsl2 hsl3 HM1 hi;go_wp2_with (first | (refine wpList_load_mid rfl 38 _ rfl g (off+i * 16) rfl y _ HRG.out Tryz.underlying38 rfl HIS.out ?_))
   refine HGR.out.mono ?_;rintro e w2 ⟨b,rfl,hb,hU2⟩;have HU2:=qh hU2;have HB:=qh hb;clear hU2 hb HGR HRG
   cases b with
   | true=>
     have hUw:=HM.out.upd.same HU2.out;have hA:=awake_walk (w:=w2) (HW.out.upd hUw id) (by have:=HW0.out;have:=hUw.size;omega)
     have HA:=qh hA;have HUW:=qh hUw;clear hA hUw;go_wp2_with fail
     refine HA.out.mono ?_;rintro e w3 ⟨rfl,hU3⟩;have HU3:=qh (HUW.out.same hU3);clear hU3 HA;go_wp2_with fail
     go_ret;exact⟨rfl,HU3.out.toBelow fun _ _=>id⟩
   | false=>
     have htm:=HB.out rfl;have hUw:=HM.out.upd.same HU2.out;have hrg:=(HL.out.upd hUw fun _ _=>id).range RcW.len HR.out
     rw[show r.cells=y from HY.out]at hrg;have hcp:=copy_ok r.p r.s w2 ((HOLD.out r (qmg HR.out)).up hUw) htm;rw[HY.out]at hcp;have HCP:=qh hcp;have HRG:=qh hrg;have HTM:=qh htm;clear hcp hrg htm hUw HB;go_wp2_with (first | (refine wpList_load_mid rfl 38 _ rfl g (off+i * 16) rfl y _ HRG.out Tryz.underlying38 rfl HIS.out ?_))
     refine HCP.out.mono ?_;rintro e w3 ⟨t,rfl,hN3,hU3⟩;obtain⟨d,hd⟩:∃d:List Value,(r.p.rv t).cells=d:=⟨_,rfl⟩;obtain⟨p3,Z3,F3,hlg,hpd,hmk⟩:=HM.out.ex;have hB:=hmk.logB H1.out H2.out (by omega)
     have hU23:=HU2.out.same hU3;have happ:=append_ok (hlg.up hU23) hB (by omega) hmk.dwn (HW.out.upd (HM.out.upd.same hU23) id) (enc_ok hN3.recE HTM.out.mild) (enc_len_le r.p) (fun h=>by rw[(enc_dec r.p h).1];exact(enc_dec r.p h).2.any) 0 (by omega)
     rw[hd]at happ;rw[hd];have HAP:=qh happ;have HU3:=qh hU23;have HPD3:=qh hpd;have HMK3:=qh hmk;clear hd hlg hpd hmk hB hU23 happ hN3 hU3 HCP HRG;go_wp2_with fail
     refine HAP.out.mono ?_;rintro e w5 ⟨hbad,hno,hyes,hU5⟩;have HBAD:=qh hbad;have HNO:=qh hno;have HYES:=qh hyes;have HU5:=qh (HU3.out.any.logs hU5);clear hbad hno hyes hU5 HAP;by_cases hx:r.p.enc.2=0
     ·cases hrm:S.roomy r.p.enc.1 0 with
      | true=>
        obtain⟨he,hL5⟩:=HYES.out hx hrm;subst he;have hdc:=enc_dec r.p hx;have hUw:Upd Nowhere w w5:=HM.out.upd.trans HU5.out fun k hk e=>by have:=e.1;omega
        have hown:=HM.out.own.logs (fun _ _=>rfl) HU5.out
        have hrg:=(HL.out.upd hUw fun _ _=>id).range RcW.len HR.out
        rw[show r.cells=y from HY.out]at hrg;have hbs:=build_rec1 r.p r.s;rw[HY.out]at hbs;have hnl:=HM.out.le;obtain⟨v9,w9,hr9,hO9,hg9,hn9⟩:=rkRec.app1 hown hUw.size 51 r y.toArray (by rw[show r.cells=y from HY.out]) (by rw[HM.out.len];omega)
        obtain⟨A9,c9,rfl,_⟩:=hO9.cap;have hl9:(X++[r]).length=n+1:=by rw[qla,HM.out.len];rfl
        rw[hl9]at hr9 hO9;have hu9:Upd (fun k=>(Value.slice A n c).ownBlock=some k) w5 w9:=(Upd.refl _ w5).grown hg9 fun k hk _=>hk
        have hL9:=hL5.upd hu9 (fun k hk e=>by
         obtain⟨cs,hcs⟩:=hown.is_cells hk;obtain⟨_,o,q1,q2⟩:=e;rw[hcs]at q1;injection q1 with q1
         subst q1;rw[show logTy (.cells cs 38 (0,0))=false from rfl]at q2
         cases q2) (fun k hk=>hown.notU8 (by decide) hk)
        have HM2:Hid (MLp w l p L count (2 * i+1) (S.add r.p.enc.1) (X++[r]) A9 c9 (n+1) w9):=qh ⟨⟨p3,Z3,F3,hL9,HPD3.out,HMK3.out.add hrm (enc_len_le r.p)⟩,by
         have:=HM.out.hx.add (show DecTo r.p.enc.1 r.p by rw[hdc.1];exact hdc.2)
         rw[List.map_append];exact this,hO9,hl9,fun q hq=>by
         rcases qma.1 hq with hq | hq
         ·exact HM.out.sub q hq
         ·rw[List.mem_singleton.1 hq];exact⟨qmg HR.out,HTM.out⟩,hUw.trans hu9 fun k hk e=>by have:=hown.new k e;omega⟩
        have HRG:=qh hrg;have HR9:=qh hr9;have HBS:=qh (hbs w5);clear hbs;clear hL5 hdc hUw hown hrg hr9 hO9 hg9 hn9 hl9 hu9 hL9 HBAD HNO HYES hnl HPD3 HMK3 hx hrm;generalize S.add r.p.enc.1=S2 at HM2;generalize X++[r]=X2 at HM2;obtain⟨n2,hn2⟩:∃n2,n+1=n2:=⟨_,rfl⟩;rw[hn2]at HM2 HR9;clear hn2;generalize S.m.lsn+(S.items.length:Int)=nn at*;go_upto_region 15 with(first | (refine wpList_load_mid rfl 38 _ rfl g (off+i * 16) rfl y _ HRG.out Tryz.underlying38 rfl HIS.out ?_) | (refine wpList_row1_run (v0:= .agg y.toArray) rfl _ _ rfl rfl HBS.out ?_) | (refine wpList_append_run rfl _ _ _ rfl rfl rfl HR9.out ?_))
        have hev0:(every == 0)=false:=beq_eq_false_iff_ne.2 (by omega)
        obtain⟨md,hmI⟩:∃md:Int,(i:Int) % every=md:=⟨_,rfl⟩;have htm:Int.tmod (i:Int) every=md:=by rw[Int.tmod_eq_emod_of_nonneg (by omega)];exact hmI
        have hmb1:0≤md:=by rw[←hmI];exact Int.emod_nonneg _ (by omega)
        have hmb2:md≤60:=by
         have h1:=Int.mul_ediv_add_emod (i:Int) every;have h2:0≤every * ((i:Int) / every):=Int.mul_nonneg (by omega) (Int.ediv_nonneg (by omega) (by omega))
         omega
        by_cases hmod:md=0
        ·subst hmod;obtain⟨p4,Z4,F4,hlg,hpd,hmk⟩:=HM2.out.ex;have hB:=hmk.logB H1.out H2.out (by omega)
         obtain⟨S3,Z3,F3,e3,mk3,ei,_⟩:=hmk.force H1.out H2.out (by omega)
         have hfc:=force_ok hlg hB (by omega) hmk.dwn (HW.out.upd HM2.out.upd id) (hB.sheets_good (by omega)) (by rw[hB.find_len,placesB_len]) hB.find_le
         rw[e3]at hfc;have HFC:=qh hfc;have HEI:=qh ei;have HMK3:=qh (mk3.more (show 2 * i+1+1≤2 * (i+1) by omega))
         have HPD:=qh hpd;clear hlg hpd hmk hB e3 mk3 ei hfc;go_wp2_with fail
         refine HFC.out.mono ?_;rintro e w6 ⟨p6,hp6,rfl,hL6,hU6⟩;have HM3:Hid (MLp w l p L count (2 * (i+1)) S3 X2 A9 c9 n2 w6):=qh ⟨⟨p6,Z3,F3,hL6,hp6.trans HPD.out,HMK3.out⟩,HM2.out.hx.same HEI.out,HM2.out.own.logs (fun _ _=>rfl) hU6,HM2.out.len,HM2.out.sub,HM2.out.upd.trans hU6 fun k hk e=>by have:=e.1;omega⟩
         clear hL6 hU6 HFC HM2;go_wp2_with fail
         go_roundw
         case rel=>exact⟨i+1,S3,X2,A9,c9,n2,by go_num,HIN.out,rfl,HM3.out⟩
         case measure=>
          have:=HIN.out;simp only[intOf];omega
        ·have hmd0:(md == 0)=false:=beq_eq_false_iff_ne.2 hmod
         have HM3:Hid (MLp w l p L count (2 * (i+1)) S2 X2 A9 c9 n2 w9):=qh (by
          obtain⟨p4,Z4,F4,hlg,hpd,hmk⟩:=HM2.out.ex;exact⟨⟨p4,Z4,F4,hlg,hpd,hmk.more (by omega)⟩,HM2.out.hx,HM2.out.own,HM2.out.len,HM2.out.sub,HM2.out.upd⟩)
         clear HM2;go_wp2_with fail
         go_roundw
         case rel=>exact⟨i+1,S2,X2,A9,c9,n2,by go_num,HIN.out,rfl,HM3.out⟩
         case measure=>
          have:=HIN.out;simp only[intOf];omega
      | false=>
        obtain⟨he,hL5⟩:=HNO.out hx hrm;subst he;clear hx hrm;have HM2:Hid (MLp w l p L count (2 * i+1) S X A c n w5):=qh ⟨⟨p3,Z3,F3,hL5,HPD3.out,HMK3.out.more (by omega)⟩,HM.out.hx,HM.out.own.logs (fun _ _=>rfl) HU5.out,HM.out.len,HM.out.sub,HM.out.upd.trans HU5.out fun k hk e=>by have:=e.1;omega⟩
        clear hL5 HBAD HNO HYES;have hev0:(every == 0)=false:=beq_eq_false_iff_ne.2 (by omega)
        obtain⟨md,hmI⟩:∃md:Int,(i:Int) % every=md:=⟨_,rfl⟩;have htm:Int.tmod (i:Int) every=md:=by rw[Int.tmod_eq_emod_of_nonneg (by omega)];exact hmI
        have hmb1:0≤md:=by rw[←hmI];exact Int.emod_nonneg _ (by omega)
        have hmb2:md≤60:=by
         have h1:=Int.mul_ediv_add_emod (i:Int) every;have h2:0≤every * ((i:Int) / every):=Int.mul_nonneg (by omega) (Int.ediv_nonneg (by omega) (by omega))
         omega
        by_cases hmod:md=0
        ·subst hmod;obtain⟨p4,Z4,F4,hlg,hpd,hmk⟩:=HM2.out.ex;have hB:=hmk.logB H1.out H2.out (by omega)
         obtain⟨S3,Z3,F3,e3,mk3,ei,_⟩:=hmk.force H1.out H2.out (by omega)
         have hfc:=force_ok hlg hB (by omega) hmk.dwn (HW.out.upd HM2.out.upd id) (hB.sheets_good (by omega)) (by rw[hB.find_len,placesB_len]) hB.find_le
         rw[e3]at hfc;have HFC:=qh hfc;have HEI:=qh ei;have HMK3:=qh (mk3.more (show 2 * i+1+1≤2 * (i+1) by omega))
         have HPD:=qh hpd;clear hlg hpd hmk hB e3 mk3 ei hfc;go_wp2_with fail
         refine HFC.out.mono ?_;rintro e w6 ⟨p6,hp6,rfl,hL6,hU6⟩;have HM3:Hid (MLp w l p L count (2 * (i+1)) S3 X A c n w6):=qh ⟨⟨p6,Z3,F3,hL6,hp6.trans HPD.out,HMK3.out⟩,HM2.out.hx.same HEI.out,HM2.out.own.logs (fun _ _=>rfl) hU6,HM2.out.len,HM2.out.sub,HM2.out.upd.trans hU6 fun k hk e=>by have:=e.1;omega⟩
         clear hL6 hU6 HFC HM2;go_wp2_with fail
         go_roundw
         case rel=>exact⟨i+1,S3,X,A,c,n,by go_num,HIN.out,rfl,HM3.out⟩
         case measure=>
          have:=HIN.out;simp only[intOf];omega
        ·have hmd0:(md == 0)=false:=beq_eq_false_iff_ne.2 hmod
         have HM3:Hid (MLp w l p L count (2 * (i+1)) S X A c n w5):=qh (by
          obtain⟨p4,Z4,F4,hlg,hpd,hmk⟩:=HM2.out.ex;exact⟨⟨p4,Z4,F4,hlg,hpd,hmk.more (by omega)⟩,HM2.out.hx,HM2.out.own,HM2.out.len,HM2.out.sub,HM2.out.upd⟩)
         clear HM2;go_wp2_with fail
         go_roundw
         case rel=>exact⟨i+1,S,X,A,c,n,by go_num,HIN.out,rfl,HM3.out⟩
         case measure=>
          have:=HIN.out;simp only[intOf];omega
     ·obtain⟨he,hL5⟩:=HBAD.out hx;generalize r.p.enc.2=ec at he hx;subst he;have hx1:(ec == 0)=false:=beq_eq_false_iff_ne.2 hx;have HM2:Hid (MLp w l p L count (2 * i+1) S X A c n w5):=qh ⟨⟨p3,Z3,F3,hL5,HPD3.out,HMK3.out.more (by omega)⟩,HM.out.hx,HM.out.own.logs (fun _ _=>rfl) HU5.out,HM.out.len,HM.out.sub,HM.out.upd.trans HU5.out fun k hk e=>by have:=e.1;omega⟩
      clear hL5 HBAD HNO HYES;have hev0:(every == 0)=false:=beq_eq_false_iff_ne.2 (by omega)
      obtain⟨md,hmI⟩:∃md:Int,(i:Int) % every=md:=⟨_,rfl⟩;have htm:Int.tmod (i:Int) every=md:=by rw[Int.tmod_eq_emod_of_nonneg (by omega)];exact hmI
      have hmb1:0≤md:=by rw[←hmI];exact Int.emod_nonneg _ (by omega)
      have hmb2:md≤60:=by
       have h1:=Int.mul_ediv_add_emod (i:Int) every;have h2:0≤every * ((i:Int) / every):=Int.mul_nonneg (by omega) (Int.ediv_nonneg (by omega) (by omega))
       omega
      by_cases hmod:md=0
      ·subst hmod;obtain⟨p4,Z4,F4,hlg,hpd,hmk⟩:=HM2.out.ex;have hB:=hmk.logB H1.out H2.out (by omega)
       obtain⟨S3,Z3,F3,e3,mk3,ei,_⟩:=hmk.force H1.out H2.out (by omega)
       have hfc:=force_ok hlg hB (by omega) hmk.dwn (HW.out.upd HM2.out.upd id) (hB.sheets_good (by omega)) (by rw[hB.find_len,placesB_len]) hB.find_le
       rw[e3]at hfc;have HFC:=qh hfc;have HEI:=qh ei;have HMK3:=qh (mk3.more (show 2 * i+1+1≤2 * (i+1) by omega))
       have HPD:=qh hpd;clear hlg hpd hmk hB e3 mk3 ei hfc;go_wp2_with fail
       refine HFC.out.mono ?_;rintro e w6 ⟨p6,hp6,rfl,hL6,hU6⟩;have HM3:Hid (MLp w l p L count (2 * (i+1)) S3 X A c n w6):=qh ⟨⟨p6,Z3,F3,hL6,hp6.trans HPD.out,HMK3.out⟩,HM2.out.hx.same HEI.out,HM2.out.own.logs (fun _ _=>rfl) hU6,HM2.out.len,HM2.out.sub,HM2.out.upd.trans hU6 fun k hk e=>by have:=e.1;omega⟩
       clear hL6 hU6 HFC HM2;go_wp2_with fail
       go_roundw
       case rel=>exact⟨i+1,S3,X,A,c,n,by go_num,HIN.out,rfl,HM3.out⟩
       case measure=>
        have:=HIN.out;simp only[intOf];omega
      ·have hmd0:(md == 0)=false:=beq_eq_false_iff_ne.2 hmod
       have HM3:Hid (MLp w l p L count (2 * (i+1)) S X A c n w5):=qh (by
        obtain⟨p4,Z4,F4,hlg,hpd,hmk⟩:=HM2.out.ex;exact⟨⟨p4,Z4,F4,hlg,hpd,hmk.more (by omega)⟩,HM2.out.hx,HM2.out.own,HM2.out.len,HM2.out.sub,HM2.out.upd⟩)
       clear HM2;go_wp2_with fail
       go_roundw
       case rel=>exact⟨i+1,S,X,A,c,n,by go_num,HIN.out,rfl,HM3.out⟩
       case measure=>
        have:=HIN.out;simp only[intOf];omega
  ·have hie:i=N:=by omega
   subst hie;have hiI:¬(i:Int)<(i:Int):=by omega
   have hnl:=hM.le;obtain⟨p4,Z4,F4,hlg,hpd,hmk⟩:=hM.ex;have hB:=hmk.logB H1.out H2.out (by omega)
   obtain⟨S3,Z3,F3,e3,mk3,ei,ef⟩:=hmk.force H1.out H2.out (by omega)
   have hfc:=force_ok hlg hB (by omega) hmk.dwn (HW.out.upd hM.upd id) (hB.sheets_good (by omega)) (by rw[hB.find_len,placesB_len]) hB.find_le
   rw[e3]at hfc;have HFC:=qh hfc;have HM:=qh hM;have HEI:=qh ei;have HEF:=qh ef;have HMK3:=qh mk3;have HPD:=qh hpd;have hnI:(n:Int)≤120:=by omega
   clear hM hlg hpd hmk hB e3 mk3 ei ef hfc HM1 hi;go_wp2_with fail
   refine HFC.out.mono ?_;rintro e w6 ⟨p6,hp6,rfl,hL6,hU6⟩;have hUw:Upd Nowhere w w6:=HM.out.upd.trans hU6 fun k hk e=>by have:=e.1;omega
   have HX:=qh (HM.out.hx.same HEI.out);have HOW:=qh (HM.out.own.logs (fun _ _=>rfl) hU6)
   have HSUB:=qh HM.out.sub;have HXL:=qh HM.out.len;have HL6:=qh hL6;have HUW:=qh hUw;have HP6:=qh (hp6.trans HPD.out);clear hUw hL6 hU6 hp6 HM HEI HFC HPD;by_cases hn0:n=0
   ·subst hn0;have hA:=awake_walk (w:=w6) (HW.out.upd HUW.out id) (by have:=HW0.out;have:=HUW.out.size;omega)
    have HA:=qh hA;clear hA;go_wp2_with fail
    refine HA.out.mono ?_;rintro e w7 ⟨rfl,hU7⟩;have HU7:=qh (HUW.out.same hU7);clear hU7 HA;go_wp2_with fail
    go_ret;exact⟨rfl,HU7.out.toBelow fun _ _=>id⟩
   ·have hnz:((n:Int) == 0)=false:=beq_eq_false_iff_ne.2 (by omega)
    obtain⟨u,hu⟩:∃u,IntKind.u64.wrap keep=u:=⟨_,rfl⟩;have hu0:0≤u:=by rw[←hu,IntKind.wrap_u64];omega
    obtain⟨a,ha⟩:∃a:Nat,Int.tmod u (n:Int)=(a:Int):=by
     have h1:0≤Int.tmod u (n:Int):=by rw[Int.tmod_eq_emod_of_nonneg hu0];exact Int.emod_nonneg _ (by omega)
     exact⟨(Int.tmod u (n:Int)).toNat,by omega⟩
    have han:(a:Int)<(n:Int):=by
     rw[←ha,Int.tmod_eq_emod_of_nonneg hu0];exact Int.emod_lt_of_pos _ (by omega)
    have haI:(a:Int)≤120:=by omega
    have haL:a<S3.items.length:=by
     have:=HX.out.1;rw[qlm,HXL.out]at this;omega
    obtain⟨S1,n1,k1,Z1,F1,hmkd⟩:=HMK3.out.marked H1.out H2.out (by omega) HEF.out haL
    have hB6:=HMK3.out.logB H1.out H2.out (by omega)
    have hpd6:S3.pendB=[]:=by unfold LogS.pendB;rw[HEF.out,List.drop_length];rfl
    have hus:=wused_ok HL6.out hB6 (by omega) HMK3.out.dwn (HW.out.upd HUW.out id)
    have e0:(S3.sheets S3.pendB).length=0:=by rw[LogS.sheets_len,layAll_fst,hpd6];rfl
    rw[e0,HMK3.out.m,show(S3.next:Int) - mast2.first+((0:Nat):Int)=(S3.next:Int) by simp[mast2]]at hus
    have HUS:=qh hus;have HMKD:=qh hmkd;have HAL:=qh haL;have HB6:=qh hB6;clear hus hmkd haL hB6 hpd6 e0;go_wp2_with fail
    refine HUS.out.mono ?_;rintro e w7 ⟨rfl,hU7⟩;have hmk:=mark_ok (HL6.out.up hU7) HB6.out (by omega) HMK3.out.dwn (i:=a) (by rw[HEF.out];exact HAL.out) (check:=1+(a:Int)) (keep:=1+(a:Int)) (by rw[HMK3.out.m];rfl) (.inr HMKD.out.kept) (by omega) HMKD.out.pls HMKD.out.may
    rw[HMKD.out.eq]at hmk;have HMK:=qh hmk;have HO7:=qh (HOW.out.upd hU7 fun _ _=>id)
    have HU7:=qh (HUW.out.same hU7);clear hmk hU7 HUS;go_wp2_with fail
    refine HMK.out.mono ?_;rintro e w8 ⟨p8,hp8,rfl,hL8,hU8⟩;have hN8:Upd Nowhere w w8:=HU7.out.trans hU8 fun k hk e=>by have:=e.1;omega
    have hm1:=HMKD.out.m;have HO8:=qh (HO7.out.logs (fun _ _=>rfl) hU8)
    have hus1:∀W,Upd Nowhere w8 W→Calls Tryz.prog 14 #[.pointer (some ⟨l,0,none⟩)] W fun e w'=>e= .returned (.int .i64 ((S3.next:Int) - (k1:Int)))∧Upd Nowhere W w':=fun W hu=>by
     have:=wused_ok (hL8.up hu) HMKD.out.lb (by omega) HMKD.out.dwn (HW.out.upd (hN8.same hu) id)
     have e0:(S1.sheets S1.pendB).length=0:=by rw[LogS.sheets_len,layAll_fst,HMKD.out.pend];rfl
     rw[e0,hm1,HMKD.out.nxt,show(S3.next:Int) - ((k1:Nat):Int)+((0:Nat):Int)=(S3.next:Int) - (k1:Int) by omega]at this
     exact this
    have hfi1:∀W,Upd Nowhere w8 W→Calls Tryz.prog 25 #[.pointer (some ⟨l,0,none⟩)] W fun e w'=>e= .returned (.int .i64 (1+(n1:Int)))∧Upd Nowhere W w':=fun W hu=>by
     have:=wfirst_ok (hL8.up hu) HMKD.out.dwn;rw[hm1]at this;exact this
    have hck1:∀W,Upd Nowhere w8 W→Calls Tryz.prog 31 #[.pointer (some ⟨l,0,none⟩)] W fun e w'=>e= .returned (.int .i64 (1+(a:Int)))∧Upd Nowhere W w':=fun W hu=>by
     have:=wcheck_ok (hL8.up hu) HMKD.out.dwn;rw[hm1]at this;exact this
    have hnx:(S3.next:Int)≤1000:=by have:=HB6.out.nxt;omega
    have hk1:(k1:Int)≤40:=by have:=HMKD.out.kn;omega
    have hna:(n1:Int)≤(a:Int):=by have:=HMKD.out.na;omega
    have hn10:(0:Int)≤(n1:Int):=by omega
    have hun:¬(S3.next:Int)<(S3.next:Int) - (k1:Int):=by omega
    have hfn:¬(1:Int)+(a:Int)<1+(n1:Int):=by omega
    obtain⟨un,hune⟩:∃un:Int,(S3.next:Int) - (k1:Int)=un:=⟨_,rfl⟩;have HUN:=qh hune;rw[hune]at hun hus1;have HUS1:=qh hus1;have HFI1:=qh hfi1;have HCK1:=qh hck1;have HL8:=qh hL8;have HN8:=qh hN8;have HP8:=qh (hp8.trans HP6.out);clear hus1 hfi1 hck1 hL8 hN8 hm1 hU8 hp8 hune HMK;have HC:=qh (HUS1.out w8 (Upd.refl _ _));go_wp2_with fail
    refine HC.out.mono ?_;rintro e w9 ⟨rfl,hU9⟩;have HU9:=qh hU9;have HC:=qh (HFI1.out w9 hU9);clear hU9;go_wp2_with fail
    refine HC.out.mono ?_;rintro e w10 ⟨rfl,hU10⟩;have HU10:=qh (HU9.out.same hU10);have HC:=qh (HCK1.out w10 HU10.out);clear hU10;go_wp2_with fail
    refine HC.out.mono ?_;rintro e w11 ⟨rfl,hU11⟩;have HU11:=qh (HU10.out.same hU11);have hst:=HMKD.out.st
    have hcr:=crash_ok (HL8.out.dk.up HU11.out) (kA:=none) (kc:=0) (keep:=[]) (kn:=0) rfl (OwnR.nil 3 _ 1 0 w11).els (by omega) false 0 (by rw[hst.pend];simp) (fun x hx=>by rw[hst.pend]at hx;cases hx) (fun m sx hsx=>by
     obtain⟨_,hdk,_⟩:=HMKD.out.dk;have h1:=hdk.read m;unfold DiskS.read at h1;rw[hst.now,hsx]at h1;exact h1)
    rw[HP8.out]at hcr;have HCR:=qh hcr;clear hU11 hst hcr HC;go_wp2_with fail
    refine HCR.out.mono ?_;rintro e w12 ⟨p2,rfl,hD12,hU12,hF12⟩;obtain⟨S2,ho⟩:=HMKD.out.opened H1.out H2.out (by omega)
    have hbody:∀(j:Nat) (b:Bs) (q:Nat),S1.items[j]? =some (b,q)→∃(r:RcW),X[n1+j]? =some r∧DecTo b r.p:=fun j b q hj=>by
     rw[HMKD.out.its,List.getElem?_drop]at hj;have hlt:=(qei.1 hj).1;have hl3:=HX.out.1;rw[qlm]at hl3;obtain⟨r,hr⟩:∃r,X[n1+j]? =some r:=⟨_,qeg (by omega)⟩
     exact⟨r,hr,HX.out.2 (n1+j) b q r.p hj (by rw[qgm,hr];rfl)⟩
    have hUw12:Upd Nowhere w w12:=(HN8.out.same HU11.out).same hU12
    have hop:=openn_ok (bz:=w11.heap.size) hD12 (by have:=HW0.out;have:=(HN8.out.same HU11.out).size;omega) hU12.size hF12 count H1.out (by have:=H2.out;omega) (by rw[ho.dk.size];omega) (by rw[ho.dk.size];have:=H2.out;omega) ho.dk.down (by rw[ho.dk.fuse];omega) (by rw[ho.dk.syncs];omega) ho.dk.read (by have:=ho.dk.pend;omega) k1 (by rw[ho.ld,HMKD.out.m]) (by omega) (by rw[ho.ld,HMKD.out.m];simp only;omega) (by rw[ho.ld,HMKD.out.m];simp only;omega) ho.sh ho.dt (by
     intro x hx;rw[ho.fb]at hx;obtain⟨j,hj⟩:=List.getElem?_of_mem hx;have h1:S1.items[j]? =some (x.1,k1+x.2):=by rw[HMKD.out.f1,placedAt_get,hj];rfl
     obtain⟨r,_,hd⟩:=hbody j _ _ h1;have h2:=HMKD.out.st.pl x hx;have h3:=HMKD.out.st.le;have h4:=HMKD.out.cnt;have h5:=H2.out;exact⟨hd.z,HMKD.out.lb.bod (x.1,k1+x.2) (qmg h1),by omega⟩) (by
     rw[ho.fb];have h1:=HMKD.out.lb.len;have h2:F1.length=S1.items.length:=by rw[HMKD.out.f1,placedAt_len]
     omega) (HW.out.upd hUw12 id) S1.openM (by rw[ho.ld];rfl) ho.may ho.sv
    have HOP:=qh hop;have HO:=qh ho;have HBODY:=qh hbody;have HU12:=qh (HU11.out.same hU12);have hbz:Hid (w11.heap.size≤w12.heap.size):=qh hU12.size;clear hop ho hbody hD12 hF12 hUw12 HCR;go_wp2_with fail
    refine HOP.out.mono ?_;rintro e w13 ⟨l2,v2,rfl,hL13,hU13,hl13,_⟩;have hU8b:Upd Nowhere w8 w13:=HU11.out.trans (hU12.trans hU13 fun k hk e=>by have:=e.1;omega) fun k hk e=>e
    have hS2:(⟨((S1.dk.crash [] false 0).save S1.openM).1,count,S1.openM,placedAt k1 (findB Z1),(findB Z1).length,k1+Z1.length,0,false⟩:LogS)=S2:=by rw[HO.out.fb];exact HO.out.eq.symm
    rw[hS2]at hL13;have HL13:=qh hL13;have HU13:=qh hU8b;clear hL13 hU13 hl13 hU8b hS2 HOP hU12;have HC:=qh (HFI1.out w13 HU13.out);go_wp2_with fail
    refine HC.out.mono ?_;rintro e w14 ⟨rfl,hU14⟩;have hold8:∀W,Upd Nowhere w8 W→∀r∈X,r.old W:=fun W hu r hr=>(HOLD.out r (HSUB.out r hr).1).up (HN8.out.same hu)
    have hmild:∀r∈X,r.p.mild:=fun r hr=>(HSUB.out r hr).2.mild
    have hn1n:n1≤S3.items.length:=by have:=HMKD.out.na;have:=HAL.out;omega
    have hl3:S3.items.length=n:=by have:=HX.out.1;rw[qlm,HXL.out]at this;exact this
    have hl1:S1.items.length=n - n1:=by rw[HMKD.out.its,qld,hl3]
    have hrec:∀(ls:Int),ls=1+(n1:Int)→∀(j:Nat) (b:Bs) (q:Nat),S1.items[j]? =some (b,q)→∃(a:Nat) (r:RcW),ls+(j:Nat) - 1=(a:Nat)∧X[a]? =some r∧DecTo b r.p:=fun ls hls j b q hj=>by
     obtain⟨r,h1,h2⟩:=HBODY.out j b q hj;exact⟨n1+j,r,by omega,h1,h2⟩
    have hm1:S1.m.lsn=1+(n1:Int):=by rw[HMKD.out.m]
    have hfs1:∀W,Upd Nowhere w8 W→Calls Tryz.prog 29 #[.pointer (some ⟨l,0,none⟩),.slice A n c,.int .i64 (1+(n1:Int)),.int .i64 (n:Int)] W fun e w'=>e= .returned (.bool true)∧Upd Nowhere W w':=fun W hu=>
     firsts_ok (HL8.out.up hu) HMKD.out.lb (by omega) HMKD.out.dwn (HO8.out.upd hu fun _ _=>id).els HXL.out (by omega) (hold8 W hu) hmild hm1.symm (by rw[hm1,hl1];omega) (by rw[hm1,hl1];omega) (hrec _ hm1)
    have hm2:S2.m=⟨4,2,(k1:Nat),1+(n1:Nat),1+(a:Nat)⟩:=by
     rw[HO.out.eq]
     show S1.openM=_
     unfold LogS.openM;rw[HMKD.out.m];rfl
    have hd2:S2.down=false:=by rw[HO.out.eq]
    have hm2l:S2.m.lsn=1+(n1:Int):=by rw[hm2]
    have hfs2:∀W,Upd Nowhere w13 W→Calls Tryz.prog 29 #[.pointer (some ⟨l2,0,none⟩),.slice A n c,.int .i64 (1+(n1:Int)),.int .i64 (n:Int)] W fun e w'=>e= .returned (.bool true)∧Upd Nowhere W w':=fun W hu=>
     firsts_ok (HL13.out.up hu) HO.out.lb (by omega) hd2 (HO8.out.upd (HU13.out.same hu) fun _ _=>id).els HXL.out (by omega) (hold8 W (HU13.out.same hu)) hmild hm2l.symm (by rw[hm2l,HO.out.its,hl1];omega) (by rw[hm2l,HO.out.its,hl1];omega) (by rw[HO.out.its];exact hrec _ hm2l)
    have hus2:∀W,Upd Nowhere w13 W→Calls Tryz.prog 14 #[.pointer (some ⟨l2,0,none⟩)] W fun e w'=>e= .returned (.int .i64 un)∧Upd Nowhere W w':=fun W hu=>by
     have:=wused_ok (HL13.out.up hu) HO.out.lb (by omega) hd2 (HW.out.upd ((HN8.out.same HU13.out).same hu) id)
     have e0:(S2.sheets S2.pendB).length=0:=by rw[LogS.sheets_len,layAll_fst,HO.out.pend];rfl
     rw[e0,hm2,HO.out.nxt,HMKD.out.nxt,show(S3.next:Int) - ((k1:Nat):Int)+((0:Nat):Int)=un by rw[←HUN.out];omega]at this
     exact this
    have hck2:∀W,Upd Nowhere w13 W→Calls Tryz.prog 31 #[.pointer (some ⟨l2,0,none⟩)] W fun e w'=>e= .returned (.int .i64 (1+(a:Int)))∧Upd Nowhere W w':=fun W hu=>by
     have:=wcheck_ok (HL13.out.up hu) hd2;rw[hm2]at this;exact this
    have HFS1:=qh hfs1;have HFS2:=qh hfs2;have HUS2:=qh hus2;have HCK2:=qh hck2;have HK14:=qh hU14;clear hold8 hmild hn1n hl3 hl1 hrec hm1 hfs1 hm2 hd2 hm2l hfs2 hus2 hck2 hU14;have HC:=qh (HFS1.out w14 (HU13.out.same HK14.out));go_wp2_with fail
    refine HC.out.mono ?_;rintro e w15 ⟨rfl,hU15⟩;have HK15:=qh (HK14.out.same hU15);clear hU15;have HC:=qh (HFI1.out w15 (HU13.out.same HK15.out));go_wp2_with fail
    refine HC.out.mono ?_;rintro e w16 ⟨rfl,hU16⟩;have HK16:=qh (HK15.out.same hU16);clear hU16;have HC:=qh (HFS2.out w16 HK16.out);go_wp2_with fail
    refine HC.out.mono ?_;rintro e w17 ⟨rfl,hU17⟩;have HK17:=qh (HK16.out.same hU17);clear hU17;have HC:=qh (HUS2.out w17 HK17.out);go_wp2_with fail
    refine HC.out.mono ?_;rintro e w18 ⟨rfl,hU18⟩;have HK18:=qh (HK17.out.same hU18);clear hU18;have HC:=qh (HUS1.out w18 (HU13.out.same HK18.out));go_wp2_with fail
    refine HC.out.mono ?_;rintro e w19 ⟨rfl,hU19⟩;have HK19:=qh (HK18.out.same hU19);clear hU19;have HC:=qh (HCK2.out w19 HK19.out);go_wp2_with fail
    refine HC.out.mono ?_;rintro e w20 ⟨rfl,hU20⟩;have hUz:=HN8.out.same (HU13.out.same (HK19.out.same hU20));have hA:=awake_walk (w:=w20) (HW.out.upd hUz id) (by have:=HW0.out;have:=hUz.size;omega)
    have HA:=qh hA;have HUZ:=qh hUz;clear hU20 hUz hA HC;go_wp2_with fail
    refine HA.out.mono ?_;rintro e w21 ⟨rfl,hU21⟩;have HU21:=qh (HUZ.out.same hU21);clear hU21 HA;go_wp2_with fail
    go_ret;exact⟨rfl,HU21.out.toBelow fun _ _=>id⟩
end Go.Proofs.YtljmmkjdlcfkpaaGreatDoor
