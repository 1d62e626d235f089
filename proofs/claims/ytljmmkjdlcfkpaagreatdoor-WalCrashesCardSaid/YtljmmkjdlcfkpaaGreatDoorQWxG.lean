/-
  WalCrashes: what cannot be marked; one call.
-/
import Derived.Test.YtljmmkjdlcfkpaaGreatDoorQWuE
import Derived.Test.YtljmmkjdlcfkpaaGreatDoorQWuD
set_option maxRecDepth 100000
set_option maxHeartbeats 4000000
namespace Go.Proofs.YtljmmkjdlcfkpaaGreatDoor
open Go Go.RowKit
theorem mark_no{bz:Nat}{w:World}{l k:Nat}{p:DkP}{S:LogS}(h:LogAt bz w l p S)(hB:LogB k S)(hk:k≤79)(hd:S.down=false){check keep:Int}(hn:S.kept keep=false∨(check≠0∧S.kept check=false)):
 Calls Tryz.prog 30 #[.pointer (some ⟨l,0,none⟩),.int .i64 check,.int .i64 keep] w fun e w'=>e= .returned (.int .i64 91)∧Upd Nowhere w w':=by
 have hoff:=off_ok h;rw[hd]at hoff;have hf1:∀w',Upd Nowhere w w'→_:=fun w' hu=>forcedOne_ok (h.up hu) hB (by omega) hd keep
 have hf2:∀w',Upd Nowhere w w'→_:=fun w' hu=>forcedOne_ok (h.up hu) hB (by omega) hd check
 have HOF:=qh hoff;obtain⟨b1,hb1⟩:∃b1,S.kept keep=b1:=⟨_,rfl⟩;obtain⟨b2,hb2⟩:∃b2,S.kept check=b2:=⟨_,rfl⟩;rw[hb1]at hf1 hn;rw[hb2]at hf2 hn;have HF1:=qh hf1;have HF2:=qh hf2;clear hoff hf1 hf2 h hB hk hd hb1 hb2
 cases b1 with
 | false=>
   clear hn;go_enter Tryz.func30,Tryz.ntmps30
   go_wp2_with fail
   refine HOF.out.mono ?_;rintro e w2 ⟨rfl,rfl⟩;go_wp2_with fail
   refine(HF1.out _ (Upd.refl _ _)).mono ?_;rintro e w3 ⟨rfl,hU3⟩;have HU3:=qh hU3;clear hU3;go_wp2_with fail
   go_ret;exact⟨rfl,HU3.out⟩
 | true=>
   obtain⟨hc,rfl⟩:check≠0∧b2=false:=by simpa using hn
   have hc1:(check == 0)=false:=beq_eq_false_iff_ne.2 hc;have hc2:(check != 0)=true:=by rw[bne,hc1];rfl
   clear hn hc;go_enter Tryz.func30,Tryz.ntmps30
   go_wp2_with fail
   refine HOF.out.mono ?_;rintro e w2 ⟨rfl,rfl⟩;go_wp2_with fail
   refine(HF1.out _ (Upd.refl _ _)).mono ?_;rintro e w3 ⟨rfl,hU3⟩;have HU3:=qh hU3;clear hU3;go_wp2_with fail
   refine(HF2.out _ HU3.out).mono ?_;rintro e w4 ⟨rfl,hU4⟩;have HU4:=qh (HU3.out.same hU4);clear hU4;go_wp2_with fail
   go_ret;exact⟨rfl,HU4.out⟩
theorem CallW.cells_one(c:CallW):∀v∈c.cells,v.oneCell'=true:=by
 intro v hv;unfold CallW.cells CallW.tail at hv;simp only[qmc,qma,List.not_mem_nil,or_false]at hv
 rcases hv with rfl | rfl | rfl | hv | rfl | rfl | rfl | rfl
 ·rfl
 ·rfl
 ·rfl
 ·exact(c.r.p.rv c.r.s).cells_one v hv
 ·rfl
 ·rfl
 ·rfl
 ·rfl
theorem once_ok{bz:Nat}{w:World}{l:Nat}{p:DkP}{S:LogS}(h:LogAt bz w l p S)(hB:LogB 6 S)(hd:S.down=false)(hW:HalfW w){c:CallW}(hc:c.old w)(htm:c.r.p.tame)(hkd:0≤c.kind∧c.kind≤2)(hbz:bz≤w.heap.size)(hmk:S.kept c.a=true→(S.markM 0 c.a).may=true)(hpl:∀x∈S.items,x.2≤1000000):
 Calls Tryz.prog 22 #[.pointer (some ⟨l,0,none⟩),.agg c.cells.toArray] w fun e w'=>∃(n ec:Int) (S':LogS) (p':DkP),e= .returned (.tuple #[.int .i64 n,.int .i64 ec])∧OncR S c.kind c.a c.r.p.enc.1 c.r.p.enc.2 n ec S'∧LogAt bz w' l p' S'∧p'.d=p.d∧Upd (LogF bz w) w w':=by
 have hU1:=(Upd.refl Nowhere w).alloc (.cells c.cells.toArray 55);have hBx:=Blk.new w 55 c.cells.toArray;have hone:=c.cells_one;have hlen:=c.len;have hsz:(Tryz.prog.info? 55).map (·.size)=some c.cells.length:=by rw[hlen];exact call_size
 obtain⟨ca,hca⟩:∃ca,c.a=ca:=⟨_,rfl⟩;obtain⟨ck,hck⟩:∃ck,c.kind=ck:=⟨_,rfl⟩;obtain⟨Y,hY⟩:∃Y,c.cells=Y:=⟨_,rfl⟩;have hat:=hBx.call;rw[hY]at hU1 hBx hone hlen hsz hat;rw[hY];have car:=hc.a;rw[hca]at hmk car;have HC:=qh hc;have HTM:=qh htm;have HH:=qh h;have HB:=qh hB;have HW:=qh hW;have HPL:=qh hpl;have HMK:=qh hmk;have HCA:=qh hca;have HCK:=qh hck;have HU1:=qh hU1;have HAT:=qh hat;have HBX:=qh hBx;have HBZ:=qh hbz;have HLEN:=qh hlen;have ha0:=hat.kind;have ha1:=hat.ca;rw[Nat.zero_add]at ha1;rw[hck]at ha0 hkd;rw[hca]at ha1;clear hc htm h hB hW hpl hmk hca hck hU1 hat hBx hbz hY hlen;by_cases k0:ck=0
 ·subst k0;obtain⟨x0,x1,x2,x3,x4,x5,x6,x7,x8,x9,x10,x11,x12,x13,x14,x15,hx⟩:∃x0 x1 x2 x3 x4 x5 x6 x7 x8 x9 x10 x11 x12 x13 x14 x15,c.r.cells=[x0,x1,x2,x3,x4,x5,x6,x7,x8,x9,x10,x11,x12,x13,x14,x15]:=⟨_,_,_,_,_,_,_,_,_,_,_,_,_,_,_,_,rfl⟩;have HX:=qh hx
  have hcp:∀W,Upd Nowhere w W→Calls Tryz.prog 16 #[.agg #[x0,x1,x2,x3,x4,x5,x6,x7,x8,x9,x10,x11,x12,x13,x14,x15]] W fun e w'=>∃t:Sls,e= .returned (.agg (c.r.p.rv t).cells.toArray)∧RecN W.heap.size w' c.r.p t∧Upd Nowhere W w':=fun W hu=>by
   have:=copy_ok c.r.p c.r.s W (RecE.up HC.out.r hu) HTM.out;rw[show(c.r.p.rv c.r.s).cells=[x0,x1,x2,x3,x4,x5,x6,x7,x8,x9,x10,x11,x12,x13,x14,x15] from hx]at this;exact this
  have HCP:=qh hcp
  have hss:∀W,CallAt W w.heap.size 0 c→W.cell? ⟨w.heap.size,1,none⟩=some (.int .i64 ca)∧W.cell? ⟨w.heap.size,3,none⟩=some x0∧W.cell? ⟨w.heap.size,4,none⟩=some x1∧W.cell? ⟨w.heap.size,5,none⟩=some x2∧W.cell? ⟨w.heap.size,6,none⟩=some x3∧W.cell? ⟨w.heap.size,7,none⟩=some x4∧W.cell? ⟨w.heap.size,8,none⟩=some x5∧W.cell? ⟨w.heap.size,9,none⟩=some x6∧W.cell? ⟨w.heap.size,10,none⟩=some x7∧W.cell? ⟨w.heap.size,11,none⟩=some x8∧W.cell? ⟨w.heap.size,12,none⟩=some x9∧W.cell? ⟨w.heap.size,13,none⟩=some x10∧W.cell? ⟨w.heap.size,14,none⟩=some x11∧W.cell? ⟨w.heap.size,15,none⟩=some x12∧W.cell? ⟨w.heap.size,16,none⟩=some x13∧W.cell? ⟨w.heap.size,17,none⟩=some x14∧W.cell? ⟨w.heap.size,18,none⟩=some x15:=fun W hW=>by
   have h1:=hW.ca;have h2:=hW.recd;rw[HCA.out,Nat.zero_add]at h1;rw[hx,Nat.zero_add]at h2;exact⟨h1,(by have:=h2 0 x0 rfl;simpa using this),(by have:=h2 1 x1 rfl;simpa using this),(by have:=h2 2 x2 rfl;simpa using this),(by have:=h2 3 x3 rfl;simpa using this),(by have:=h2 4 x4 rfl;simpa using this),(by have:=h2 5 x5 rfl;simpa using this),(by have:=h2 6 x6 rfl;simpa using this),(by have:=h2 7 x7 rfl;simpa using this),(by have:=h2 8 x8 rfl;simpa using this),(by have:=h2 9 x9 rfl;simpa using this),(by have:=h2 10 x10 rfl;simpa using this),(by have:=h2 11 x11 rfl;simpa using this),(by have:=h2 12 x12 rfl;simpa using this),(by have:=h2 13 x13 rfl;simpa using this),(by have:=h2 14 x14 rfl;simpa using this),(by have:=h2 15 x15 rfl;simpa using this)⟩
  have HSS:=qh hss;clear hx hcp hss hkd ha1;go_enter Tryz.func22,Tryz.ntmps22
  go_upto_region 2 with(fail)
  generalize w.alloc (.cells Y.toArray 55)=w1 at*;obtain⟨bx,hbx⟩:∃bx,w.heap.size=bx:=⟨_,rfl⟩;rw[hbx]at HSS HAT HBX HBZ ⊢;have HBXE:=qh hbx;have hbl:bx<w1.heap.size:=HBX.out.lt;have k1:=HSS.out w1.drew ⟨fun j v hv=>HAT.out.rng j v hv⟩
  clear ha0 hbx
  go_region_held3 (fun W=>W.cell? ⟨bx,1,none⟩=some (.int .i64 ca)∧W.cell? ⟨bx,3,none⟩=some x0∧W.cell? ⟨bx,4,none⟩=some x1∧W.cell? ⟨bx,5,none⟩=some x2∧W.cell? ⟨bx,6,none⟩=some x3∧W.cell? ⟨bx,7,none⟩=some x4∧W.cell? ⟨bx,8,none⟩=some x5∧W.cell? ⟨bx,9,none⟩=some x6∧W.cell? ⟨bx,10,none⟩=some x7∧W.cell? ⟨bx,11,none⟩=some x8∧W.cell? ⟨bx,12,none⟩=some x9∧W.cell? ⟨bx,13,none⟩=some x10∧W.cell? ⟨bx,14,none⟩=some x11∧W.cell? ⟨bx,15,none⟩=some x12∧W.cell? ⟨bx,16,none⟩=some x13∧W.cell? ⟨bx,17,none⟩=some x14∧W.cell? ⟨bx,18,none⟩=some x15) (first | with_reducible exact k1 | with_reducible exact k2 | with_reducible exact k3)
   (first
     | (go_at_call 16
        refine(HCP.out _ (HU1.out.drew)).mono ?_;rintro e w2 ⟨t,rfl,hN2,hU2⟩;have hUw2:Upd Nowhere w w2:=HU1.out.drew.same hU2;have hat2:CallAt w2 bx 0 c:=⟨fun j v hv=>(hU2.cell (p:=⟨bx,0+j,none⟩) hbl id).trans (HAT.out.rng j v hv)⟩
        have k2:=HSS.out w2 hat2;obtain⟨d,hdd⟩:∃d:List Value,(c.r.p.rv t).cells=d:=⟨_,rfl⟩;have happ:=append_ok (HH.out.up hUw2) HB.out (by omega) hd (HW.out.upd hUw2 id) (enc_ok hN2.recE HTM.out.mild) (enc_len_le c.r.p) (fun h=>by rw[(enc_dec c.r.p h).1];exact(enc_dec c.r.p h).2.any) ca car
        rw[hdd]at happ;rw[hdd];have HAP:=qh happ;have HUW2:=qh hUw2;have HU12:Hid (Upd Nowhere w1.drew w2):=qh hU2;have HAT2:=qh hat2;clear hdd hUw2 hat2 happ hN2 hU2)
     | (go_at_call 10
        refine HAP.out.mono ?_;rintro e w3 ⟨hbad,hno,hyes,hU3⟩
        have hlg:∃(n ec:Int) (S':LogS),e= .returned (.tuple #[.int .i64 n,.int .i64 ec])∧OncR S 0 ca c.r.p.enc.1 c.r.p.enc.2 n ec S'∧LogAt bz w3 l p S':=by
         by_cases hx:c.r.p.enc.2=0
         ·cases hrm:S.roomy c.r.p.enc.1 ca with
          | true=>
            obtain⟨he,hL3⟩:=hyes hx hrm;exact⟨_,_,_,he,.inl ⟨rfl,.inr (.inr ⟨hx,hrm,rfl,rfl,rfl⟩)⟩,hL3⟩
          | false=>
            obtain⟨he,hL3⟩:=hno hx hrm;exact⟨_,_,_,he,.inl ⟨rfl,.inr (.inl ⟨hx,hrm,rfl,rfl⟩)⟩,hL3⟩
         ·obtain⟨he,hL3⟩:=hbad hx;exact⟨_,_,_,he,.inl ⟨rfl,.inl ⟨hx,rfl,rfl⟩⟩,hL3⟩
        obtain⟨n,ec,S',rfl,hR,hL3⟩:=hlg
        have hnl:¬LogF bz w2 bx:=by
         rintro⟨_,o,q1,q2⟩;have q3:=(HUW2.out.size)
         have q4:w2.heap[bx]? =some (.cells Y.toArray 55 (0,0)):=by
          have q5:=HBX.out.drew.upd (F:=Nowhere) HU12.out id;exact q5
         rw[q4]at q1;injection q1 with q1
         subst q1
         cases q2
        have hat3:CallAt w3 bx 0 c:=⟨fun j v hv=>(hU3.cell (p:=⟨bx,0+j,none⟩) (Nat.lt_of_lt_of_le hbl HU12.out.size) hnl).trans (HAT2.out.rng j v hv)⟩
        have k3:=HSS.out w3 hat3;have HR:=qh hR;have HL3:=qh hL3;have HU3:=qh (HUW2.out.any.logs hU3);clear hbad hno hyes hU3 hR hL3 hnl hat3))
  all_goals
   go_wp2_with fail
   go_ret2;exact⟨n,ec,S',p,rfl,by rw[HCK.out,HCA.out];exact HR.out,HL3.out,rfl,HU3.out⟩
 by_cases k1:ck=1
 ·subst k1;have hL1:=HH.out.up HU1.out;have hfc:=force_ok hL1 HB.out (by omega) hd (HW.out.upd HU1.out id) (HB.out.sheets_good (by omega)) (by rw[HB.out.find_len,placesB_len]) HB.out.find_le
  obtain⟨S',ec,hse⟩:∃S' ec,S.forceS=(S',ec):=⟨_,_,rfl⟩;rw[hse]at hfc;have HFC:=qh hfc;have HSE:=qh hse;clear hfc hse hL1 hkd;go_enter Tryz.func22,Tryz.ntmps22
  go_wp2_with fail
  refine HFC.out.mono ?_;rintro e w2 ⟨p',hp',rfl,hL2,hU2⟩;have HL2:=qh hL2;have HU2:=qh (HU1.out.any.logs hU2);have HP:=qh hp';clear hL2 hU2 hp';go_wp2_with fail
  go_ret2;exact⟨0,ec,S',p',rfl,by rw[HCK.out];exact .inr (.inl ⟨rfl,HSE.out.symm⟩),HL2.out,HP.out,HU2.out⟩
 have k2:ck=2:=by omega
 subst k2;clear k0 k1 hkd
 cases hkp:S.kept ca with
 | true=>
   have hkp2:=hkp;unfold LogS.kept at hkp2;rw[Bool.and_eq_true,decide_eq_true_eq,decide_eq_true_eq]at hkp2;obtain⟨i,hi⟩:=Int.eq_ofNat_of_zero_le (show 0≤ca - S.m.lsn by omega)
   have hmc:=mark_ok (HH.out.up HU1.out) HB.out (by omega) hd (i:=i) (by omega) (check:=0) (keep:=ca) (by omega) (.inl rfl) (by omega) HPL.out (HMK.out hkp)
   obtain⟨S',ec,hse⟩:∃S' ec,S.markS 0 ca=(S',ec):=⟨_,_,rfl⟩;rw[hse]at hmc;have HMC:=qh hmc;have HSE:=qh hse;have HKP:=qh hkp;clear hmc hse hkp hkp2 hi;go_enter Tryz.func22,Tryz.ntmps22
   go_wp2_with fail
   refine HMC.out.mono ?_;rintro e w2 ⟨p',hp',rfl,hL2,hU2⟩;have HL2:=qh hL2;have HU2:=qh (HU1.out.any.logs hU2);have HP:=qh hp';clear hL2 hU2 hp';go_wp2_with fail
   go_ret2;exact⟨0,ec,S',p',rfl,by rw[HCK.out,HCA.out];exact .inr (.inr ⟨rfl,.inr ⟨HKP.out,HSE.out.symm⟩⟩),HL2.out,HP.out,HU2.out⟩
 | false=>
   have hmc:=mark_no (HH.out.up HU1.out) HB.out (by omega) hd (check:=0) (keep:=ca) (.inl hkp)
   have HMC:=qh hmc;have HKP:=qh hkp;clear hmc hkp;go_enter Tryz.func22,Tryz.ntmps22
   go_wp2_with fail
   refine HMC.out.mono ?_;rintro e w2 ⟨rfl,hU2⟩;have HU2:=qh (HU1.out.same hU2);clear hU2;go_wp2_with fail
   go_ret2;exact⟨0,91,S,p,rfl,by rw[HCK.out,HCA.out];exact .inr (.inr ⟨rfl,.inl ⟨HKP.out,rfl,rfl⟩⟩),HH.out.up HU2.out,rfl,HU2.out.any⟩
end Go.Proofs.YtljmmkjdlcfkpaaGreatDoor
