/-
  WalCrashes: the law, walked for calls in memory.
-/
import Derived.Test.YtljmmkjdlcfkpaaGreatDoorQWvG
set_option maxRecDepth 100000
set_option maxHeartbeats 8000000
namespace Go.Proofs.YtljmmkjdlcfkpaaGreatDoor
open Go Go.RowKit
theorem walCrashes_in(count:Nat)(h1:8≤count)(h2:count≤40){Ls:List CallW}{A0:Option Addr}{N c0:Nat}{w:World}(hL:Els 23 CallW.cells w (.slice A0 N c0) Ls)(hN:Ls.length=N)(hold:∀c∈Ls,c.old w)(hW:HalfW w)(hw0:0<w.heap.size):
 Calls Tryz.prog 5 #[.int .i64 (count:Int),.slice A0 N c0] w fun e w'=>e= .returned (.bool true)∧Below w.heap.size w w':=by
 have g1:¬(count:Int)<8:=by omega
 have g2:¬(40:Int)<(count:Int):=by omega
 have hlg:=long_ok hL hN hold;have HLG:=qh hlg;have HL:=qh hL;have HN:=qh hN;have HOLD:=qh hold;have HW:=qh hW;have HW0:=qh hw0;have H1:=qh h1;have H2:=qh h2;clear hlg hL hN hold hW hw0 h1 h2;go_enter Tryz.func5,Tryz.ntmps5
 go_wp2_with fail
 refine HLG.out.mono ?_;rintro e w1 ⟨lb,rfl,hlb,hU1⟩;have HU1:=qh hU1;have HLB:=qh hlb;clear hU1 hlb HLG
 cases lb with
 | true=>
   have hA:=awake_walk (w:=w1) (HW.out.upd HU1.out id) (by have:=HW0.out;have:=HU1.out.size;omega)
   have HA:=qh hA;clear hA;go_wp2_with fail
   refine HA.out.mono ?_;rintro e w3 ⟨rfl,hU3⟩;have HU3:=qh (HU1.out.same hU3);clear hU3 HA;go_wp2_with fail
   go_ret;exact⟨rfl,HU3.out.toBelow fun _ _=>id⟩
 | false=>
   have hmd:=made_ok (bz:=w.heap.size) w1 count (by have:=H1.out;omega) (by have:=H2.out;omega) (HW.out.upd HU1.out id) HW0.out HU1.out.size
   have HMD:=qh hmd;obtain⟨hNb,hcs⟩:=HLB.out rfl;have hNI:(N:Int)≤60:=by omega
   have HCS:=qh hcs;have HNB:=qh hNb;clear hmd hcs HLB hNb;go_wp2_with fail
   refine HMD.out.mono ?_;rintro e w2 ⟨l0,p0,rfl,hL2,hU2,hf2,hl2⟩;have HM2:Hid (CLp w count 0 true p0.d l0 1 0 [] none 0 0 w2):=qh ⟨⟨p0,log0 count,0,[],[],hL2,rfl,CrI.start count,HoldsC.nil rfl,rfl,rfl,rfl⟩,OwnR.nil _ _ _ _ _,rfl,(fun r hr=>by cases hr),HU1.out.same hU2⟩
   clear hL2 hU2 hf2 hl2 HMD g1 g2 HU1;go_wp2_with fail
   go_loopw [5,6,7,8,9,10] (fun s5 s6 s7 s8 s9 s10 wr=>∃(d l:Nat) (first forced:Int) (X:List RcW) (A:Option Addr) (c n i:Nat),s5= .pointer (some ⟨d,0,none⟩)∧s6= .pointer (some ⟨l,0,none⟩)∧s7= .slice A n c∧s8= .int .i64 first∧s9= .int .i64 forced∧s10= .int .i64 (i:Int)∧i≤N∧CLp w count (2 * i) true d l first forced X A c n wr) (fun _ _ _ _ _ s10 _=>N - (intOf s10).toNat)
   case atStart=>exact⟨p0.d,l0,1,0,[],none,0,0,0,rfl,rfl,rfl,rfl,rfl,rfl,Nat.zero_le _,HM2.out⟩
   case round=>
    obtain⟨d,l,first,forced,X,A,cp,n,i,rfl,rfl,rfl,rfl,rfl,rfl,hi,hM⟩:=hrel;by_cases hiN:i<N
    ·have hiI:(i:Int)<(N:Int):=by omega
     have hiI2:(i:Int)≤60:=by omega
     obtain⟨c,hc⟩:∃c,Ls[i]? =some c:=⟨_,qeg (by rw[HN.out];exact hiN)⟩
     obtain⟨g,off,cc,hsl,hg,_⟩:=HL.out.get CallW.len hc;injection hsl with hsl1 hsl2 hsl3
     subst hsl1;have hrg:=(HL.out.upd hM.upd fun _ _=>id).range CallW.len hc
     have hcm:=qmg hc;have hco:=HOLD.out c hcm;obtain⟨htm,hkl⟩:=HCS.out c hcm;obtain⟨Y,hY⟩:∃Y:List Value,c.cells=Y:=⟨_,rfl⟩;rw[hY]at hrg;have HIS:Hid ((Tryz.prog.info? 55).map (·.size)=some Y.length):=qh (by rw[←hY,CallW.len];exact call_size)
     have HZS:Hid ((#[.int .i64 0,.int .i64 0,.int .i64 0,.int .i64 0,.int .i64 0,.int .i64 0,.int .i64 0,.string ⟨#[]⟩,.bool false,.string ⟨#[]⟩,.bool false,.string ⟨#[]⟩,.int .i64 0,.slice none 0 0,.slice none 0 0,.slice none 0 0,.slice none 0 0,.slice none 0 0,.slice none 0 0,.int .i64 0,.slice none 0 0,.bool false,.int .i64 0]:Array Value).size=Y.length):=qh (by rw[←hY,CallW.len];rfl)
     have HONE:Hid (∀v∈Y,v.oneCell'=true):=qh (by rw[←hY];exact c.cells_one)
     have HRG:=qh hrg;have HM:=qh hM;have HC:=qh hc;have HIN:=qh hiN;have HY:=qh hY;have HCO:=qh hco;have HTM:=qh htm;have HKL:=qh hkl;have HCM:=qh hcm;clear hrg hM hc hiN hY hco htm hkl hcm hsl2 hsl3 hi HM2;go_upto_region 12 with(first | (refine wpList_load_mid rfl 55 _ rfl g (off+i * 23) rfl Y _ HRG.out Tryz.underlying55 rfl HIS.out ?_) | (refine wpList_store_new rfl 55 _ _ rfl rfl rfl HIS.out HZS.out HONE.out ?_))
     have hB0:=Blk.new wr 55 Y.toArray;have hU0:=(Upd.refl Nowhere wr).alloc (.cells Y.toArray 55);generalize wr.alloc (.cells Y.toArray 55)=w3 at*;have hM3:=HM.out.up hU0;obtain⟨bx,hbx⟩:∃bx,wr.heap.size=bx:=⟨_,rfl⟩;rw[hbx]at hB0 ⊢;have hbxw:Hid (w.heap.size≤bx):=qh (by have:=HM.out.upd.size;omega)
     have HM3:=qh hM3;have hcat:∀W,Blk W bx 55 Y.toArray→CallAt W bx 0 c:=fun W h=>by rw[←HY.out]at h;exact h.call
     have HCAT:=qh hcat;have HB3:=qh hB0;have ha0:=(hcat w3 hB0).kind;have ha19:=(hcat w3 hB0).fuse;rw[Nat.zero_add]at ha19;obtain⟨ck,hck⟩:∃ck,c.kind=ck:=⟨_,rfl⟩;obtain⟨cf,hcf⟩:∃cf,c.fuse=cf:=⟨_,rfl⟩;have hcfb:=HCO.out.fuse;rw[hck]at ha0;rw[hcf]at ha19 hcfb;have HCK:=qh hck;have HCF:=qh hcf;clear hB0 hU0 hM3 hbx hcat hck hcf HM HRG HZS HONE;by_cases hneg:ck<0
     ·go_wp2_with fail
      go_roundw
      case rel=>exact⟨d,l,first,forced,X,A,cp,n,i+1,rfl,rfl,rfl,rfl,rfl,by go_num,HIN.out,HM3.out.more (by omega)⟩
      case measure=>
       have:=HIN.out;simp only[intOf];omega
     by_cases hbig:2<ck
     ·go_wp2_with fail
      go_roundw
      case rel=>exact⟨d,l,first,forced,X,A,cp,n,i+1,rfl,rfl,rfl,rfl,rfl,by go_num,HIN.out,HM3.out.more (by omega)⟩
      case measure=>
       have:=HIN.out;simp only[intOf];omega
     go_upto_if 55 with(fail)
     go_cut [] (fun wz=>CLp w count (2 * i) (decide (cf<0)) d l first forced X A cp n wz∧Blk wz bx 55 Y.toArray)
     case first=>
      by_cases hf0:0≤cf
      ·obtain⟨p,S,f,Z,F,q1,q2,q3,q4,q5,q6,q7⟩:=HM3.out.ex;have hfo:=fuse_ok q1.dk cf hf0;rw[q2]at hfo;have HFO:=qh hfo;have HQ1:=qh q1;have HQ2:=qh q2;have HQ3:=qh q3;have HQ4:=qh q4;have HQ5:=qh q5;have HQ6:=qh q6;have HQ7:=qh q7;clear hfo q1 q2 q3 q4 q5 q6 q7;go_wp2_with fail
       refine HFO.out.mono ?_;rintro e w4 ⟨rfl,hD4,hU4⟩;have hL4:=HQ1.out.disk rfl hU4 hD4 HQ1.out.pf;have hUL:=HQ1.out.foot hU4;have HCL:Hid (CLp w count (2 * i) (decide (cf<0)) d l first forced X A cp n w4):=qh ⟨⟨p,_,f,Z,F,hL4,HQ2.out,by rw[decide_eq_false (by omega)];exact HQ3.out.fused cf hcfb,HQ4.out,HQ5.out,HQ6.out,HQ7.out⟩,HM3.out.own.logs (fun _ _=>rfl) hUL,HM3.out.len,HM3.out.sub,HM3.out.upd.trans hUL fun k hk e=>by have:=e.1;omega⟩
       have HB4:=qh (HB3.out.logs rfl hUL);clear hL4 hUL hD4 hU4;go_wp2_with fail
       go_meet;exact⟨HCL.out,HB4.out⟩
      ·go_wp2_with fail
       go_meet;refine⟨?_,HB3.out⟩;rw[decide_eq_true (by omega)]
       exact HM3.out
     case rest=>
      obtain⟨hM4,hB4⟩:=hcut;obtain⟨bb,hbb⟩:∃bb,decide (cf<0)=bb:=⟨_,rfl⟩;rw[hbb]at hM4;obtain⟨p,S,f,Z,F,q1,q2,q3,q4,q5,q6,q7⟩:=hM4.ex;have hon:=once_ok q1 (q3.logB H1.out H2.out (by omega)) q3.dwn (HW.out.upd hM4.upd id) (HCO.out.up hM4.upd) HTM.out ⟨by rw[HCK.out];omega,by rw[HCK.out];omega⟩ hM4.upd.size (fun hk=>q3.may_mark H1.out H2.out (by omega) hk) (fun x hx=>by have:=q3.pls x hx;have:=q3.nxt;omega)
      rw[HY.out]at hon;have HON:=qh hon;have ha0:=(HCAT.out wc hB4).kind;rw[HCK.out]at ha0;have HRB:Hid (wc.rangeAt bx 0 Y):=qh hB4.rng;obtain⟨kb2,hkb2⟩:∃kb2,(ck == 2)=kb2:=⟨_,rfl⟩;have HKB2:=qh hkb2;have HBB:=qh hbb;have hnn0:=hM4.le;have hnnI:(n:Int)≤120:=by omega
      have HM4:=qh hM4;have HB4:=qh hB4;have HQ2:=qh q2;have HQ3:=qh q3;have HQ4:=qh q4;have HQ5:=qh q5;have HQ6:=qh q6;have HQ7:=qh q7;clear hM4 hB4 hon hbb q1 q2 q3 q4 q5 q6 q7 hnn0 HM3 HB3 ha19;go_wp2_with (first | (refine wpList_load_mid rfl 55 _ rfl bx 0 rfl Y _ HRB.out Tryz.underlying55 rfl HIS.out ?_))
      refine HON.out.mono ?_;rintro e w5 ⟨nn,ec,S',p',rfl,hR,hL5,hp5,hU5⟩;rw[HCK.out]at hR;obtain⟨hnn,fi2,fo2,hAF⟩:=HQ3.out.once H1.out H2.out (by omega) HQ4.out HQ5.out (r:=c.r) (fun h=>by rw[(enc_dec c.r.p h).1];exact(enc_dec c.r.p h).2) (enc_len_le c.r.p) hR
      rw[←HQ7.out,←HQ6.out]at hAF;have hB5:=HB4.out.logs rfl hU5;have ha0:=(HCAT.out w5 hB5).kind;rw[HCK.out]at ha0;have HAF:=qh hAF;have HNN:=qh hnn;have HL5:=qh hL5;have HP5:=qh (hp5.trans HQ2.out);have HB5:=qh hB5;have HU5:=qh hU5;have HR5:=qh ((HCAT.out w5 hB5).recd);clear hR hnn hAF hB5 hL5 hp5 hU5 HON HRB hkb2;go_upto_region 17 with(fail)
      go_cut [75] (fun t wz=>t= .bool (decide (ck=0∧ec=0))∧w5=wz)
      case first=>
       by_cases hz1:ck=0
       ·have hz0:(ck == 0)=true:=by rw[hz1];rfl
        by_cases hz2:ec=0
        ·have hz3:(ec == 0)=true:=by rw[hz2];rfl
         go_wp2_with fail
         go_meet;exact⟨by rw[decide_eq_true (And.intro hz1 hz2)],rfl⟩
        ·have hz3:(ec == 0)=false:=beq_eq_false_iff_ne.2 hz2;go_wp2_with fail
         go_meet;exact⟨by rw[decide_eq_false (fun h=>hz2 h.2)],rfl⟩
       ·have hz0:(ck == 0)=false:=beq_eq_false_iff_ne.2 hz1;go_wp2_with fail
        go_meet;exact⟨by rw[decide_eq_false (fun h=>hz1 h.1)],rfl⟩
      obtain⟨rfl,rfl⟩:=hcut;go_upto_if 75 with(fail)
      go_cut [7] (fun s7 wz=>∃(A':Option Addr) (c' n':Nat) (X':List RcW),s7= .slice A' n' c'∧X'=(if ck=0∧ec=0 then X++[c.r] else X)∧X'.length=n'∧OwnR 38 RcW.cells 16 w.heap.size wz (.slice A' n' c') X'∧LogAt w.heap.size wz l p' S'∧Blk wz bx 55 Y.toArray∧Upd Nowhere w wz)
      case first=>
       have hUw:Upd Nowhere w w5:=HM4.out.upd.trans HU5.out fun k hk e=>by have:=e.1;omega
       have hown:=HM4.out.own.logs (fun _ _=>rfl) HU5.out
       by_cases hz:ck=0∧ec=0
       ·obtain⟨hz1,hz2⟩:=hz;have hnv:=HNN.out ⟨hz1,hz2⟩;rw[HM4.out.len]at hnv;subst hz1 hz2 hnv;have hdd:decide ((0:Int)=0∧(0:Int)=0)=true:=rfl;rw[hdd];clear hdd;obtain⟨y,hy⟩:∃y:List Value,c.r.cells=y:=⟨_,rfl⟩;have hrg:=HR5.out;rw[hy,Nat.zero_add]at hrg;have hl16:y.length=16:=by rw[←hy];rfl
        have HISR:Hid ((Tryz.prog.info? 38).map (·.size)=some y.length):=qh (by rw[hl16];exact rec_size)
        have hbs:=build_rec1 c.r.p c.r.s;rw[show(c.r.p.rv c.r.s).cells=y from hy]at hbs;obtain⟨v9,w9,hr9,hO9,hg9,hn9⟩:=rkRec.app1 hown hUw.size 51 c.r y.toArray (by rw[hy]) (by rw[HM4.out.len];omega)
        obtain⟨A9,c9,rfl,_⟩:=hO9.cap;have hl9:(X++[c.r]).length=n+1:=by rw[qla,HM4.out.len];rfl
        rw[hl9]at hr9 hO9;have hu9:Upd (fun k=>(Value.slice A n cp).ownBlock=some k) w5 w9:=(Upd.refl _ w5).grown hg9 fun k hk _=>hk
        have hL9:=HL5.out.upd hu9 (fun k hk e=>by
         obtain⟨cs,hcs⟩:=hown.is_cells hk;obtain⟨_,o,q1,q2⟩:=e;rw[hcs]at q1;injection q1 with q1
         subst q1;rw[show logTy (.cells cs 38 (0,0))=false from rfl]at q2
         cases q2) (fun k hk=>hown.notU8 (by decide) hk)
        have hB9:=HB5.out.upd hu9 (fun e=>hown.blk_ne HB5.out (by decide) e)
        have hU9:=hUw.trans hu9 fun k hk e=>by have:=hown.new k e;omega
        have HRG:=qh hrg;have HR9:=qh hr9;have HBS:=qh (hbs w5);have HO9:=qh hO9;have HL9:=qh hL9;have HB9:=qh hB9;have HU9:=qh hU9;have HLN9:=qh hl9;clear hbs hy hrg hl16 hr9 hO9 hg9 hn9 hl9 hu9 hL9 hB9 hU9 hown hUw;go_wp2_with (first | (refine wpList_load_mid rfl 38 _ rfl bx 3 rfl y _ HRG.out Tryz.underlying38 rfl HISR.out ?_) | (refine wpList_row1_run (v0:= .agg y.toArray) rfl _ _ rfl rfl HBS.out ?_) | (at_builtin;refine wpList_append_run rfl _ _ _ rfl rfl rfl HR9.out ?_))
        go_meet;exact⟨A9,c9,n+1,X++[c.r],rfl,by simp,HLN9.out,HO9.out,HL9.out,HB9.out,HU9.out⟩
       ·have HOW:=qh hown;have HUW:=qh hUw;clear hown hUw;rw[decide_eq_false hz];go_wp2_with fail
        go_meet;exact⟨A,cp,n,X,rfl,(if_neg hz).symm,HM4.out.len,HOW.out,HL5.out,HB5.out,HUW.out⟩
      case rest=>
       obtain⟨A2,c2,n2,X2,rfl,hX2,hn2,hO2,hL6,hB6,hU6⟩:=hcut;have hAF:=HAF.out;rw[←hX2]at hAF
       have hsub2:∀r∈X2,r.old w∧r.p.tame:=fun r hr=>by
        rw[hX2]at hr;split at hr
        ·rcases qma.1 hr with hr | hr
         ·exact HM4.out.sub r hr
         ·rw[List.mem_singleton.1 hr];exact⟨HCO.out.r,HTM.out⟩
        ·exact HM4.out.sub r hr
       have hn2b:n2≤n+1:=by
        rw[←hn2,hX2];have:=HM4.out.len;split
        ·rw[qla,qls];omega
        ·omega
       have hdw:=down_ok hL6.dk;obtain⟨dn,hdn⟩:∃dn,S'.dk.down=dn:=⟨_,rfl⟩;rw[hdn,HP5.out]at hdw;have HDW:=qh hdw;have HDN:=qh hdn;have HAF:=qh hAF;have HSUB:=qh hsub2;have HN2:=qh hn2;have HN2B:=qh hn2b;have HO6:=qh hO2;have HL6:=qh hL6;have HB6:=qh hB6;have HU6:=qh hU6;clear hdw hdn hAF hsub2 hn2 hn2b hO2 hL6 hB6 hU6 hX2 HL5 HB5 HU5 HR5 HNN ha0;go_wp2_with fail
       refine HDW.out.mono ?_;rintro e w7 ⟨rfl,rfl⟩;go_upto_if 88 with(fail)
       go_cut [8,9] (fun s8 s9 wz=>s8= .int .i64 fi2∧s9= .int .i64 fo2∧Upd Nowhere w7 wz)
       case first=>
        cases dn with
        | false=>
          obtain⟨f2,Z2,F2,r1,r2,r3,r4,r5⟩:=HAF.out.up HDN.out;have hB6:=r1.logB H1.out H2.out (by omega)
          have hfo:=wforced_ok HL6.out hB6 (by omega) r1.dwn
          rw[←r5]at hfo
          have hfi:∀W,Upd Nowhere w7 W→Calls Tryz.prog 25 #[.pointer (some ⟨l,0,none⟩)] W fun e w'=>e= .returned (.int .i64 fi2)∧Upd Nowhere W w':=fun W hu=>by
           have:=wfirst_ok (HL6.out.up hu) r1.dwn;rw[←r4]at this;exact this
          have HFO:=qh hfo;have HFI:=qh hfi;clear hfo hfi r1 r2 r3 r4 r5 hB6;go_wp2_with fail
          refine HFO.out.mono ?_;rintro e w8 ⟨rfl,hU8⟩;have HU8:=qh hU8;have HC:=qh (HFI.out w8 hU8);clear hU8 HFO;go_wp2_with fail
          refine HC.out.mono ?_;rintro e w9 ⟨rfl,hU9⟩;have HU9:=qh (HU8.out.same hU9);clear hU9 HC;go_wp2_with fail
          go_meet;exact⟨rfl,rfl,HU9.out⟩
        | true=>
          obtain⟨_,e1,e2⟩:=HAF.out.down HDN.out;have he1:=qh e1;have he2:=qh e2;clear e1 e2;go_wp2_with fail
          go_meet;exact⟨by rw[he1.out],by rw[he2.out],Upd.refl _ _⟩
       case rest=>
        obtain⟨rfl,rfl,hU7⟩:=hcut;have hL7:=HL6.out.up hU7;have hO7:=HO6.out.upd hU7 fun _ _=>id
        have hB7:=HB6.out.upd hU7 id;have hUw7:=HU6.out.same hU7;have ha19:=(HCAT.out wc hB7).fuse;rw[Nat.zero_add,HCF.out]at ha19;have hct:=(HCAT.out wc hB7).crsh;have HL7:=qh hL7;have HO7:=qh hO7;have HB7:=qh hB7;have HUW7:=qh hUw7;have HCT:=qh hct;clear hL7 hO7 hB7 hUw7 hct hU7 HL6 HO6 HB6 HU6 HDW;by_cases hfn:cf<0
        ·have hbt:bb=true:=by rw[←HBB.out];exact decide_eq_true hfn
         have hdn0:S'.dk.down=false:=by
          cases hh:S'.dk.down with
          | false=>rfl
          | true=>
            have:=(HAF.out.down hh).1;rw[hbt]at this
            cases this
         obtain⟨f2,Z2,F2,r1,r2,r3,r4,r5⟩:=HAF.out.up hdn0;have hcl:CLp w count (2 * i+1) bb d l fi2 fo2 X2 A2 c2 n2 wc:=⟨⟨p',S',f2,Z2,F2,HL7.out,HP5.out,r1,r2,r3,r4,r5⟩,HO7.out,HN2.out,HSUB.out,HUW7.out⟩;rw[hbt]at hcl;have HCL:=qh hcl;clear hcl hbt hdn0 r1 r2 r3 r4 r5;go_wp2_with fail
         go_roundw
         case rel=>exact⟨d,l,fi2,fo2,X2,A2,c2,n2,i+1,rfl,rfl,rfl,rfl,rfl,by go_num,HIN.out,HCL.out.more (by omega)⟩
         case measure=>
          have:=HIN.out;simp only[intOf];omega
        ·obtain⟨kA,hkA⟩:∃kA,c.kt.1=kA:=⟨_,rfl⟩;obtain⟨kn,hkn⟩:∃kn,c.kt.2.1=kn:=⟨_,rfl⟩;obtain⟨kc,hkc⟩:∃kc,c.kt.2.2=kc:=⟨_,rfl⟩;obtain⟨tn,htn⟩:∃tn,c.torn=tn:=⟨_,rfl⟩;obtain⟨cu,hcu⟩:∃cu,c.cut=cu:=⟨_,rfl⟩;have hke:=HCO.out.keep.up HUW7.out;have hkl:=kt_len HCO.out;have hct:=HCT.out;unfold CallW.tail at hct;rw[hkA,hkn,hkc]at hke;rw[hkn]at hkl;rw[hkA,hkn,hkc,htn,hcu,Nat.zero_add]at hct;have how:=own_ok hke (by have:=HKL.out;omega) tn cu
         have HCT:=qh hct;have HOW:=qh how;have HKN:=qh hkl;clear hkA hkn hkc htn hcu hke hkl hct how;go_wp2_with (first | (refine wpList_load_mid rfl 53 _ rfl bx 20 rfl [.slice kA kn kc,.bool tn,.int .i64 cu] _ HCT.out Tryz.underlying53 rfl crash_size ?_))
         refine HOW.out.mono ?_;rintro e w8 ⟨A8,c8,rfl,hE8,hU8⟩;have hcr:=crash_ok (HL7.out.dk.up hU8) HKN.out.symm hE8 (by have:=HKL.out;have:=HKN.out;omega) tn cu (by have:=HAF.out.pl;omega) HAF.out.pd HAF.out.sy
         rw[HP5.out]at hcr;have HCR:=qh hcr;have HU8:=qh hU8;clear hE8 hU8 hcr HOW HCT ha19;go_wp2_with fail
         refine HCR.out.mono ?_;rintro e w9 ⟨p9,rfl,hD9,hU9,hF9⟩;obtain⟨S1,b1,f1,Z1,F1,s1,s2,s3,s4,s5,s6⟩:=HAF.out.crash c.keep tn cu;obtain⟨S2,Z2,F2,u,hbk⟩:=s1.opened H1.out H2.out (by omega) s2
         obtain⟨t1,t2,m,t3,t4,t5,t6⟩:=hbk.next s1.st.frc s1.lsn s4 s5;have hU79:=HU8.out.same hU9;have hUw9:=HUW7.out.same hU79;have hs9:=hUw9.size;have hgen:=s1.gen;have hinc:=s1.inc;have hmi:=s1.st.mi;have hnx1:=s1.nxt;have hnx2:=s1.st.nxt
         have hop:=openn_ok (bz:=w.heap.size) hD9 HW0.out hs9 (fun k hk=>by have:=hF9 k hk;have:=HUW7.out.size;have:=HU8.out.size;omega) count H1.out (by have:=H2.out;omega) (by rw[hbk.dk.size];omega) (by rw[hbk.dk.size];have:=H2.out;omega) hbk.dk.down (by rw[hbk.dk.fuse];omega) (by rw[hbk.dk.syncs];omega) hbk.dk.read (by have:=hbk.dk.pend;omega) f1 (by rw[hbk.ld];exact hbk.fst) (by omega) (by rw[hbk.ld];omega) (by rw[hbk.ld];omega) hbk.sh hbk.dt (hbk.dec t1) (by
          have e1:F2.length=S2.items.length:=by rw[hbk.eq];exact(placedAt_len f1 F2).symm
          have e2:=hbk.cr.len;have e3:=hbk.cr.lsn;rw[hbk.fb];omega) (HW.out.upd hUw9 id) S1.openM (by rw[hbk.ld];rfl) hbk.may hbk.sv
         have HOP:=qh hop;have HBK:=qh hbk;have HS3:=qh s3;have HS6:=qh s6;have HT1:=qh t1;have HT2:=qh t2;have HT3:=qh t3;have HT4:=qh t4;have HT5:=qh t5;have HT6:=qh t6;have HU79:=qh hU79;clear hop hbk s1 s2 s3 s4 s5 s6 t1 t2 t3 t4 t5 t6 hD9 hU9 hF9 hU79 hUw9 hs9 hgen hinc hmi hnx1 hnx2 HCR;go_wp2_with fail
         refine HOP.out.mono ?_;rintro e w10 ⟨l2,v2,rfl,hL10,hU10,hl10,_⟩;have hS2:(⟨((S'.dk.crash c.keep tn cu).save S1.openM).1,count,S1.openM,placedAt f1 (findB Z2),(findB Z2).length,f1+Z2.length,0,false⟩:LogS)=S2:=by rw[HBK.out.fb];exact HBK.out.eq.symm
         rw[hS2]at hL10;have hUw10:=(HUW7.out.same HU79.out).trans hU10 fun k hk e=>by have:=e.1;omega
         have hO10:=(HO7.out.upd HU79.out fun _ _=>id).logs (fun _ _=>rfl) hU10
         have HL10:=qh hL10;have HUW10:=qh hUw10;have HO10:=qh hO10;clear hS2 hL10 hUw10 hO10 hU10 hl10 HOP HL7 HO7 HB7 HUW7 HU79 HU8;have hlb2:=HBK.out.cr.logB H1.out H2.out (by omega)
         have hdw2:=HBK.out.cr.dwn;obtain⟨ls,hls⟩:∃ls,S2.m.lsn=ls:=⟨_,rfl⟩
         have hfi2:∀W,Upd Nowhere w10 W→Calls Tryz.prog 25 #[.pointer (some ⟨l2,0,none⟩)] W fun e w'=>e= .returned (.int .i64 ls)∧Upd Nowhere W w':=fun W hu=>by
          have:=wfirst_ok (HL10.out.up hu) hdw2;rw[hls]at this;exact this
         have hla2:∀W,Upd Nowhere w10 W→Calls Tryz.prog 13 #[.pointer (some ⟨l2,0,none⟩)] W fun e w'=>e= .returned (.int .i64 (m:Int))∧Upd Nowhere W w':=fun W hu=>by
          have:=wlast_ok (HL10.out.up hu) hlb2 (by omega) hdw2
          rw[HT4.out]at this;exact this
         have hfs:∀W,Upd Nowhere w10 W→Calls Tryz.prog 29 #[.pointer (some ⟨l2,0,none⟩),.slice A2 n2 c2,.int .i64 ls,.int .i64 fo2] W fun e w'=>e= .returned (.bool true)∧Upd Nowhere W w':=fun W hu=>
          firsts_ok (HL10.out.up hu) hlb2 (by omega) hdw2 (HO10.out.upd hu fun _ _=>id).els HN2.out (by have:=HN2B.out;omega) (fun r hr=>RecE.up (HSUB.out r hr).1 (HUW10.out.same hu)) (fun r hr=>(HSUB.out r hr).2.mild) hls.symm (by have:=HS3.out;have:=HT2.out;omega) (by have:=HT4.out;have:=HT3.out;have:=HN2.out;omega) HT1.out
         have HFI2:=qh hfi2;have HLA2:=qh hla2;have HFS:=qh hfs;have HLS:=qh hls;clear hfi2 hla2 hfs hls hlb2 hdw2;have hkb:(ck == 2)=kb2:=HKB2.out;go_upto_region 29 with(fail)
         go_cut [119] (fun t wz=>t= .bool (decide (ck=2∧ec=40∧ls≠fi2))∧Upd Nowhere w10 wz)
         case first=>
          by_cases hk2:ck=2
          ·obtain rfl:kb2=true:=by rw[←hkb,hk2];rfl
           clear hkb;by_cases he4:ec=40
           ·subst he4;have HC:=qh (HFI2.out w10 (Upd.refl _ _));go_wp2_with fail
            refine HC.out.mono ?_;rintro e w11 ⟨rfl,hU11⟩;have HU11:=qh hU11;clear hU11;go_wp2_with fail
            go_meet;refine⟨?_,HU11.out⟩
            congr 1
            rw[Bool.eq_iff_iff];simp[hk2]
           ·have he5:(ec == 40)=false:=beq_eq_false_iff_ne.2 he4;go_wp2_with fail
            go_meet;exact⟨by rw[decide_eq_false (fun h=>he4 h.2.1)],Upd.refl _ _⟩
          ·obtain rfl:kb2=false:=by rw[←hkb];exact beq_eq_false_iff_ne.2 hk2
           clear hkb;go_wp2_with fail
           go_meet;exact⟨by rw[decide_eq_false (fun h=>hk2 h.1)],Upd.refl _ _⟩
         case rest=>
          obtain⟨rfl,hU11⟩:=hcut;have HU11:=qh hU11;clear hU11 hkb;have hls1:S1.m.lsn=ls:=by rw[←HLS.out];exact HBK.out.lsn.symm
          have hs6:=HS6.out;rw[hls1]at hs6;go_upto_if 119 with(fail)
          go_cut [8] (fun s8 wz=>s8= .int .i64 ls∧Upd Nowhere w10 wz)
          case first=>
           by_cases hq:ck=2∧ec=40∧ls≠fi2
           ·have hqd:=decide_eq_true hq
            obtain⟨hq1,hq2⟩:fi2≤ls∧ls≤fo2:=by
             rcases hs6 with h | ⟨_,_,h1,h2⟩
             ·exact absurd h hq.2.2
             ·exact⟨h1,h2⟩
            rw[hqd];have g1:¬ls<fi2:=by omega
            have g2:¬fo2<ls:=by omega
            have HC:=qh (HFI2.out wc HU11.out);clear hq hqd hs6 hq1 hq2 hls1;go_wp2_with fail
            refine HC.out.mono ?_;rintro e w12 ⟨rfl,hU12⟩;have HU12:=qh (HU11.out.same hU12);have HC:=qh (HFI2.out w12 HU12.out);clear hU12;go_wp2_with fail
            refine HC.out.mono ?_;rintro e w13 ⟨rfl,hU13⟩;have HU13:=qh (HU12.out.same hU13);have HC:=qh (HFI2.out w13 HU13.out);clear hU13;go_wp2_with fail
            refine HC.out.mono ?_;rintro e w14 ⟨rfl,hU14⟩;have HU14:=qh (HU13.out.same hU14);clear hU14;go_wp2_with fail
            go_meet;exact⟨rfl,HU14.out⟩
           ·have hlf:ls=fi2:=by
             rcases hs6 with h | ⟨h1,h2,_,_⟩
             ·exact h
             ·exact Classical.byContradiction fun hne=>hq ⟨h1,h2,hne⟩
            have hqd:=decide_eq_false hq;rw[hqd];have HLF:=qh hlf;clear hq hqd hs6 hls1 hlf;go_wp2_with fail
            go_meet;exact⟨by rw[HLF.out],HU11.out⟩
          case rest=>
           obtain⟨rfl,hU12⟩:=hcut;have HU12:=qh hU12;have HC:=qh (HFS.out wc hU12);clear hU12 hs6 hls1;go_wp2_with fail
           refine HC.out.mono ?_;rintro e w13 ⟨rfl,hU13⟩;have HU13:=qh (HU12.out.same hU13);have HC2:=qh (HLA2.out w13 HU13.out);clear HC;clear hU13;have hmn:(m:Int)≤(n2:Int):=by have:=HT3.out;have:=HN2.out;omega
           have hn2I:(n2:Int)≤121:=by have:=HN2B.out;omega
           obtain⟨g2,hA2,hcap2⟩:∃g2:Nat,(A2=some ⟨g2,0,none⟩∨(A2=none∧m=0∧n2=0∧c2=0))∧(n2:Int)≤(c2:Int):=by
            rcases HO10.out.row.2 with⟨e,e0⟩ | ⟨g,cap,cur,e,_,_,hcap,_⟩
            ·injection e with e1 e2 e3
             exact⟨0,.inr ⟨e1,by omega,e2,e3⟩,by omega⟩
            ·injection e with e1 e2 e3
             have:=HN2.out;exact⟨g,.inl e1,by omega⟩
           have hO13:=(HO10.out.upd HU13.out fun _ _=>id).take RcW.len HN2.out (m:=m) (by omega) (fun e=>by rcases hA2 with h | h;rw[e]at h;cases h;exact h.2.1)
           have HO13:=qh hO13;clear hO13;have hcl:∀W,Upd Nowhere w13 W→CLp w count (2 * (i+1)) true p9.d l2 ls (m:Int) (X2.take m) A2 c2 m W:=fun W hu=>⟨⟨p9.at_ v2,S2,f1,Z2,F2,HL10.out.up (HU13.out.same hu),rfl,HBK.out.cr,HT5.out,HT6.out,HLS.out.symm,by rw[HBK.out.frc];exact HT4.out.symm⟩,HO13.out.upd hu fun _ _=>id,by rw[qlt];have:=HT3.out;omega,fun r hr=>HSUB.out r (List.mem_of_mem_take hr),(HUW10.out.same HU13.out).same hu⟩
           have HCL:=qh hcl;clear hcl
           rcases hA2 with rfl | ⟨rfl,rfl,rfl,rfl⟩
           ·go_wp2_with fail
            refine HC2.out.mono ?_;rintro e w14 ⟨rfl,hU14⟩;have HU14:=qh hU14;have HC:=qh (HLA2.out w14 (HU13.out.same hU14));clear hU14;go_wp2_with fail
            refine HC.out.mono ?_;rintro e w15 ⟨rfl,hU15⟩;have HU15:=qh (HU14.out.same hU15);clear hU15;go_wp2_with fail
            go_roundw
            case rel=>exact⟨p9.d,l2,ls,(m:Int),X2.take m,_,c2,m,i+1,rfl,rfl,rfl,rfl,rfl,by go_num,HIN.out,HCL.out _ HU15.out⟩
            case measure=>
             have:=HIN.out;simp only[intOf];omega
           ·go_wp2_with fail
            refine HC2.out.mono ?_;rintro e w14 ⟨rfl,hU14⟩;have HU14:=qh hU14;have HC:=qh (HLA2.out w14 (HU13.out.same hU14));clear hU14;go_wp2_with fail
            refine HC.out.mono ?_;rintro e w15 ⟨rfl,hU15⟩;have HU15:=qh (HU14.out.same hU15);clear hU15;go_wp2_with fail
            go_roundw
            case rel=>exact⟨p9.d,l2,ls,0,X2.take 0,none,0,0,i+1,rfl,rfl,rfl,rfl,rfl,by go_num,HIN.out,HCL.out _ HU15.out⟩
            case measure=>
             have:=HIN.out;simp only[intOf];omega
    ·have hie:i=N:=by omega
     subst hie;have hji:¬(i:Int)<(i:Int):=by omega
     have HM:=qh hM;have hA:=awake_walk (w:=wr) (HW.out.upd hM.upd id) (by have:=HW0.out;have:=hM.upd.size;omega)
     have HA:=qh hA;clear hM hA hi hiN HM2;go_wp2_with fail
     refine HA.out.mono ?_;rintro e w3 ⟨rfl,hU3⟩;have HU3:=qh (HM.out.upd.same hU3);clear hU3 HA;go_wp2_with fail
     go_ret;exact⟨rfl,HU3.out.toBelow fun _ _=>id⟩
end Go.Proofs.YtljmmkjdlcfkpaaGreatDoor
