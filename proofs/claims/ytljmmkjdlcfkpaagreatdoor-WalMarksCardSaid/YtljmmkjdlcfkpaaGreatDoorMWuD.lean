/-
  Layer 9: Mark, where the record is there.
-/
import Derived.Test.YtljmmkjdlcfkpaaGreatDoorMWsG
set_option maxRecDepth 100000
set_option maxHeartbeats 8000000
namespace Go.Proofs.YtljmmkjdlcfkpaaGreatDoor
open Go Go.RowKit
theorem markN_before:∀(l:List (Bs×Nat)) (q j:Nat) (x:Bs×Nat),l[j]? =some x→j<markN l q→x.2<q:=by
 intro l
 induction l with
 | nil=>intro q j x h;simp at h
 | cons y l ih=>
   intro q j x h hj;unfold markN at hj ih;by_cases hy:y.2<q
   ·rw[List.takeWhile_cons_of_pos (by simpa using hy),List.length_cons]at hj
    cases j with
    | zero=>
      simp only[qZ,Option.some.injEq]at h;exact h▸hy
    | succ j=>
      rw[qS]at h;exact ih q j x h (by omega)
   ·rw[List.takeWhile_cons_of_neg (by simpa using hy)]at hj
    simp at hj
theorem markN_at:∀(l:List (Bs×Nat)) (q:Nat) (x:Bs×Nat),l[markN l q]? =some x→¬x.2<q:=by
 intro l
 induction l with
 | nil=>intro q x h;simp[markN]at h
 | cons y l ih=>
   intro q x h;unfold markN at h ih;by_cases hy:y.2<q
   ·rw[List.takeWhile_cons_of_pos (by simpa using hy),List.length_cons,qS]at h
    exact ih q x h
   ·rw[List.takeWhile_cons_of_neg (by simpa using hy)]at h
    simp only[List.length_nil,qZ,Option.some.injEq]at h;exact h▸hy
theorem mark_ok{bz:Nat}{w:World}{l k:Nat}{p:DkP}{S:LogS}(h:LogAt bz w l p S)(hB:LogB k S)(hk:k≤79)(hd:S.down=false){i:Nat}(hi:i<S.forced){check keep:Int}(hkeep:keep=S.m.lsn+(i:Nat))(hck:check=0∨S.kept check=true)(hc0:0≤check∧check≤1000000)(hpl:∀x∈S.items,x.2≤1000000)(hm:(S.markM check keep).may=true):
 Calls Tryz.prog 30 #[.pointer (some ⟨l,0,none⟩),.int .i64 check,.int .i64 keep] w (ForP bz w l p (S.markS check keep)):=by
 have hoff:=off_ok h;rw[hd]at hoff
 have hkk:S.kept keep=true:=by
  unfold LogS.kept;rw[Bool.and_eq_true,decide_eq_true_eq,decide_eq_true_eq];omega
 have hf1:∀w',Upd Nowhere w w'→_:=fun w' hu=>forcedOne_ok (h.up hu) hB (by omega) hd keep
 have hf2:∀w',Upd Nowhere w w'→_:=fun w' hu=>forcedOne_ok (h.up hu) hB (by omega) hd check
 rw[hkk]at hf1;have hfl:=hB.frc;have hln:=hB.len;have hls:=hB.lsn;obtain⟨A,c,its,hbx,hO,hl,hits⟩:=h.ex;obtain⟨g,rfl,_⟩:=hO.addr (by intro e;rw[e]at hl;simp at hl;omega)
 obtain⟨x,hx⟩:∃x,S.items[i]? =some x:=⟨_,qeg (by omega)⟩
 have hit:(keep - S.m.lsn).toNat=i:=by omega
 obtain⟨q,hq⟩:∃q,x.2=q:=⟨_,rfl⟩;have hqd:(S.items.getD (keep - S.m.lsn).toNat ([],0)).2=q:=by rw[hit,List.getD_eq_getElem?_getD,hx];exact hq
 obtain⟨n0,hn0⟩:∃n,markN S.items q=n:=⟨_,rfl⟩;have hni:n0≤i:=by rw[←hn0];exact markN_lt hx (by omega)
 have hcell:∀j,j≤i→∃(b:Bs) (pj:Nat),S.items[j]? =some (b,pj)∧pj≤1000000∧g<w.heap.size∧w.cell? ⟨g,j * 18+17,none⟩=some (.int .i64 (pj:Int)):=fun j hj=>by
  obtain⟨y,hy⟩:∃y,S.items[j]? =some y:=⟨_,qeg (by omega)⟩
  obtain⟨it,hit2⟩:∃it,its[j]? =some it:=⟨_,qeg (by omega)⟩
  obtain⟨b,pj⟩:=y;obtain⟨_,_,h3⟩:=hits j it b pj hit2 hy;obtain⟨g',off,cc,hsl,hg,hgc⟩:=hO.els.get itemC_len hit2;injection hsl with hsl1
  injection hsl1 with hsl1
  injection hsl1 with e1 e2
  subst e1 e2;have u17:=hgc 17 (by omega)
  obtain⟨itr,itb,itp⟩:=it;simp only[itemC,RecV.cells,List.cons_append,List.nil_append,qZ,qS,Nat.zero_add]at u17;simp only at h3;rw[h3]at u17;exact⟨b,pj,hy,hpl _ (qmg hy),hg,u17⟩
 obtain⟨bq,pq,hq1,_,hgl,_⟩:=hcell i (qlr _);have hxp:x=(bq,pq):=by rw[hx]at hq1;exact Option.some.inj hq1
 have hqI:(q:Int)≤1000000:=by
  have:=hpl x (qmg hx);omega
 obtain⟨lsn,hlsn⟩:=Int.eq_ofNat_of_zero_le (show 0≤S.m.lsn by omega)
 have c0:=hbx.cell 0;have c2:=hbx.cell 2;have c3:=hbx.cell 3;have c4:=hbx.cell 4;have c5:=hbx.cell 5;have c6:=hbx.cell 6;have c7:=hbx.cell 7;simp only[qA,qZ,qS]at c0 c2 c3 c4 c5 c6 c7;have hlt:=hbx.lt;obtain⟨N,hN⟩:∃N,its.length=N:=⟨_,rfl⟩;rw[hN]at c7;have hNI:(N:Int)≤100000:=by omega
 have hiN:(i:Int)<(N:Int):=by omega
 have hi0:(0:Int)≤(i:Int):=by omega
 have hsub:IntKind.i64.wrap (keep - (lsn:Int))=(i:Int):=by rw[IntWalk.i64_in _ (by omega)];omega
 have hniI:(n0:Int)≤(i:Int):=by omega
 rw[hlsn]at c5;have HOF:=qh hoff;have HF1:=qh hf1;have HF2:=qh hf2;have HCE:=qh hcell;have HH:=qh h;have HB:=qh hB;have HN0:=qh hn0;have HQD:=qh hqd;have HM:=qh hm;have HLS:=qh hlsn;have HKP:=qh hkeep;have HX:=qh hx;have HHN:Hid (S.items.length=N):=qh (hl.symm.trans hN);have hni1:Hid (n0≤i):=qh hni;have hi1:Hid (i<S.forced):=qh hi;clear h hB hoff hkk hf1 hf2 hcell hfl hln hls hbx hO hl hits hx hit hqd hn0 hni hq1 hxp hN hm hlsn hkeep hpl hi;go_enter Tryz.func30,Tryz.ntmps30
 go_wp2_with fail
 refine HOF.out.mono ?_;rintro e w1 ⟨rfl,rfl⟩;go_upto_region 4 with(fail)
 go_cut [30] (fun s30 wz=>s30= .bool false∧Upd Nowhere w1 wz)
 case first=>
  go_wp2_with fail
  refine(HF1.out w1 (Upd.refl _ _)).mono ?_;rintro e w2 ⟨rfl,hU2⟩
  rcases hck with rfl | hck
  ·have HU2:=qh hU2;clear hU2;go_wp2_with fail
   go_meet;exact⟨rfl,HU2.out⟩
  ·by_cases hz:check=0
   ·subst hz;have HU2:=qh hU2;clear hU2;go_wp2_with fail
    go_meet;exact⟨rfl,HU2.out⟩
   ·have hz1:(check == 0)=false:=beq_eq_false_iff_ne.2 hz;have hf:=HF2.out w2 hU2;rw[hck]at hf;have HF:=qh hf;have HU2:=qh hU2;clear hU2 hf;go_wp2_with fail
    refine HF.out.mono ?_;rintro e w3 ⟨rfl,hU3⟩;have HU3:=qh (HU2.out.same hU3);clear hU3;go_wp2_with fail
    go_meet;exact⟨rfl,HU3.out⟩
 case rest=>
  obtain⟨rfl,hU4⟩:=hcut;have HU4:=qh hU4;have hgw:g<wc.heap.size:=Nat.lt_of_lt_of_le hgl hU4.size;have hlw:l<wc.heap.size:=Nat.lt_of_lt_of_le hlt hU4.size;have d0:=(hU4.cell (p:=⟨l,0,none⟩) hlt id).trans c0;have d2:=(hU4.cell (p:=⟨l,2,none⟩) hlt id).trans c2;have d3:=(hU4.cell (p:=⟨l,3,none⟩) hlt id).trans c3;have d4:=(hU4.cell (p:=⟨l,4,none⟩) hlt id).trans c4;have d5:=(hU4.cell (p:=⟨l,5,none⟩) hlt id).trans c5;have d6:=(hU4.cell (p:=⟨l,6,none⟩) hlt id).trans c6;have d7:=(hU4.cell (p:=⟨l,7,none⟩) hlt id).trans c7;obtain⟨bi,pi,hbi,hpi,_,hcel⟩:=HCE.out i (qlr _)
  have hpq:pi=q:=by
   have:=HX.out;rw[hbi]at this;rw[←hq,←Option.some.inj this]
  subst hpq;have di:=(hU4.cell (p:=⟨g,i * 18+17,none⟩) hgl id).trans hcel;clear hU4 HOF HF1 HF2 c0 c2 c3 c4 c5 c6 c7 hcel hbi;go_wp2_with fail
  go_region
  all_goals
   go_wp2_with fail
   go_loopw [9] (fun s9 wr=>∃j:Nat,s9= .int .i64 (j:Int)∧j≤n0∧wr=wc.drew) (fun s9 _=>n0 - (intOf s9).toNat)
   case atStart=>exact⟨0,rfl,Nat.zero_le _,rfl⟩
   case round=>
    obtain⟨j,rfl,hj,rfl⟩:=hrel;have hji:=hni1.out;have hjI:(j:Int)<(N:Int):=by omega
    have hjI2:(j:Int)≤100000:=by omega
    obtain⟨bj,pj,hbj,hpj,_,hcj⟩:=HCE.out j (by omega)
    have dj:=(HU4.out.cell (p:=⟨g,j * 18+17,none⟩) hgl id).trans hcj;by_cases hjn:j<n0
    ·have hlt2:(pj:Int)<(pi:Int):=by
      have:=markN_before _ _ _ _ hbj (by rw[HN0.out];exact hjn)
      simp only at this;omega
     have HJN:=qh hjn;clear hbj hpj hcj hjn hj hji;go_wp2_with fail
     go_roundw
     case rel=>exact⟨j+1,by go_num,HJN.out,by first | rfl | trivial⟩
     case measure=>
      have:=HJN.out;simp only[intOf];omega
    ·have hje:j=n0:=by omega
     subst hje
     have hnl:¬(pj:Int)<(pi:Int):=by
      have:=markN_at S.items pi (bj,pj) (by rw[HN0.out];exact hbj)
      simp only at this;omega
     clear hbj hpj hcj hjn hj hji;go_upto_region 11 with(fail)
     have hBm:=(Blk.new wc 81 #[.int .i64 S.m.gen,.int .i64 S.m.inc,.int .i64 S.m.first,.int .i64 (lsn:Int),.int .i64 S.m.check]).drew;have hUm:Upd Nowhere wc (wc.alloc (.cells #[.int .i64 S.m.gen,.int .i64 S.m.inc,.int .i64 S.m.first,.int .i64 (lsn:Int),.int .i64 S.m.check] 81)).drew:=((Upd.refl Nowhere wc).alloc _).drew;generalize (wc.alloc (.cells #[.int .i64 S.m.gen,.int .i64 S.m.inc,.int .i64 S.m.first,.int .i64 (lsn:Int),.int .i64 S.m.check] 81)).drew=wm at*;have hwcs:Hid (w1.heap.size≤wc.heap.size):=qh HU4.out.size;have HUM:=qh hUm;generalize hgm:wc.heap.size=gm at*;have m0:=hBm.cell 0;have m2:=hBm.cell 2;have m3:=hBm.cell 3;have m4:=hBm.cell 4;have q0:=hBm.frozen 0;have q2:=hBm.frozen 2;have q3:=hBm.frozen 3;have q4:=hBm.frozen 4;have hltm:=hBm.lt;simp only[qA,qZ,qS]at m0 m2 m3 m4;have hgI:1≤S.m.gen∧S.m.gen≤100000:=by have:=HB.out.gen;omega
     obtain⟨hg1,hg2⟩:=hgI;have hlI:(lsn:Int)≤100000:=by have:=HB.out.lsn;have:=HLS.out;omega
     have hjI3:(j:Int)≤100000:=by omega
     have HBM:=qh hBm;clear hBm hUm d0 d2 d3 d4 d5 d6 d7 di dj;obtain⟨gen,hgen⟩:∃gen,S.m.gen=gen:=⟨_,rfl⟩;rw[hgen]at m0 hg1 hg2 ⊢;have HGEN:=qh hgen;clear hgen;go_upto_region 13 with(fail)
     have hu13:Upd (fun k=>k=gm) wm ((((wm.setCell ⟨gm,0,none⟩ (.int .i64 (gen+1))).setCell ⟨gm,2,none⟩ (.int .i64 (pi:Int))).setCell ⟨gm,3,none⟩ (.int .i64 ((lsn:Int)+(j:Int)))).setCell ⟨gm,4,none⟩ (.int .i64 check)):=((((Upd.refl (fun k=>k=gm) wm).setCell (p:=⟨gm,0,none⟩) (fun _=>rfl) _).setCell (p:=⟨gm,2,none⟩) (fun _=>rfl) _).setCell (p:=⟨gm,3,none⟩) (fun _=>rfl) _).setCell (p:=⟨gm,4,none⟩) (fun _=>rfl) _
     have hB13:=(((HBM.out.set_ 0 (.int .i64 (gen+1))).set_ 2 (.int .i64 (pi:Int))).set_ 3 (.int .i64 ((lsn:Int)+(j:Int)))).set_ 4 (.int .i64 check);generalize (((wm.setCell ⟨gm,0,none⟩ (.int .i64 (gen+1))).setCell ⟨gm,2,none⟩ (.int .i64 (pi:Int))).setCell ⟨gm,3,none⟩ (.int .i64 ((lsn:Int)+(j:Int)))).setCell ⟨gm,4,none⟩ (.int .i64 check)=wn at*;have hUn:Upd Nowhere w1 wn:=(HU4.out.same HUM.out).trans hu13 fun k hk e=>by have:=hwcs.out;omega
     have hLn:=HH.out.up hUn;obtain⟨M,hMd⟩:∃M,S.markM check keep=M:=⟨_,rfl⟩
     have hMe:M.arr=#[.int .i64 (gen+1),.int .i64 S.m.inc,.int .i64 (pi:Int),.int .i64 ((lsn:Int)+(j:Int)),.int .i64 check]:=by
      rw[←hMd];unfold LogS.markM;rw[HQD.out,HN0.out,HGEN.out,HLS.out];rfl
     have hsv:∀w',Upd Nowhere wn w'→_:=fun w' hu=>save_ok (hLn.dk.up hu) HB.out.dfu (by have:=HB.out.dsy;omega) (by have:=HB.out.dsz;omega) HB.out.dln (by have:=HB.out.dpl;omega) M (by rw[←hMd];exact HM.out)
     rw[hMe]at hsv;obtain⟨xr,hxr⟩:∃xr,(S.dk.save M).2=xr:=⟨_,rfl⟩;rw[hxr]at hsv;have HSV:=qh hsv;have HLN:=qh hLn;have HUN:=qh hUn;have HXR:=qh hxr;have HMD:=qh hMd;have HB13:=qh hB13;obtain⟨_,_,_,hbxn,_⟩:=hLn.ex;have hSS:∀W,W.cell? ⟨l,0,none⟩=some (.pointer (some ⟨p.d,0,none⟩))→Blk W gm 81 #[.int .i64 (gen+1),.int .i64 S.m.inc,.int .i64 (pi:Int),.int .i64 ((lsn:Int)+(j:Int)),.int .i64 check]→W.cell? ⟨l,0,none⟩=some (.pointer (some ⟨p.d,0,none⟩))∧W.cell? ⟨gm,0,none⟩=some (.int .i64 (gen+1))∧W.cell? ⟨gm,1,none⟩=some (.int .i64 S.m.inc)∧W.cell? ⟨gm,2,none⟩=some (.int .i64 (pi:Int))∧W.cell? ⟨gm,3,none⟩=some (.int .i64 ((lsn:Int)+(j:Int)))∧W.cell? ⟨gm,4,none⟩=some (.int .i64 check):=fun W h1 h2=>⟨h1,h2.cell 0,h2.cell 1,h2.cell 2,h2.cell 3,h2.cell 4⟩
     have hB13':Blk wn gm 81 #[.int .i64 (gen+1),.int .i64 S.m.inc,.int .i64 (pi:Int),.int .i64 ((lsn:Int)+(j:Int)),.int .i64 check]:=by
      have:=hB13
      simpa [Array.setIfInBounds] using this
     have HB13:=qh hB13';have HSS:=qh hSS;have kn:=hSS wn.drew (hbxn.drew.cell 0) hB13'.drew;have hgml:Hid (w1.heap.size≤gm):=hwcs;clear hu13 hB13 hUn hLn hMd hMe hsv hxr hbxn hSS hB13' m0 m2 m3 m4 q0 q2 q3 q4 hltm
     go_region_held3 (fun W=>W.cell? ⟨l,0,none⟩=some (.pointer (some ⟨p.d,0,none⟩))∧W.cell? ⟨gm,0,none⟩=some (.int .i64 (gen+1))∧W.cell? ⟨gm,1,none⟩=some (.int .i64 S.m.inc)∧W.cell? ⟨gm,2,none⟩=some (.int .i64 (pi:Int))∧W.cell? ⟨gm,3,none⟩=some (.int .i64 ((lsn:Int)+(j:Int)))∧W.cell? ⟨gm,4,none⟩=some (.int .i64 check)) (first | with_reducible exact kn | with_reducible exact k5 | with_reducible exact k6)
      (first
        | (go_at_call 45
           refine HMT.out.mono ?_;rintro e w6 ⟨rfl,hL6,hU6⟩;obtain⟨_,_,_,hbx6,_⟩:=hL6.ex;have hB6:=HB5.out.upd hU6 (HB5.out.noLog rfl);have k6:=HSS.out w6 (hbx6.cell 0) hB6;have HL6:=qh hL6;have HU6:=qh (HU5.out.logs hU6);have HB6:=qh hB6;clear hL6 hU6 hbx6 hB6)
        | (go_at_call 58
           refine(HSV.out _ (Upd.refl _ _).drew).mono ?_;rintro e w5 ⟨v',rfl,hD5,hU5,hN5⟩;have hLd:=HLN.out.up (Upd.refl _ wn).drew;have hL5:=hLd.disk (p':=p.at_ v') rfl hU5 hD5 (hLd.far hN5);have hB5:=HB13.out.drew.upd hU5 (fun e=>by have:=HH.out.dk.lt _ e;have:=hgml.out;omega)
           obtain⟨_,_,_,hbx5,_⟩:=hL5.ex;have k5:=HSS.out w5 (hbx5.cell 0) hB5;have hmt:=met_ok hL5 xr;have HMT:=qh hmt;have HB5:=qh hB5;have HU5:=qh ((HUN.out.drew.any:Upd (LogF bz w1) w1 wn.drew).logs (hLd.foot hU5));clear hD5 hU5 hN5 hLd hL5 hB5 hbx5 hmt))
     all_goals
      have hdn:(S.down || xr == 40)=(xr == 40):=by rw[hd];rfl
      by_cases hx0:xr=0
      ·subst hx0;have hL6:=HL6.out;rw[hdn]at hL6;obtain⟨A6,c6,its6,hbx6,hO6,hl6,hits6⟩:=hL6.ex;have l2:=hbx6.cell 2;have l3:=hbx6.cell 3;have l4:=hbx6.cell 4;have l5:=hbx6.cell 5;have l6:=hbx6.cell 6;have r2:=hbx6.frozen 2;have r3:=hbx6.frozen 3;have r4:=hbx6.frozen 4;have r5:=hbx6.frozen 5;have r6:=hbx6.frozen 6;have hltl:=hbx6.lt;have hltm6:=HB6.out.lt;simp only[qA,qZ,qS]at l2 l3 l4 l5 l6;clear hbx6 hO6 hl6 hits6 kn k5;go_upto_region 17 with(fail)
       have hL7:=hL6.setBox 2 (.int .i64 (gen+1)) (S':={ S with dk:=(S.dk.save M).1,down:=false,m:=⟨gen+1,S.m.inc,S.m.first,S.m.lsn,S.m.check⟩ }) ⟨rfl,rfl⟩ (fun v=>rfl)
       have hL8:=hL7.1.setBox 3 (.int .i64 S.m.inc) (S':={ S with dk:=(S.dk.save M).1,down:=false,m:=⟨gen+1,S.m.inc,S.m.first,S.m.lsn,S.m.check⟩ }) ⟨rfl,rfl⟩ (fun v=>rfl)
       have hL9:=hL8.1.setBox 4 (.int .i64 (pi:Int)) (S':={ S with dk:=(S.dk.save M).1,down:=false,m:=⟨gen+1,S.m.inc,(pi:Int),S.m.lsn,S.m.check⟩ }) ⟨rfl,rfl⟩ (fun v=>rfl)
       have hL10:=hL9.1.setBox 5 (.int .i64 ((lsn:Int)+(j:Int))) (S':={ S with dk:=(S.dk.save M).1,down:=false,m:=⟨gen+1,S.m.inc,(pi:Int),(lsn:Int)+(j:Int),S.m.check⟩ }) ⟨rfl,rfl⟩ (fun v=>rfl)
       have hL11:=hL10.1.setBox 6 (.int .i64 check) (S':={ S with dk:=(S.dk.save M).1,down:=false,m:=⟨gen+1,S.m.inc,(pi:Int),(lsn:Int)+(j:Int),check⟩ }) ⟨rfl,rfl⟩ (fun v=>rfl)
       have hU16:Upd (LogF bz w1) w1 _:=((((HU6.out.logs hL7.2).logs hL8.2).logs hL9.2).logs hL10.2).logs hL11.2;have hL16:=hL11.1;clear hL7 hL8 hL9 hL10 hL11 hL6;generalize ((((w6.setCell ⟨l,2,none⟩ (.int .i64 (gen+1))).setCell ⟨l,3,none⟩ (.int .i64 S.m.inc)).setCell ⟨l,4,none⟩ (.int .i64 (pi:Int))).setCell ⟨l,5,none⟩ (.int .i64 ((lsn:Int)+(j:Int)))).setCell ⟨l,6,none⟩ (.int .i64 check)=w16 at*;clear l2 l3 l4 l5 l6 r2 r3 r4 r5 r6 hltl hltm6;obtain⟨A6,c6,its6,hbx6,hO6,hl6,hits6⟩:=hL16.ex;have hl6N:its6.length=N:=hl6.trans HHN.out;obtain⟨g6,rfl,_⟩:=hO6.addr (by intro e;rw[e]at hl6N;simp at hl6N;omega)
       obtain⟨_,_,hcap,hcc⟩:=hO6.cap
       have hNc:N≤c6:=by
        injection hcap with _ _ e3
        subst e3;omega
       have hjN:j≤N:=by omega
       have hElj:Els 18 itemC w16 (.slice (some ⟨g6,j * 18,none⟩) (N - j) (c6 - j)) (its6.drop j):=by
        have hb6:=hO6.lt (k:=g6) rfl;have:=Els.part itemC_len hO6.els j (N - j) (by omega) (c':=c6 - j) (by omega) hb6
        rw[Nat.zero_add,List.take_of_length_le (by rw[qld];omega)]at this
        exact this
       obtain⟨A9,c9,w17,hrun17,hO17,hu17⟩:=app_new item_row w16 hElj (by rw[qld];have:=HB.out.len;have:=HHN.out;omega)
       rw[qld,hl6N]at hrun17 hO17;have hbx17:=hbx6.upd hu17 id;have e7:=(hbx6.alloc (.cells #[] 91)).cell 7;have e8:=hbx17.cell 8;have f7:=hbx17.frozen 7;have f8:=hbx17.frozen 8;have v7:=hbx17.cell 7;simp only[qA,qZ,qS,hl6N]at e7 e8 v7;have hlt17:=hbx17.lt;have hlt16:=hbx6.lt;have hNcI:(N:Int)≤(c6:Int):=by omega
       have hjNI:(j:Int)≤(N:Int):=by omega
       have hfI:(S.forced:Int)≤100000:=by have:=HB.out.frc;have:=HHN.out;omega
       have hfI2:(j:Int)≤(S.forced:Int):=by have:=hi1.out;have:=hni1.out;omega
       have HRUN:=qh hrun17;have HO17:=qh hO17;have HBX17:=qh hbx17;have HU17:=qh hu17;have HL16:=qh hL16;have HU16:=qh hU16;have HITS:=qh hits6;have HL6N:=qh hl6N;clear hrun17 hO17 hbx17 hu17 hL16 hU16 hits6 hl6N hbx6 hO6 hl6 hcap hcc hElj hNc hjN;go_wp2_with (first | (refine wpList_append_run rfl _ _ _ rfl rfl rfl HRUN.out ?_))
       go_ret
       have hMe2:M=⟨gen+1,S.m.inc,(pi:Int),(lsn:Int)+(j:Int),check⟩:=by
        rw[←HMD.out];unfold LogS.markM;rw[HQD.out,HN0.out,HGEN.out,HLS.out]
       have hR:S.markS check keep=({ S with dk:=(S.dk.save M).1,m:=M,items:=S.items.drop j,forced:=S.forced - j },0):=by
        unfold LogS.markS;rw[HMD.out,HQD.out,HN0.out];simp only;rw[HXR.out,if_neg (by simp)]
       rw[hR];have hs7:=Upd.one w17 l 7 (.slice A9 (N - j) c9);have hs8:=Upd.one (w17.setCell ⟨l,7,none⟩ (.slice A9 (N - j) c9)) l 8 (.int .i64 ((S.forced:Int) - (j:Int)));have hs:=hs7.same hs8;have hdl:(its6.drop j).length=N - j:=by rw[qld,HL6N.out]
       have hfj:((S.forced - j:Nat):Int)=(S.forced:Int) - (j:Int):=by omega
       have h8:NoU8 (fun k=>k=l) w17:=noU8_blk HBX17.out (by decide)
       refine⟨p.at_ v',rfl,rfl,⟨⟨A9,c9,its6.drop j,?_,?_,?_,?_⟩,?_,HL16.out.hl,HL16.out.pf,HL16.out.hz⟩,?_⟩
       ·have:=(HBX17.out.set_ 7 (.slice A9 (N - j) c9)).set_ 8 (.int .i64 ((S.forced:Int) - (j:Int)));rw[hMe2,hdl];simp only;rw[hfj]
        simpa [Array.setIfInBounds,hd] using this
       ·rw[hdl];refine(HO17.out.upd hs fun k hk e=> ?_).far fun k hk=> ?_
        ·have:=HO17.out.new k hk;have e:k=l:=e;omega
        ·have:=HO17.out.new k hk;have:=HL16.out.hl;omega
       ·simp only;rw[hdl,qld,HHN.out]
       ·intro a y b' q' hy hq';simp only at hq';rw[List.getElem?_drop]at hy hq';obtain⟨h1,h2,h3⟩:=HITS.out (j+a) y b' q' hy hq';exact⟨(h1.upd HU17.out fun _ _=>id).upd hs fun k hk e=>h8 k e ((h2 k hk).upd HU17.out id),fun k hk=>((h2 k hk).upd HU17.out id).upd hs fun e=>h8 k e ((h2 k hk).upd HU17.out id),h3⟩
       ·exact(HL16.out.dk.up HU17.out).upd hs fun k hk e=>HL16.out.notBox k hk e
       ·exact(HU16.out.same HU17.out.any).trans hs fun k hk e=>by
         have e:k=l:=e;subst e;exact HH.out.box
      ·have hx1:(xr == 0)=false:=beq_eq_false_iff_ne.2 hx0;have HX0:=qh hx0;clear kn k5 hx0;go_wp2_with fail
       go_ret
       have hR:S.markS check keep=({ S with dk:=(S.dk.save M).1,down:=xr == 40 },xr):=by
        unfold LogS.markS;rw[HMD.out];simp only;rw[HXR.out,if_pos HX0.out]
       rw[hR];have hL6:=HL6.out;rw[hdn]at hL6;exact⟨p.at_ v',rfl,rfl,hL6,HU6.out⟩
end Go.Proofs.YtljmmkjdlcfkpaaGreatDoor
