/-
  Layer 9: a log that need not be empty is opened.
-/
import Derived.Test.YtljmmkjdlcfkpaaGreatDoorQWuA
set_option maxRecDepth 100000
set_option maxHeartbeats 4000000
namespace Go.Proofs.YtljmmkjdlcfkpaaGreatDoor
open Go Go.RowKit
def OpnP(bz:Nat)(p:DkP)(D:DiskS)(count f:Nat)(L:List SheetS)(m':MastS)(w:World)(e:Ending)(w':World):Prop:=∃(l:Nat) (v':Value),e= .returned (.tuple #[.pointer (some ⟨l,0,none⟩),.int .i64 0])∧
 LogAt bz w' l (p.at_ v') ⟨(D.save m').1,count,m',placedAt f (findB L),(findB L).length,f+L.length,0,false⟩∧Upd (LogF bz w) w w'∧w.heap.size≤l∧NewV w p.v v'
theorem openn_ok{bz:Nat}{w:World}{p:DkP}{D:DiskS}(h:DiskAt w p D)(hz:0<bz)(hbw:bz≤w.heap.size)(hpf:∀k,p.foot k→bz≤k)(count:Nat)(h1:8≤count)(h2:count≤300)(h3:count+2≤D.size)(h4:D.size≤4096)(hd:D.down=false)(hfu:D.fuse≤9223372036854775807)(hsy:0≤D.syncs∧D.syncs≤3000000000)(hl:∀n:Int,(D.read n).length=256)(hpl:D.pend.length≤80000)
 (f:Nat) (hf:D.load.first=(f:Int)) (hfl:f≤1000000) (hg:0<D.load.gen∧D.load.gen≤1000000) (hi:0≤D.load.inc∧D.load.inc≤1000000) {L:List SheetS} (hL:sheetsGo D count D.load.inc count 0 f=L) (hdt:∀s∈L,s.data.length≤242) (hdz:∀x∈findB L,DecZ x.1∧x.1.length≤4096∧x.2≤300) (hbn:(findB L).length≤20000) (hW:HalfW w) (m':MastS) (hm':m'={ D.load with gen:=D.load.gen+1,inc:=D.load.inc+1 }) (hmay:m'.may=true) (hsv:(D.save m').2=0):
 Calls Tryz.prog 28 #[.pointer (some ⟨p.d,0,none⟩),.int .i64 (count:Int)] w (OpnP bz p D count f L m' w):=by
 have hr:=right_ok h count h1 h2 h3 h4;have hld:=mload_ok h hd (by omega) hl (by omega)
 have hsave:∀w',DiskAt w' p D→Calls Tryz.prog 58 #[.pointer (some ⟨p.d,0,none⟩),.agg m'.arr] w' (PutP p (D.save m').1 (D.save m').2 w'):=fun w' h'=>save_ok h' hfu hsy (by omega) hl hpl m' hmay
 rw[hsv]at hsave;generalize hDS:(D.save m').1=D' at*;have hrd:∀w' (l:Nat),LogAt bz w' l p ⟨D,count,D.load,[],0,0,0,false⟩→HalfW w'→Calls Tryz.prog 57 #[.pointer (some ⟨l,0,none⟩)] w' fun e w''=>e= .returned (.int .i64 0)∧LogAt bz w'' l p ⟨D,count,D.load,placedAt f (findB L),(findB L).length,f+L.length,0,false⟩∧Upd (LogF bz w') w' w'':=fun w' l hLA hW'=>readn_ok hLA h1 h2 h3 hd hl rfl rfl f hf hfl hL hdt hdz hbn hW'
 have HR:=qh hr;have HLD:=qh hld;have HSV:=qh hsave;have HRD:=qh hrd;have HD:=qh h;have HPF:=qh hpf;have HW:=qh hW;have HZ:=qh hz;have HBW:=qh hbw;have HDS:=qh hDS;have a1:(count:Int)≤300:=by omega
 obtain⟨m,hm⟩:∃m,D.load=m:=⟨_,rfl⟩;rw[hm]at HLD HRD hg hi hm';unfold OpnP;simp only[HDS.out];clear hr hld hsave hrd h hpf hz hbw h1 h2 h3 h4 hd hfu hsy hl hpl hf hfl hL hdt hdz hbn hW hDS hsv hm hmay;subst hm';obtain⟨gen,inc,first,lsn,check⟩:=m;simp only at hg hi HSV HLD;obtain⟨g1,g2⟩:=hg;obtain⟨i1,i2⟩:=hi;unfold MastS.arr at HLD HSV;simp only at HLD HSV;go_enter Tryz.func28,Tryz.ntmps28
 go_wp2_with fail
 refine HR.out.mono ?_;rintro e w1 ⟨rfl,rfl⟩;go_wp2_with fail
 refine HLD.out.mono ?_;rintro e w2 ⟨rfl,hU2⟩;have HU2:=qh hU2;clear hU2;have hz:(w2.alloc (.cells #[.int .i64 gen,.int .i64 inc,.int .i64 first,.int .i64 lsn,.int .i64 check] 81)).heap.size=w2.heap.size+1:=by simp
 have hUa:=((Upd.refl Nowhere w2).alloc (.cells #[.int .i64 gen,.int .i64 inc,.int .i64 first,.int .i64 lsn,.int .i64 check] 81)).alloc (.cells #[.pointer (some ⟨p.d,0,none⟩),.int .i64 (count:Int),.int .i64 gen,.int .i64 inc,.int .i64 first,.int .i64 lsn,.int .i64 check,.slice none 0 0,.int .i64 0,.int .i64 0,.int .i64 0,.bool false] 84);have hBm:=(Blk.new w2 81 #[.int .i64 gen,.int .i64 inc,.int .i64 first,.int .i64 lsn,.int .i64 check]).alloc (.cells #[.pointer (some ⟨p.d,0,none⟩),.int .i64 (count:Int),.int .i64 gen,.int .i64 inc,.int .i64 first,.int .i64 lsn,.int .i64 check,.slice none 0 0,.int .i64 0,.int .i64 0,.int .i64 0,.bool false] 84);have hBl:=Blk.new' (w2.alloc (.cells #[.int .i64 gen,.int .i64 inc,.int .i64 first,.int .i64 lsn,.int .i64 check] 81)) 84 #[.pointer (some ⟨p.d,0,none⟩),.int .i64 (count:Int),.int .i64 gen,.int .i64 inc,.int .i64 first,.int .i64 lsn,.int .i64 check,.slice none 0 0,.int .i64 0,.int .i64 0,.int .i64 0,.bool false] hz.symm;have HBM:=qh hBm;have HBL:=qh hBl;have HUA:=qh (HU2.out.same hUa);clear hUa hBm hBl hz;go_wp2_with fail
 generalize (w2.alloc (.cells #[.int .i64 gen,.int .i64 inc,.int .i64 first,.int .i64 lsn,.int .i64 check] 81)).alloc (.cells #[.pointer (some ⟨p.d,0,none⟩),.int .i64 (count:Int),.int .i64 gen,.int .i64 inc,.int .i64 first,.int .i64 lsn,.int .i64 check,.slice none 0 0,.int .i64 0,.int .i64 0,.int .i64 0,.bool false] 84)=wa at*;have hplt:p.d<w1.heap.size:=HD.out.lt _ (.inl rfl);have hbw:=HBW.out;have hz:=HZ.out;have hsz2:=HU2.out.size;have hLa:LogAt bz wa (w2.heap.size+1) p ⟨D,count,⟨gen,inc,first,lsn,check⟩,[],0,0,0,false⟩:=⟨⟨none,0,[],HBL.out,OwnR.nil _ _ _ _ _,rfl,fun i x b q hx=>by simp at hx⟩,HD.out.up HUA.out,by omega,HPF.out,HZ.out⟩
 have hread:=HRD.out wa (w2.heap.size+1) hLa (HW.out.upd HUA.out id);have HREAD:=qh hread;clear hLa hread;refine HREAD.out.mono ?_;rintro e w5 ⟨rfl,hL5,hU5⟩;have hBm5:=HBM.out.upd hU5 (HBM.out.noLog rfl);obtain⟨A5,c5,its5,hb5,_,hn5,_⟩:=hL5.ex;have m0:=hBm5.cell 0;have m1:=hBm5.cell 1;have m2:=hBm5.cell 2;have m3:=hBm5.cell 3;have m4:=hBm5.cell 4;have q0:=hBm5.frozen 0;have q1:=hBm5.frozen 1;have hltm:=hBm5.lt;simp only[qA,qZ,qS]at m0 m1 m2 m3 m4;have hu6:=((Upd.refl (fun k=>k=w2.heap.size) w5).setCell (p:=⟨w2.heap.size,0,none⟩) (fun _=>rfl) (.int .i64 (gen+1))).setCell (p:=⟨w2.heap.size,1,none⟩) (fun _=>rfl) (.int .i64 (inc+1))
 have hD6:DiskAt ((w5.setCell ⟨w2.heap.size,0,none⟩ (.int .i64 (gen+1))).setCell ⟨w2.heap.size,1,none⟩ (.int .i64 (inc+1))) p D:=hL5.dk.upd hu6 fun k hk e=>by
  have:=HD.out.lt k hk;omega
 have hB6:=(hBm5.set_ 0 (.int .i64 (gen+1))).set_ 1 (.int .i64 (inc+1));have hb6:=hb5.upd hu6 (by omega)
 have hsave:=HSV.out _ hD6;have HSAVE:=qh hsave;have HB6:=qh hB6;have Hb6:=qh hb6;have HU6:=qh hu6;have HU5:=qh hU5;have hL6:LogAt bz ((w5.setCell ⟨w2.heap.size,0,none⟩ (.int .i64 (gen+1))).setCell ⟨w2.heap.size,1,none⟩ (.int .i64 (inc+1))) (w2.heap.size+1) p ⟨D,count,⟨gen,inc,first,lsn,check⟩,placedAt f (findB L),(findB L).length,f+L.length,0,false⟩:=hL5.upd hu6 (fun k e=>by rw[e];exact hBm5.noLog rfl) (noU8_blk hBm5 (by decide))
 have HL6:=qh hL6;clear hL6;clear hL5 hU5 hBm5 hb5 hn5 hu6 hD6 hB6 hb6 hsave HREAD;go_wp2_with fail
 refine HSAVE.out.mono ?_;rintro e w7 ⟨v',rfl,hD7,hU7,hN7⟩;have hnl:¬p.foot (w2.heap.size+1):=fun e=>by have:=HD.out.lt _ e;omega
 have hnm:¬p.foot w2.heap.size:=fun e=>by have:=HD.out.lt _ e;omega
 have hb7:=Hb6.out.upd hU7 hnl;have hm7:=HB6.out.upd hU7 hnm;have m0:=hm7.cell 0;have m1:=hm7.cell 1;have m2:=hm7.cell 2;have m3:=hm7.cell 3;have m4:=hm7.cell 4;have l2:=hb7.cell 2;have l3:=hb7.cell 3;have l4:=hb7.cell 4;have l5:=hb7.cell 5;have l6:=hb7.cell 6;have r2:=hb7.frozen 2;have r3:=hb7.frozen 3;have r4:=hb7.frozen 4;have r5:=hb7.frozen 5;have r6:=hb7.frozen 6;have hltm7:=hm7.lt;have hltl7:=hb7.lt;simp only[qA,qZ,qS,Array.setIfInBounds]at m0 m1 m2 m3 m4 l2 l3 l4 l5 l6;simp at m0 m1 m2 m3 m4;have HB7:=qh hb7;have HD7:=qh hD7;have HU7:=qh hU7;have HN7:=qh hN7;clear hb7 hm7 hD7 hU7 hN7 HSAVE;go_wp2_with fail
 go_ret2
 have hL7:=HL6.out.disk (p':=p.at_ v') rfl HU7.out HD7.out (fun k hk=>by
  rcases hk with e | e | e | e
  ·exact HPF.out k (.inl e)
  ·exact HPF.out k (.inr (.inl e))
  ·exact HPF.out k (.inr (.inr (.inl e)))
  ·rcases HN7.out k e with e | e
   ·exact HPF.out k (.inr (.inr (.inr e)))
   ·have:=HU5.out.size;have:=HUA.out.size
    have e1:w5.heap.size≤k:=by
     have:=HU6.out.size;omega
    omega)
 have hL8:=hL7.setBox 2 (.int .i64 (gen+1)) (S':=⟨D',count,⟨gen+1,inc,first,lsn,check⟩,placedAt f (findB L),(findB L).length,f+L.length,0,false⟩) ⟨rfl,rfl⟩ (fun v=>rfl)
 have hL9:=hL8.1.setBox 3 (.int .i64 (inc+1)) (S':=⟨D',count,⟨gen+1,inc+1,first,lsn,check⟩,placedAt f (findB L),(findB L).length,f+L.length,0,false⟩) ⟨rfl,rfl⟩ (fun v=>rfl)
 have hL10:=hL9.1.setBox 4 (.int .i64 first) (S':=⟨D',count,⟨gen+1,inc+1,first,lsn,check⟩,placedAt f (findB L),(findB L).length,f+L.length,0,false⟩) ⟨rfl,rfl⟩ (fun v=>rfl)
 have hL11:=hL10.1.setBox 5 (.int .i64 lsn) (S':=⟨D',count,⟨gen+1,inc+1,first,lsn,check⟩,placedAt f (findB L),(findB L).length,f+L.length,0,false⟩) ⟨rfl,rfl⟩ (fun v=>rfl)
 have hL12:=hL11.1.setBox 6 (.int .i64 check) (S':=⟨D',count,⟨gen+1,inc+1,first,lsn,check⟩,placedAt f (findB L),(findB L).length,f+L.length,0,false⟩) ⟨rfl,rfl⟩ (fun v=>rfl)
 have hs1:=HUA.out.size;refine⟨w2.heap.size+1,v',rfl,hL12.1,?_,by omega,?_⟩
 ·have hu8:=(((((Upd.refl (fun k=>k=w2.heap.size+1) w7).setCell (p:=⟨w2.heap.size+1,2,none⟩) (fun _=>rfl) (.int .i64 (gen+1))).setCell (p:=⟨w2.heap.size+1,3,none⟩) (fun _=>rfl) (.int .i64 (inc+1))).setCell (p:=⟨w2.heap.size+1,4,none⟩) (fun _=>rfl) (.int .i64 first)).setCell (p:=⟨w2.heap.size+1,5,none⟩) (fun _=>rfl) (.int .i64 lsn)).setCell (p:=⟨w2.heap.size+1,6,none⟩) (fun _=>rfl) (.int .i64 check)
  have a5:Upd (LogF bz w1) w1 w5:=(HUA.out.any:Upd (LogF bz w1) w1 wa).logs HU5.out;have a6:=a5.trans HU6.out fun k hk e=>by omega
  have hdk6:=HL6.out.dk;have a7:=a6.logs (HU7.out.mono fun k _ hk=>hdk6.logF HPF.out k hk)
  exact a7.trans hu8 fun k hk e=>by omega
 ·intro k hk
  rcases HN7.out k hk with e | e
  ·exact .inl e
  ·have:=HU5.out.size;have:=HUA.out.size;have:=HU6.out.size;exact .inr (by omega)
end Go.Proofs.YtljmmkjdlcfkpaaGreatDoor
