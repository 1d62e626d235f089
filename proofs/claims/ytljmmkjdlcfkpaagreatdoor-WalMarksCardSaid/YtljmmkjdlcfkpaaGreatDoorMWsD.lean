/-
  trothref07.sameLists, Same of equal records.
-/
import Derived.Test.YtljmmkjdlcfkpaaGreatDoorMWsB
import Derived.Test.YtljmmkjdlcfkpaaGreatDoorMWqH
set_option maxRecDepth 100000
set_option maxHeartbeats 4000000
namespace Go.Proofs.YtljmmkjdlcfkpaaGreatDoor
open Go Go.RowKit
theorem samelists_eq{w:World}{x:RecP}{s t:Sls}(hE:RecE w x s)(hF:RecE w x t)(hm:x.mild):Calls Tryz.prog 52 #[.agg (x.rv s).cells.toArray,.agg (x.rv t).cells.toArray] w (BoolP true w):=by
 obtain⟨rs,hr1,hr2,hr3⟩:=hE.row;obtain⟨ds,hd1,hd2,hd3⟩:=hE.dee;obtain⟨rs',hr1',hr2',hr3'⟩:=hF.row;obtain⟨ds',hd1',hd2',hd3'⟩:=hF.dee;have l1:=hE.mem.len;have l2:=hE.loc.len;have l3:=hr1.len;have l4:=hE.dir.len;have l5:=hd1.len;have l6:=hE.pas.len;have l1':=hF.mem.len;have l2':=hF.loc.len;have l3':=hr1'.len;have l4':=hF.dir.len;have l5':=hd1'.len;have l6':=hF.pas.len;have hrl:rs.length=rs'.length:=by have:=congrArg List.length (hr2.trans hr2'.symm);simpa using this
 have hdl:ds.length=ds'.length:=by have:=congrArg List.length (hd2.trans hd2'.symm);simpa using this
 have hr0:rs.length=x.row.length:=by rw[←hr2,qlm]
 have hd0:ds.length=x.dee.length:=by rw[←hd2,qlm]
 have hpm:=hE.pas;have hpm':=hF.pas;have hdm:=hE.dir;have hdm':=hF.dir;have hmm:=hE.mem;have hmm':=hF.mem;have hlm:=hE.loc;have hlm':=hF.loc;have m1:=hm.ml;have m2:=hm.ll;have m3:=hm.rl;have m4:=hm.dl;have m5:=hm.el;have m6:=hm.pl;have mr:=hm.rb;have me:=hm.eb
 have hrow:∀(k:Nat) (y z:RowW),rs[k]? =some y→rs'[k]? =some z→y.p=z.p∧y.old w∧z.old w∧y.p.mem.length≤90000∧y.p.loc.length≤90000:=fun k y z hy hz=>by
  have e1:(rs.map fun q=>q.p)[k]? =some y.p:=by rw[qgm,hy];rfl
  have e2:(rs'.map fun q=>q.p)[k]? =some z.p:=by rw[qgm,hz];rfl
  rw[hr2]at e1;rw[hr2']at e2;rw[e1]at e2;injection e2 with e2
  have:=mr y.p (qmg e1);exact⟨e2,hr3 y (qmg hy),hr3' z (qmg hz),this.1,this.2⟩
 have hdee:∀(k:Nat) (y z:DeedV),ds[k]? =some y→ds'[k]? =some z→y.p=z.p∧Els 1 intC w (slV y.mem) y.p.2∧Els 1 intC w (slV z.mem) z.p.2∧y.p.2.length≤90000:=fun k y z hy hz=>by
  have e1:(ds.map fun q=>q.p)[k]? =some y.p:=by rw[qgm,hy];rfl
  have e2:(ds'.map fun q=>q.p)[k]? =some z.p:=by rw[qgm,hz];rfl
  rw[hd2]at e1;rw[hd2']at e2;rw[e1]at e2;injection e2 with e2
  exact⟨e2,hd3 y (qmg hy),hd3' z (qmg hz),me y.p (qmg e1)⟩
 clear hE hF hm hr2 hr2' hr3 hr3' hd2 hd2' hd3 hd3' mr me;obtain⟨kind,tx,prev,next,key,oh,od,nh,nd,coord,mem,loc,row,dir,dee,pas⟩:=x;obtain⟨⟨a1,n1,ac1⟩,⟨a2,n2,ac2⟩,⟨a3,n3,ac3⟩,⟨a4,n4,ac4⟩,⟨a5,n5,ac5⟩,⟨a6,n6,ac6⟩⟩:=s;obtain⟨⟨b1,n1',bc1⟩,⟨b2,n2',bc2⟩,⟨b3,n3',bc3⟩,⟨b4,n4',bc4⟩,⟨b5,n5',bc5⟩,⟨b6,n6',bc6⟩⟩:=t;simp only[slV]at*;obtain rfl:n1=n1':=by omega
 obtain rfl:n2=n2':=by omega
 obtain rfl:n3=n3':=by omega
 obtain rfl:n4=n4':=by omega
 obtain rfl:n5=n5':=by omega
 obtain rfl:n6=n6':=by omega
 have hP:∀w',Upd Nowhere w w'→Calls Tryz.prog 50 #[.slice a6 n6 ac6,.slice b6 n6 bc6] w' (BoolP true w'):=fun w' hu=>sameints_eq (hpm.up hu) (hpm'.up hu) m6
 have HP:=qh hP;have HROW:=qh hrow;have HDEE:=qh hdee;have HR1:=qh hr1;have HR2:=qh hr1';have HD1:=qh hdm;have HD2:=qh hdm';have HE1:=qh hd1;have HE2:=qh hd1';have L3:=qh l3;have L4:=qh l4;have L5:=qh l5;have HRL:=qh hrl;have HDL:=qh hdl;have i3:((n3:Nat):Int)≤90000:=by omega
 have i4:((n4:Nat):Int)≤90000:=by omega
 have i5:((n5:Nat):Int)≤90000:=by omega
 clear hP hrow hdee hr1 hr1' hdm hdm' hd1 hd1' l1 l2 l3 l4 l5 l6 l1' l2' l3' l4' l5' l6' hrl hdl hr0 hd0 hpm hpm' hmm hmm' hlm hlm' m1 m2 m3 m4 m5 m6
 show Calls Tryz.prog 52 #[.agg #[.int .i64 kind,.int .i64 tx,.int .i64 prev,.int .i64 next,strV key,.bool oh,strV od,.bool nh,strV nd,.int .i64 coord,.slice a1 n1 ac1,.slice a2 n2 ac2,.slice a3 n3 ac3,.slice a4 n4 ac4,.slice a5 n5 ac5,.slice a6 n6 ac6],.agg #[.int .i64 kind,.int .i64 tx,.int .i64 prev,.int .i64 next,strV key,.bool oh,strV od,.bool nh,strV nd,.int .i64 coord,.slice b1 n1 bc1,.slice b2 n2 bc2,.slice b3 n3 bc3,.slice b4 n4 bc4,.slice b5 n5 bc5,.slice b6 n6 bc6]] w _
 have hU:=((Upd.refl Nowhere w).alloc (.cells #[.int .i64 kind,.int .i64 tx,.int .i64 prev,.int .i64 next,strV key,.bool oh,strV od,.bool nh,strV nd,.int .i64 coord,.slice a1 n1 ac1,.slice a2 n2 ac2,.slice a3 n3 ac3,.slice a4 n4 ac4,.slice a5 n5 ac5,.slice a6 n6 ac6] 38)).alloc (.cells #[.int .i64 kind,.int .i64 tx,.int .i64 prev,.int .i64 next,strV key,.bool oh,strV od,.bool nh,strV nd,.int .i64 coord,.slice b1 n1 bc1,.slice b2 n2 bc2,.slice b3 n3 bc3,.slice b4 n4 bc4,.slice b5 n5 bc5,.slice b6 n6 bc6] 38);have hB1:=(Blk.new w 38 #[.int .i64 kind,.int .i64 tx,.int .i64 prev,.int .i64 next,strV key,.bool oh,strV od,.bool nh,strV nd,.int .i64 coord,.slice a1 n1 ac1,.slice a2 n2 ac2,.slice a3 n3 ac3,.slice a4 n4 ac4,.slice a5 n5 ac5,.slice a6 n6 ac6]).alloc (.cells #[.int .i64 kind,.int .i64 tx,.int .i64 prev,.int .i64 next,strV key,.bool oh,strV od,.bool nh,strV nd,.int .i64 coord,.slice b1 n1 bc1,.slice b2 n2 bc2,.slice b3 n3 bc3,.slice b4 n4 bc4,.slice b5 n5 bc5,.slice b6 n6 bc6] 38);have hB2:=Blk.new' (w.alloc (.cells #[.int .i64 kind,.int .i64 tx,.int .i64 prev,.int .i64 next,strV key,.bool oh,strV od,.bool nh,strV nd,.int .i64 coord,.slice a1 n1 ac1,.slice a2 n2 ac2,.slice a3 n3 ac3,.slice a4 n4 ac4,.slice a5 n5 ac5,.slice a6 n6 ac6] 38)) (g:=w.heap.size+1) 38 #[.int .i64 kind,.int .i64 tx,.int .i64 prev,.int .i64 next,strV key,.bool oh,strV od,.bool nh,strV nd,.int .i64 coord,.slice b1 n1 bc1,.slice b2 n2 bc2,.slice b3 n3 bc3,.slice b4 n4 bc4,.slice b5 n5 bc5,.slice b6 n6 bc6] (by simp)
 have HU:=qh hU;have HB1:=qh hB1;have HB2:=qh hB2;clear hU hB1 hB2;go_enter Tryz.func52,Tryz.ntmps52
 go_wp2_with fail
 refine Calls.mono (HP.out _ HU.out) ?_;generalize (w.alloc (.cells #[.int .i64 kind,.int .i64 tx,.int .i64 prev,.int .i64 next,strV key,.bool oh,strV od,.bool nh,strV nd,.int .i64 coord,.slice a1 n1 ac1,.slice a2 n2 ac2,.slice a3 n3 ac3,.slice a4 n4 ac4,.slice a5 n5 ac5,.slice a6 n6 ac6] 38)).alloc (.cells #[.int .i64 kind,.int .i64 tx,.int .i64 prev,.int .i64 next,strV key,.bool oh,strV od,.bool nh,strV nd,.int .i64 coord,.slice b1 n1 bc1,.slice b2 n2 bc2,.slice b3 n3 bc3,.slice b4 n4 bc4,.slice b5 n5 bc5,.slice b6 n6 bc6] 38)=w1 at*;rintro e w2 ⟨rfl,hU2⟩;have hb1:=HB1.out.upd hU2 id;have hb2:=HB2.out.upd hU2 id;have HU2:=qh (HU.out.same hU2);clear hU2 HP;have HB1':=qh hb1;have HB2':=qh hb2;generalize w.heap.size=bx at*;obtain⟨u0,u1,u2,u3,u4,u5,u6,u7,u8,u9,u10,u11,u12,u13,u14,u15⟩:=hb1.all16;obtain⟨v0,v1,v2,v3,v4,v5,v6,v7,v8,v9,v10,v11,v12,v13,v14,v15⟩:=hb2.all16;clear hb1 hb2;go_wp2_with fail
 go_loopw [5] (fun t wr=>∃k:Nat,t= .int .i64 (k:Int)∧k≤n3∧Upd Nowhere w2 wr) (fun t _=>n3 - (intOf t).toNat)
 case atStart=>exact⟨0,rfl,Nat.zero_le _,Upd.refl _ _⟩
 case round=>
  obtain⟨k,rfl,hk,hu⟩:=hrel;have hx1:=(HB1'.out.upd hu id).cell 12;have hx2:=(HB2'.out.upd hu id).cell 12;simp only[qA,qZ,qS]at hx1 hx2;have hlx1:=(HB1'.out.upd hu id).lt;have hlx2:=(HB2'.out.upd hu id).lt;by_cases hlt:k<n3
  ·have hi:(k:Int)<((n3:Nat):Int):=by omega
   obtain⟨y,hy⟩:∃y,rs[k]? =some y:=⟨_,qeg (by rw[←L3.out];exact hlt)⟩
   obtain⟨z,hz⟩:∃z,rs'[k]? =some z:=⟨_,qeg (by rw[←HRL.out,←L3.out];exact hlt)⟩
   obtain⟨g1,o1,cc1,e1,hg1,hc1⟩:=(HR1.out.up (HU2.out.same hu)).get (fun _=>rfl) hy
   obtain⟨g2,o2,cc2,e2,hg2,hc2⟩:=(HR2.out.up (HU2.out.same hu)).get (fun _=>rfl) hz
   injection e1 with e11 e12 e13
   injection e2 with e21 e22 e23
   subst e11 e21;clear e12 e13 e22 e23;have p0:=hc1 0 (by omega)
   have q0:=hc2 0 (by omega)
   have p1:=hc1 1 (by omega)
   have q1:=hc2 1 (by omega)
   have p2:=hc1 2 (by omega)
   have q2:=hc2 2 (by omega)
   have p3:=hc1 3 (by omega)
   have q3:=hc2 3 (by omega)
   have p4:=hc1 4 (by omega)
   have q4:=hc2 4 (by omega)
   have p5:=hc1 5 (by omega)
   have q5:=hc2 5 (by omega)
   have p6:=hc1 6 (by omega)
   have q6:=hc2 6 (by omega)
   have p7:=hc1 7 (by omega)
   have q7:=hc2 7 (by omega)
   simp only[RowW.cells,slV,qZ,qS,Nat.add_zero]at p0 p1 p2 p3 p4 p5 p6 p7 q0 q1 q2 q3 q4 q5 q6 q7;have hsm:=HROW.out k y z hy hz;have hcal:∀W,Upd Nowhere w2 W→Calls Tryz.prog 87 #[.agg #[.int .i64 y.p.tx,.int .i64 y.p.state,.int .i64 y.p.first,.int .i64 y.p.last,.int .i64 y.p.undo,.int .i64 y.p.coord,.slice y.mem.1 y.mem.2.1 y.mem.2.2,.slice y.loc.1 y.loc.2.1 y.loc.2.2],.agg #[.int .i64 z.p.tx,.int .i64 z.p.state,.int .i64 z.p.first,.int .i64 z.p.last,.int .i64 z.p.undo,.int .i64 z.p.coord,.slice z.mem.1 z.mem.2.1 z.mem.2.2,.slice z.loc.1 z.loc.2.1 z.loc.2.2]] W (BoolP true W):=fun W hW=>samerow_eq (r:=y) (q:=z) ⟨hsm.2.1.1.up (HU2.out.same hW),hsm.2.1.2.up (HU2.out.same hW)⟩ ⟨hsm.2.2.1.1.up (HU2.out.same hW),hsm.2.2.1.2.up (HU2.out.same hW)⟩ hsm.1 hsm.2.2.2.1 hsm.2.2.2.2
   have HCAL:=qh hcal;have HKP:Hid (∀W,Upd Nowhere wr W→W.cell? ⟨bx,12,none⟩=some (.slice (some ⟨g1,o1,none⟩) n3 ac3)∧W.cell? ⟨bx+1,12,none⟩=some (.slice (some ⟨g2,o2,none⟩) n3 bc3)∧W.cell? ⟨g1,o1+k * 8,none⟩=some (.int .i64 y.p.tx)∧W.cell? ⟨g1,o1+k * 8+1,none⟩=some (.int .i64 y.p.state)∧W.cell? ⟨g1,o1+k * 8+2,none⟩=some (.int .i64 y.p.first)∧W.cell? ⟨g1,o1+k * 8+3,none⟩=some (.int .i64 y.p.last)∧W.cell? ⟨g1,o1+k * 8+4,none⟩=some (.int .i64 y.p.undo)∧W.cell? ⟨g1,o1+k * 8+5,none⟩=some (.int .i64 y.p.coord)∧W.cell? ⟨g1,o1+k * 8+6,none⟩=some (.slice y.mem.1 y.mem.2.1 y.mem.2.2)∧W.cell? ⟨g1,o1+k * 8+7,none⟩=some (.slice y.loc.1 y.loc.2.1 y.loc.2.2)∧W.cell? ⟨g2,o2+k * 8,none⟩=some (.int .i64 z.p.tx)∧W.cell? ⟨g2,o2+k * 8+1,none⟩=some (.int .i64 z.p.state)∧W.cell? ⟨g2,o2+k * 8+2,none⟩=some (.int .i64 z.p.first)∧W.cell? ⟨g2,o2+k * 8+3,none⟩=some (.int .i64 z.p.last)∧W.cell? ⟨g2,o2+k * 8+4,none⟩=some (.int .i64 z.p.undo)∧W.cell? ⟨g2,o2+k * 8+5,none⟩=some (.int .i64 z.p.coord)∧W.cell? ⟨g2,o2+k * 8+6,none⟩=some (.slice z.mem.1 z.mem.2.1 z.mem.2.2)∧W.cell? ⟨g2,o2+k * 8+7,none⟩=some (.slice z.loc.1 z.loc.2.1 z.loc.2.2)):=qh fun W hW=>⟨(hW.cell (p:=⟨bx,12,none⟩) hlx1 id).trans hx1,(hW.cell (p:=⟨bx+1,12,none⟩) hlx2 id).trans hx2,(hW.cell (p:=⟨g1,o1+k * 8,none⟩) hg1 id).trans p0,(hW.cell (p:=⟨g1,o1+k * 8+1,none⟩) hg1 id).trans p1,(hW.cell (p:=⟨g1,o1+k * 8+2,none⟩) hg1 id).trans p2,(hW.cell (p:=⟨g1,o1+k * 8+3,none⟩) hg1 id).trans p3,(hW.cell (p:=⟨g1,o1+k * 8+4,none⟩) hg1 id).trans p4,(hW.cell (p:=⟨g1,o1+k * 8+5,none⟩) hg1 id).trans p5,(hW.cell (p:=⟨g1,o1+k * 8+6,none⟩) hg1 id).trans p6,(hW.cell (p:=⟨g1,o1+k * 8+7,none⟩) hg1 id).trans p7,(hW.cell (p:=⟨g2,o2+k * 8,none⟩) hg2 id).trans q0,(hW.cell (p:=⟨g2,o2+k * 8+1,none⟩) hg2 id).trans q1,(hW.cell (p:=⟨g2,o2+k * 8+2,none⟩) hg2 id).trans q2,(hW.cell (p:=⟨g2,o2+k * 8+3,none⟩) hg2 id).trans q3,(hW.cell (p:=⟨g2,o2+k * 8+4,none⟩) hg2 id).trans q4,(hW.cell (p:=⟨g2,o2+k * 8+5,none⟩) hg2 id).trans q5,(hW.cell (p:=⟨g2,o2+k * 8+6,none⟩) hg2 id).trans q6,(hW.cell (p:=⟨g2,o2+k * 8+7,none⟩) hg2 id).trans q7⟩
   clear hcal hsm;have HUK:=qh hu;have HKN:=qh hlt;clear hu hy hz hc1 hc2 hlt hk;go_upto_region 6 with(fail)
   go_cut [59] (fun t wz=>t= .bool false∧Upd Nowhere w2 wz)
   case first=>
    go_region_held3 (fun w'=>w'.cell? ⟨bx,12,none⟩=some (.slice (some ⟨g1,o1,none⟩) n3 ac3)∧w'.cell? ⟨bx+1,12,none⟩=some (.slice (some ⟨g2,o2,none⟩) n3 bc3)∧w'.cell? ⟨g1,o1+k * 8,none⟩=some (.int .i64 y.p.tx)∧w'.cell? ⟨g1,o1+k * 8+1,none⟩=some (.int .i64 y.p.state)∧w'.cell? ⟨g1,o1+k * 8+2,none⟩=some (.int .i64 y.p.first)∧w'.cell? ⟨g1,o1+k * 8+3,none⟩=some (.int .i64 y.p.last)∧w'.cell? ⟨g1,o1+k * 8+4,none⟩=some (.int .i64 y.p.undo)∧w'.cell? ⟨g1,o1+k * 8+5,none⟩=some (.int .i64 y.p.coord)∧w'.cell? ⟨g1,o1+k * 8+6,none⟩=some (.slice y.mem.1 y.mem.2.1 y.mem.2.2)∧w'.cell? ⟨g1,o1+k * 8+7,none⟩=some (.slice y.loc.1 y.loc.2.1 y.loc.2.2)∧w'.cell? ⟨g2,o2+k * 8,none⟩=some (.int .i64 z.p.tx)∧w'.cell? ⟨g2,o2+k * 8+1,none⟩=some (.int .i64 z.p.state)∧w'.cell? ⟨g2,o2+k * 8+2,none⟩=some (.int .i64 z.p.first)∧w'.cell? ⟨g2,o2+k * 8+3,none⟩=some (.int .i64 z.p.last)∧w'.cell? ⟨g2,o2+k * 8+4,none⟩=some (.int .i64 z.p.undo)∧w'.cell? ⟨g2,o2+k * 8+5,none⟩=some (.int .i64 z.p.coord)∧w'.cell? ⟨g2,o2+k * 8+6,none⟩=some (.slice z.mem.1 z.mem.2.1 z.mem.2.2)∧w'.cell? ⟨g2,o2+k * 8+7,none⟩=some (.slice z.loc.1 z.loc.2.1 z.loc.2.2)) (first | exact⟨hx1,hx2,p0,p1,p2,p3,p4,p5,p6,p7,q0,q1,q2,q3,q4,q5,q6,q7⟩ | exact k2)
     (first
       | (go_at_call 87
          refine(HCAL.out _ HUK.out.drew).mono ?_;rintro e w3 ⟨rfl,hU3⟩;have k2:=HKP.out _ ((Upd.refl Nowhere _).drew.same hU3);have HU3:=qh (HUK.out.drew.same hU3);clear hU3))
    all_goals
     go_wp2_with fail
     go_meet;exact⟨rfl,HU3.out⟩
   case rest=>
    obtain⟨rfl,hu⟩:=hcut;have HW:=qh hu;clear hu hx1 hx2 p0 p1 p2 p3 p4 p5 p6 p7 q0 q1 q2 q3 q4 q5 q6 q7;go_wp2_with fail
    go_roundw
    case rel=>exact⟨k+1,by go_num,HKN.out,HW.out⟩
    case measure=>
     have:=HKN.out;simp only[intOf];omega
  ·obtain rfl:n3=k:=by omega
   have HV0:=qh hu;clear hu hk;go_wp2_with fail
   go_loopw [6] (fun t wr=>∃k:Nat,t= .int .i64 (k:Int)∧k≤n4∧Upd Nowhere w2 wr) (fun t _=>n4 - (intOf t).toNat)
   case atStart=>exact⟨0,rfl,Nat.zero_le _,HV0.out⟩
   case round=>
    obtain⟨k,rfl,hk,hu⟩:=hrel;have hx1:=(HB1'.out.upd hu id).cell 13;have hx2:=(HB2'.out.upd hu id).cell 13;simp only[qA,qZ,qS]at hx1 hx2;have hlx1:=(HB1'.out.upd hu id).lt;have hlx2:=(HB2'.out.upd hu id).lt;by_cases hlt:k<n4
    ·have hi:(k:Int)<((n4:Nat):Int):=by omega
     obtain⟨y,hy⟩:∃y,dir[k]? =some y:=⟨_,qeg (by rw[←L4.out];exact hlt)⟩
     have hz:=hy;obtain⟨g1,o1,cc1,e1,hg1,hc1⟩:=(HD1.out.up (HU2.out.same hu)).get (fun _=>rfl) hy
     obtain⟨g2,o2,cc2,e2,hg2,hc2⟩:=(HD2.out.up (HU2.out.same hu)).get (fun _=>rfl) hz
     injection e1 with e11 e12 e13
     injection e2 with e21 e22 e23
     subst e11 e21;clear e12 e13 e22 e23;have p0:=hc1 0 (by omega)
     have q0:=hc2 0 (by omega)
     have p1:=hc1 1 (by omega)
     have q1:=hc2 1 (by omega)
     simp only[dirC,qZ,qS,Nat.add_zero]at p0 p1 q0 q1;have HUK:=qh hu;have HKN:=qh hlt;clear hu hy hz hc1 hc2 hlt hk;go_upto_region 11 with(fail)
     go_cut [77] (fun t wz=>t= .bool false∧Upd Nowhere w2 wz)
     case first=>
      go_region_held3 (fun w'=>w'.cell? ⟨bx,13,none⟩=some (.slice (some ⟨g1,o1,none⟩) n4 ac4)∧w'.cell? ⟨bx+1,13,none⟩=some (.slice (some ⟨g2,o2,none⟩) n4 bc4)∧w'.cell? ⟨g1,o1+k * 2,none⟩=some (.int .i64 y.1)∧w'.cell? ⟨g1,o1+k * 2+1,none⟩=some (.int .i64 y.2)∧w'.cell? ⟨g2,o2+k * 2,none⟩=some (.int .i64 y.1)∧w'.cell? ⟨g2,o2+k * 2+1,none⟩=some (.int .i64 y.2)) (exact⟨hx1,hx2,p0,p1,q0,q1⟩) (fail)
      all_goals
       go_wp2_with fail
       go_meet;exact⟨rfl,HUK.out.drew⟩
     case rest=>
      obtain⟨rfl,hu⟩:=hcut;have HW:=qh hu;clear hu hx1 hx2 p0 p1 q0 q1;go_wp2_with fail
      go_roundw
      case rel=>exact⟨k+1,by go_num,HKN.out,HW.out⟩
      case measure=>
       have:=HKN.out;simp only[intOf];omega
    ·obtain rfl:n4=k:=by omega
     have HV1:=qh hu;clear hu hk;go_wp2_with fail
     go_loopw [7] (fun t wr=>∃k:Nat,t= .int .i64 (k:Int)∧k≤n5∧Upd Nowhere w2 wr) (fun t _=>n5 - (intOf t).toNat)
     case atStart=>exact⟨0,rfl,Nat.zero_le _,HV1.out⟩
     case round=>
      obtain⟨k,rfl,hk,hu⟩:=hrel;have hx1:=(HB1'.out.upd hu id).cell 14;have hx2:=(HB2'.out.upd hu id).cell 14;simp only[qA,qZ,qS]at hx1 hx2;have hlx1:=(HB1'.out.upd hu id).lt;have hlx2:=(HB2'.out.upd hu id).lt;by_cases hlt:k<n5
      ·have hi:(k:Int)<((n5:Nat):Int):=by omega
       obtain⟨y,hy⟩:∃y,ds[k]? =some y:=⟨_,qeg (by rw[←L5.out];exact hlt)⟩
       obtain⟨z,hz⟩:∃z,ds'[k]? =some z:=⟨_,qeg (by rw[←HDL.out,←L5.out];exact hlt)⟩
       obtain⟨g1,o1,cc1,e1,hg1,hc1⟩:=(HE1.out.up (HU2.out.same hu)).get (fun _=>rfl) hy
       obtain⟨g2,o2,cc2,e2,hg2,hc2⟩:=(HE2.out.up (HU2.out.same hu)).get (fun _=>rfl) hz
       injection e1 with e11 e12 e13
       injection e2 with e21 e22 e23
       subst e11 e21;clear e12 e13 e22 e23;have p0:=hc1 0 (by omega)
       have q0:=hc2 0 (by omega)
       have p1:=hc1 1 (by omega)
       have q1:=hc2 1 (by omega)
       simp only[DeedV.cells,slV,qZ,qS,Nat.add_zero]at p0 p1 q0 q1;have hsm:=HDEE.out k y z hy hz;have hcal:∀W,Upd Nowhere w2 W→Calls Tryz.prog 50 #[.slice y.mem.1 y.mem.2.1 y.mem.2.2,.slice z.mem.1 z.mem.2.1 z.mem.2.2] W (BoolP true W):=fun W hW=>sameints_eq (hsm.2.1.up (HU2.out.same hW)) (by have:=hsm.2.2.1.up (HU2.out.same hW);rw[←hsm.1]at this;exact this) hsm.2.2.2
       have htx:z.p.1=y.p.1:=by rw[hsm.1]
       rw[htx]at q0;have HCAL:=qh hcal;have HKP:Hid (∀W,Upd Nowhere wr W→W.cell? ⟨bx,14,none⟩=some (.slice (some ⟨g1,o1,none⟩) n5 ac5)∧W.cell? ⟨bx+1,14,none⟩=some (.slice (some ⟨g2,o2,none⟩) n5 bc5)∧W.cell? ⟨g1,o1+k * 2,none⟩=some (.int .i64 y.p.1)∧W.cell? ⟨g1,o1+k * 2+1,none⟩=some (.slice y.mem.1 y.mem.2.1 y.mem.2.2)∧W.cell? ⟨g2,o2+k * 2,none⟩=some (.int .i64 y.p.1)∧W.cell? ⟨g2,o2+k * 2+1,none⟩=some (.slice z.mem.1 z.mem.2.1 z.mem.2.2)):=qh fun W hW=>⟨(hW.cell (p:=⟨bx,14,none⟩) hlx1 id).trans hx1,(hW.cell (p:=⟨bx+1,14,none⟩) hlx2 id).trans hx2,(hW.cell (p:=⟨g1,o1+k * 2,none⟩) hg1 id).trans p0,(hW.cell (p:=⟨g1,o1+k * 2+1,none⟩) hg1 id).trans p1,(hW.cell (p:=⟨g2,o2+k * 2,none⟩) hg2 id).trans q0,(hW.cell (p:=⟨g2,o2+k * 2+1,none⟩) hg2 id).trans q1⟩
       clear hcal hsm;have HUK:=qh hu;have HKN:=qh hlt;clear hu hy hz hc1 hc2 hlt hk;go_upto_region 16 with(fail)
       go_cut [113] (fun t wz=>t= .bool false∧Upd Nowhere w2 wz)
       case first=>
        go_region_held3 (fun w'=>w'.cell? ⟨bx,14,none⟩=some (.slice (some ⟨g1,o1,none⟩) n5 ac5)∧w'.cell? ⟨bx+1,14,none⟩=some (.slice (some ⟨g2,o2,none⟩) n5 bc5)∧w'.cell? ⟨g1,o1+k * 2,none⟩=some (.int .i64 y.p.1)∧w'.cell? ⟨g1,o1+k * 2+1,none⟩=some (.slice y.mem.1 y.mem.2.1 y.mem.2.2)∧w'.cell? ⟨g2,o2+k * 2,none⟩=some (.int .i64 y.p.1)∧w'.cell? ⟨g2,o2+k * 2+1,none⟩=some (.slice z.mem.1 z.mem.2.1 z.mem.2.2)) (first | exact⟨hx1,hx2,p0,p1,q0,q1⟩ | exact k2)
         (first
           | (go_at_call 50
              refine(HCAL.out _ HUK.out.drew).mono ?_;rintro e w3 ⟨rfl,hU3⟩;have k2:=HKP.out _ ((Upd.refl Nowhere _).drew.same hU3);have HU3:=qh (HUK.out.drew.same hU3);clear hU3))
        all_goals
         go_wp2_with fail
         go_meet;exact⟨rfl,HU3.out⟩
       case rest=>
        obtain⟨rfl,hu⟩:=hcut;have HW:=qh hu;clear hu hx1 hx2 p0 p1 q0 q1;go_wp2_with fail
        go_roundw
        case rel=>exact⟨k+1,by go_num,HKN.out,HW.out⟩
        case measure=>
         have:=HKN.out;simp only[intOf];omega
      ·obtain rfl:n5=k:=by omega
       have HV2:=qh hu;clear hu hk;go_wp2_with fail
       go_ret;exact⟨rfl,HU2.out.same HV2.out⟩
end Go.Proofs.YtljmmkjdlcfkpaaGreatDoor
