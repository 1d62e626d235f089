/-
  trothref07.Same of equal records. WalOwn: the law, walked for a record in memory.
-/
import Derived.Test.YtljmmkjdlcfkpaaGreatDoorMWsD
import Derived.Test.YtljmmkjdlcfkpaaGreatDoorMWsG
set_option maxRecDepth 100000
set_option maxHeartbeats 4000000
namespace Go.Proofs.YtljmmkjdlcfkpaaGreatDoor
open Go Go.RowKit
theorem same_eq{w:World}{x:RecP}{s t:Sls}(hE:RecE w x s)(hF:RecE w x t)(hm:x.mild):Calls Tryz.prog 19 #[.agg (x.rv s).cells.toArray,.agg (x.rv t).cells.toArray] w (BoolP true w):=by
 have hLL:∀w',Upd Nowhere w w'→Calls Tryz.prog 52 #[.agg (x.rv s).cells.toArray,.agg (x.rv t).cells.toArray] w' (BoolP true w'):=fun w' hu=>samelists_eq (hE.up hu) (hF.up hu) hm
 obtain⟨rs,hr1,hr2,hr3⟩:=hE.row;obtain⟨ds,hd1,hd2,hd3⟩:=hE.dee;obtain⟨rs',hr1',hr2',hr3'⟩:=hF.row;obtain⟨ds',hd1',hd2',hd3'⟩:=hF.dee;have l1:=hE.mem.len;have l2:=hE.loc.len;have l3:=hr1.len;have l4:=hE.dir.len;have l5:=hd1.len;have l6:=hE.pas.len;have l1':=hF.mem.len;have l2':=hF.loc.len;have l3':=hr1'.len;have l4':=hF.dir.len;have l5':=hd1'.len;have l6':=hF.pas.len;have hrl:rs.length=rs'.length:=by have:=congrArg List.length (hr2.trans hr2'.symm);simpa using this
 have hdl:ds.length=ds'.length:=by have:=congrArg List.length (hd2.trans hd2'.symm);simpa using this
 have hr0:rs.length=x.row.length:=by rw[←hr2,qlm]
 have hd0:ds.length=x.dee.length:=by rw[←hd2,qlm]
 have hpm:=hE.pas;have hpm':=hF.pas;have hdm:=hE.dir;have hdm':=hF.dir;have hmm:=hE.mem;have hmm':=hF.mem;have hlm:=hE.loc;have hlm':=hF.loc;have m1:=hm.ml;have m2:=hm.ll;have m3:=hm.rl;have m4:=hm.dl;have m5:=hm.el;have m6:=hm.pl;have mr:=hm.rb;have me:=hm.eb
 have hrow:∀(k:Nat) (y z:RowW),rs[k]? =some y→rs'[k]? =some z→y.p=z.p∧y.old w∧z.old w∧y.p.mem.length≤90000∧y.p.loc.length≤90000:=fun k y z hy hz=>by
  have e1:(rs.map fun q=>q.p)[k]? =some y.p:=by rw[qgm,hy];rfl
  have e2:(rs'.map fun q=>q.p)[k]? =some z.p:=by rw[qgm,hz];rfl
  rw[hr2]at e1;rw[hr2']at e2;rw[e1]at e2;injection e2 with e2
  have:=mr y.p (qmg e1);exact⟨e2,hr3 y (qmg hy),hr3' z (qmg hz),this.1,this.2⟩
 have hdee:∀(k:Nat) (y z:DeedV),ds[k]? =some y→ds'[k]? =some z→y.p=z.p∧Els 1 intC w (slV y.mem) y.p.2∧Els 1 intC w (slV z.mem) z.p.2∧y.p.2.length≤90000:=fun k y z hy hz=>by
  have e1:(ds.map fun q=>q.p)[k]? =some y.p:=by rw[qgm,hy];rfl
  have e2:(ds'.map fun q=>q.p)[k]? =some z.p:=by rw[qgm,hz];rfl
  rw[hd2]at e1;rw[hd2']at e2;rw[e1]at e2;injection e2 with e2
  exact⟨e2,hd3 y (qmg hy),hd3' z (qmg hz),me y.p (qmg e1)⟩
 clear hE hF hm hr2 hr2' hr3 hr3' hd2 hd2' hd3 hd3' mr me;obtain⟨kind,tx,prev,next,key,oh,od,nh,nd,coord,mem,loc,row,dir,dee,pas⟩:=x;obtain⟨⟨a1,n1,ac1⟩,⟨a2,n2,ac2⟩,⟨a3,n3,ac3⟩,⟨a4,n4,ac4⟩,⟨a5,n5,ac5⟩,⟨a6,n6,ac6⟩⟩:=s;obtain⟨⟨b1,n1',bc1⟩,⟨b2,n2',bc2⟩,⟨b3,n3',bc3⟩,⟨b4,n4',bc4⟩,⟨b5,n5',bc5⟩,⟨b6,n6',bc6⟩⟩:=t;simp only[slV]at*;obtain rfl:n1=n1':=by omega
 obtain rfl:n2=n2':=by omega
 obtain rfl:n3=n3':=by omega
 obtain rfl:n4=n4':=by omega
 obtain rfl:n5=n5':=by omega
 obtain rfl:n6=n6':=by omega
 have hM:∀w',Upd Nowhere w w'→Calls Tryz.prog 50 #[.slice a1 n1 ac1,.slice b1 n1 bc1] w' (BoolP true w'):=fun w' hu=>sameints_eq (hmm.up hu) (hmm'.up hu) m1
 have hK:∀w',Upd Nowhere w w'→Calls Tryz.prog 51 #[.slice a2 n2 ac2,.slice b2 n2 bc2] w' (BoolP true w'):=fun w' hu=>samelocks_eq (hlm.up hu) (hlm'.up hu) m2
 have HM:=qh hM;have HK:=qh hK;simp only[RecP.rv,RecV.cells,slV]at hLL;have HL:=qh hLL;clear hM hK hLL hrow hdee hr1 hr1' hdm hdm' hd1 hd1' l1 l2 l3 l4 l5 l6 l1' l2' l3' l4' l5' l6' hrl hdl hr0 hd0 hpm hpm' hmm hmm' hlm hlm' m1 m2 m3 m4 m5 m6
 show Calls Tryz.prog 19 #[.agg #[.int .i64 kind,.int .i64 tx,.int .i64 prev,.int .i64 next,strV key,.bool oh,strV od,.bool nh,strV nd,.int .i64 coord,.slice a1 n1 ac1,.slice a2 n2 ac2,.slice a3 n3 ac3,.slice a4 n4 ac4,.slice a5 n5 ac5,.slice a6 n6 ac6],.agg #[.int .i64 kind,.int .i64 tx,.int .i64 prev,.int .i64 next,strV key,.bool oh,strV od,.bool nh,strV nd,.int .i64 coord,.slice b1 n1 bc1,.slice b2 n2 bc2,.slice b3 n3 bc3,.slice b4 n4 bc4,.slice b5 n5 bc5,.slice b6 n6 bc6]] w _
 have hU:=((Upd.refl Nowhere w).alloc (.cells #[.int .i64 kind,.int .i64 tx,.int .i64 prev,.int .i64 next,strV key,.bool oh,strV od,.bool nh,strV nd,.int .i64 coord,.slice a1 n1 ac1,.slice a2 n2 ac2,.slice a3 n3 ac3,.slice a4 n4 ac4,.slice a5 n5 ac5,.slice a6 n6 ac6] 38)).alloc (.cells #[.int .i64 kind,.int .i64 tx,.int .i64 prev,.int .i64 next,strV key,.bool oh,strV od,.bool nh,strV nd,.int .i64 coord,.slice b1 n1 bc1,.slice b2 n2 bc2,.slice b3 n3 bc3,.slice b4 n4 bc4,.slice b5 n5 bc5,.slice b6 n6 bc6] 38);have hB1:=(Blk.new w 38 #[.int .i64 kind,.int .i64 tx,.int .i64 prev,.int .i64 next,strV key,.bool oh,strV od,.bool nh,strV nd,.int .i64 coord,.slice a1 n1 ac1,.slice a2 n2 ac2,.slice a3 n3 ac3,.slice a4 n4 ac4,.slice a5 n5 ac5,.slice a6 n6 ac6]).alloc (.cells #[.int .i64 kind,.int .i64 tx,.int .i64 prev,.int .i64 next,strV key,.bool oh,strV od,.bool nh,strV nd,.int .i64 coord,.slice b1 n1 bc1,.slice b2 n2 bc2,.slice b3 n3 bc3,.slice b4 n4 bc4,.slice b5 n5 bc5,.slice b6 n6 bc6] 38);have hB2:=Blk.new' (w.alloc (.cells #[.int .i64 kind,.int .i64 tx,.int .i64 prev,.int .i64 next,strV key,.bool oh,strV od,.bool nh,strV nd,.int .i64 coord,.slice a1 n1 ac1,.slice a2 n2 ac2,.slice a3 n3 ac3,.slice a4 n4 ac4,.slice a5 n5 ac5,.slice a6 n6 ac6] 38)) (g:=w.heap.size+1) 38 #[.int .i64 kind,.int .i64 tx,.int .i64 prev,.int .i64 next,strV key,.bool oh,strV od,.bool nh,strV nd,.int .i64 coord,.slice b1 n1 bc1,.slice b2 n2 bc2,.slice b3 n3 bc3,.slice b4 n4 bc4,.slice b5 n5 bc5,.slice b6 n6 bc6] (by simp)
 have HU:=qh hU;have HB1:=qh hB1;have HB2:=qh hB2;clear hU hB1 hB2;go_enter Tryz.func19,Tryz.ntmps19
 go_wp2_with fail
 refine Calls.mono (HM.out _ HU.out) ?_;rintro e w2 ⟨rfl,hU2⟩;have hb1:=HB1.out.upd hU2 id;have hb2:=HB2.out.upd hU2 id;have HU2:=qh (HU.out.same hU2);have HB3:=qh hb1;have HB4:=qh hb2;clear hU2;obtain⟨u0,u1,u2,u3,u4,u5,u6,u7,u8,u9,u10,u11,u12,u13,u14,u15⟩:=hb1.all16;obtain⟨v0,v1,v2,v3,v4,v5,v6,v7,v8,v9,v10,v11,v12,v13,v14,v15⟩:=hb2.all16;clear hb1 hb2;go_wp2_with fail
 refine Calls.mono (HK.out _ HU2.out) ?_;rintro e w3 ⟨rfl,hU3⟩;have hb1:=HB3.out.upd hU3 id;have hb2:=HB4.out.upd hU3 id;have HU3:=qh (HU2.out.same hU3);clear hU3;clear u0 u1 u2 u3 u4 u5 u6 u7 u8 u9 u10 u11 u12 u13 u14 u15;clear v0 v1 v2 v3 v4 v5 v6 v7 v8 v9 v10 v11 v12 v13 v14 v15;obtain⟨u0,u1,u2,u3,u4,u5,u6,u7,u8,u9,u10,u11,u12,u13,u14,u15⟩:=hb1.all16;obtain⟨v0,v1,v2,v3,v4,v5,v6,v7,v8,v9,v10,v11,v12,v13,v14,v15⟩:=hb2.all16;clear hb1 hb2;go_wp2_with fail
 refine Calls.mono (HL.out _ HU3.out) ?_;rintro e w4 ⟨rfl,hU4⟩;have HU4:=qh (HU3.out.same hU4);clear hU4;go_wp2_with fail
 go_ret;exact⟨rfl,HU4.out⟩
theorem enc_len_le(x:RecP):x.enc.1.length≤4096:=by
 unfold RecP.enc;split
 ·simp
 ·split
  ·simp
  ·simp only;omega
theorem enc_dec(x:RecP)(h:x.enc.2=0):x.enc.1=x.bytes∧DecTo x.bytes x:=by
 have hl:=enc_len_le x;unfold RecP.enc at h hl ⊢;split
 ·rename_i h1;rw[if_pos h1]at h;cases h
 ·rename_i h1
  rw[if_neg h1]at h hl;split
  ·rename_i h2;rw[if_pos h2]at h;cases h
  ·rename_i h2
   exact⟨rfl,fun w v hv=>dec_ok x (by simpa using h1) (by omega) w v hv⟩
theorem DecTo.any{b:Bs}{x:RecP}(h:DecTo b x):DecAny b:=fun w v hv=>(h w v hv).mono fun e w' h=>by
 obtain⟨s,he,_,hU⟩:=h;exact⟨_,_,he,hU⟩
theorem Blk.rng{w:World}{g:Nat}{t:TypeId}{cs:List Value}(h:Blk w g t cs.toArray):w.rangeAt g 0 cs:=fun j v hv=>by
 rw[Nat.zero_add,h.cell j,qA];exact hv
end Go.Proofs.YtljmmkjdlcfkpaaGreatDoor
