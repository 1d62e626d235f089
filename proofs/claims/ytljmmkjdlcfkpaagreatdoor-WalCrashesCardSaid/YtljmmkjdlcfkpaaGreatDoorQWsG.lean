/-
  trothref07.Copy: a record of one's own.
-/
import Derived.Test.YtljmmkjdlcfkpaaGreatDoorQWtA
set_option maxRecDepth 100000
set_option maxHeartbeats 4000000
namespace Go.Proofs.YtljmmkjdlcfkpaaGreatDoor
open Go Go.RowKit
theorem rkInt:RowK Tryz.prog 32 3 intC 1:=⟨Tryz.underlying32,⟨.int .i64 0,8,by kernel_rfl,rfl,by omega⟩,fun _=>rfl,fun a u hu=>by
 simp only[intC,qmc,List.not_mem_nil,or_false]at hu
 rcases hu with rfl
 rfl,by omega⟩
theorem rkLock:RowK Tryz.prog 33 103 lockC 2:=⟨Tryz.underlying33,⟨.agg #[strV [],.bool false],24,by kernel_rfl,rfl,by omega⟩,fun _=>rfl,fun a u hu=>by
 simp only[lockC,qmc,List.not_mem_nil,or_false]at hu
 rcases hu with rfl | rfl<;>rfl,by omega⟩
theorem rkDir:RowK Tryz.prog 35 154 dirC 2:=⟨Tryz.underlying35,⟨.agg #[.int .i64 0,.int .i64 0],16,by kernel_rfl,rfl,by omega⟩,fun _=>rfl,fun a u hu=>by
 simp only[dirC,qmc,List.not_mem_nil,or_false]at hu
 rcases hu with rfl | rfl<;>rfl,by omega⟩
theorem rkRow:RowK Tryz.prog 34 105 RowW.cells 8:=⟨Tryz.underlying34,⟨.agg #[.int .i64 0,.int .i64 0,.int .i64 0,.int .i64 0,.int .i64 0,.int .i64 0,.slice none 0 0,.slice none 0 0],96,by kernel_rfl,rfl,by omega⟩,fun _=>rfl,fun a u hu=>by
 simp only[RowW.cells,qmc,List.not_mem_nil,or_false]at hu
 rcases hu with rfl | rfl | rfl | rfl | rfl | rfl | rfl | rfl<;>rfl,by omega⟩
theorem rkDee:RowK Tryz.prog 36 107 DeedV.cells 2:=⟨Tryz.underlying36,⟨.agg #[.int .i64 0,.slice none 0 0],32,by kernel_rfl,rfl,by omega⟩,fun _=>rfl,fun a u hu=>by
 simp only[DeedV.cells,qmc,List.not_mem_nil,or_false]at hu
 rcases hu with rfl | rfl<;>rfl,by omega⟩
theorem lit1{α:Type}{cells:α→List Value}{sz:Nat}(w:World)(TE:TypeId)(x:α)(cs:Array Value)(hcs:cs.toList=cells x)(hsz:(cells x).length=sz):Els sz cells (w.alloc (.cells cs TE)) (.slice (some ⟨w.heap.size,0,none⟩) 1 1) [x]:=
 ⟨_,_,rfl,qlr _,by simp[hsz],fun _=>⟨_,rfl,by simp,rfl,fun j u hj=>by
  have e2:(⟨w.heap.size,0,none⟩:Addr).add j=⟨w.heap.size,j,none⟩:=by unfold Addr.add;split<;>simp_all
  rw[e2,(Blk.new w TE cs).cell j,←Array.getElem?_toList,hcs]
  simpa using hj⟩⟩
def CpF(T:Nat→Prop)(w:World)(k:Nat):Prop:=∃cs fz t,w.heap[k]? =some (.cells cs t fz)∧T t
abbrev T1(t:Nat):Prop:=t=38∨t=105
abbrev T2(t:Nat):Prop:=t=38∨t=107
theorem Upd.cps{T:Nat→Prop}{a b c:World}(h:Upd (CpF T a) a b)(h':Upd (CpF T b) b c):Upd (CpF T a) a c:=
 h.trans h' fun k hk hb=>Classical.byContradiction fun hn=>hn (by
  obtain⟨cs,fz,t,h1,h2⟩:=hb;exact⟨cs,fz,t,(h.block k hk hn)▸h1,h2⟩)
theorem OwnR.cps{T:Nat→Prop}{TE sz B:Nat}{α:Type}{cells:α→List Value}{w w':World}{v:Value}{L:List α}(h:OwnR TE cells sz B w v L)(ht:¬T TE)(hu:Upd (CpF T w) w w'):OwnR TE cells sz B w' v L:=
 h.upd hu fun k hk e=>by
  obtain⟨cs,h1⟩:=h.is_cells hk;obtain⟨cs',fz,t,h2,h3⟩:=e;rw[h1]at h2;injection h2 with h2
  injection h2 with _ h2 _
  subst h2;exact ht h3
theorem OwnR.ne_own'{TE TE' sz sz' B B':Nat}{α β:Type}{cells:α→List Value}{cells':β→List Value}{w w':World}{v v':Value}{L:List α}{L':List β}(h:OwnR TE cells sz B w' v L)(h':OwnR TE' cells' sz' B' w v' L')(hu:Upd Nowhere w w')(hne:TE≠TE'){k:Nat}(hk:v.ownBlock=some k)(hk':v'.ownBlock=some k):False:=by
 obtain⟨cs,h1⟩:=h.is_cells hk;obtain⟨cs',h2⟩:=h'.is_cells hk';have h3:=hu.block k (h'.lt hk') id;rw[h1,h2]at h3;injection h3 with h3
 injection h3 with _ h3 _
 exact hne h3
theorem res_rec1{fn:Func}{p:Tmp}(h:fn.results=#[.cell p 38]){tmps:Array Value}{w:World}{g:Nat}{cs:Array Value}(hp:tmps.getD p undef= .pointer (some ⟨g,0,none⟩))(hg:Blk w g 38 cs)(hs:cs.size=16):
 (results fn tmps).run Tryz.prog w= .ok (.agg cs) w:=
 results_cell_row h tmps w g 38 cs _ _ hp hg Tryz.underlying38 rfl (by rw[hs];kernel_rfl)
structure RowsC(bx:Nat)(cs:Array Value)(w0 w5 wr:World)(v:Value)(qs:List RowW):Prop where
 own:OwnR 105 RowW.cells 8 bx wr v qs
 ok:∀q∈qs,rowOk bx wr q
 old:Upd Nowhere w0 wr
 cps:Upd (CpF T1 w5) w5 wr
 box:Blk wr bx 38 cs
 res:Blk wr (bx+1) 38 zeroA
 sz:bx+2≤wr.heap.size
structure DeesC(bx:Nat)(cs:Array Value)(w0 w6 wr:World)(v:Value)(qs:List DeedV):Prop where
 own:OwnR 107 DeedV.cells 2 bx wr v qs
 ok:∀q∈qs,deedOk bx wr q
 old:Upd Nowhere w0 wr
 cps:Upd (CpF T2 w6) w6 wr
 box:Blk wr bx 38 cs
 res:Blk wr (bx+1) 38 zeroA
 sz:bx+2≤wr.heap.size
theorem RowsN.ins{T:Nat→Prop}{B:Nat}{w w':World}{s:SlT}{L:List RowP}(h:RowsN B w s L)(h1:¬T 105)(h2:¬T 3)(h3:¬T 103)(hu:Upd (CpF T w) w w'):RowsN B w' s L:=by
 obtain⟨rs,a1,a2,a3⟩:=h;exact⟨rs,a1.cps h1 hu,a2,fun q hq=>⟨(a3 q hq).1.cps h2 hu,(a3 q hq).2.cps h3 hu⟩⟩
theorem DeesN.ins{T:Nat→Prop}{B:Nat}{w w':World}{s:SlT}{L:List (Int×List Int)}(h:DeesN B w s L)(h1:¬T 107)(h2:¬T 3)(hu:Upd (CpF T w) w w'):DeesN B w' s L:=by
 obtain⟨rs,a1,a2,a3⟩:=h;exact⟨rs,a1.cps h1 hu,a2,fun q hq=>(a3 q hq).cps h2 hu⟩
abbrev T0(t:Nat):Prop:=t=38
theorem Blk.cps1{w:World}{g i:Nat}{cs:Array Value}(h:Blk w g 38 cs)(v:Value):Upd (CpF T0 w) w (w.setCell ⟨g,i,none⟩ v):=(Upd.one w g i v).mono fun k _ e=>by rw[e];exact⟨_,_,_,h,rfl⟩
theorem app_new{TS TE:TypeId}{α:Type}{cells:α→List Value}{sz:Nat}(R:RowK Tryz.prog TS TE cells sz)(W:World){v2:Value}{K:List α}(hK:Els sz cells W v2 K)(hn:K.length≤90000):
 ∃A c w',(Builtin.append_ #[TS,TS] TS #[.slice (some ⟨W.heap.size,0,none⟩) 0 0,v2]).run Tryz.prog (W.alloc (.cells #[] TE))= .ok (.slice A K.length c) w'∧OwnR TE cells sz W.heap.size w' (.slice A K.length c) K∧Upd Nowhere W w':=by
 have hl:=OwnR.lit TE cells sz W.heap.size W (qlr _);obtain⟨A,c,w',h1,h2,h3⟩:=R.appU hl (by simp) TS (hK.alloc _) (by simp;omega)
 rw[List.length_nil,Nat.zero_add]at h1 h2;rw[List.nil_append]at h2
 exact⟨A,c,w',h1,h2,((Upd.refl Nowhere W).alloc _).trans h3 fun k hk e=>by
  have:W.heap.size=k:=by simpa [Value.ownBlock] using e
  omega⟩
theorem copy_ok(x:RecP)(s:Sls)(w:World)(hE:RecE w x s)(hm:x.tame):Calls Tryz.prog 16 #[.agg (x.rv s).cells.toArray] w fun e w'=>∃t:Sls,e= .returned (.agg (x.rv t).cells.toArray)∧RecN w.heap.size w' x t∧Upd Nowhere w w':=by
 have l1:=hE.mem.len;have l2:=hE.loc.len;have l4:=hE.dir.len;have l6:=hE.pas.len;have hml:=hm.ml;have hll:=hm.ll;have hdl:=hm.dl;have hpl:=hm.pl;have HM:=qh hm;have HE:=qh hE;clear hE hm;obtain⟨kind,tx,prev,next,key,oh,od,nh,nd,coord,mem,loc,row,dir,dee,pas⟩:=x;obtain⟨⟨a1,n1,c1⟩,⟨a2,n2,c2⟩,⟨a3,n3,c3⟩,⟨a4,n4,c4⟩,⟨a5,n5,c5⟩,⟨a6,n6,c6⟩⟩:=s;simp only at l1 l2 l4 l6 hml hll hdl hpl;have L1:=qh l1;have L2:=qh l2;have L4:=qh l4;have L6:=qh l6;clear l1 l2 l4 l6
 show Calls Tryz.prog 16 #[.agg #[.int .i64 kind,.int .i64 tx,.int .i64 prev,.int .i64 next,strV key,.bool oh,strV od,.bool nh,strV nd,.int .i64 coord,.slice a1 n1 c1,.slice a2 n2 c2,.slice a3 n3 c3,.slice a4 n4 c4,.slice a5 n5 c5,.slice a6 n6 c6]] w _
 have hU0:=((Upd.refl Nowhere w).alloc (.cells #[.int .i64 kind,.int .i64 tx,.int .i64 prev,.int .i64 next,strV key,.bool oh,strV od,.bool nh,strV nd,.int .i64 coord,.slice a1 n1 c1,.slice a2 n2 c2,.slice a3 n3 c3,.slice a4 n4 c4,.slice a5 n5 c5,.slice a6 n6 c6] 38)).alloc (.cells #[.int .i64 0,.int .i64 0,.int .i64 0,.int .i64 0,.string ⟨#[]⟩,.bool false,.string ⟨#[]⟩,.bool false,.string ⟨#[]⟩,.int .i64 0,.slice none 0 0,.slice none 0 0,.slice none 0 0,.slice none 0 0,.slice none 0 0,.slice none 0 0] 38);have hB0:=(Blk.new w 38 #[.int .i64 kind,.int .i64 tx,.int .i64 prev,.int .i64 next,strV key,.bool oh,strV od,.bool nh,strV nd,.int .i64 coord,.slice a1 n1 c1,.slice a2 n2 c2,.slice a3 n3 c3,.slice a4 n4 c4,.slice a5 n5 c5,.slice a6 n6 c6]).alloc (.cells #[.int .i64 0,.int .i64 0,.int .i64 0,.int .i64 0,.string ⟨#[]⟩,.bool false,.string ⟨#[]⟩,.bool false,.string ⟨#[]⟩,.int .i64 0,.slice none 0 0,.slice none 0 0,.slice none 0 0,.slice none 0 0,.slice none 0 0,.slice none 0 0] 38);have hZ0:=Blk.new' (w.alloc (.cells #[.int .i64 kind,.int .i64 tx,.int .i64 prev,.int .i64 next,strV key,.bool oh,strV od,.bool nh,strV nd,.int .i64 coord,.slice a1 n1 c1,.slice a2 n2 c2,.slice a3 n3 c3,.slice a4 n4 c4,.slice a5 n5 c5,.slice a6 n6 c6] 38)) (g:=w.heap.size+1) 38 #[.int .i64 0,.int .i64 0,.int .i64 0,.int .i64 0,.string ⟨#[]⟩,.bool false,.string ⟨#[]⟩,.bool false,.string ⟨#[]⟩,.int .i64 0,.slice none 0 0,.slice none 0 0,.slice none 0 0,.slice none 0 0,.slice none 0 0,.slice none 0 0] (by simp)
 have HU:=qh hU0;have HB:=qh hB0;have HZ:=qh hZ0;have HSZ:Hid (w.heap.size+2≤((w.alloc (.cells #[.int .i64 kind,.int .i64 tx,.int .i64 prev,.int .i64 next,strV key,.bool oh,strV od,.bool nh,strV nd,.int .i64 coord,.slice a1 n1 c1,.slice a2 n2 c2,.slice a3 n3 c3,.slice a4 n4 c4,.slice a5 n5 c5,.slice a6 n6 c6] 38)).alloc (.cells #[.int .i64 0,.int .i64 0,.int .i64 0,.int .i64 0,.string ⟨#[]⟩,.bool false,.string ⟨#[]⟩,.bool false,.string ⟨#[]⟩,.int .i64 0,.slice none 0 0,.slice none 0 0,.slice none 0 0,.slice none 0 0,.slice none 0 0,.slice none 0 0] 38)).heap.size):=qh (by simp)
 clear hU0 hB0 hZ0;go_enter Tryz.func16,Tryz.ntmps16
 go_upto_region 1 with(fail)
 generalize (w.alloc (.cells #[.int .i64 kind,.int .i64 tx,.int .i64 prev,.int .i64 next,strV key,.bool oh,strV od,.bool nh,strV nd,.int .i64 coord,.slice a1 n1 c1,.slice a2 n2 c2,.slice a3 n3 c3,.slice a4 n4 c4,.slice a5 n5 c5,.slice a6 n6 c6] 38)).alloc (.cells #[.int .i64 0,.int .i64 0,.int .i64 0,.int .i64 0,.string ⟨#[]⟩,.bool false,.string ⟨#[]⟩,.bool false,.string ⟨#[]⟩,.int .i64 0,.slice none 0 0,.slice none 0 0,.slice none 0 0,.slice none 0 0,.slice none 0 0,.slice none 0 0] 38)=w1 at*;have hEl0:=HE.out.mem.up HU.out;obtain⟨A0,C0,u0,hrun0,hO0,hu0⟩:=app_new rkInt w1 hEl0 (by simp only;omega)
 simp only[slV,←L1.out]at hrun0 hO0;have hb0:=HB.out.upd hu0 id;have hbc:=HB.out.cell 10;have hbc2:=hb0.cell 10;have hbf:=hb0.frozen 10;simp only[qA,qZ,qS]at hbc hbc2;have hlt:=HB.out.lt;have hbs:=hb0.set_ 10 (.slice A0 n1 C0);have hzs:=(HZ.out.upd hu0 id).far (p:=⟨w.heap.size,10,none⟩) (by simp) (.slice A0 n1 C0)
 have hus:=(HU.out.same hu0).trans (Upd.one u0 w.heap.size 10 (.slice A0 n1 C0)) (fun k hk e=>by omega)
 have hss:w.heap.size+2≤(u0.setCell ⟨w.heap.size,10,none⟩ (.slice A0 n1 C0)).heap.size:=Nat.le_trans HSZ.out (Nat.le_trans hu0.size (Upd.one u0 w.heap.size 10 _).size);have hcp:Upd (CpF T1 w1) w1 (u0.setCell ⟨w.heap.size,10,none⟩ (.slice A0 n1 C0)):=(hu0.any).setCell (p:=⟨w.heap.size,10,none⟩) (fun _=>⟨_,_,_,HB.out,.inl rfl⟩) _
 have hOn:=(hO0.upd (Upd.one u0 w.heap.size 10 (.slice A0 n1 C0)) (fun k hk e=>by have:=hO0.new k hk;omega)).far (B':=w.heap.size) (fun k hk=>by have:=hO0.new k hk;omega)
 have HRUN:=qh hrun0;clear HU HB HZ HSZ hEl0 hrun0 hO0 hu0 hb0;go_upto_region 2 with(at_builtin;refine wpList_append_run rfl _ _ _ rfl rfl rfl HRUN.out ?_)
 have hbs':Blk (u0.setCell ⟨w.heap.size,10,none⟩ (.slice A0 n1 C0)) w.heap.size 38 #[.int .i64 kind,.int .i64 tx,.int .i64 prev,.int .i64 next,strV key,.bool oh,strV od,.bool nh,strV nd,.int .i64 coord,.slice A0 n1 C0,.slice a2 n2 c2,.slice a3 n3 c3,.slice a4 n4 c4,.slice a5 n5 c5,.slice a6 n6 c6]:=hbs;have HU:=qh hus;have HB:=qh hbs';have HZ:=qh hzs;have HSZ:=qh hss;have O0:=qh hOn;clear hbs hbs' hzs hus hss hcp hOn hbc hbc2 hbf hlt HRUN;generalize u0.setCell ⟨w.heap.size,10,none⟩ (.slice A0 n1 C0)=w2 at*;have hEl1:=HE.out.loc.up HU.out;obtain⟨A1,C1,u1,hrun1,hO1,hu1⟩:=app_new rkLock w2 hEl1 (by simp only;omega)
 simp only[slV,←L2.out]at hrun1 hO1;have hb1:=HB.out.upd hu1 id;have hbc:=HB.out.cell 11;have hbc2:=hb1.cell 11;have hbf:=hb1.frozen 11;simp only[qA,qZ,qS]at hbc hbc2;have hlt:=HB.out.lt;have hbs:=hb1.set_ 11 (.slice A1 n2 C1);have hzs:=(HZ.out.upd hu1 id).far (p:=⟨w.heap.size,11,none⟩) (by simp) (.slice A1 n2 C1)
 have hus:=(HU.out.same hu1).trans (Upd.one u1 w.heap.size 11 (.slice A1 n2 C1)) (fun k hk e=>by omega)
 have hss:w.heap.size+2≤(u1.setCell ⟨w.heap.size,11,none⟩ (.slice A1 n2 C1)).heap.size:=Nat.le_trans HSZ.out (Nat.le_trans hu1.size (Upd.one u1 w.heap.size 11 _).size);have hcp:Upd (CpF T1 w2) w2 (u1.setCell ⟨w.heap.size,11,none⟩ (.slice A1 n2 C1)):=(hu1.any).setCell (p:=⟨w.heap.size,11,none⟩) (fun _=>⟨_,_,_,HB.out,.inl rfl⟩) _
 have hOn:=(hO1.upd (Upd.one u1 w.heap.size 11 (.slice A1 n2 C1)) (fun k hk e=>by have:=hO1.new k hk;omega)).far (B':=w.heap.size) (fun k hk=>by have:=hO1.new k hk;omega)
 have o0:=O0.out.cps (by decide) hcp
 have HRUN:=qh hrun1;clear HU HB HZ HSZ hEl1 hrun1 hO1 hu1 hb1 O0;go_upto_region 3 with(at_builtin;refine wpList_append_run rfl _ _ _ rfl rfl rfl HRUN.out ?_)
 have hbs':Blk (u1.setCell ⟨w.heap.size,11,none⟩ (.slice A1 n2 C1)) w.heap.size 38 #[.int .i64 kind,.int .i64 tx,.int .i64 prev,.int .i64 next,strV key,.bool oh,strV od,.bool nh,strV nd,.int .i64 coord,.slice A0 n1 C0,.slice A1 n2 C1,.slice a3 n3 c3,.slice a4 n4 c4,.slice a5 n5 c5,.slice a6 n6 c6]:=hbs;have HU:=qh hus;have HB:=qh hbs';have HZ:=qh hzs;have HSZ:=qh hss;have O1:=qh hOn;have O0:=qh o0;clear hbs hbs' hzs hus hss hcp hOn hbc hbc2 hbf hlt HRUN o0;generalize u1.setCell ⟨w.heap.size,11,none⟩ (.slice A1 n2 C1)=w3 at*;have hEl2:=HE.out.dir.up HU.out;obtain⟨A2,C2,u2,hrun2,hO2,hu2⟩:=app_new rkDir w3 hEl2 (by simp only;omega)
 simp only[slV,←L4.out]at hrun2 hO2;have hb2:=HB.out.upd hu2 id;have hbc:=HB.out.cell 13;have hbc2:=hb2.cell 13;have hbf:=hb2.frozen 13;simp only[qA,qZ,qS]at hbc hbc2;have hlt:=HB.out.lt;have hbs:=hb2.set_ 13 (.slice A2 n4 C2);have hzs:=(HZ.out.upd hu2 id).far (p:=⟨w.heap.size,13,none⟩) (by simp) (.slice A2 n4 C2)
 have hus:=(HU.out.same hu2).trans (Upd.one u2 w.heap.size 13 (.slice A2 n4 C2)) (fun k hk e=>by omega)
 have hss:w.heap.size+2≤(u2.setCell ⟨w.heap.size,13,none⟩ (.slice A2 n4 C2)).heap.size:=Nat.le_trans HSZ.out (Nat.le_trans hu2.size (Upd.one u2 w.heap.size 13 _).size);have hcp:Upd (CpF T1 w3) w3 (u2.setCell ⟨w.heap.size,13,none⟩ (.slice A2 n4 C2)):=(hu2.any).setCell (p:=⟨w.heap.size,13,none⟩) (fun _=>⟨_,_,_,HB.out,.inl rfl⟩) _
 have hOn:=(hO2.upd (Upd.one u2 w.heap.size 13 (.slice A2 n4 C2)) (fun k hk e=>by have:=hO2.new k hk;omega)).far (B':=w.heap.size) (fun k hk=>by have:=hO2.new k hk;omega)
 have o0:=O0.out.cps (by decide) hcp
 have o1:=O1.out.cps (by decide) hcp
 have HRUN:=qh hrun2;clear HU HB HZ HSZ hEl2 hrun2 hO2 hu2 hb2 O0 O1;go_upto_region 4 with(at_builtin;refine wpList_append_run rfl _ _ _ rfl rfl rfl HRUN.out ?_)
 have hbs':Blk (u2.setCell ⟨w.heap.size,13,none⟩ (.slice A2 n4 C2)) w.heap.size 38 #[.int .i64 kind,.int .i64 tx,.int .i64 prev,.int .i64 next,strV key,.bool oh,strV od,.bool nh,strV nd,.int .i64 coord,.slice A0 n1 C0,.slice A1 n2 C1,.slice a3 n3 c3,.slice A2 n4 C2,.slice a5 n5 c5,.slice a6 n6 c6]:=hbs;have HU:=qh hus;have HB:=qh hbs';have HZ:=qh hzs;have HSZ:=qh hss;have O2:=qh hOn;have O0:=qh o0;have O1:=qh o1;clear hbs hbs' hzs hus hss hcp hOn hbc hbc2 hbf hlt HRUN o0 o1;generalize u2.setCell ⟨w.heap.size,13,none⟩ (.slice A2 n4 C2)=w4 at*;have hEl3:=HE.out.pas.up HU.out;obtain⟨A3,C3,u3,hrun3,hO3,hu3⟩:=app_new rkInt w4 hEl3 (by simp only;omega)
 simp only[slV,←L6.out]at hrun3 hO3;have hb3:=HB.out.upd hu3 id;have hbc:=HB.out.cell 15;have hbc2:=hb3.cell 15;have hbf:=hb3.frozen 15;simp only[qA,qZ,qS]at hbc hbc2;have hlt:=HB.out.lt;have hbs:=hb3.set_ 15 (.slice A3 n6 C3);have hzs:=(HZ.out.upd hu3 id).far (p:=⟨w.heap.size,15,none⟩) (by simp) (.slice A3 n6 C3)
 have hus:=(HU.out.same hu3).trans (Upd.one u3 w.heap.size 15 (.slice A3 n6 C3)) (fun k hk e=>by omega)
 have hss:w.heap.size+2≤(u3.setCell ⟨w.heap.size,15,none⟩ (.slice A3 n6 C3)).heap.size:=Nat.le_trans HSZ.out (Nat.le_trans hu3.size (Upd.one u3 w.heap.size 15 _).size);have hcp:Upd (CpF T1 w4) w4 (u3.setCell ⟨w.heap.size,15,none⟩ (.slice A3 n6 C3)):=(hu3.any).setCell (p:=⟨w.heap.size,15,none⟩) (fun _=>⟨_,_,_,HB.out,.inl rfl⟩) _
 have hOn:=(hO3.upd (Upd.one u3 w.heap.size 15 (.slice A3 n6 C3)) (fun k hk e=>by have:=hO3.new k hk;omega)).far (B':=w.heap.size) (fun k hk=>by have:=hO3.new k hk;omega)
 have o0:=O0.out.cps (by decide) hcp
 have o1:=O1.out.cps (by decide) hcp
 have o2:=O2.out.cps (by decide) hcp
 have HRUN:=qh hrun3;clear HU HB HZ HSZ hEl3 hrun3 hO3 hu3 hb3 O0 O1 O2;go_upto_region 5 with(at_builtin;refine wpList_append_run rfl _ _ _ rfl rfl rfl HRUN.out ?_)
 have hbs':Blk (u3.setCell ⟨w.heap.size,15,none⟩ (.slice A3 n6 C3)) w.heap.size 38 #[.int .i64 kind,.int .i64 tx,.int .i64 prev,.int .i64 next,strV key,.bool oh,strV od,.bool nh,strV nd,.int .i64 coord,.slice A0 n1 C0,.slice A1 n2 C1,.slice a3 n3 c3,.slice A2 n4 C2,.slice a5 n5 c5,.slice A3 n6 C3]:=hbs;have HU:=qh hus;have HB:=qh hbs';have HZ:=qh hzs;have HSZ:=qh hss;have O3:=qh hOn;have O0:=qh o0;have O1:=qh o1;have O2:=qh o2;clear hbs hbs' hzs hus hss hcp hOn hbc hbc2 hbf hlt HRUN o0 o1 o2;generalize u3.setCell ⟨w.heap.size,15,none⟩ (.slice A3 n6 C3)=w5 at*;obtain⟨rs,hr1,hr2,hr3⟩:=HE.out.row;simp only at hr2;have l3:=hr1.len;have hrm:∀q∈rs,q.p.mem.length≤20∧q.p.loc.length≤80:=fun q hq=>HM.out.rb _ (by show q.p∈row;rw[←hr2];exact List.mem_map_of_mem hq)
 have hrl:rs.length≤70:=by
  have:row.length≤70:=HM.out.rl;rw[←hr2,qlm]at this;exact this
 simp only at l3;have i3:(n3:Int)≤70:=by omega
 have HR1:=qh hr1;have HR2:=qh hr2;have HR3:=qh hr3;have HRM:=qh hrm;have L3:=qh l3;have HRL:=qh hrl;clear hr1 hr2 hr3 l3 hrm hrl hml hll hdl hpl;have hlt:=HB.out.lt;go_wp2_with fail
 generalize hbx:w.heap.size=bx at*;go_loopw [3,4] (fun s3 s4 wr=>∃(k:Nat) (vs:SlT) (qs:List RowW),s4= .int .i64 (k:Int)∧k≤n3∧s3= .slice vs.1 qs.length vs.2.2∧RowsC bx (#[.int .i64 kind,.int .i64 tx,.int .i64 prev,.int .i64 next,strV key,.bool oh,strV od,.bool nh,strV nd,.int .i64 coord,.slice A0 n1 C0,.slice A1 n2 C1,.slice a3 n3 c3,.slice A2 n4 C2,.slice a5 n5 c5,.slice A3 n6 C3]) w w5 wr (.slice vs.1 qs.length vs.2.2) qs∧qs.map (fun q=>q.p)=row.take k) (fun _ s4 _=>n3 - (intOf s4).toNat)
 case atStart=>exact⟨0,(none,0,0),[],rfl,Nat.zero_le _,rfl,⟨OwnR.nil _ _ _ _ _,fun q hq=>absurd hq (by simp),HU.out,Upd.refl _ _,HB.out,HZ.out,HSZ.out⟩,rfl⟩
 case round=>
  obtain⟨k,⟨va,vn,vc⟩,qs,rfl,hk,rfl,hC,hqs⟩:=hrel;have cc:=hC.box.cell 12;have hlb:=hC.box.lt;simp only[qA,qZ,qS]at cc;by_cases hlt2:k<n3
  ·obtain⟨y,hy⟩:∃y,rs[k]? =some y:=⟨_,qeg (by rw[←L3.out];exact hlt2)⟩
   have hym:=qmg hy;have hyo:=HR3.out y hym;have hyl:=HRM.out y hym;have hup:Upd Nowhere w wr:=hC.old;obtain⟨g1,o1,cc1,e1,hg1,hc1⟩:=(HR1.out.up hup).get (fun _=>rfl) hy
   injection e1 with e11 e12 e13
   subst e11;clear e12 e13;obtain⟨yp,⟨ya1,yn1,yc1⟩,⟨ya2,yn2,yc2⟩⟩:=y;have p0:=hc1 0 (by omega)
   have p1:=hc1 1 (by omega)
   have p2:=hc1 2 (by omega)
   have p3:=hc1 3 (by omega)
   have p4:=hc1 4 (by omega)
   have p5:=hc1 5 (by omega)
   have p6:=hc1 6 (by omega)
   have p7:=hc1 7 (by omega)
   simp only[RowW.cells,slV,qZ,qS,Nat.add_zero]at p0 p1 p2 p3 p4 p5 p6 p7;have hi:(k:Int)<((n3:Nat):Int):=by omega
   have HC:=qh hC;have HQS:=qh hqs;have HY:=qh hy;have HYO:=qh hyo;have HYL:=qh hyl;have HKN:=qh hlt2;have HUP:=qh hup;clear hC hqs hy hym hyo hyl hup hc1 hk hlt2;go_upto_region 10 with(fail)
   obtain⟨G,hG⟩:∃G,G=wr.heap.size:=⟨_,rfl⟩;have hXU:Upd Nowhere wr (wr.alloc (.cells #[.int .i64 yp.tx,.int .i64 yp.state,.int .i64 yp.first,.int .i64 yp.last,.int .i64 yp.undo,.int .i64 yp.coord,.slice ya1 yn1 yc1,.slice ya2 yn2 yc2] 105)):=(Upd.refl _ wr).alloc _;have hXB:Blk (wr.alloc (.cells #[.int .i64 yp.tx,.int .i64 yp.state,.int .i64 yp.first,.int .i64 yp.last,.int .i64 yp.undo,.int .i64 yp.coord,.slice ya1 yn1 yc1,.slice ya2 yn2 yc2] 105)) G 105 #[.int .i64 yp.tx,.int .i64 yp.state,.int .i64 yp.first,.int .i64 yp.last,.int .i64 yp.undo,.int .i64 yp.coord,.slice ya1 yn1 yc1,.slice ya2 yn2 yc2]:=by rw[hG];exact Blk.new wr _ _
   rw[←hG];have HGE:=qh hG;have HXU:=qh hXU;have HXB:=qh hXB;clear hG hXU hXB p0 p1 p2 p3 p4 p5 p6 p7;generalize wr.alloc (.cells #[.int .i64 yp.tx,.int .i64 yp.state,.int .i64 yp.first,.int .i64 yp.last,.int .i64 yp.undo,.int .i64 yp.coord,.slice ya1 yn1 yc1,.slice ya2 yn2 yc2] 105)=x0 at*;have el:=HYO.out.1.up (HUP.out.same HXU.out);have ln:=el.len;simp only at ln;obtain⟨B0,D0,y0,hrun,hO,hu⟩:=app_new rkInt x0 el (by have:=HYL.out;simp only at this ⊢;omega)
   simp only[slV,←ln]at hrun hO;have hb:=HXB.out.upd hu id;have hbc:=HXB.out.cell 6;have hbc2:=hb.cell 6;have hbf:=hb.frozen 6;simp only[qA,qZ,qS]at hbc hbc2;have hlt:=HXB.out.lt;have hbs:=hb.set_ 6 (.slice B0 yn1 D0);have hus:Upd Nowhere wr (y0.setCell ⟨G,6,none⟩ (.slice B0 yn1 D0)):=(HXU.out.same hu).trans (Upd.one y0 G 6 _) (fun k hk e=>by have:=HGE.out;omega)
   have hOn:=(hO.upd (Upd.one y0 G 6 (.slice B0 yn1 D0)) (fun k hk e=>by have:=hO.new k hk;omega)).far (B':=bx) (fun k hk=>by have:=hO.new k hk;have:=HXU.out.size;omega)
   have HRUN:=qh hrun;clear el ln hrun hO hu hb;go_upto_region 11 with(at_builtin;refine wpList_append_run rfl _ _ _ rfl rfl rfl HRUN.out ?_)
   have hbs':Blk (y0.setCell ⟨G,6,none⟩ (.slice B0 yn1 D0)) G 105 #[.int .i64 yp.tx,.int .i64 yp.state,.int .i64 yp.first,.int .i64 yp.last,.int .i64 yp.undo,.int .i64 yp.coord,.slice B0 yn1 D0,.slice ya2 yn2 yc2]:=hbs;have HXU:=qh hus;have HXB:=qh hbs';have HOB0:=qh hOn;clear hbs hbs' hus hOn hbc hbc2 hbf hlt HRUN;generalize y0.setCell ⟨G,6,none⟩ (.slice B0 yn1 D0)=x1 at*;have el:=HYO.out.2.up (HUP.out.same HXU.out);have ln:=el.len;simp only at ln;obtain⟨B1,D1,y1,hrun,hO,hu⟩:=app_new rkLock x1 el (by have:=HYL.out;simp only at this ⊢;omega)
   simp only[slV,←ln]at hrun hO;have hb:=HXB.out.upd hu id;have hbc:=HXB.out.cell 7;have hbc2:=hb.cell 7;have hbf:=hb.frozen 7;simp only[qA,qZ,qS]at hbc hbc2;have hlt:=HXB.out.lt;have hbs:=hb.set_ 7 (.slice B1 yn2 D1);have hus:Upd Nowhere wr (y1.setCell ⟨G,7,none⟩ (.slice B1 yn2 D1)):=(HXU.out.same hu).trans (Upd.one y1 G 7 _) (fun k hk e=>by have:=HGE.out;omega)
   have hOn:=(hO.upd (Upd.one y1 G 7 (.slice B1 yn2 D1)) (fun k hk e=>by have:=hO.new k hk;omega)).far (B':=bx) (fun k hk=>by have:=hO.new k hk;have:=HXU.out.size;omega)
   have hKB:=(HOB0.out.upd hu fun _ _=>id).upd (Upd.one y1 G 7 (.slice B1 yn2 D1)) (fun k hk e=>(HOB0.out.blk_ne HXB.out (by decide)) (e▸hk))
   have HRUN:=qh hrun;clear el ln hrun hO hu hb HOB0;go_upto_region 12 with(at_builtin;refine wpList_append_run rfl _ _ _ rfl rfl rfl HRUN.out ?_)
   have hbs':Blk (y1.setCell ⟨G,7,none⟩ (.slice B1 yn2 D1)) G 105 #[.int .i64 yp.tx,.int .i64 yp.state,.int .i64 yp.first,.int .i64 yp.last,.int .i64 yp.undo,.int .i64 yp.coord,.slice B0 yn1 D0,.slice B1 yn2 D1]:=hbs;have HXU:=qh hus;have HXB:=qh hbs';have HOB1:=qh hOn;have HOB0:=qh hKB;clear hbs hbs' hus hOn hbc hbc2 hbf hlt HRUN hKB;generalize y1.setCell ⟨G,7,none⟩ (.slice B1 yn2 D1)=x2 at*;have hown:=(HC.out.own.upd HXU.out fun _ _=>id).alloc (.cells #[.int .i64 yp.tx,.int .i64 yp.state,.int .i64 yp.first,.int .i64 yp.last,.int .i64 yp.undo,.int .i64 yp.coord,.slice B0 yn1 D0,.slice B1 yn2 D1] 105)
   have hK:=lit1 (cells:=RowW.cells) (sz:=8) x2 105 ⟨yp,(B0,yn1,D0),(B1,yn2,D1)⟩ #[.int .i64 yp.tx,.int .i64 yp.state,.int .i64 yp.first,.int .i64 yp.last,.int .i64 yp.undo,.int .i64 yp.coord,.slice B0 yn1 D0,.slice B1 yn2 D1] rfl rfl
   have hql:qs.length≤70:=by
    have e:=congrArg List.length HQS.out;rw[qlm,qlt]at e;have h2:row.length=rs.length:=by rw[←HR2.out,qlm]
    have:=HRL.out;omega
   obtain⟨A9,D9,y9,hrun,hO9,hu9⟩:=rkRow.appU hown (by have:=HXU.out.size;have:=HC.out.sz;simp;omega) 34 hK (by simp;omega)
   rw[qls]at hrun hO9;have HRUN:=qh hrun;have HO9:=qh hO9;have hu12:Upd (fun k=>(Value.slice va qs.length vc).ownBlock=some k) wr y9:=((HXU.out.alloc _).mono (fun _ _ e=>False.elim e)).trans hu9 fun _ _ e=>e
   have HU12:=qh hu12;have hxs:=HXB.out.lt;have xl:=HXB.out;have x0':=xl.cell 0;have x1':=xl.cell 1;have x2':=xl.cell 2;have x3':=xl.cell 3;have x4':=xl.cell 4;have x5':=xl.cell 5;have x6':=xl.cell 6;have x7':=xl.cell 7;simp only[qA,qZ,qS]at x0' x1' x2' x3' x4' x5' x6' x7';clear hown hK hql hrun hO9 hu12 xl
   have hcp:Upd (CpF T1 wr) wr y9:=HU12.out.mono fun q hq e=>by
    obtain⟨cs,h1⟩:=HC.out.own.is_cells e;exact⟨cs,_,_,h1,.inr rfl⟩
   have hOB0:=HOB0.out.upd ((((Upd.refl Nowhere x2).alloc (.cells #[.int .i64 yp.tx,.int .i64 yp.state,.int .i64 yp.first,.int .i64 yp.last,.int .i64 yp.undo,.int .i64 yp.coord,.slice B0 yn1 D0,.slice B1 yn2 D1] 105)).any).same hu9) (fun q hq e=>HOB0.out.ne_own' HC.out.own HXU.out (by decide) hq e)
   have hOB1:=HOB1.out.upd ((((Upd.refl Nowhere x2).alloc (.cells #[.int .i64 yp.tx,.int .i64 yp.state,.int .i64 yp.first,.int .i64 yp.last,.int .i64 yp.undo,.int .i64 yp.coord,.slice B0 yn1 D0,.slice B1 yn2 D1] 105)).any).same hu9) (fun q hq e=>HOB1.out.ne_own' HC.out.own HXU.out (by decide) hq e)
   have hC9:RowsC bx (#[.int .i64 kind,.int .i64 tx,.int .i64 prev,.int .i64 next,strV key,.bool oh,strV od,.bool nh,strV nd,.int .i64 coord,.slice A0 n1 C0,.slice A1 n2 C1,.slice (some ⟨g1,o1,none⟩) n3 c3,.slice A2 n4 C2,.slice a5 n5 c5,.slice A3 n6 C3]) w w5 y9 (.slice A9 (qs++[(⟨yp,(B0,yn1,D0),(B1,yn2,D1)⟩:RowW)]).length D9) (qs++[⟨yp,(B0,yn1,D0),(B1,yn2,D1)⟩]):=by
    refine⟨?_,?_,?_,HC.out.cps.cps hcp,HC.out.box.upd HU12.out fun e=>HC.out.own.blk_ne HC.out.box (by decide) e,HC.out.res.upd HU12.out fun e=>HC.out.own.blk_ne HC.out.res (by decide) e,Nat.le_trans HC.out.sz HU12.out.size⟩
    ·rw[qla];exact HO9.out
    ·intro q hq
     rcases qma.1 hq with h | h
     ·exact⟨(HC.out.ok q h).1.cps (by decide) hcp,(HC.out.ok q h).2.cps (by decide) hcp⟩
     ·obtain rfl:=List.mem_singleton.1 h;exact⟨hOB0,hOB1⟩
    ·exact HC.out.old.trans HU12.out fun q hq e=>by have:=HC.out.own.new q e;omega
   have hq9:(qs++[(⟨yp,(B0,yn1,D0),(B1,yn2,D1)⟩:RowW)]).map (fun q=>q.p)=row.take (k+1):=by
    have hy:row[k]? =some yp:=by rw[←HR2.out,qgm,HY.out];rfl
    rw[List.take_add_one,hy,List.map_append,HQS.out];rfl
   have HC9:=qh hC9;have HQ9:=qh hq9;clear hcp hOB0 hOB1 hC9 hq9 hu9;go_upto_region 8 with(at_builtin;refine wpList_append_run rfl _ _ _ rfl rfl rfl HRUN.out ?_)
   clear x0' x1' x2' x3' x4' x5' x6' x7' hxs;go_wp2_with fail
   go_roundw
   case rel=>exact⟨k+1,(A9,qs.length+1,D9),qs++[⟨yp,(B0,yn1,D0),(B1,yn2,D1)⟩],by go_num,HKN.out,by rw[qla];rfl,HC9.out,HQ9.out⟩
   case measure=>
    have:=HKN.out;simp only[intOf];omega
  ·obtain rfl:n3=k:=by omega
   have hrow:qs.map (fun q=>q.p)=row:=by
    rw[hqs,List.take_of_length_le];rw[←HR2.out,qlm,←L3.out];exact qlr _
   have hRN:RowsN bx wr (va,qs.length,vc) row:=⟨qs,hC.own,hrow,hC.ok⟩;have o0:=O0.out.cps (by decide) hC.cps
   have o1_:=O1.out.cps (by decide) hC.cps
   have o2_:=O2.out.cps (by decide) hC.cps
   have o3_:=O3.out.cps (by decide) hC.cps
   have hc0:=hC.box.cps1 (i:=12) (.slice va qs.length vc);have hbs:Blk (wr.setCell ⟨bx,12,none⟩ (.slice va qs.length vc)) bx 38 #[.int .i64 kind,.int .i64 tx,.int .i64 prev,.int .i64 next,strV key,.bool oh,strV od,.bool nh,strV nd,.int .i64 coord,.slice A0 n1 C0,.slice A1 n2 C1,.slice va qs.length vc,.slice A2 n4 C2,.slice a5 n5 c5,.slice A3 n6 C3]:=hC.box.set_ 12 (.slice va qs.length vc);have hzs:=hC.res.far (p:=⟨bx,12,none⟩) (by simp) (.slice va qs.length vc)
   have hus:=hC.old.trans (Upd.one wr bx 12 (.slice va qs.length vc)) (fun k hk e=>by omega)
   have hss:bx+2≤(wr.setCell ⟨bx,12,none⟩ (.slice va qs.length vc)).heap.size:=Nat.le_trans hC.sz (Upd.one wr bx 12 _).size;have hbf:=hC.box.frozen 12;have RN:=qh (hRN.ins (by decide) (by decide) (by decide) hc0)
   have O0:=qh (o0.cps (by decide) hc0)
   have O1:=qh (o1_.cps (by decide) hc0)
   have O2:=qh (o2_.cps (by decide) hc0)
   have O3:=qh (o3_.cps (by decide) hc0)
   clear hrow hRN o0 o1_ o2_ o3_ hc0 hC hqs hk hlt2 HR1 HR2 HR3 HRM HRL L3;go_upto_region 14 with(fail)
   have HU:=qh hus;have HB:=qh hbs;have HZ:=qh hzs;have HSZ:=qh hss;clear hus hbs hzs hss hbf cc hlb i3;generalize wr.setCell ⟨bx,12,none⟩ (.slice va qs.length vc)=w6 at*;generalize hmq:qs.length=nq at*;clear hmq;obtain⟨ds,hr1,hr2,hr3⟩:=HE.out.dee;simp only at hr2;have l5:=hr1.len;have hrm:∀q∈ds,q.p.2.length≤20:=fun q hq=>HM.out.eb _ (by show q.p∈dee;rw[←hr2];exact List.mem_map_of_mem hq)
   have hrl:ds.length≤80:=by
    have:dee.length≤80:=HM.out.el;rw[←hr2,qlm]at this;exact this
   simp only at l5;have i5:(n5:Int)≤80:=by omega
   have HR1:=qh hr1;have HR2:=qh hr2;have HR3:=qh hr3;have HRM:=qh hrm;have L5:=qh l5;have HRL:=qh hrl;clear hr1 hr2 hr3 l5 hrm hrl;have hlt:=HB.out.lt;go_wp2_with fail
   go_loopw [6,7] (fun s6 s7 wr=>∃(k:Nat) (vs:SlT) (qs:List DeedV),s7= .int .i64 (k:Int)∧k≤n5∧s6= .slice vs.1 qs.length vs.2.2∧DeesC bx (#[.int .i64 kind,.int .i64 tx,.int .i64 prev,.int .i64 next,strV key,.bool oh,strV od,.bool nh,strV nd,.int .i64 coord,.slice A0 n1 C0,.slice A1 n2 C1,.slice va nq vc,.slice A2 n4 C2,.slice a5 n5 c5,.slice A3 n6 C3]) w w6 wr (.slice vs.1 qs.length vs.2.2) qs∧qs.map (fun q=>q.p)=dee.take k) (fun _ s7 _=>n5 - (intOf s7).toNat)
   case atStart=>exact⟨0,(none,0,0),[],rfl,Nat.zero_le _,rfl,⟨OwnR.nil _ _ _ _ _,fun q hq=>absurd hq (by simp),HU.out,Upd.refl _ _,HB.out,HZ.out,HSZ.out⟩,rfl⟩
   case round=>
    obtain⟨k,⟨vd,vm,ve⟩,ts,rfl,hk,rfl,hC,hqs⟩:=hrel;have cc:=hC.box.cell 14;have hlb:=hC.box.lt;simp only[qA,qZ,qS]at cc;by_cases hlt2:k<n5
    ·obtain⟨y,hy⟩:∃y,ds[k]? =some y:=⟨_,qeg (by rw[←L5.out];exact hlt2)⟩
     have hym:=qmg hy;have hyo:=HR3.out y hym;have hyl:=HRM.out y hym;have hup:Upd Nowhere w wr.drew:=hC.old.drew;obtain⟨g2,o2,cc1,e1,hg1,hc1⟩:=HR1.out.get (fun _=>rfl) hy
     injection e1 with e11 e12 e13
     subst e11;clear e12 e13;obtain⟨⟨ytx,ymm⟩,⟨ya1,yn1,yc1⟩⟩:=y;have p0:=hc1 0 (by omega)
     have p1:=hc1 1 (by omega)
     simp only[DeedV.cells,slV,qZ,qS,Nat.add_zero]at p0 p1;have hi:(k:Int)<((n5:Nat):Int):=by omega
     have el:=hyo.up hup;have ln:yn1=ymm.length:=el.len;simp only[slV]at el;obtain⟨B0,D0,y0,hrun,hO,hu⟩:=app_new rkInt wr.drew el (by simp only at hyl ⊢;omega)
     simp only[←ln]at hrun hO;have hK:=lit1 (cells:=DeedV.cells) (sz:=2) y0 107 ⟨(ytx,ymm),(B0,yn1,D0)⟩ #[.int .i64 ytx,.slice B0 yn1 D0] rfl rfl
     have hql:ts.length≤80:=by
      have e:=congrArg List.length hqs;rw[qlm,qlt]at e;have h2:dee.length=ds.length:=by rw[←HR2.out,qlm]
      have:=HRL.out;omega
     have hown:=((hC.own.drew).upd hu fun _ _=>id).alloc (.cells #[.int .i64 ytx,.slice B0 yn1 D0] 107)
     have hdz:wr.drew.heap.size=wr.heap.size:=rfl;obtain⟨A9,D9,y9,hrun9,hO9,hu9⟩:=rkDee.appU hown (by have:=hu.size;have:=hC.sz;simp;omega) 36 hK (by simp;omega)
     rw[qls]at hrun9 hO9;have hU0:Upd Nowhere wr y0:=((Upd.refl Nowhere wr).drew).trans hu fun _ _=>id
     have hU1:Upd Nowhere wr (y0.alloc (.cells #[.int .i64 ytx,.slice B0 yn1 D0] 107)):=hU0.alloc _;have hU9:Upd (fun k=>(Value.slice vd ts.length ve).ownBlock=some k) wr y9:=hU1.any.same hu9
     have hkeep:∀W,Upd Nowhere w W→Upd Nowhere wr W→W.cell? ⟨bx,14,none⟩=some (.slice (some ⟨g2,o2,none⟩) n5 c5)∧W.cell? ⟨g2,o2+k * 2,none⟩=some (.int .i64 ytx)∧W.cell? ⟨g2,o2+k * 2+1,none⟩=some (.slice ya1 yn1 yc1):=fun W h1 h2=>⟨(h2.cell (p:=⟨bx,14,none⟩) hlb id).trans cc,(h1.cell (p:=⟨g2,o2+k * 2,none⟩) hg1 id).trans p0,(h1.cell (p:=⟨g2,o2+k * 2+1,none⟩) hg1 id).trans p1⟩
     have k0:=hkeep wr.drew hup (Upd.refl Nowhere wr).drew;have k1:=hkeep (wr.alloc (.cells #[] 3)).drew (hC.old.alloc _).drew ((Upd.refl Nowhere wr).alloc _).drew;have hrunA:(Builtin.append_ #[32,32] 32 #[.slice (some ⟨wr.heap.size,0,none⟩) 0 0,.slice ya1 yn1 yc1]).run Tryz.prog (wr.alloc (.cells #[] 3)).drew= .ok (.slice B0 yn1 D0) y0:=hrun;have k2:=hkeep y0 (hC.old.same hU0) hU0;have k3:=hkeep _ (hC.old.same hU1) hU1;have hwo:Upd Nowhere w y9:=hC.old.trans hU9 fun q hq e=>by have:=hC.own.new q e;omega
     have k4:y9.cell? ⟨bx,14,none⟩=some (.slice (some ⟨g2,o2,none⟩) n5 c5)∧y9.cell? ⟨g2,o2+k * 2,none⟩=some (.int .i64 ytx)∧y9.cell? ⟨g2,o2+k * 2+1,none⟩=some (.slice ya1 yn1 yc1):=⟨(hU9.cell (p:=⟨bx,14,none⟩) hlb (fun e=>hC.own.blk_ne hC.box (by decide) e)).trans cc,(hwo.cell (p:=⟨g2,o2+k * 2,none⟩) hg1 id).trans p0,(hwo.cell (p:=⟨g2,o2+k * 2+1,none⟩) hg1 id).trans p1⟩
     have hOB:OwnR 3 intC 1 bx y9 (.slice B0 yn1 D0) ymm:=((hO.alloc (.cells #[.int .i64 ytx,.slice B0 yn1 D0] 107)).upd hu9 (fun q hq e=>by have h1:=hO.new q hq;have h2:=hC.own.lt e;omega)).far fun q hq=>by have h1:=hO.new q hq;have:=hC.sz;omega
     have hcp:Upd (CpF T2 wr) wr y9:=hU9.mono fun q hq e=>by
      obtain⟨cs,h1⟩:=hC.own.is_cells e;exact⟨cs,_,_,h1,.inr rfl⟩
     have hC9:DeesC bx (#[.int .i64 kind,.int .i64 tx,.int .i64 prev,.int .i64 next,strV key,.bool oh,strV od,.bool nh,strV nd,.int .i64 coord,.slice A0 n1 C0,.slice A1 n2 C1,.slice va nq vc,.slice A2 n4 C2,.slice (some ⟨g2,o2,none⟩) n5 c5,.slice A3 n6 C3]) w w6 y9 (.slice A9 (ts++[(⟨(ytx,ymm),(B0,yn1,D0)⟩:DeedV)]).length D9) (ts++[⟨(ytx,ymm),(B0,yn1,D0)⟩]):=by
      refine⟨?_,?_,hwo,hC.cps.cps hcp,hC.box.upd hU9 fun e=>hC.own.blk_ne hC.box (by decide) e,hC.res.upd hU9 fun e=>hC.own.blk_ne hC.res (by decide) e,Nat.le_trans hC.sz hU9.size⟩
      ·rw[qla];exact hO9
      ·intro q hq
       rcases qma.1 hq with h | h
       ·exact(hC.ok q h).cps (by decide) hcp
       ·obtain rfl:=List.mem_singleton.1 h;exact hOB
     have hq9:(ts++[(⟨(ytx,ymm),(B0,yn1,D0)⟩:DeedV)]).map (fun q=>q.p)=dee.take (k+1):=by
      have hy':dee[k]? =some (ytx,ymm):=by rw[←HR2.out,qgm,hy];rfl
      rw[List.take_add_one,hy',List.map_append,hqs];rfl
     have HC9:=qh hC9;have HQ9:=qh hq9;have HKN:=qh hlt2;have HRA:=qh hrunA;have HRB:=qh hrun9;clear hC hqs hk hlt2 hy hym hyo hyl hup hc1 p0 p1 el ln hrun hrunA hO hu hK hql hown hdz hrun9 hO9 hu9 hU0 hU1 hU9 hkeep hwo hOB hcp hC9 hq9;go_wp2_with fail
     go_region_held3 (fun W=>W.cell? ⟨bx,14,none⟩=some (.slice (some ⟨g2,o2,none⟩) n5 c5)∧W.cell? ⟨g2,o2+k * 2,none⟩=some (.int .i64 ytx)∧W.cell? ⟨g2,o2+k * 2+1,none⟩=some (.slice ya1 yn1 yc1)) (first | with_reducible exact k0 | with_reducible exact k1 | with_reducible exact k2 | with_reducible exact k3 | with_reducible exact k4)
      (first
        | (refine step_append_run rfl _ _ _ rfl rfl rfl HRA.out ?_
           clear HRA)
        | (refine step_append_run rfl _ _ _ rfl rfl rfl HRB.out ?_))
     all_goals
      go_wp2_with fail
      go_roundw
      case rel=>exact⟨k+1,(A9,ts.length+1,D9),ts++[⟨(ytx,ymm),(B0,yn1,D0)⟩],by go_num,HKN.out,by rw[qla];rfl,HC9.out,HQ9.out⟩
      case measure=>
       have:=HKN.out;simp only[intOf];omega
    ·obtain rfl:n5=k:=by omega
     have hdee:ts.map (fun q=>q.p)=dee:=by
      rw[hqs,List.take_of_length_le];rw[←HR2.out,qlm,←L5.out];exact qlr _
     have hDN:DeesN bx wr (vd,ts.length,ve) dee:=⟨ts,hC.own,hdee,hC.ok⟩;have o0:=O0.out.cps (by decide) hC.cps
     have o1_:=O1.out.cps (by decide) hC.cps
     have o2_:=O2.out.cps (by decide) hC.cps
     have o3_:=O3.out.cps (by decide) hC.cps
     have rn:=RN.out.ins (by decide) (by decide) (by decide) hC.cps
     have hc0:=hC.box.cps1 (i:=14) (.slice vd ts.length ve);have hbs:Blk (wr.setCell ⟨bx,14,none⟩ (.slice vd ts.length ve)) bx 38 #[.int .i64 kind,.int .i64 tx,.int .i64 prev,.int .i64 next,strV key,.bool oh,strV od,.bool nh,strV nd,.int .i64 coord,.slice A0 n1 C0,.slice A1 n2 C1,.slice va nq vc,.slice A2 n4 C2,.slice vd ts.length ve,.slice A3 n6 C3]:=hC.box.set_ 14 (.slice vd ts.length ve);have hzs:=hC.res.far (p:=⟨bx,14,none⟩) (by simp) (.slice vd ts.length ve)
     have hus:=hC.old.trans (Upd.one wr bx 14 (.slice vd ts.length ve)) (fun k hk e=>by omega)
     have hss:bx+2≤(wr.setCell ⟨bx,14,none⟩ (.slice vd ts.length ve)).heap.size:=Nat.le_trans hC.sz (Upd.one wr bx 14 _).size;have hbf:=hC.box.frozen 14;have DN:=qh (hDN.ins (by decide) (by decide) hc0)
     have RN:=qh (rn.ins (by decide) (by decide) (by decide) hc0)
     have O0:=qh (o0.cps (by decide) hc0)
     have O1:=qh (o1_.cps (by decide) hc0)
     have O2:=qh (o2_.cps (by decide) hc0)
     have O3:=qh (o3_.cps (by decide) hc0)
     clear hdee hDN o0 o1_ o2_ o3_ rn hc0 hC hqs hk hlt2 HR1 HR2 HR3 HRM HRL L5;go_upto_region 20 with(fail)
     have HU:=qh hus;have HZ:=qh hzs;have HSZ:=qh hss;obtain⟨b0,b1,b2,b3,b4,b5,b6,b7,b8,b9,b10,b11,b12,b13,b14,b15⟩:=hbs.all16;clear cc hlb i5 hbf hus hss;generalize wr.setCell ⟨bx,14,none⟩ (.slice vd ts.length ve)=w7 at*;have hlt:=hzs.lt;have hltb:=hbs.lt;have hz':=hzs;unfold zeroA at hz';obtain⟨z0,z1,z2,z3,z4,z5,z6,z7,z8,z9,z10,z11,z12,z13,z14,z15⟩:=hz'.all16;have q0:=hzs.frozen 0;have q1:=hzs.frozen 1;have q2:=hzs.frozen 2;have q3:=hzs.frozen 3;have q4:=hzs.frozen 4;have q5:=hzs.frozen 5;have q6:=hzs.frozen 6;have q7:=hzs.frozen 7;have q8:=hzs.frozen 8;have q9:=hzs.frozen 9;have q10:=hzs.frozen 10;have q11:=hzs.frozen 11;have q12:=hzs.frozen 12;have q13:=hzs.frozen 13;have q14:=hzs.frozen 14;have q15:=hzs.frozen 15;clear hz' hzs hbs;go_wp2_with fail
     refine bodyPost_ret (res_rec1 (g:=bx+1) (cs:=#[.int .i64 kind,.int .i64 tx,.int .i64 prev,.int .i64 next,strV key,.bool oh,strV od,.bool nh,strV nd,.int .i64 coord,.slice A0 n1 C0,.slice A1 n2 C1,.slice va nq vc,.slice A2 n4 C2,.slice vd ts.length ve,.slice A3 n6 C3]) rfl rfl (zero_blk16 _ _ _ _ _ _ _ _ _ _ _ _ _ _ _ _ HZ.out) rfl) rfl ?_;have hu9:=(((((((((((((((((Upd.refl (fun k=>k=bx+1) w7).setCell (p:=⟨bx+1,0,none⟩) (fun _=>rfl) (.int .i64 kind)).setCell (p:=⟨bx+1,1,none⟩) (fun _=>rfl) (.int .i64 tx)).setCell (p:=⟨bx+1,2,none⟩) (fun _=>rfl) (.int .i64 prev)).setCell (p:=⟨bx+1,3,none⟩) (fun _=>rfl) (.int .i64 next)).setCell (p:=⟨bx+1,4,none⟩) (fun _=>rfl) (strV key)).setCell (p:=⟨bx+1,5,none⟩) (fun _=>rfl) (.bool oh)).setCell (p:=⟨bx+1,6,none⟩) (fun _=>rfl) (strV od)).setCell (p:=⟨bx+1,7,none⟩) (fun _=>rfl) (.bool nh)).setCell (p:=⟨bx+1,8,none⟩) (fun _=>rfl) (strV nd)).setCell (p:=⟨bx+1,9,none⟩) (fun _=>rfl) (.int .i64 coord)).setCell (p:=⟨bx+1,10,none⟩) (fun _=>rfl) (.slice A0 n1 C0)).setCell (p:=⟨bx+1,11,none⟩) (fun _=>rfl) (.slice A1 n2 C1)).setCell (p:=⟨bx+1,12,none⟩) (fun _=>rfl) (.slice va nq vc)).setCell (p:=⟨bx+1,13,none⟩) (fun _=>rfl) (.slice A2 n4 C2)).setCell (p:=⟨bx+1,14,none⟩) (fun _=>rfl) (.slice vd ts.length ve)).setCell (p:=⟨bx+1,15,none⟩) (fun _=>rfl) (.slice A3 n6 C3))
     have hu10:Upd (CpF T0 w7) w7 _:=hu9.mono fun k _ e=>by rw[e];exact⟨_,_,_,HZ.out,rfl⟩
     subst hbx;refine⟨⟨(A0,n1,C0),(A1,n2,C1),(va,nq,vc),(A2,n4,C2),(vd,ts.length,ve),(A3,n6,C3)⟩,rfl,⟨O0.out.cps (by decide) hu10,O1.out.cps (by decide) hu10,RN.out.ins (by decide) (by decide) (by decide) hu10,O2.out.cps (by decide) hu10,DN.out.ins (by decide) (by decide) hu10,O3.out.cps (by decide) hu10⟩,HU.out.trans hu9 fun k hk e=>by omega⟩
end Go.Proofs.YtljmmkjdlcfkpaaGreatDoor
