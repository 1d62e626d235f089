/-
  Layer 7: rows, dirty pages, deeds may be. Layer 7: a row may be. Layer 7: the fields that a kind has not.
-/
import Derived.Test.YtljmmkjdlcfkpaaGreatDoorQWbUD
import Derived.Test.YtljmmkjdlcfkpaaGreatDoorQWbUE
import Derived.Test.YtljmmkjdlcfkpaaGreatDoorQWbUR
set_option maxRecDepth 100000
set_option maxHeartbeats 4000000
namespace Go.Proofs.YtljmmkjdlcfkpaaGreatDoor
open Go Go.RowKit
theorem rowless_ok(x y:RowW)(w:World):Calls Tryz.prog 143 #[elemR x,elemR y] w (BoolP (RowP.less x.p y.p) w):=by
 have HU:=qh (((Upd.refl Nowhere w).alloc (.cells #[.int .i64 x.p.tx,.int .i64 x.p.state,.int .i64 x.p.first,.int .i64 x.p.last,.int .i64 x.p.undo,.int .i64 x.p.coord,.slice x.mem.1 x.mem.2.1 x.mem.2.2,.slice x.loc.1 x.loc.2.1 x.loc.2.2] 105)).alloc (.cells #[.int .i64 y.p.tx,.int .i64 y.p.state,.int .i64 y.p.first,.int .i64 y.p.last,.int .i64 y.p.undo,.int .i64 y.p.coord,.slice y.mem.1 y.mem.2.1 y.mem.2.2,.slice y.loc.1 y.loc.2.1 y.loc.2.2] 105));unfold elemR
 by_cases h:x.p.tx<y.p.tx<;>
  (go_enter Tryz.func143,Tryz.ntmps143
   go_wp2_with fail
   go_ret;exact⟨by simp[RowP.less,ltP,h],HU.out⟩)
theorem dirless_ok(x y:Int×Int)(w:World):Calls Tryz.prog 146 #[elemD x,elemD y] w (BoolP (dirLess x y) w):=by
 have HU:=qh (((Upd.refl Nowhere w).alloc (.cells #[.int .i64 x.1,.int .i64 x.2] 154)).alloc (.cells #[.int .i64 y.1,.int .i64 y.2] 154));unfold elemD
 by_cases h:x.1<y.1<;>
  (go_enter Tryz.func146,Tryz.ntmps146
   go_wp2_with fail
   go_ret;exact⟨by simp[dirLess,ltP,h],HU.out⟩)
theorem deeless_ok(x y:DeedV)(w:World):Calls Tryz.prog 149 #[elemE x,elemE y] w (BoolP (deeLess x.p y.p) w):=by
 have HU:=qh (((Upd.refl Nowhere w).alloc (.cells #[.int .i64 x.p.1,.slice x.mem.1 x.mem.2.1 x.mem.2.2] 107)).alloc (.cells #[.int .i64 y.p.1,.slice y.mem.1 y.mem.2.1 y.mem.2.2] 107));unfold elemE
 by_cases h:x.p.1<y.p.1<;>
  (go_enter Tryz.func149,Tryz.ntmps149
   go_wp2_with fail
   go_ret;exact⟨by simp[deeLess,ltP,h],HU.out⟩)
theorem dirmay_ok(x:Int×Int)(w:World):Calls Tryz.prog 145 #[elemD x] w (BoolP (dirMay x) w):=by
 have HU:=qh ((Upd.refl Nowhere w).alloc (.cells #[.int .i64 x.1,.int .i64 x.2] 154));have HC:=qh (seq_ok x.2 1 (w.alloc (.cells #[.int .i64 x.1,.int .i64 x.2] 154)));unfold elemD;by_cases h0:0≤x.1
 ·by_cases h1:x.1<64
  ·go_enter Tryz.func145,Tryz.ntmps145
   go_wp2_with fail
   refine HC.out.mono ?_;rintro e w2 ⟨rfl,hU2⟩;have HU2:=qh (HU.out.same hU2);clear hU2;go_wp2_with fail
   go_ret;exact⟨by simp[dirMay,h0,h1],HU2.out⟩
  ·go_enter Tryz.func145,Tryz.ntmps145
   go_wp2_with fail
   go_ret;exact⟨by simp only[dirMay];rw[decide_eq_false (by omega:¬x.1<64)];simp,HU.out⟩
 ·go_enter Tryz.func145,Tryz.ntmps145
  go_wp2_with fail
  go_ret;exact⟨by simp only[dirMay];rw[decide_eq_false (by omega:¬0≤x.1)];simp,HU.out⟩
theorem pasmay_ok(n:Int)(w:World):Calls Tryz.prog 151 #[.int .i64 n] w (BoolP (pasMay n) w):=by
 have HC:=qh (seq_ok n 1 w);go_enter Tryz.func151,Tryz.ntmps151
 go_wp2_with fail
 refine HC.out.mono ?_;rintro e w2 ⟨rfl,hU2⟩;have HU2:=qh hU2;clear hU2;go_wp2_with fail
 go_ret;exact⟨rfl,HU2.out⟩
theorem deemay_ok(x:DeedV){w0 w:World}(hu:Upd Nowhere w0 w)(hE:Els 1 intC w0 (slV x.mem) x.p.2)(hn:x.p.2.length≤90000):Calls Tryz.prog 148 #[elemE x] w (BoolP (deeMay x.p) w):=by
 have hU:=(Upd.refl Nowhere w).alloc (.cells #[.int .i64 x.p.1,.slice x.mem.1 x.mem.2.1 x.mem.2.2] 107);have hB:=Blk.new w 107 #[.int .i64 x.p.1,.slice x.mem.1 x.mem.2.1 x.mem.2.2];have hm:∀w',Upd Nowhere w w'→Calls Tryz.prog 108 #[.slice x.mem.1 x.mem.2.1 x.mem.2.2] w' (BoolP (membersP x.p.2) w'):=fun w' h'=>members_ok (hE.upd (hu.same h') fun _ _=>id) hn
 have HC:=qh (seq_ok x.p.1 1 (w.alloc (.cells #[.int .i64 x.p.1,.slice x.mem.1 x.mem.2.1 x.mem.2.2] 107)));have HU:=qh hU;have HB:=qh hB;have HM:=qh hm;clear hU hB hm hE hu;unfold elemE;go_enter Tryz.func148,Tryz.ntmps148
 go_wp2_with fail
 refine HC.out.mono ?_;rintro e w2 ⟨rfl,hU2⟩;have b1:=(HB.out.upd hU2 id).cell 1;simp only[qA,qZ,qS]at b1;have HU2:=qh (HU.out.same hU2);clear hU2
 cases hs:seqP x.p.1 1 with
 | false=>
   go_wp2_with fail
   go_ret;exact⟨by simp[deeMay,hs],HU2.out⟩
 | true=>
   have HS:=qh hs;clear hs;go_wp2_with fail
   refine(HM.out w2 HU2.out).mono ?_;rintro e w3 ⟨rfl,hU3⟩;have HU3:=qh (HU2.out.same hU3);clear hU3;go_wp2_with fail
   go_ret;exact⟨by simp[deeMay,HS.out],HU3.out⟩
theorem row_ok(x:RowW){w0 w:World}(hu:Upd Nowhere w0 w)(hE:x.old w0)(hn:x.p.mem.length≤90000)(hn2:x.p.loc.length≤90000):Calls Tryz.prog 142 #[elemR x] w (BoolP (RowP.may x.p) w):=by
 have hm:∀w',Upd Nowhere w w'→Calls Tryz.prog 108 #[.slice x.mem.1 x.mem.2.1 x.mem.2.2] w' (BoolP (membersP x.p.mem) w'):=fun w' h'=>members_ok (hE.1.upd (hu.same h') fun _ _=>id) hn
 have hl:∀w',Upd Nowhere w w'→Calls Tryz.prog 109 #[.slice x.loc.1 x.loc.2.1 x.loc.2.2] w' (BoolP (locksP x.p.loc) w'):=fun w' h'=>reclocks_ok (hE.2.upd (hu.same h') fun _ _=>id)  hn2
 have HU0:=qh ((Upd.refl Nowhere w).alloc (.cells #[.int .i64 x.p.tx,.int .i64 x.p.state,.int .i64 x.p.first,.int .i64 x.p.last,.int .i64 x.p.undo,.int .i64 x.p.coord,.slice x.mem.1 x.mem.2.1 x.mem.2.2,.slice x.loc.1 x.loc.2.1 x.loc.2.2] 105));have HB0:=qh (Blk.new w 105 #[.int .i64 x.p.tx,.int .i64 x.p.state,.int .i64 x.p.first,.int .i64 x.p.last,.int .i64 x.p.undo,.int .i64 x.p.coord,.slice x.mem.1 x.mem.2.1 x.mem.2.2,.slice x.loc.1 x.loc.2.1 x.loc.2.2]);have HM:=qh hm;have HL:=qh hl;clear hm hl hE hu hn hn2;unfold elemR;go_enter Tryz.func142,Tryz.ntmps142
 go_wp2_with fail
 refine Calls.mono (seq_ok x.p.tx 1 _) ?_;rintro e w1 ⟨rfl,hU1⟩;have hB1:=HB0.out.upd hU1 id;have b0:=hB1.cell 0;have b1:=hB1.cell 1;have b2:=hB1.cell 2;have b3:=hB1.cell 3;have b4:=hB1.cell 4;have b5:=hB1.cell 5;have b6:=hB1.cell 6;have b7:=hB1.cell 7;simp only[qA,qZ,qS]at b0 b1 b2 b3 b4 b5 b6 b7;have HB1:=qh hB1;have HU1:=qh (HU0.out.same hU1);clear hB1 hU1
 cases hs0:seqP x.p.tx 1 with
 | false=>
   have S:=qh hs0;clear hs0;go_wp2_with fail
   go_ret;exact⟨by simp[RowP.may,S.out],HU1.out⟩
 | true=>
   have S0:=qh hs0;clear hs0;by_cases h1:1≤x.p.state
   case neg=>
    have d1:decide (1≤x.p.state)=false:=by simpa using h1
    have D:=qh d1;go_wp2_with fail
    go_ret;exact⟨by simp[RowP.may,S0.out,D.out],HU1.out⟩
   have d1:decide (1≤x.p.state)=true:=by simpa using h1
   have D1:=qh d1;by_cases h2:x.p.state≤4
   case neg=>
    have d2:decide (x.p.state≤4)=false:=by simpa using h2
    have D:=qh d2;go_wp2_with fail
    go_ret;exact⟨by simp[RowP.may,S0.out,D1.out,D.out],HU1.out⟩
   have d2:decide (x.p.state≤4)=true:=by simpa using h2
   have D2:=qh d2;go_wp2_with fail
   refine Calls.mono (seq_ok x.p.first 0 _) ?_;rintro e w2 ⟨rfl,hU2⟩;have hB2:=HB1.out.upd hU2 id;have b0:=hB2.cell 0;have b1:=hB2.cell 1;have b2:=hB2.cell 2;have b3:=hB2.cell 3;have b4:=hB2.cell 4;have b5:=hB2.cell 5;have b6:=hB2.cell 6;have b7:=hB2.cell 7;simp only[qA,qZ,qS]at b0 b1 b2 b3 b4 b5 b6 b7;have HB2:=qh hB2;have HU2:=qh (HU1.out.same hU2);clear hB2 hU2
   cases hs3:seqP x.p.first 0 with
   | false=>
     have S:=qh hs3;clear hs3;go_wp2_with fail
     go_ret;exact⟨by simp[RowP.may,S0.out,D1.out,D2.out,S.out],HU2.out⟩
   | true=>
     have S3:=qh hs3;clear hs3;go_wp2_with fail
     refine Calls.mono (seq_ok x.p.last 0 _) ?_;rintro e w3 ⟨rfl,hU3⟩;have hB3:=HB2.out.upd hU3 id;have b0:=hB3.cell 0;have b1:=hB3.cell 1;have b2:=hB3.cell 2;have b3:=hB3.cell 3;have b4:=hB3.cell 4;have b5:=hB3.cell 5;have b6:=hB3.cell 6;have b7:=hB3.cell 7;simp only[qA,qZ,qS]at b0 b1 b2 b3 b4 b5 b6 b7;have HB3:=qh hB3;have HU3:=qh (HU2.out.same hU3);clear hB3 hU3
     cases hs4:seqP x.p.last 0 with
     | false=>
       have S:=qh hs4;clear hs4;go_wp2_with fail
       go_ret;exact⟨by simp[RowP.may,S0.out,D1.out,D2.out,S3.out,S.out],HU3.out⟩
     | true=>
       have S4:=qh hs4;clear hs4;go_wp2_with fail
       refine Calls.mono (seq_ok x.p.undo 0 _) ?_;rintro e w4 ⟨rfl,hU4⟩;have hB4:=HB3.out.upd hU4 id;have b0:=hB4.cell 0;have b1:=hB4.cell 1;have b2:=hB4.cell 2;have b3:=hB4.cell 3;have b4:=hB4.cell 4;have b5:=hB4.cell 5;have b6:=hB4.cell 6;have b7:=hB4.cell 7;simp only[qA,qZ,qS]at b0 b1 b2 b3 b4 b5 b6 b7;have HB4:=qh hB4;have HU4:=qh (HU3.out.same hU4);clear hB4 hU4
       cases hs5:seqP x.p.undo 0 with
       | false=>
         have S:=qh hs5;clear hs5;go_wp2_with fail
         go_ret;exact⟨by simp[RowP.may,S0.out,D1.out,D2.out,S3.out,S4.out,S.out],HU4.out⟩
       | true=>
         have S5:=qh hs5;clear hs5;go_wp2_with fail
         refine Calls.mono (node_ok x.p.coord _) ?_;rintro e w5 ⟨rfl,hU5⟩;have hB5:=HB4.out.upd hU5 id;have b0:=hB5.cell 0;have b1:=hB5.cell 1;have b2:=hB5.cell 2;have b3:=hB5.cell 3;have b4:=hB5.cell 4;have b5:=hB5.cell 5;have b6:=hB5.cell 6;have b7:=hB5.cell 7;simp only[qA,qZ,qS]at b0 b1 b2 b3 b4 b5 b6 b7;have HB5:=qh hB5;have HU5:=qh (HU4.out.same hU5);clear hB5 hU5
         cases hs6:nodeP x.p.coord with
         | false=>
           have S:=qh hs6;clear hs6;go_wp2_with fail
           go_ret;exact⟨by simp[RowP.may,S0.out,D1.out,D2.out,S3.out,S4.out,S5.out,S.out],HU5.out⟩
         | true=>
           have S6:=qh hs6;clear hs6;go_wp2_with fail
           refine Calls.mono (HM.out _ HU5.out) ?_;rintro e w6 ⟨rfl,hU6⟩;have hB6:=HB5.out.upd hU6 id;have b0:=hB6.cell 0;have b1:=hB6.cell 1;have b2:=hB6.cell 2;have b3:=hB6.cell 3;have b4:=hB6.cell 4;have b5:=hB6.cell 5;have b6:=hB6.cell 6;have b7:=hB6.cell 7;simp only[qA,qZ,qS]at b0 b1 b2 b3 b4 b5 b6 b7;have HB6:=qh hB6;have HU6:=qh (HU5.out.same hU6);clear hB6 hU6
           cases hs7:membersP x.p.mem with
           | false=>
             have S:=qh hs7;clear hs7;go_wp2_with fail
             go_ret;exact⟨by simp[RowP.may,S0.out,D1.out,D2.out,S3.out,S4.out,S5.out,S6.out,S.out],HU6.out⟩
           | true=>
             have S7:=qh hs7;clear hs7;go_wp2_with fail
             refine Calls.mono (HL.out _ HU6.out) ?_;rintro e w7 ⟨rfl,hU7⟩;have hB7:=HB6.out.upd hU7 id;have b0:=hB7.cell 0;have b1:=hB7.cell 1;have b2:=hB7.cell 2;have b3:=hB7.cell 3;have b4:=hB7.cell 4;have b5:=hB7.cell 5;have b6:=hB7.cell 6;have b7:=hB7.cell 7;simp only[qA,qZ,qS]at b0 b1 b2 b3 b4 b5 b6 b7;have HB7:=qh hB7;have HU7:=qh (HU6.out.same hU7);clear hB7 hU7
             cases hs8:locksP x.p.loc with
             | false=>
               have S:=qh hs8;clear hs8;go_wp2_with fail
               go_ret;exact⟨by simp[RowP.may,S0.out,D1.out,D2.out,S3.out,S4.out,S5.out,S6.out,S7.out,S.out],HU7.out⟩
             | true=>
               have S8:=qh hs8;clear hs8;go_wp2_with fail
               go_ret;exact⟨by simp[RowP.may,S0.out,D1.out,D2.out,S3.out,S4.out,S5.out,S6.out,S7.out,S8.out],HU7.out⟩
def BareP.arr(b:BareP):Array Value:=#[.bool b.prev,.bool b.next,.bool b.key,.bool b.old,.bool b.new,.bool b.coord,.bool b.mem,.bool b.loc,.bool b.lists]
theorem wants1_ok(w:World):Calls Tryz.prog 140 #[.int .i64 1] w fun e w'=>e= .returned (.agg (wantsP 1).arr)∧Upd Nowhere w w':=by
 have he:(wantsP 1).arr=#[.bool false,.bool true,.bool false,.bool false,.bool false,.bool true,.bool true,.bool true,.bool true]:=rfl;rw[he];clear he;go_enter Tryz.func140,Tryz.ntmps140
 go_wp2_with fail
 refine bodyPost_ret (results_cell_row rfl _ _ w.heap.size 223 #[.bool false,.bool true,.bool false,.bool false,.bool false,.bool true,.bool true,.bool true,.bool true] _ _ rfl ((Blk.new w 223 #[.bool false,.bool true,.bool false,.bool false,.bool false,.bool true,.bool true,.bool true,.bool true]).alloc _) Tryz.underlying223 rfl (by kernel_rfl)) rfl ?_
 exact⟨rfl,((Upd.refl Nowhere w).alloc _).alloc _⟩
theorem wants2_ok(w:World):Calls Tryz.prog 140 #[.int .i64 2] w fun e w'=>e= .returned (.agg (wantsP 2).arr)∧Upd Nowhere w w':=by
 have he:(wantsP 2).arr=#[.bool false,.bool false,.bool false,.bool true,.bool false,.bool true,.bool true,.bool true,.bool true]:=rfl;rw[he];clear he;go_enter Tryz.func140,Tryz.ntmps140
 go_wp2_with fail
 refine bodyPost_ret (results_cell_row rfl _ _ w.heap.size 223 #[.bool false,.bool false,.bool false,.bool true,.bool false,.bool true,.bool true,.bool true,.bool true] _ _ rfl ((Blk.new w 223 #[.bool false,.bool false,.bool false,.bool true,.bool false,.bool true,.bool true,.bool true,.bool true]).alloc _) Tryz.underlying223 rfl (by kernel_rfl)) rfl ?_
 exact⟨rfl,((Upd.refl Nowhere w).alloc _).alloc _⟩
theorem wants3_ok(w:World):Calls Tryz.prog 140 #[.int .i64 3] w fun e w'=>e= .returned (.agg (wantsP 3).arr)∧Upd Nowhere w w':=by
 have he:(wantsP 3).arr=#[.bool false,.bool true,.bool true,.bool true,.bool true,.bool false,.bool false,.bool false,.bool true]:=rfl;rw[he];clear he;go_enter Tryz.func140,Tryz.ntmps140
 go_wp2_with fail
 refine bodyPost_ret (results_cell_row rfl _ _ w.heap.size 223 #[.bool false,.bool true,.bool true,.bool true,.bool true,.bool false,.bool false,.bool false,.bool true] _ _ rfl ((Blk.new w 223 #[.bool false,.bool true,.bool true,.bool true,.bool true,.bool false,.bool false,.bool false,.bool true]).alloc _) Tryz.underlying223 rfl (by kernel_rfl)) rfl ?_
 exact⟨rfl,((Upd.refl Nowhere w).alloc _).alloc _⟩
theorem wants4_ok(w:World):Calls Tryz.prog 140 #[.int .i64 4] w fun e w'=>e= .returned (.agg (wantsP 4).arr)∧Upd Nowhere w w':=by
 have he:(wantsP 4).arr=#[.bool false,.bool true,.bool true,.bool true,.bool true,.bool true,.bool true,.bool true,.bool true]:=rfl;rw[he];clear he;go_enter Tryz.func140,Tryz.ntmps140
 go_wp2_with fail
 refine bodyPost_ret (results_cell_row rfl _ _ w.heap.size 223 #[.bool false,.bool true,.bool true,.bool true,.bool true,.bool true,.bool true,.bool true,.bool true] _ _ rfl ((Blk.new w 223 #[.bool false,.bool true,.bool true,.bool true,.bool true,.bool true,.bool true,.bool true,.bool true]).alloc _) Tryz.underlying223 rfl (by kernel_rfl)) rfl ?_
 exact⟨rfl,((Upd.refl Nowhere w).alloc _).alloc _⟩
theorem wants5_ok(w:World):Calls Tryz.prog 140 #[.int .i64 5] w fun e w'=>e= .returned (.agg (wantsP 5).arr)∧Upd Nowhere w w':=by
 have he:(wantsP 5).arr=#[.bool false,.bool true,.bool true,.bool true,.bool true,.bool true,.bool true,.bool true,.bool true]:=rfl;rw[he];clear he;go_enter Tryz.func140,Tryz.ntmps140
 go_wp2_with fail
 refine bodyPost_ret (results_cell_row rfl _ _ w.heap.size 223 #[.bool false,.bool true,.bool true,.bool true,.bool true,.bool true,.bool true,.bool true,.bool true] _ _ rfl ((Blk.new w 223 #[.bool false,.bool true,.bool true,.bool true,.bool true,.bool true,.bool true,.bool true,.bool true]).alloc _) Tryz.underlying223 rfl (by kernel_rfl)) rfl ?_
 exact⟨rfl,((Upd.refl Nowhere w).alloc _).alloc _⟩
theorem wants6_ok(w:World):Calls Tryz.prog 140 #[.int .i64 6] w fun e w'=>e= .returned (.agg (wantsP 6).arr)∧Upd Nowhere w w':=by
 have he:(wantsP 6).arr=#[.bool false,.bool true,.bool true,.bool true,.bool true,.bool true,.bool true,.bool true,.bool true]:=rfl;rw[he];clear he;go_enter Tryz.func140,Tryz.ntmps140
 go_wp2_with fail
 refine bodyPost_ret (results_cell_row rfl _ _ w.heap.size 223 #[.bool false,.bool true,.bool true,.bool true,.bool true,.bool true,.bool true,.bool true,.bool true] _ _ rfl ((Blk.new w 223 #[.bool false,.bool true,.bool true,.bool true,.bool true,.bool true,.bool true,.bool true,.bool true]).alloc _) Tryz.underlying223 rfl (by kernel_rfl)) rfl ?_
 exact⟨rfl,((Upd.refl Nowhere w).alloc _).alloc _⟩
theorem wants7_ok(w:World):Calls Tryz.prog 140 #[.int .i64 7] w fun e w'=>e= .returned (.agg (wantsP 7).arr)∧Upd Nowhere w w':=by
 have he:(wantsP 7).arr=#[.bool true,.bool true,.bool true,.bool true,.bool true,.bool true,.bool true,.bool true,.bool true]:=rfl;rw[he];clear he;go_enter Tryz.func140,Tryz.ntmps140
 go_wp2_with fail
 refine bodyPost_ret (results_cell_row rfl _ _ w.heap.size 223 #[.bool true,.bool true,.bool true,.bool true,.bool true,.bool true,.bool true,.bool true,.bool true] _ _ rfl ((Blk.new w 223 #[.bool true,.bool true,.bool true,.bool true,.bool true,.bool true,.bool true,.bool true,.bool true]).alloc _) Tryz.underlying223 rfl (by kernel_rfl)) rfl ?_
 exact⟨rfl,((Upd.refl Nowhere w).alloc _).alloc _⟩
theorem wants8_ok(w:World):Calls Tryz.prog 140 #[.int .i64 8] w fun e w'=>e= .returned (.agg (wantsP 8).arr)∧Upd Nowhere w w':=by
 have he:(wantsP 8).arr=#[.bool true,.bool true,.bool true,.bool true,.bool true,.bool true,.bool true,.bool true,.bool false]:=rfl;rw[he];clear he;go_enter Tryz.func140,Tryz.ntmps140
 go_wp2_with fail
 refine bodyPost_ret (results_cell_row rfl _ _ w.heap.size 223 #[.bool true,.bool true,.bool true,.bool true,.bool true,.bool true,.bool true,.bool true,.bool false] _ _ rfl ((Blk.new w 223 #[.bool true,.bool true,.bool true,.bool true,.bool true,.bool true,.bool true,.bool true,.bool false]).alloc _) Tryz.underlying223 rfl (by kernel_rfl)) rfl ?_
 exact⟨rfl,((Upd.refl Nowhere w).alloc _).alloc _⟩
theorem wants9_ok(w:World):Calls Tryz.prog 140 #[.int .i64 9] w fun e w'=>e= .returned (.agg (wantsP 9).arr)∧Upd Nowhere w w':=by
 have he:(wantsP 9).arr=#[.bool true,.bool true,.bool true,.bool true,.bool true,.bool true,.bool false,.bool true,.bool true]:=rfl;rw[he];clear he;go_enter Tryz.func140,Tryz.ntmps140
 go_wp2_with fail
 refine bodyPost_ret (results_cell_row rfl _ _ w.heap.size 223 #[.bool true,.bool true,.bool true,.bool true,.bool true,.bool true,.bool false,.bool true,.bool true] _ _ rfl ((Blk.new w 223 #[.bool true,.bool true,.bool true,.bool true,.bool true,.bool true,.bool false,.bool true,.bool true]).alloc _) Tryz.underlying223 rfl (by kernel_rfl)) rfl ?_
 exact⟨rfl,((Upd.refl Nowhere w).alloc _).alloc _⟩
theorem wants10_ok(w:World):Calls Tryz.prog 140 #[.int .i64 10] w fun e w'=>e= .returned (.agg (wantsP 10).arr)∧Upd Nowhere w w':=by
 have he:(wantsP 10).arr=#[.bool true,.bool true,.bool true,.bool true,.bool true,.bool true,.bool true,.bool true,.bool true]:=rfl;rw[he];clear he;go_enter Tryz.func140,Tryz.ntmps140
 go_wp2_with fail
 refine bodyPost_ret (results_cell_row rfl _ _ w.heap.size 223 #[.bool true,.bool true,.bool true,.bool true,.bool true,.bool true,.bool true,.bool true,.bool true] _ _ rfl ((Blk.new w 223 #[.bool true,.bool true,.bool true,.bool true,.bool true,.bool true,.bool true,.bool true,.bool true]).alloc _) Tryz.underlying223 rfl (by kernel_rfl)) rfl ?_
 exact⟨rfl,((Upd.refl Nowhere w).alloc _).alloc _⟩
end Go.Proofs.YtljmmkjdlcfkpaaGreatDoor
