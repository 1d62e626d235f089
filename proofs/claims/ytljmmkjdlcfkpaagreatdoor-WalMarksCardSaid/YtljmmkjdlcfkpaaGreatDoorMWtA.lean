/-
  trothlaw09.awake, walked over the log's contracts. One record of up to 4096 bytes in an empty log of 40 sheets. trothref07.Great: what it lets pass is of moderate size.
-/
import Derived.Test.YtljmmkjdlcfkpaaGreatDoorMWsF
set_option maxRecDepth 100000
set_option maxHeartbeats 8000000
namespace Go.Proofs.YtljmmkjdlcfkpaaGreatDoor
open Go Go.RowKit
theorem LogS.force_item(S:LogS){i:Nat}{b:Bs}{q:Nat}(h:S.items[i]? =some (b,q)):∃q',S.forceS.1.items[i]? =some (b,q'):=by
 unfold LogS.forceS;split
 ·exact⟨q,h⟩
 ·dsimp only
  split
  ·exact⟨q,h⟩
  ·split
   ·exact⟨q,h⟩
   ·rw[placed_get,h];simp only[Option.map_some];split
    ·exact⟨_,rfl⟩
    ·exact⟨_,rfl⟩
theorem one09_ok(tx:Int)(w:World):Calls Tryz.prog 11 #[.int .i64 tx] w fun e w'=>e= .returned (.agg (oneA tx))∧Upd Nowhere w w':=by
 unfold oneA;go_enter Tryz.func11,Tryz.ntmps11
 go_wp2_with fail
 refine bodyPost_ret (results_cell_row rfl _ _ w.heap.size 38 (oneA tx) _ _ rfl (Blk.new w 38 (oneA tx)) Tryz.underlying38 rfl (by kernel_rfl)) rfl ?_
 exact⟨rfl,(Upd.refl Nowhere w).alloc _⟩
theorem dec_to_one{tx:Int}(ht:1≤tx∧tx≤1099511627776):DecTo (oneP tx).bytes (oneP tx):=fun w v hv=>(dec_one ht w v hv).mono fun e w' h=>⟨nilS,h.1,⟨nilN _ _ _,nilN _ _ _,⟨[],nilN _ _ _,rfl,fun q hq=>by cases hq⟩,nilN _ _ _,⟨[],nilN _ _ _,rfl,fun q hq=>by cases hq⟩,nilN _ _ _⟩,h.2⟩
theorem awake_walk{w:World}(hW:HalfW w)(hw0:0<w.heap.size):
 Calls Tryz.prog 8 #[] w fun e w'=>e= .returned (.bool true)∧Upd Nowhere w w':=by
 have hmade:=made_ok (bz:=w.heap.size) w 8 (by omega) (by omega) hW hw0 (qlr _)
 have HW:=qh hW;have HMD:=qh hmade;clear hmade hW hw0;go_enter Tryz.func8,Tryz.ntmps8
 go_wp2_with fail
 refine HMD.out.mono ?_;rintro e w1 ⟨l,p,rfl,hL1,hU1,hf1,hl1⟩;have hF:FullS 8 0 (log0 8):=FullS.start 8;have hni:(log0 8).items=[]:=rfl;generalize log0 8=S at*;have hB:=hF.bounds (by omega) (by omega) (by omega)
 have HL1:=qh hL1;have HU1:=qh hU1;have HF:=qh hF;have HB:=qh hB;have hm:S.m.lsn=1:=by rw[HF.out.mst];rfl
 have HNI:=qh hni;have hfi:=wfirst_ok hL1 hF.dwn;rw[hm]at hfi
 have hla:∀w',Upd Nowhere w1 w'→Calls Tryz.prog 13 #[.pointer (some ⟨l,0,none⟩)] w' fun e w''=>e= .returned (.int .i64 0)∧Upd Nowhere w' w'':=fun w' hu=>by
  have:=wlast_ok (HL1.out.up hu) HB.out (by omega) HF.out.dwn
  rw[HF.out.mst,HF.out.len]at this;exact this
 have hus:∀w',Upd Nowhere w1 w'→Calls Tryz.prog 14 #[.pointer (some ⟨l,0,none⟩)] w' fun e w''=>e= .returned (.int .i64 0)∧Upd Nowhere w' w'':=fun w' hu=>by
  have:=wused_ok (HL1.out.up hu) HB.out (by omega) HF.out.dwn ((HW.out.upd HU1.out id).upd hu id)
  have e0:(S.sheets S.pendB).length=0:=by rw[LogS.sheets_len,layAll_fst,HF.out.pend];rfl
  rw[e0,HF.out.mst,HF.out.nxt]at this;exact this
 have HFI:=qh hfi;have HLA:=qh hla;have HUS:=qh hus;clear hL1 hU1 hF hB hfi hla hus hf1 hl1 HMD hm hni;go_wp2_with fail
 refine HFI.out.mono ?_;rintro e w2 ⟨rfl,hU2⟩;have HC:=qh (HLA.out w2 hU2);have HU2:=qh hU2;clear hU2 HFI HLA;go_wp2_with fail
 refine HC.out.mono ?_;rintro e w3 ⟨rfl,hU3⟩;have HU3:=qh (HU2.out.same hU3);have HC:=qh (HUS.out w3 HU3.out);clear hU3 HUS HU2;go_wp2_with fail
 refine HC.out.mono ?_;rintro e w4 ⟨rfl,hU4⟩;have HU4:=qh (HU3.out.same hU4);clear hU4 HC HU3;go_wp2_with fail
 refine(one09_ok 3 w4).mono ?_;rintro e w5 ⟨rfl,hU5⟩;have HU5:=qh (HU4.out.same hU5);clear hU5 HU4;have ht:1≤(3:Int)∧(3:Int)≤1099511627776:=by omega
 have hb:=oneP_len ht;have hroom:=HF.out.roomy (b:=(oneP 3).bytes) (by omega) 0
 have happ:=append_ok (HL1.out.up HU5.out) HB.out (by omega) HF.out.dwn ((HW.out.upd HU1.out id).upd HU5.out id) (enc_one ht w5) (by omega) (fun _=>dec_any ht) 0 (by omega)
 rw[oneA_eq]at happ;obtain⟨hB3,hp3⟩:=HF.out.added (by omega) (by omega) (by omega) (b:=(oneP 3).bytes) (by omega)
 obtain⟨hz3,hF3⟩:=HF.out.force (by omega) (by omega) (by omega) (b:=(oneP 3).bytes) (by omega)
 have hit:(S.add (oneP 3).bytes).items[0]? =some ((oneP 3).bytes,0):=by simp only[LogS.add];rw[HNI.out];rfl
 obtain⟨q',hit'⟩:=LogS.force_item _ hit;have hD:=dec_to_one ht;generalize (oneP 3).bytes=bs at*;have hrt:S.roomy bs 0=true:=hroom.trans rfl;have HC:=qh happ;have HRT:=qh hrt;have HB3:=qh hB3;have HZ3:=qh hz3;have HF3:=qh hF3;have HIT:=qh hit';have HD:=qh hD;clear ht hb hroom happ hB3 hp3 hz3 hF3 hit hit' hD hrt;go_wp2_with fail
 refine HC.out.mono ?_;rintro e w6 ⟨_,hno,hyes,hU6⟩;obtain⟨he,hL6⟩:=hyes rfl HRT.out;have he':e= .returned (.tuple #[.int .i64 1,.int .i64 0]):=by rw[he,HF.out.mst,HF.out.len];rfl
 subst he';have hW6:=((HW.out.upd HU1.out id).upd HU5.out id).logs HL1.out.hz hU6;have hN6:Upd Nowhere w w6:=(HU1.out.same HU5.out).trans hU6 fun k hk e=>by have:=e.1;omega
 have hfc:=force_ok hL6 HB3.out (by omega) HF.out.dwn hW6 (HB3.out.sheets_good (by omega)) (by rw[HB3.out.find_len,placesB_len]) HB3.out.find_le
 have hz:=HZ3.out;have hF3:=HF3.out;have hit':=HIT.out;obtain⟨⟨S',x⟩,hSx⟩:∃t,(S.add bs).forceS=t:=⟨_,rfl⟩;rw[hSx]at hfc hz hF3 hit';simp only at hz hF3 hit';subst hz;have HFC:=qh hfc;have HF7:=qh hF3;have HIT:=qh hit';have HW6:=qh hW6;have HN6:=qh hN6;clear he hno hyes hU6 hL6 hW6 hN6 hfc hF3 hit' hSx HC HZ3 HF3 HB3;go_wp2_with fail
 refine HFC.out.mono ?_;rintro e w7 ⟨p4,_,rfl,hL7,hU7⟩;have hN7:Upd Nowhere w w7:=HN6.out.trans hU7 fun k hk e=>by have:=e.1;omega
 have hB7:=HF7.out.bounds (by omega) (by omega) (by omega)
 have hget:=wget_ok hL7 hB7 (by omega) HF7.out.dwn HIT.out HD.out (lsn:=1) (by rw[HF7.out.mst];rfl)
 have hget':Calls Tryz.prog 18 #[.pointer (some ⟨l,0,none⟩),.int .i64 1] w7 fun e w'=>∃v1 v2 v3 v4 v5 v6:SlT,e= .returned (.tuple #[.agg #[.int .i64 6,.int .i64 3,.int .i64 0,.int .i64 0,strV [],.bool false,strV [],.bool false,strV [],.int .i64 0,slV v1,slV v2,slV v3,slV v4,slV v5,slV v6],.int .i64 0])∧Upd Nowhere w7 w':=hget.mono fun e w' h=>by
  obtain⟨s,he,_,hU⟩:=h;exact⟨s.mem,s.loc,s.row,s.dir,s.dee,s.pas,he,hU⟩
 have hus:∀w',Upd Nowhere w7 w'→Calls Tryz.prog 14 #[.pointer (some ⟨l,0,none⟩)] w' fun e w''=>e= .returned (.int .i64 1)∧Upd Nowhere w' w'':=fun w' hu=>by
  have:=wused_ok (hL7.up hu) hB7 (by omega) HF7.out.dwn ((HW6.out.logs HL1.out.hz hU7).upd hu id)
  have e0:(S'.sheets S'.pendB).length=0:=by rw[LogS.sheets_len,layAll_fst,HF7.out.pend];rfl
  rw[e0,HF7.out.mst,HF7.out.nxt]at this;exact this
 have HGT:=qh hget';have HUS:=qh hus;have HN7:=qh hN7;clear hL7 hU7 hN7 hB7 hget hget' hus HFC;go_wp2_with fail
 refine HGT.out.mono ?_;rintro e w8 ⟨⟨a1,n1,c1⟩,⟨a2,n2,c2⟩,⟨a3,n3,c3⟩,⟨a4,n4,c4⟩,⟨a5,n5,c5⟩,⟨a6,n6,c6⟩,rfl,hU8⟩;have hc:∀cs:Array Value,Calls Tryz.prog 14 #[.pointer (some ⟨l,0,none⟩)] (w8.alloc (.cells cs 38)) fun e w''=>e= .returned (.int .i64 1)∧Upd Nowhere (w8.alloc (.cells cs 38)) w'':=fun cs=>HUS.out _ (hU8.alloc _)
 have HC:=qh hc;have HN8:=qh (HN7.out.same hU8);clear hc hU8 HGT HUS;simp only[slV];go_wp2_with fail
 refine(HC.out _).mono ?_;rintro e w9 ⟨rfl,hU9⟩;have HN9:=qh ((HN8.out.alloc _).same hU9);clear hU9 HC;go_wp2_with fail
 go_ret;exact⟨rfl,HN9.out⟩
structure RecP.tame(x:RecP):Prop where
 ml:x.mem.length≤20
 ll:x.loc.length≤80
 rl:x.row.length≤70
 dl:x.dir.length≤80
 el:x.dee.length≤80
 pl:x.pas.length≤300
 rb:∀r∈x.row,r.mem.length≤20∧r.loc.length≤80
 eb:∀d∈x.dee,d.2.length≤20
theorem RecP.tame.mild{x:RecP}(h:x.tame):x.mild:=
 ⟨by have:=h.ml;omega,by have:=h.ll;omega,by have:=h.rl;omega,fun r hr=>by have:=h.rb r hr;omega,by have:=h.dl;omega,by have:=h.el;omega,fun d hd=>by have:=h.eb d hd;omega,by have:=h.pl;omega⟩
def GreatP(x:RecP)(w:World)(e:Ending)(w':World):Prop:=∃b,e= .returned (.bool b)∧(b=false→x.tame)∧Upd Nowhere w w'
theorem great_ok(x:RecP)(s:Sls)(w:World)(hE:RecE w x s):Calls Tryz.prog 15 #[.agg (x.rv s).cells.toArray] w (GreatP x w):=by
 obtain⟨rs,hr1,hr2,hr3⟩:=hE.row;obtain⟨ds,he1,he2,he3⟩:=hE.dee;have l1:=hE.mem.len;have l2:=hE.loc.len;have l3:=hr1.len;have l4:=hE.dir.len;have l5:=he1.len;have l6:=hE.pas.len;have hl:=hE.loc;have hrl:x.row.length=rs.length:=by rw[←hr2,qlm]
 have hel:x.dee.length=ds.length:=by rw[←he2,qlm]
 have htame:s.mem.2.1≤20→s.loc.2.1≤80→s.row.2.1≤70→s.dir.2.1≤80→s.dee.2.1≤80→s.pas.2.1≤300→(∀q∈rs,q.mem.2.1≤20∧q.loc.2.1≤80)→(∀q∈ds,q.mem.2.1≤20)→x.tame:=fun h1 h2 h3 h4 h5 h6 h7 h8=>
  ⟨by omega,by omega,by omega,by omega,by omega,by omega,fun r hr=>by
   rw[←hr2]at hr;obtain⟨q,hq,rfl⟩:=List.mem_map.1 hr;have a1:=(hr3 q hq).1.len;have a2:=(hr3 q hq).2.len;have:=h7 q hq;omega,fun d hd=>by
   rw[←he2]at hd;obtain⟨q,hq,rfl⟩:=List.mem_map.1 hd;have a1:=(he3 q hq).len;have:=h8 q hq;omega⟩
 have HT:=qh htame;have HL:=qh hl;have HR:=qh hr1;have HE:=qh he1;have L2:=qh l2;have L3:=qh l3;have L5:=qh l5;clear hr1 hr2 hr3 he1 he2 he3 l1 l2 l3 l4 l5 l6 hl hrl hel htame hE;obtain⟨kind,tx,prev,next,key,oh,od,nh,nd,coord,mem,loc,row,dir,dee,pas⟩:=x;obtain⟨⟨a1,n1,c1⟩,⟨a2,n2,c2⟩,⟨a3,n3,c3⟩,⟨a4,n4,c4⟩,⟨a5,n5,c5⟩,⟨a6,n6,c6⟩⟩:=s;simp only at HT HL HR HE L2 L3 L5;generalize hX:RecP.mk kind tx prev next key oh od nh nd coord mem loc row dir dee pas=X at HT ⊢
 have hsh:(RecP.rv X ⟨(a1,n1,c1),(a2,n2,c2),(a3,n3,c3),(a4,n4,c4),(a5,n5,c5),(a6,n6,c6)⟩).cells.toArray=#[.int .i64 kind,.int .i64 tx,.int .i64 prev,.int .i64 next,strV key,.bool oh,strV od,.bool nh,strV nd,.int .i64 coord,.slice a1 n1 c1,.slice a2 n2 c2,.slice a3 n3 c3,.slice a4 n4 c4,.slice a5 n5 c5,.slice a6 n6 c6]:=by
  subst hX;rfl
 rw[hsh];clear hsh hX;go_enter Tryz.func15,Tryz.ntmps15
 go_upto_region 1 with(fail)
 have hb:=Blk.new w 38 #[.int .i64 kind,.int .i64 tx,.int .i64 prev,.int .i64 next,strV key,.bool oh,strV od,.bool nh,strV nd,.int .i64 coord,.slice a1 n1 c1,.slice a2 n2 c2,.slice a3 n3 c3,.slice a4 n4 c4,.slice a5 n5 c5,.slice a6 n6 c6];have hu:=(Upd.refl Nowhere w).alloc (.cells #[.int .i64 kind,.int .i64 tx,.int .i64 prev,.int .i64 next,strV key,.bool oh,strV od,.bool nh,strV nd,.int .i64 coord,.slice a1 n1 c1,.slice a2 n2 c2,.slice a3 n3 c3,.slice a4 n4 c4,.slice a5 n5 c5,.slice a6 n6 c6] 38);generalize w.alloc (.cells #[.int .i64 kind,.int .i64 tx,.int .i64 prev,.int .i64 next,strV key,.bool oh,strV od,.bool nh,strV nd,.int .i64 coord,.slice a1 n1 c1,.slice a2 n2 c2,.slice a3 n3 c3,.slice a4 n4 c4,.slice a5 n5 c5,.slice a6 n6 c6] 38)=w1 at hb hu ⊢;generalize w.heap.size=g at hb ⊢;have HU:=qh hu;have HL:=qh (HL.out.up hu);have HR:=qh (HR.out.up hu);have HE:=qh (HE.out.up hu);obtain⟨b0,b1,b2,b3,b4,b5,b6,b7,b8,b9,b10,b11,b12,b13,b14,b15⟩:=hb.all16;clear hb hu;go_wp2
 all_goals first | (go_ret;exact⟨_,rfl,fun h=>(by cases h),HU.out⟩) | skip
 have i1:n1≤20:=by omega
 have i2:n2≤80:=by omega
 have i3:n3≤70:=by omega
 have i4:n4≤80:=by omega
 have i5:n5≤80:=by omega
 have i6:n6≤300:=by omega
 go_loopw [3] (fun t wr=>∃k:Nat,k≤n2∧t= .int .i64 k∧w1=wr) (fun t _=>n2 - (intOf t).toNat)
 case atStart=>exact⟨0,Nat.zero_le _,rfl,rfl⟩
 case round=>
  obtain⟨k,hk,rfl,rfl⟩:=hrel;by_cases hlt:k<n2
  ·obtain⟨y,hy⟩:∃y,loc[k]? =some y:=⟨_,qeg (by rw[←L2.out];exact hlt)⟩
   obtain⟨bb,off,cc,e,hbb,hc⟩:=HL.out.get (fun _=>rfl) hy
   cases e;have u0:=hc 0 (by omega)
   simp only[lockC,qZ,Nat.add_zero]at u0;clear hc hbb hy;go_wp2
   all_goals first
    | (go_ret;exact⟨_,rfl,fun h=>(by cases h),HU.out⟩)
    | (go_roundw
       case rel=>exact⟨k+1,by omega,by go_num,by first | rfl | trivial⟩
       case measure=>simp[intOf];omega)
  ·go_wp2
   go_loopw [4] (fun t wr=>∃k:Nat,k≤n3∧t= .int .i64 k∧w1=wr∧(∀q∈rs.take k,q.mem.2.1≤20∧q.loc.2.1≤80)) (fun t _=>n3 - (intOf t).toNat)
   case atStart=>exact⟨0,Nat.zero_le _,rfl,rfl,fun q hq=>by simp at hq⟩
   case round=>
    obtain⟨k,hk,rfl,rfl,hq⟩:=hrel;have HQ:=qh hq;clear hq;by_cases hlt:k<n3
    ·obtain⟨y,hy⟩:∃y,rs[k]? =some y:=⟨_,qeg (by rw[←L3.out];exact hlt)⟩
     have htk:∀q∈rs.take (k+1),q∈rs.take k∨q=y:=fun q h=>by
      rw[List.take_add_one,hy,qma]at h
      rcases h with h | h
      ·exact .inl h
      ·simp at h;exact .inr h
     obtain⟨bb,off,cc,e,hbb,hc⟩:=HR.out.get (fun _=>rfl) hy
     cases e;obtain⟨yp,⟨ya1,yn1,yc1⟩,⟨ya2,yn2,yc2⟩⟩:=y;have u6:=hc 6 (by omega)
     have u7:=hc 7 (by omega)
     simp only[RowW.cells,slV,qZ,qS]at u6 u7;have HTK:=qh htk;clear hc hbb hy htk;go_wp2
     all_goals first
      | (go_ret;exact⟨_,rfl,fun h=>(by cases h),HU.out⟩)
      | (go_roundw
         case rel=>
          refine⟨k+1,by omega,by go_num,by first | rfl | trivial,fun q hq=> ?_⟩
          rcases HTK.out q hq with h | rfl
          ·exact HQ.out q h
          ·constructor<;>simp only<;>omega
         case measure=>simp[intOf];omega)
    ·have hall:∀q∈rs,q.mem.2.1≤20∧q.loc.2.1≤80:=fun q h=>HQ.out q (by rw[List.take_of_length_le (by have:=L3.out;omega)];exact h)
     have HALL:=qh hall;clear hall HQ;go_wp2
     go_loopw [5] (fun t wr=>∃k:Nat,k≤n5∧t= .int .i64 k∧w1=wr∧(∀q∈ds.take k,q.mem.2.1≤20)) (fun t _=>n5 - (intOf t).toNat)
     case atStart=>exact⟨0,Nat.zero_le _,rfl,rfl,fun q hq=>by simp at hq⟩
     case round=>
      obtain⟨k,hk,rfl,rfl,hq⟩:=hrel;have HQ:=qh hq;clear hq;by_cases hlt:k<n5
      ·obtain⟨y,hy⟩:∃y,ds[k]? =some y:=⟨_,qeg (by rw[←L5.out];exact hlt)⟩
       have htk:∀q∈ds.take (k+1),q∈ds.take k∨q=y:=fun q h=>by
        rw[List.take_add_one,hy,qma]at h
        rcases h with h | h
        ·exact .inl h
        ·simp at h;exact .inr h
       obtain⟨bb,off,cc,e,hbb,hc⟩:=HE.out.get (fun _=>rfl) hy
       cases e;obtain⟨yp,⟨ya1,yn1,yc1⟩⟩:=y;have u1:=hc 1 (by omega)
       simp only[DeedV.cells,slV,qZ,qS]at u1;have HTK:=qh htk;clear hc hbb hy htk;go_wp2
       all_goals first
        | (go_ret;exact⟨_,rfl,fun h=>(by cases h),HU.out⟩)
        | (go_roundw
           case rel=>
            refine⟨k+1,by omega,by go_num,by first | rfl | trivial,fun q hq=> ?_⟩
            rcases HTK.out q hq with h | rfl
            ·exact HQ.out q h
            ·simp only;omega
           case measure=>simp[intOf];omega)
      ·have hall:∀q∈ds,q.mem.2.1≤20:=fun q h=>HQ.out q (by rw[List.take_of_length_le (by have:=L5.out;omega)];exact h)
       have HALL2:=qh hall;clear hall HQ;go_wp2
       go_ret;exact⟨_,rfl,fun _=>HT.out i1 i2 i3 i4 i5 i6 HALL.out HALL2.out,HU.out⟩
end Go.Proofs.YtljmmkjdlcfkpaaGreatDoor
