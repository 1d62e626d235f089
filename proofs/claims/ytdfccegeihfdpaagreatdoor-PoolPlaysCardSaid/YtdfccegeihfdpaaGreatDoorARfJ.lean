/-
  trothref10.Set of a page that is full.
-/
import Derived.Test.YtdfccegeihfdpaaGreatDoorAPgX
set_option maxRecDepth 100000
set_option maxHeartbeats 8000000
namespace Go.Proofs.YtdfccegeihfdpaaGreatDoor
open Go Go.RowKit
theorem rset_full{w:World}{v:Value}{p:PgP}(h:CellsE w v p.cells)(hp:p.ok)(lsn:Nat)(h1:1≤lsn)(h2:lsn≤1099511627776)(key:Ky)(vh:Bool)(vd:Bs)(hc:CellOK (key,(vh,vd)))(hroom:roomB p.cells key=false):Calls Tryz.prog 26 #[.agg #[.int .i64 (p.lsn:Nat),v],.int .i64 (lsn:Nat),strV key,.agg #[.bool vh,strV vd]] w fun e w'=>e= .returned (.tuple #[.agg #[.int .i64 0,.slice none 0 0],.int .i64 100])∧Upd Nowhere w w':=by
 obtain⟨A,c,rfl,hcap⟩:=h.val;obtain⟨pl,L⟩:=p;simp only at h hcap hroom ⊢;obtain⟨n,hn⟩:∃n,L.length=n:=⟨_,rfl⟩;have hlen:L.length≤4:=hp.len;have HLEN:=qh hlen;have HN:=qh hn;have hs:=hc.says;obtain⟨wA,hwA⟩:∃wA,wA=((w.alloc (.cells #[.int .i64 (pl:Nat),.slice A n c] 72)).alloc (.cells #[.bool vh,strV vd] 32)).alloc (.cells #[.int .i64 0,.slice none 0 0] 72):=⟨_,rfl⟩;have z1:(w.alloc (.cells #[.int .i64 (pl:Nat),.slice A n c] 72)).heap.size=w.heap.size+1:=by simp
 have z2:((w.alloc (.cells #[.int .i64 (pl:Nat),.slice A n c] 72)).alloc (.cells #[.bool vh,strV vd] 32)).heap.size=w.heap.size+1+1:=by simp
 have zA:wA.heap.size=w.heap.size+1+1+1:=by rw[hwA];simp
 have hb4:Blk wA w.heap.size 72 #[.int .i64 (pl:Nat),.slice A n c]:=by rw[hwA];exact((Blk.new w _ _).alloc _).alloc _
 have hb7:Blk wA (w.heap.size+1) 32 #[.bool vh,strV vd]:=by rw[hwA];exact(Blk.new' _ _ _ z1.symm).alloc _
 have hb8:Blk wA (w.heap.size+1+1) 72 #[.int .i64 0,.slice none 0 0]:=by rw[hwA];exact Blk.new' _ _ _ z2.symm
 have hUA:Upd Nowhere w wA:=by rw[hwA];exact(((Upd.refl Nowhere w).alloc _).alloc _).alloc _
 rw[hn]at h;have HA:=qh (h.up hUA);have HB4:=qh hb4;have HB7:=qh hb7;have HB8:=qh hb8;have HUA:=qh hUA;have HP:=qh hp;have HC:=qh hc;have HZA:=qh zA;have a0:=hb4.cell 0;have a1:=hb4.cell 1;have b0:=hb7.cell 0;have b1:=hb7.cell 1;simp only[qA,qZ,qS]at a0 a1 b0 b1;have k1:¬(lsn:Int)<1:=by omega
 have k2:¬(1099511627776:Int)<(lsn:Int):=by omega
 have HWA:=qh hwA;have HROOM:=qh hroom;have HKC:Hid (∀w,Calls Tryz.prog 40 #[strV key] w fun e w'=>e= .returned (.bool true)∧w'=w):=qh fun w=>by have:=rkey_ok key w;rwa [hs.1]at this
 have HVC:Hid (∀w,Calls Tryz.prog 41 #[.agg #[.bool vh,strV vd]] w (BoolP true w)):=qh fun w=>by have:=rval_ok vh vd w;rwa [hs.2]at this
 clear hwA z1 z2 zA hb4 hb7 hb8 hUA h hp hc hlen hn h1 h2 hs hroom;rw[HN.out];go_enter Tryz.func26,Tryz.ntmps26
 go_upto_region 1 with(fail)
 rw[←HWA.out];go_wp2_with fail
 refine(rmay_ok HA.out HP.out).mono ?_;rintro e w1 ⟨rfl,hu1⟩;have HU1:=qh hu1;have d0:=(HB7.out.upd hu1 id).cell 0;have d1:=(HB7.out.upd hu1 id).cell 1;simp only[qA,qZ,qS]at d0 d1;clear hu1 a0 a1 b0 b1;go_wp2_with (first | (go_at_call 40;refine(HKC.out _).mono ?_;rintro e w9 ⟨rfl,hw9⟩;obtain rfl:=hw9.symm) | (go_at_call 41;refine(HVC.out _).mono ?_;rintro e w2 ⟨rfl,hu2⟩;have HU2:=qh (HU1.out.same hu2);have e0:=(HB4.out.upd HU2.out id).cell 0;have e1:=(HB4.out.upd HU2.out id).cell 1;simp only[qA,qZ,qS]at e0 e1;clear hu2 d0 d1))
 refine(rroom_ok (HA.out.up HU2.out) (by have:=HLEN.out;omega) pl key).mono ?_
 rw[HROOM.out];rintro e w3 ⟨rfl,hu3⟩;have HU3:=qh (HU2.out.same hu3);have hb8:=HB8.out.upd HU3.out id;have x0:=hb8.cell 0;have x1:=hb8.cell 1;have xz0:=hb8.frozen 0;have xz1:=hb8.frozen 1;simp only[qA,qZ,qS]at x0 x1;have hset:=(hb8.set_ 0 (.int .i64 0)).set_ 1 (.slice none 0 0);simp only[qsA,qsS,qsZ]at hset;have y0:=hset.cell 0;have y1:=hset.cell 1;simp only[qA,qZ,qS]at y0 y1;have HUF:Hid (Upd Nowhere w ((w3.setCell ⟨w.heap.size+1+1,0,none⟩ (.int .i64 0)).setCell ⟨w.heap.size+1+1,1,none⟩ (.slice none 0 0))):=qh (((HUA.out.same HU3.out).setCell (p:=⟨w.heap.size+1+1,0,none⟩) (fun h=>by have h:w.heap.size+1+1<w.heap.size:=h;omega) _).setCell (p:=⟨w.heap.size+1+1,1,none⟩) (fun h=>by have h:w.heap.size+1+1<w.heap.size:=h;omega) _)
 clear hu3 e0 e1 hb8 hset;go_wp2_with fail
 refine bodyPost_ret (v:= .tuple #[.agg #[.int .i64 0,.slice none 0 0],.int .i64 100]) (by simp[results,Tryz.results26,go_sem,y0,y1]) rfl ⟨rfl,HUF.out⟩
end Go.Proofs.YtdfccegeihfdpaaGreatDoor
