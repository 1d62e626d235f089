/-
  The document's pool: Change.
-/
import Derived.Test.YtdfccegeihfdpaaGreatDoorARfG
import Derived.Test.YtdfccegeihfdpaaGreatDoorARfJ
set_option maxRecDepth 100000
set_option maxHeartbeats 8000000
namespace Go.Proofs.YtdfccegeihfdpaaGreatDoor
open Go Go.RowKit
section
variable {bz:Nat} {w w':World} {q most pages a b g c:Nat} {T:PoS} {M M1 M2:DkM} {la fo ck:Nat} {os:List FrO}
theorem OpD.set45(h:OpD bz w q most pages a b g c os M1 M2 la fo ck){i:Nat}{o:FrO}(hi:os[i]? =some o)(l:Nat)(K:Cl){A:Option Addr}{k:Nat}(hK:CellsE w (.slice A K.length k) K):OpD bz ((w.setCell ⟨g,i * 7+4,none⟩ (.int .i64 (l:Nat))).setCell ⟨g,i * 7+5,none⟩ (.slice A K.length k)) q most pages a b g c (os.set i ({ o.1 with lsn:=l,cells:=K },(A,k))) M1 M2 la fo ck∧Upd (RfF bz w) w ((w.setCell ⟨g,i * 7+4,none⟩ (.int .i64 (l:Nat))).setCell ⟨g,i * 7+5,none⟩ (.slice A K.length k)):=by
 obtain⟨g0,u0⟩:=h.set1 (j:=4) (u:= .int .i64 (l:Nat)) hi (by omega) (o':=({ o.1 with lsn:=l },o.2)) rfl ⟨rfl,rfl⟩
 have hlt:=(qei.1 hi).1;have hi1:(os.set i ({ o.1 with lsn:=l },o.2))[i]? =some ({ o.1 with lsn:=l },o.2):=List.getElem?_set_self hlt
 obtain⟨cs,hb⟩:=g0.row.blk;have hC:NoC (fun k=>k=g) (w.setCell ⟨g,i * 7+4,none⟩ (.int .i64 (l:Nat))):=noC_blk hb (by decide)
 have hu:=Upd.one (w.setCell ⟨g,i * 7+4,none⟩ (.int .i64 (l:Nat))) g (i * 7+5) (.slice A K.length k);have hs:=g0.row.own.setAt frD_len hi1 (j:=5) (a':=({ o.1 with lsn:=l,cells:=K },(A,k))) (u:= .slice A K.length k) (by omega) rfl
 rw[List.set_set]at hs;refine⟨⟨by rw[List.length_set];have:=g0.blk.upd hu fun e=>g0.blk.ne_of hb (by decide) e;rw[List.length_set]at this;exact this,⟨by rw[List.length_set];rw[List.length_set]at hs;exact hs,fun o2 ho2=> ?_⟩,g0.pgs.upd hu (fun e=>g0.pgs.ne hb (by decide) e) hC,g0.trn.upd hu (fun e=>g0.trn.ne hb (by decide) e),h.ha,h.hb,h.hq⟩,u0.rfs (hu.mono fun k _ e=>by subst e;exact g0.row.rfF rfl)⟩
 rcases List.mem_or_eq_of_mem_set ho2 with h2 | rfl
 ·obtain⟨cs0,hb0⟩:=h.row.blk;exact((h.row.cells o2 h2).upd (Upd.one w g (i * 7+4) _) (noC_blk hb0 (by decide))).upd hu hC
 ·obtain⟨cs0,hb0⟩:=h.row.blk;exact(hK.upd (Upd.one w g (i * 7+4) _) (noC_blk hb0 (by decide))).upd hu hC
theorem rchange_ok(h:RfAt bz w q most T.pages (frs T) M la fo ck)(hB:RfB T)(hok:∀r∈T.L,r.1.pg.ok)(n:Int)(lsn:Nat)(h1:1≤lsn)(h2:lsn≤1099511627776)(key:Ky)(vh:Bool)(vd:Bs)(hk:CellOK (key,(vh,vd))):Calls Tryz.prog 143 #[.pointer (some ⟨q,0,none⟩),.int .i64 n,.int .i64 (lsn:Nat),strV key,.agg #[.bool vh,strV vd]] w fun e w'=>e= .returned (.int .i64 (changeS T n lsn key (vh,vd)).2)∧RfAt bz w' q most T.pages (frs (changeS T n lsn key (vh,vd)).1) M la fo ck∧Upd (RfF bz w) w w':=by
 obtain⟨bv,hbv⟩:∃bv,w.heap.size=bv:=⟨_,rfl⟩;obtain⟨wA,hwA⟩:∃wA,w.alloc (.cells #[.bool vh,strV vd] 32)=wA:=⟨_,rfl⟩;have hbV:Blk wA bv 32 #[.bool vh,strV vd]:=by rw[←hwA,←hbv];exact Blk.new w _ _
 have hUA:Upd Nowhere w wA:=hwA▸(Upd.refl Nowhere w).alloc _;have hA:=h.up hUA;have HPN:=qh (rpin_ok hA hB.nos hB.len n);have HH:=qh hA;have HUA:=qh hUA;have HBV:=qh hbV;have HB:=qh hB
 cases hs:pinS T n with
 | error x=>
   have hx:=pin_err hs;have hxb:(x == 0)=false:=by rcases hx with rfl | rfl<;>rfl
   have hxn:¬x=0:=by rcases hx with rfl | rfl<;>decide
   have hu:changeS T n lsn key (vh,vd)=(T,x):=by unfold changeS;rw[hs]
   rw[hu];have HS:=qh hs;clear hs hx hu h hB hok hA hUA hbV;go_enter Tryz.func143,Tryz.ntmps143
   go_wp2_with fail
   refine HPN.out.mono ?_;rintro e w9 ⟨hP,hw9⟩;obtain rfl:=hw9.symm;obtain rfl:=hP.1 x HS.out;clear hP;go_wp2_with fail
   go_ret;exact⟨rfl,HH.out,HUA.out.any⟩
 | ok r=>
   obtain⟨hr,hno,hz,hf⟩:=pinS_ok hs;have hrok:=hok r hr;have HS:=qh hs;have HROK:=qh hrok;have HK:=qh hk;have HL1:=qh h1;have HL2:=qh h2;have hlI:(lsn:Int)≤1099511627776:=by omega
   cases hroom:roomB r.1.cells key with
   | false=>
     have hu:changeS T n lsn key (vh,vd)=(T,100):=by unfold changeS;rw[hs];simp only;rw[hroom];rfl
     rw[hu];have HRM:=qh hroom;clear hs hu h hB hok hA hUA hbV hr hno hz hf hrok hroom hk h1 h2;go_enter Tryz.func143,Tryz.ntmps143
     go_wp2_with fail
     refine HPN.out.mono ?_;rintro e w9 ⟨hP,hw9⟩;obtain rfl:=hw9.symm;obtain⟨i,rfl,hi⟩:=hP.2 r HS.out;clear hP;obtain⟨a,b,os,g,c,o,⟨h1,h2,h3,h4,h5,h6,h7⟩,ho,hor,hlo,hio,_,c1,_,_,_,_,q4,q5,_,hce⟩:=HH.out.at_ (frs_get hi);have HOP:Hid (OpD bz wA q most T.pages a b g c os M M la fo ck):=qh ⟨h1,h2,h4,h5,h6,h7,HH.out.hq⟩;have HO:=qh ho;have HOR:=qh hor;have HMM:=qh h3;have HCE:=qh hce;have HI:=qh hi;obtain⟨ln,hln⟩:∃ln,os.length=ln:=⟨_,rfl⟩;have HLN:=qh hln
     have hl2:(ln:Int)≤1000:=by
      have:=HB.out.len;unfold frs at hlo;rw[qlm]at hlo;omega
     have hiI:(i:Int)<(ln:Int):=by omega
     have EE:Hid (∀W,Upd Nowhere wA W→(W.cell? ⟨q,1,none⟩=some (.slice (some ⟨g,0,none⟩) ln c)∧W.cell? ⟨g,i * 7+4,none⟩=some (.int .i64 (r.1.lsn:Nat))∧W.cell? ⟨g,i * 7+5,none⟩=some (.slice o.2.1 r.1.cells.length o.2.2)∧W.cell? ⟨bv,0,none⟩=some (.bool vh)∧W.cell? ⟨bv,1,none⟩=some (strV vd))):=qh fun W hW=>by
      have b1:=(HOP.out.blk.upd hW id).cell 1;have v0:=(HBV.out.upd hW id).cell 0;have v1:=(HBV.out.upd hW id).cell 1;unfold boxD at b1;rw[HLN.out]at b1;simp only[qA,qZ,qS]at b1 v0 v1;obtain⟨g',c',hv,_,_,_,_,_,_,g4,g5,_⟩:=(HOP.out.up hW).row.get HO.out;injection hv with hv1 _ _
      injection hv1 with hv1
      injection hv1 with hv1 _ _
      subst hv1;unfold slO at g5;rw[HOR.out]at g4 g5;exact⟨b1,g4,g5,v0,v1⟩
     have dd:=EE.out wA (Upd.refl _ _);have d2:=EE.out wA.drew (Upd.refl Nowhere wA).drew;have d3:=EE.out (wA.alloc (.cells #[.int .i64 0,.slice none 0 0] 72)) ((Upd.refl Nowhere wA).alloc _);have d4:=EE.out (wA.alloc (.cells #[.int .i64 0,.slice none 0 0] 72)).drew ((Upd.refl Nowhere wA).alloc _).drew;have HU0:Hid (Upd Nowhere wA (wA.alloc (.cells #[.int .i64 0,.slice none 0 0] 72)).drew):=qh ((Upd.refl Nowhere wA).alloc (.cells #[.int .i64 0,.slice none 0 0] 72)).drew;clear h1 h2 h3 h4 h5 h6 h7 ho hor hlo hio c1 q4 q5 hce hln hi;have HSET:Hid (∀W,Upd Nowhere wA W→Calls Tryz.prog 26 #[.agg #[.int .i64 (r.1.lsn:Nat),.slice o.2.1 r.1.cells.length o.2.2],.int .i64 (lsn:Nat),strV key,.agg #[.bool vh,strV vd]] W fun e w'=>e= .returned (.tuple #[.agg #[.int .i64 0,.slice none 0 0],.int .i64 100])∧Upd Nowhere W w'):=qh fun W hW=>rset_full (p:=r.1.pg) (HCE.out.up hW) HROK.out lsn HL1.out HL2.out key vh vd HK.out HRM.out
     go_wp2_with fail
     go_cut [13,12] (fun _ t12 wz=>t12= .int .i64 100∧Upd Nowhere wA wz)
     case first=>
      go_region_held3 (fun w'=>w'.cell? ⟨q,1,none⟩=some (.slice (some ⟨g,0,none⟩) ln c)∧w'.cell? ⟨g,i * 7+4,none⟩=some (.int .i64 (r.1.lsn:Nat))∧w'.cell? ⟨g,i * 7+5,none⟩=some (.slice o.2.1 r.1.cells.length o.2.2)∧w'.cell? ⟨bv,0,none⟩=some (.bool vh)∧w'.cell? ⟨bv,1,none⟩=some (strV vd)) (first | with_reducible exact dd | with_reducible exact d2 | with_reducible exact d3 | with_reducible exact d4 | with_reducible exact k2 | with_reducible exact k3 | with_reducible exact k5)
       (first
         | (go_at_call 26
            refine(HSET.out wA.drew (Upd.refl Nowhere wA).drew).mono ?_;rintro e w3 ⟨rfl,hU3⟩;have hU3':Upd Nowhere wA w3:=(Upd.refl Nowhere wA).drew.same hU3;have k2:=EE.out w3 hU3';have k3:=EE.out _ (hU3'.alloc (.cells #[.int .i64 0,.slice none 0 0] 72));have HU3:=qh hU3';clear hU3 hU3')
         | (go_at_call 26
            refine(HSET.out _ HU0.out).mono ?_;rintro e w3 ⟨rfl,hU3⟩;have hU3':Upd Nowhere wA w3:=HU0.out.same hU3;have k2:=EE.out w3 hU3';have k5:=EE.out _ ((hU3'.setCell (p:=⟨wA.heap.size,0,none⟩) (fun h=>absurd h (Nat.lt_irrefl _)) (.int .i64 0)).setCell (p:=⟨wA.heap.size,1,none⟩) (fun h=>absurd h (Nat.lt_irrefl _)) (.slice none 0 0))
            have hbq5:=(Blk.new wA 72 #[.int .i64 0,.slice none 0 0]).drew.upd hU3 id;have y0:=hbq5.cell 0;have y1:=hbq5.cell 1;have x0:=hbq5.frozen 0;have x1:=hbq5.frozen 1;simp only[qA,qZ,qS]at y0 y1;have HU3:=qh hU3';clear hU3 hU3' hbq5))
      ·go_wp2_with fail
       go_meet;exact⟨rfl,HU3.out.alloc _⟩
      ·go_wp2_with fail
       go_meet;exact⟨rfl,(HU3.out.setCell (p:=⟨wA.heap.size,0,none⟩) (fun h=>absurd h (Nat.lt_irrefl _)) _).setCell (p:=⟨wA.heap.size,1,none⟩) (fun h=>absurd h (Nat.lt_irrefl _)) _⟩
     case rest=>
      obtain⟨rfl,hu⟩:=hcut;have HU:=qh hu;clear hu dd d2 d3 d4 EE HSET HU0;go_wp2_with fail
      go_ret;exact⟨rfl,HH.out.up HU.out,(HUA.out.same HU.out).any⟩
   | true=>
     obtain⟨x',hx'⟩:∃x':FrP,{ r.1 with lsn:=lsn,cells:=setC r.1.cells key (vh,vd),rc:=if r.1.rc=0 then lsn else r.1.rc }=x':=⟨_,rfl⟩
     have hu:changeS T n lsn key (vh,vd)=({ T with L:=updF T.L x' },0):=by unfold changeS;rw[hs];simp only;rw[hroom,hx'];rfl
     obtain⟨T',hT'⟩:∃T':PoS,{ T with L:=updF T.L x' }=T':=⟨_,rfl⟩
     rw[hu,hT'];have HT:=qh hT';have HX:=qh hx';have HRM:=qh hroom;clear hs hu h hB hok hA hUA hbV hr hno hz hf hrok hroom hk h1 h2 hT' hx';go_enter Tryz.func143,Tryz.ntmps143
     go_wp2_with fail
     refine HPN.out.mono ?_;rintro e w9 ⟨hP,hw9⟩;obtain rfl:=hw9.symm;obtain⟨i,rfl,hi⟩:=hP.2 r HS.out;clear hP;obtain⟨a,b,os,g,c,o,⟨h1,h2,h3,h4,h5,h6,h7⟩,ho,hor,hlo,hio,_,c1,_,_,_,_,q4,q5,_,hce⟩:=HH.out.at_ (frs_get hi);have HOP:Hid (OpD bz wA q most T.pages a b g c os M M la fo ck):=qh ⟨h1,h2,h4,h5,h6,h7,HH.out.hq⟩;have HO:=qh ho;have HOR:=qh hor;have HMM:=qh h3;have HCE:=qh hce;have HI:=qh hi;obtain⟨ln,hln⟩:∃ln,os.length=ln:=⟨_,rfl⟩;have HLN:=qh hln
     have hl2:(ln:Int)≤1000:=by
      have:=HB.out.len;unfold frs at hlo;rw[qlm]at hlo;omega
     have hiI:(i:Int)<(ln:Int):=by omega
     have EE:Hid (∀W,Upd Nowhere wA W→(W.cell? ⟨q,1,none⟩=some (.slice (some ⟨g,0,none⟩) ln c)∧W.cell? ⟨g,i * 7+4,none⟩=some (.int .i64 (r.1.lsn:Nat))∧W.cell? ⟨g,i * 7+5,none⟩=some (.slice o.2.1 r.1.cells.length o.2.2)∧W.cell? ⟨bv,0,none⟩=some (.bool vh)∧W.cell? ⟨bv,1,none⟩=some (strV vd))):=qh fun W hW=>by
      have b1:=(HOP.out.blk.upd hW id).cell 1;have v0:=(HBV.out.upd hW id).cell 0;have v1:=(HBV.out.upd hW id).cell 1;unfold boxD at b1;rw[HLN.out]at b1;simp only[qA,qZ,qS]at b1 v0 v1;obtain⟨g',c',hv,_,_,_,_,_,_,g4,g5,_⟩:=(HOP.out.up hW).row.get HO.out;injection hv with hv1 _ _
      injection hv1 with hv1
      injection hv1 with hv1 _ _
      subst hv1;unfold slO at g5;rw[HOR.out]at g4 g5;exact⟨b1,g4,g5,v0,v1⟩
     have dd:=EE.out wA (Upd.refl _ _);have d2:=EE.out wA.drew (Upd.refl Nowhere wA).drew;have d3:=EE.out (wA.alloc (.cells #[.int .i64 0,.slice none 0 0] 72)) ((Upd.refl Nowhere wA).alloc _);have d4:=EE.out (wA.alloc (.cells #[.int .i64 0,.slice none 0 0] 72)).drew ((Upd.refl Nowhere wA).alloc _).drew;have HU0:Hid (Upd Nowhere wA (wA.alloc (.cells #[.int .i64 0,.slice none 0 0] 72)).drew):=qh ((Upd.refl Nowhere wA).alloc (.cells #[.int .i64 0,.slice none 0 0] 72)).drew;clear h1 h2 h3 h4 h5 h6 h7 ho hor hlo hio c1 q4 q5 hce hln hi;obtain⟨K,hKs⟩:∃K,setC r.1.cells key (vh,vd)=K:=⟨_,rfl⟩;have HKS:=qh hKs
     have HSET:Hid (∀W,Upd Nowhere wA W→Calls Tryz.prog 26 #[.agg #[.int .i64 (r.1.lsn:Nat),.slice o.2.1 r.1.cells.length o.2.2],.int .i64 (lsn:Nat),strV key,.agg #[.bool vh,strV vd]] W fun e w'=>∃A c,e= .returned (.tuple #[.agg #[.int .i64 (lsn:Nat),.slice A K.length c],.int .i64 0])∧CellsE w' (.slice A K.length c) K∧Upd Nowhere W w'):=qh fun W hW=>by
      refine(rset_ok (p:=r.1.pg) (HCE.out.up hW) HROK.out lsn HL1.out HL2.out key vh vd HK.out HRM.out).mono ?_;rintro e w' ⟨⟨A,c,rfl,hO⟩,hu⟩;have hO:OwnC W.heap.size w' (.slice A (setC r.1.cells key (vh,vd)).length c) (setC r.1.cells key (vh,vd)):=hO;rw[HKS.out]at hO;refine⟨A,c,?_,hO.cellsE,hu⟩;rw[←HKS.out];rfl
     clear hKs;go_wp2_with fail
     go_cut [13,12] (fun t13 t12 wz=>∃(r13:Nat) (A3:Option Addr) (c3:Nat),t13= .pointer (some ⟨r13,0,none⟩)∧t12= .int .i64 0∧Blk wz r13 72 #[.int .i64 (lsn:Nat),.slice A3 K.length c3]∧CellsE wz (.slice A3 K.length c3) K∧Upd Nowhere wA wz)
     case first=>
      go_region_held3 (fun w'=>w'.cell? ⟨q,1,none⟩=some (.slice (some ⟨g,0,none⟩) ln c)∧w'.cell? ⟨g,i * 7+4,none⟩=some (.int .i64 (r.1.lsn:Nat))∧w'.cell? ⟨g,i * 7+5,none⟩=some (.slice o.2.1 r.1.cells.length o.2.2)∧w'.cell? ⟨bv,0,none⟩=some (.bool vh)∧w'.cell? ⟨bv,1,none⟩=some (strV vd)) (first | with_reducible exact dd | with_reducible exact d2 | with_reducible exact d3 | with_reducible exact d4 | with_reducible exact k2 | with_reducible exact k3 | with_reducible exact k4 | with_reducible exact k5)
       (first
         | (go_at_call 26
            refine(HSET.out wA.drew (Upd.refl Nowhere wA).drew).mono ?_;rintro e w3 ⟨A3,c3,rfl,hO3,hU3⟩;have hU3':Upd Nowhere wA w3:=(Upd.refl Nowhere wA).drew.same hU3;have k2:=EE.out w3 hU3';have k3:=EE.out _ (hU3'.alloc (.cells #[.int .i64 0,.slice none 0 0] 72));have k4:=EE.out _ (hU3'.alloc (.cells #[.int .i64 (lsn:Nat),.slice A3 K.length c3] 72));have HU3:=qh hU3';have HO3:=qh hO3;clear hU3 hU3' hO3)
         | (go_at_call 26
            refine(HSET.out _ HU0.out).mono ?_;rintro e w3 ⟨A3,c3,rfl,hO3,hU3⟩;have hU3':Upd Nowhere wA w3:=HU0.out.same hU3;have k2:=EE.out w3 hU3';have k5:=EE.out _ ((hU3'.setCell (p:=⟨wA.heap.size,0,none⟩) (fun h=>absurd h (Nat.lt_irrefl _)) (.int .i64 (lsn:Nat))).setCell (p:=⟨wA.heap.size,1,none⟩) (fun h=>absurd h (Nat.lt_irrefl _)) (.slice A3 K.length c3))
            have hbq5:=(Blk.new wA 72 #[.int .i64 0,.slice none 0 0]).drew.upd hU3 id;have y0:=hbq5.cell 0;have y1:=hbq5.cell 1;have x0:=hbq5.frozen 0;have x1:=hbq5.frozen 1;simp only[qA,qZ,qS]at y0 y1;have HBQ:=qh hbq5;have HU3:=qh hU3';have HO3:=qh hO3;clear hU3 hU3' hbq5 hO3))
      ·go_wp2_with fail
       go_meet;exact⟨w3.heap.size,A3,c3,rfl,rfl,Blk.new _ _ _,HO3.out.up ((Upd.refl Nowhere w3).alloc _),HU3.out.alloc _⟩
      ·go_wp2_with fail
       go_meet;have hbz:=(HBQ.out.set_ 0 (.int .i64 (lsn:Nat))).set_ 1 (.slice A3 K.length c3);simp only[qsA,qsS,qsZ]at hbz;exact⟨wA.heap.size,A3,c3,rfl,rfl,hbz,HO3.out.upd ((Upd.one w3 wA.heap.size 0 _).same (Upd.one _ wA.heap.size 1 _)) (noC_blk HBQ.out (by decide)),(HU3.out.setCell (p:=⟨wA.heap.size,0,none⟩) (fun h=>absurd h (Nat.lt_irrefl _)) _).setCell (p:=⟨wA.heap.size,1,none⟩) (fun h=>absurd h (Nat.lt_irrefl _)) _⟩
     case rest=>
      obtain⟨r13,A3,c3,rfl,rfl,hb13,hce3,hu⟩:=hcut;clear dd d2 d3 d4 EE HSET HU0;have hdc:=HOP.out.up hu;have u1:=hdc.blk.cell 1;unfold boxD at u1;rw[HLN.out]at u1;have p0:=hb13.cell 0;have p1:=hb13.cell 1;simp only[qA,qZ,qS]at u1 p0 p1;obtain⟨g',c',hv,_,gz,_,_,g2,_,g4,g5,_⟩:=hdc.row.get HO.out;injection hv with hv1 _ _
      injection hv1 with hv1
      injection hv1 with hv1 _ _
      subst hv1;have gz4:=gz (i * 7+4);have gz5:=gz (i * 7+5);unfold slO at g5;obtain⟨hD2,hU2⟩:=hdc.set45 HO.out lsn K hce3;have HD2:=qh hD2;have HU2:Hid (Upd (RfF bz w) w _):=qh ((HUA.out.same hu).any.rfs hU2);clear hdc hb13 hce3 hu gz hD2 hU2;go_wp2_with fail
      go_cut [47] (fun _ wz=>OpD bz wz q most T.pages a b g c (os.set i ({ o.1 with lsn:=lsn,cells:=K },(A3,c3))) M M la fo ck∧Upd (RfF bz w) w wz)
      case first=>
       go_region
       all_goals
        go_wp2_with fail
        go_meet;exact⟨HD2.out.up (Upd.refl Nowhere _).drew,HU2.out.drew⟩
      case rest=>
       obtain⟨hd,hu⟩:=hcut;clear u1 p0 p1 g2 g4 g5 gz4 gz5 HD2 HU2;have hi2:(os.set i ({ o.1 with lsn:=lsn,cells:=K },(A3,c3)))[i]? =some ({ o.1 with lsn:=lsn,cells:=K },(A3,c3)):=List.getElem?_set_self (qei.1 HO.out).1
       have u1:=hd.blk.cell 1;unfold boxD at u1;rw[List.length_set,HLN.out]at u1;simp only[qA,qZ,qS]at u1;obtain⟨g',c',hv,_,gz,_,_,g2,_⟩:=hd.row.get hi2;injection hv with hv1 _ _
       injection hv1 with hv1
       injection hv1 with hv1 _ _
       subst hv1;have gz2:=gz (i * 7+2);simp only at g2;rw[HOR.out]at g2;obtain⟨rv,hrv⟩:∃rv,r.1.rc=rv:=⟨_,rfl⟩;rw[hrv]at g2
       have hfin:∀{W:World} {o':FrO},OpD bz W q most T.pages a b g c ((os.set i ({ o.1 with lsn:=lsn,cells:=K },(A3,c3))).set i o') M M la fo ck→o'.1=x'→RfAt bz W q most T.pages (frs T') M la fo ck:=fun {W o'} hW he=>by
        have h5:=hW.rf;rw[List.set_set,List.map_set,HMM.out,he]at h5;rw[←HT.out];have h6:frs { T with L:=updF T.L x' }=(frs T).set i x':=upd_set HB.out.nos HI.out x' (by rw[←HX.out])
        rw[h6];exact h5
       by_cases h0:rv=0
       ·have hst:=hd.set1 (j:=2) (u:= .int .i64 (lsn:Nat)) hi2 (by omega) (o':=({ o.1 with lsn:=lsn,cells:=K,rc:=lsn },(A3,c3))) rfl ⟨rfl,rfl⟩
        have HR:=qh (hfin hst.1 (by rw[←HX.out,HKS.out,HOR.out];simp only;rw[hrv,if_pos h0]))
        have HU:=qh (hu.rfs hst.2);subst h0;rw[show((0:Nat):Int)=0 from rfl]at g2;clear hd hu gz hi2 hfin hst hrv;go_wp2_with fail
        go_ret;exact⟨rfl,HR.out,HU.out⟩
       ·have hse:(os.set i ({ o.1 with lsn:=lsn,cells:=K },(A3,c3)))=(os.set i ({ o.1 with lsn:=lsn,cells:=K },(A3,c3))).set i ({ o.1 with lsn:=lsn,cells:=K },(A3,c3)):=by rw[List.set_set]
        have hd':=hd;rw[hse]at hd';have HR:=qh (hfin hd' (by rw[←HX.out,HKS.out,HOR.out];simp only;rw[hrv,if_neg h0]))
        have HU:=qh hu;have hz:((rv:Int) == 0)=false:=by simpa using h0
        clear hd hu gz hi2 hfin hd' hse hrv h0;go_wp2_with fail
        go_ret;exact⟨rfl,HR.out,HU.out⟩
end
end Go.Proofs.YtdfccegeihfdpaaGreatDoor
