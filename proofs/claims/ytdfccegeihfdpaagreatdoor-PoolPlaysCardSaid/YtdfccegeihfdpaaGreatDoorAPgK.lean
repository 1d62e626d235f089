/-
  Contracts of layer 12: Page, Change. Contracts of layer 12: back, Flush, Evict.
-/
import Derived.Test.YtdfccegeihfdpaaGreatDoorAPgH
set_option maxRecDepth 100000
set_option maxHeartbeats 4000000
namespace Go.Proofs.YtdfccegeihfdpaaGreatDoor
open Go Go.RowKit
section
variable {w:World} {bz P l:Nat} {p:DkP} {S:LogS} {T:PoS}
def PagP(T:PoS)(n:Int)(w:World)(e:Ending)(w':World):Prop:=
 (∀x,pinS T n= .error x→e= .returned (.tuple #[.agg #[.int .i64 0,.slice none 0 0],.int .i64 x]))∧
 (∀q,pinS T n= .ok q→∃A c,e= .returned (.tuple #[.agg #[.int .i64 (q.1.lsn:Nat),.slice A q.1.cells.length c],.int .i64 0])∧OwnC w.heap.size w' (.slice A q.1.cells.length c) q.1.cells)∧Upd Nowhere w w'
theorem ppage_ok(h:PoolAt bz w P p l S T)(hB:PoB T)(n:Int):Calls Tryz.prog 27 #[.pointer (some ⟨P,0,none⟩),.int .i64 n] w (PagP T n w):=by
 have hua:=(Upd.refl Nowhere w).alloc (.cells #[.int .i64 0,.slice none 0 0] 72);have HPN:=qh (pinned_ok (h.up hua) n);have HB0:=qh (Blk.new w 72 #[.int .i64 0,.slice none 0 0]);have HU:=qh hua;have hPlt:P<w.heap.size:=h.blk.lt
 cases hp:pinS T n with
 | error x=>
   have hx:=pin_err hp;have hxb:(x == 0)=false:=by rcases hx with rfl | rfl<;>rfl
   have HP:=qh hp;rw[hp,pinV_err]at HPN;have f0:=HB0.out.frozen 0;have f1:=HB0.out.frozen 1;have g0:=HB0.out.cell 0;have g1:=HB0.out.cell 1;simp only[qA,qZ,qS]at g0 g1;have HUF:=qh hua;clear h hx hp hB hua;go_enter Tryz.func27,Tryz.ntmps27
   go_wp2_with fail
   refine HPN.out.mono ?_;rintro e w1 ⟨rfl,rfl⟩;go_wp2_with fail
   refine bodyPost_ret (v:= .tuple #[.agg #[.int .i64 0,.slice none 0 0],.int .i64 x]) (by simp[results,Tryz.results27,go_sem,g0,g1]) rfl ⟨fun y hy=> ?_,fun q hq=> ?_,HUF.out⟩
   ·rw[HP.out]at hy;cases hy;rfl
   ·rw[HP.out]at hq;cases hq
 | ok q=>
   obtain⟨hq,hno,hpins,_⟩:=pinS_ok hp;have HP:=qh hp;obtain⟨x,b⟩:=q;have hok:=(hB.fr _ hq).2.2.2;have hb:=((h.up hua).fr _ hq);obtain⟨A,c,f0,f1,f2,f3,f4,f5,f6,fz,hce⟩:=hb.cells;simp only at f4 f5 hce hok;rw[hp,pinV_ok]at HPN;have hl4:x.cells.length≤4:=hok.len;have HOW:=qh (own_ok hce (by omega) (x.lsn:Nat))
   clear h hp hq hok hb hpins f0 f1 f2 f3 f6 fz hce hB hno hua;go_enter Tryz.func27,Tryz.ntmps27
   go_wp2_with fail
   refine HPN.out.mono ?_;rintro e w1 ⟨rfl,rfl⟩;go_wp2_with fail
   refine HOW.out.mono ?_;rintro e w2 ⟨A2,c2,rfl,hO2,hu2⟩;have hb2:=HB0.out.upd hu2 id;have q0:=hb2.frozen 0;have q1:=hb2.frozen 1;have g0:=hb2.cell 0;have g1:=hb2.cell 1;have hbz:=(hb2.set_ 0 (.int .i64 (x.lsn:Nat))).set_ 1 (.slice A2 x.cells.length c2);have s0:=hbz.cell 0;have s1:=hbz.cell 1;simp only[qA,qZ,qS,qsA,qsS,qsZ]at g0 g1 s0 s1;have HNW:Hid (∀k,(Value.slice A2 x.cells.length c2).ownBlock=some k→w.heap.size<k):=qh fun k hk=>by have:=hO2.new k hk;simp at this;omega
   have HOF:=qh (((hO2.far (B':=w.heap.size) fun k hk=>Nat.le_of_lt (HNW.out k hk)).upd (Upd.one _ w.heap.size 0 (.int .i64 (x.lsn:Nat))) fun k hk e=>by have:=HNW.out k hk;omega).upd (Upd.one _ w.heap.size 1 (.slice A2 x.cells.length c2)) fun k hk e=>by have:=HNW.out k hk;omega)
   have HUF:=qh (((HU.out.same hu2).setCell (p:=⟨w.heap.size,0,none⟩) (fun h=>by simp only at h;omega) (.int .i64 (x.lsn:Nat))).setCell (p:=⟨w.heap.size,1,none⟩) (fun h=>by simp only at h;omega) (.slice A2 x.cells.length c2))
   clear hb2 hbz hO2 hu2 f4 f5;go_wp2_with fail
   refine bodyPost_ret (v:= .tuple #[.agg #[.int .i64 (x.lsn:Nat),.slice A2 x.cells.length c2],.int .i64 0]) (by simp[results,Tryz.results27,go_sem,s0,s1]) rfl ⟨fun y hy=> ?_,fun q hq=> ?_,HUF.out⟩
   ·rw[HP.out]at hy;cases hy
   ·rw[HP.out]at hq;cases hq;exact⟨A2,c2,rfl,HOF.out⟩
def changeS(T:PoS)(n:Int)(lsn:Nat)(key:Ky)(v:Vl):PoS×Int:=match pinS T n with
 | .error e=>(T,e)
 | .ok q=>if roomB q.1.cells key then ({ T with L:=updF T.L { q.1 with lsn:=lsn,cells:=setC q.1.cells key v,rc:=if q.1.rc=0 then lsn else q.1.rc } },0) else (T,100)
theorem pset_t{w:World}{v:Value}{q:PgP}(h:CellsE w v q.cells)(hp:q.ok)(lsn:Nat)(h1:1≤lsn∧lsn≤1099511627776)(key:Ky)(vh:Bool)(vd:Bs)(hc:CellOK (key,(vh,vd)))(hr:roomB q.cells key=true):Calls Tryz.prog 81 #[.agg #[.int .i64 (q.lsn:Nat),v],.int .i64 (lsn:Nat),strV key,.agg #[.bool vh,strV vd]] w fun e w'=>∃A c,e= .returned (.tuple #[.agg #[.int .i64 (lsn:Nat),.slice A (setC q.cells key (vh,vd)).length c],.int .i64 0])∧OwnC w.heap.size w' (.slice A (setC q.cells key (vh,vd)).length c) (setC q.cells key (vh,vd))∧Upd Nowhere w w':=by
 refine(pset_ok h hp lsn h1.1 h1.2 key vh vd hc).mono ?_;rintro e w' ⟨a,_,b⟩;obtain⟨A,c,h3,h4⟩:=a hr;exact⟨A,c,h3,h4,b⟩
theorem pset_f{w:World}{v:Value}{q:PgP}(h:CellsE w v q.cells)(hp:q.ok)(lsn:Nat)(h1:1≤lsn∧lsn≤1099511627776)(key:Ky)(vh:Bool)(vd:Bs)(hc:CellOK (key,(vh,vd)))(hr:roomB q.cells key=false):Calls Tryz.prog 81 #[.agg #[.int .i64 (q.lsn:Nat),v],.int .i64 (lsn:Nat),strV key,.agg #[.bool vh,strV vd]] w fun e w'=>e= .returned (.tuple #[.agg #[.int .i64 0,.slice none 0 0],.int .i64 100])∧Upd Nowhere w w':=by
 refine(pset_ok h hp lsn h1.1 h1.2 key vh vd hc).mono ?_;rintro e w' ⟨_,a,b⟩;exact⟨a hr,b⟩
theorem change_ok(h:PoolAt bz w P p l S T)(hB:PoB T)(n:Int)(lsn:Nat)(h1:1≤lsn)(h2:lsn≤1099511627776)(key:Ky)(vh:Bool)(vd:Bs)(hc:CellOK (key,(vh,vd))):Calls Tryz.prog 25 #[.pointer (some ⟨P,0,none⟩),.int .i64 n,.int .i64 (lsn:Nat),strV key,.agg #[.bool vh,strV vd]] w (PoP bz P l p S (changeS T n lsn key (vh,vd)).1 (changeS T n lsn key (vh,vd)).2 w):=by
 have hua:=(Upd.refl Nowhere w).alloc (.cells #[.bool vh,strV vd] 32);have HPN:=qh (pinned_ok (h.up hua) n);have HB0:=qh (Blk.new w 32 #[.bool vh,strV vd]);have HU:=qh hua;have HH:=qh h;have hPlt:P<w.heap.size:=h.blk.lt
 have HCS:Hid (changeS T n lsn key (vh,vd)=match pinS T n with
  | .error e=>(T,e)
  | .ok q=>if roomB q.1.cells key then ({ T with L:=updF T.L { q.1 with lsn:=lsn,cells:=setC q.1.cells key (vh,vd),rc:=if q.1.rc=0 then lsn else q.1.rc } },0) else (T,100)):=qh rfl
 cases hp:pinS T n with
 | error x=>
   have hx:=pin_err hp;have hxb:(x == 0)=false:=by rcases hx with rfl | rfl<;>rfl
   have hcs:=HCS.out;rw[hp]at hcs;simp only at hcs;rw[hp,pinV_err]at HPN;rw[hcs];clear h hx hp hB hua hcs HCS;go_enter Tryz.func25,Tryz.ntmps25
   go_wp2_with fail
   refine HPN.out.mono ?_;rintro e w1 ⟨rfl,rfl⟩;go_wp2_with fail
   go_ret;exact⟨rfl,HH.out.up HU.out,HU.out.any⟩
 | ok q=>
   obtain⟨hq,hno,hpins,_⟩:=pinS_ok hp;obtain⟨x,b⟩:=q;have hok:=(hB.fr _ hq).2.2.2;have hfr:=((h.up hua).fr _ hq);obtain⟨A,c,f0,f1,f2,f3,f4,f5,f6,fz,hce⟩:=hfr.cells;simp only at f2 f4 f5 hce hok;have hcs:=HCS.out;rw[hp]at hcs;simp only at hcs;rw[hp,pinV_ok]at HPN;have HCS2:=qh hcs
   have hblt:b<w.heap.size:=by
    obtain⟨_,_,hb',_⟩:=(h.fr _ hq).ex;exact hb'.lt
   have HQ:=qh hq;have HFR:=qh hfr;have HOK:=qh hok;have HL12:=qh (show 1≤lsn∧lsn≤1099511627776 from⟨h1,h2⟩)
   have HCO:=qh hc;have v0:=HB0.out.cell 0;have v1:=HB0.out.cell 1;simp only[qA,qZ,qS]at v0 v1;have HHA:=qh (h.up hua);clear h hp hq hok hfr hpins f0 f1 f3 f6 hB hno hua hcs HCS;go_enter Tryz.func25,Tryz.ntmps25
   go_wp2_with fail
   refine HPN.out.mono ?_;rintro e w1 ⟨rfl,rfl⟩;go_wp2_with fail
   obtain⟨wA,hwA⟩:∃wA,w.alloc (.cells #[.bool vh,strV vd] 32)=wA:=⟨_,rfl⟩;rw[hwA]at HU HB0 HHA HFR f2 f4 f5 v0 v1 fz hce ⊢;have dd:wA.drew.cell? ⟨b,4,none⟩=some (.int .i64 (x.lsn:Nat))∧wA.drew.cell? ⟨b,5,none⟩=some (.slice A x.cells.length c)∧wA.drew.cell? ⟨w.heap.size,0,none⟩=some (.bool vh)∧wA.drew.cell? ⟨w.heap.size,1,none⟩=some (strV vd):=⟨f4,f5,v0,v1⟩;have hszA:wA.heap.size=w.heap.size+1:=by rw[←hwA];simp
   have hblt2:b<wA.heap.size:=by omega
   have hwlt2:w.heap.size<wA.heap.size:=by omega
   clear hszA;have ee:∀X:World,Upd Nowhere wA X→X.cell? ⟨b,4,none⟩=some (.int .i64 (x.lsn:Nat))∧X.cell? ⟨b,5,none⟩=some (.slice A x.cells.length c)∧X.cell? ⟨w.heap.size,0,none⟩=some (.bool vh)∧X.cell? ⟨w.heap.size,1,none⟩=some (strV vd):=fun X hX=>⟨(hX.cell (p:=⟨b,4,none⟩) hblt2 id).trans dd.1,(hX.cell (p:=⟨b,5,none⟩) hblt2 id).trans dd.2.1,(hX.cell (p:=⟨w.heap.size,0,none⟩) hwlt2 id).trans dd.2.2.1,(hX.cell (p:=⟨w.heap.size,1,none⟩) hwlt2 id).trans dd.2.2.2⟩
   have EE:=qh ee;have d2:=ee _ (((Upd.refl Nowhere wA).alloc (.cells #[.int .i64 0,.slice none 0 0] 72)).drew:Upd Nowhere wA (wA.alloc (.cells #[.int .i64 0,.slice none 0 0] 72)).drew);have HCE:=qh hce;clear ee hce
   cases hr:roomB x.cells key with
   | true=>
     have HR:=qh hr;have HS1:=qh (pset_t (w:=wA.drew) (HCE.out.up (Upd.refl Nowhere wA).drew) HOK.out lsn HL12.out key vh vd HCO.out hr);have HS2:=qh (pset_t (w:=(wA.alloc (.cells #[.int .i64 0,.slice none 0 0] 72)).drew) ((HCE.out.up ((Upd.refl Nowhere wA).alloc (.cells #[.int .i64 0,.slice none 0 0] 72))).up (Upd.refl Nowhere _).drew) HOK.out lsn HL12.out key vh vd HCO.out hr);clear hr;go_cut [12,13] (fun t12 t13 wz=>∃(q13:Nat) (A3:Option Addr) (c3:Nat),t12= .int .i64 0∧t13= .pointer (some ⟨q13,0,none⟩)∧Blk wz q13 72 #[.int .i64 (lsn:Nat),.slice A3 (setC x.pg.cells key (vh,vd)).length c3]∧Upd Nowhere wA wz∧OwnC wA.heap.size wz (.slice A3 (setC x.pg.cells key (vh,vd)).length c3) (setC x.pg.cells key (vh,vd)))
     case first=>
      go_region_held3 (fun w'=>w'.cell? ⟨b,4,none⟩=some (.int .i64 (x.lsn:Nat))∧w'.cell? ⟨b,5,none⟩=some (.slice A x.cells.length c)∧w'.cell? ⟨w.heap.size,0,none⟩=some (.bool vh)∧w'.cell? ⟨w.heap.size,1,none⟩=some (strV vd)) (first | with_reducible exact dd | with_reducible exact d2 | with_reducible exact k2 | with_reducible exact k3 | with_reducible exact k4 | with_reducible exact k5)
       (first
         | (go_at_call 81
            refine HS1.out.mono ?_;rintro e w3 ⟨A3,c3,rfl,hO3,hU3⟩;have hU3':Upd Nowhere wA w3:=(Upd.refl Nowhere wA).drew.same hU3;have k2:=EE.out w3 hU3';have k3:=EE.out _ (hU3'.alloc (.cells #[.int .i64 0,.slice none 0 0] 72));have k4:=EE.out _ (hU3'.alloc (.cells #[.int .i64 (lsn:Nat),.slice A3 (setC x.pg.cells key (vh,vd)).length c3] 72));have HU3:=qh hU3';have HO3:=qh hO3;clear hO3;clear hU3 hU3')
         | (go_at_call 81
            refine HS2.out.mono ?_;rintro e w3 ⟨A3,c3,rfl,hO3,hU3⟩;have hU3':Upd Nowhere wA w3:=(((Upd.refl Nowhere wA).alloc (.cells #[.int .i64 0,.slice none 0 0] 72)).drew:Upd Nowhere wA (wA.alloc (.cells #[.int .i64 0,.slice none 0 0] 72)).drew).same hU3;have k2:=EE.out w3 hU3';have k5:=EE.out _ ((hU3'.setCell (p:=⟨wA.heap.size,0,none⟩) (fun h=>absurd h (Nat.lt_irrefl _)) (.int .i64 (lsn:Nat))).setCell (p:=⟨wA.heap.size,1,none⟩) (fun h=>absurd h (Nat.lt_irrefl _)) (.slice A3 (setC x.pg.cells key (vh,vd)).length c3))
            have hbq:=(Blk.new wA 72 #[.int .i64 0,.slice none 0 0]).drew.upd hU3 id;have z0:=hbq.cell 0;have z1:=hbq.cell 1;have y0:=hbq.frozen 0;have y1:=hbq.frozen 1;simp only[qA,qZ,qS]at z0 z1;have HBQ:=qh hbq;have HU3:=qh hU3';have HO3:=qh hO3;clear hO3;clear hU3 hU3' hbq))
      ·go_wp2_with fail
       go_meet;exact⟨w3.heap.size,A3,c3,rfl,rfl,Blk.new _ _ _,HU3.out.alloc _,(HO3.out.alloc _:OwnC wA.heap.size _ _ _)⟩
      ·go_wp2_with fail
       go_meet;have hnb:∀k,(Value.slice A3 (setC x.pg.cells key (vh,vd)).length c3).ownBlock=some k→wA.heap.size<k:=fun k hk=>by have:=HO3.out.new k hk;simp at this;omega
       have hbz:=(HBQ.out.set_ 0 (.int .i64 (lsn:Nat))).set_ 1 (.slice A3 (setC x.pg.cells key (vh,vd)).length c3);simp only[qsA,qsS,qsZ]at hbz;exact⟨wA.heap.size,A3,c3,rfl,rfl,hbz,(HU3.out.setCell (p:=⟨wA.heap.size,0,none⟩) (fun h=>absurd h (Nat.lt_irrefl _)) _).setCell (p:=⟨wA.heap.size,1,none⟩) (fun h=>absurd h (Nat.lt_irrefl _)) _,((HO3.out.far (B':=wA.heap.size) fun k hk=>Nat.le_of_lt (hnb k hk)).upd (Upd.one _ wA.heap.size 0 _) fun k hk e=>by have:=hnb k hk;omega).upd (Upd.one _ wA.heap.size 1 _) fun k hk e=>by have:=hnb k hk;omega⟩
     case rest=>
      obtain⟨q13,A3,c3,rfl,rfl,hb13,hu,hO⟩:=hcut;have HUZ:=qh (HU.out.same hu);have HPA:=qh (HHA.out.up hu);have HO:=qh hO;obtain⟨A0,c0,hbw,_⟩:=(HFR.out.upd hu id (NoC.nowhere wA)).ex;have HBW:=qh hbw;have r2:=hbw.cell 2;have r4:=hbw.cell 4;have r5:=hbw.cell 5;have z2:=hbw.frozen 2;have z4:=hbw.frozen 4;have z5:=hbw.frozen 5;unfold frC at r2 r4 r5;have p0:=hb13.cell 0;have p1:=hb13.cell 1;simp only[qA,qZ,qS]at r2 r4 r5 p0 p1;have hcs2:=HCS2.out;rw[HR.out]at hcs2;have hcs3:changeS T n lsn key (vh,vd)=({ T with L:=updF T.L { x with lsn:=lsn,cells:=setC x.cells key (vh,vd),rc:=if x.rc=0 then lsn else x.rc } },0):=hcs2
      have HCS3:=qh hcs3;clear hu hcs2 hcs3 hbw hb13 hO dd d2 f2 f4 f5 v0 v1 fz;by_cases hrc:x.rc=0
      ·have HRC:=qh hrc;have r2':wc.cell? ⟨b,2,none⟩=some (.int .i64 0):=by rw[r2,hrc];rfl
       have hw:Upd (fun k=>k=b) wc (((wc.setCell ⟨b,4,none⟩ (.int .i64 (lsn:Nat))).setCell ⟨b,5,none⟩ (.slice A3 (setC x.pg.cells key (vh,vd)).length c3)).setCell ⟨b,2,none⟩ (.int .i64 (lsn:Nat))):=((Upd.one wc b 4 _).same (Upd.one _ b 5 _)).same (Upd.one _ b 2 _)
       have hcell:CellsE (((wc.setCell ⟨b,4,none⟩ (.int .i64 (lsn:Nat))).setCell ⟨b,5,none⟩ (.slice A3 (setC x.pg.cells key (vh,vd)).length c3)).setCell ⟨b,2,none⟩ (.int .i64 (lsn:Nat))) (.slice A3 (setC x.pg.cells key (vh,vd)).length c3) (setC x.pg.cells key (vh,vd)):=HO.out.cellsE.upd hw (noC_blk HBW.out (by decide))
       have hblk:Blk (((wc.setCell ⟨b,4,none⟩ (.int .i64 (lsn:Nat))).setCell ⟨b,5,none⟩ (.slice A3 (setC x.pg.cells key (vh,vd)).length c3)).setCell ⟨b,2,none⟩ (.int .i64 (lsn:Nat))) b 142 (frC { x with lsn:=lsn,cells:=setC x.cells key (vh,vd),rc:=if x.rc=0 then lsn else x.rc } (.slice A3 (setC x.pg.cells key (vh,vd)).length c3)):=by
        have h9:=((HBW.out.set_ 4 (.int .i64 (lsn:Nat))).set_ 5 (.slice A3 (setC x.pg.cells key (vh,vd)).length c3)).set_ 2 (.int .i64 (lsn:Nat));unfold frC at h9 ⊢;simp only[qsA,qsS,qsZ]at h9;simp only[if_pos HRC.out];exact h9
       have hfin:=HPA.out.setFr HQ.out (x:={ x with lsn:=lsn,cells:=setC x.cells key (vh,vd),rc:=if x.rc=0 then lsn else x.rc }) rfl hw ⟨A3,c3,hblk,hcell⟩
       have HFIN:=qh hfin
       have HUFN:=qh (HUZ.out.any.trans (hw.mono fun k _ e=>(e▸HPA.out.frameF HQ.out:PoolF bz wc k)) fun k hk e=>by
        exact Classical.byContradiction fun hn=>hn (e.upd hk HUZ.out id))
       clear hw hcell hblk hfin;clear hrc r2;go_wp2_with fail
       go_ret;rw[HCS3.out];exact⟨rfl,HFIN.out,HUFN.out⟩
      ·have HRC:=qh hrc;obtain⟨rcv,hrcv⟩:∃rcv,x.rc=rcv:=⟨_,rfl⟩;have hrb:((rcv:Int) == 0)=false:=by rw[←hrcv];simpa using hrc
       have hrb2:¬(rcv:Int)=0:=by omega
       rw[hrcv]at r2;have hw:Upd (fun k=>k=b) wc ((wc.setCell ⟨b,4,none⟩ (.int .i64 (lsn:Nat))).setCell ⟨b,5,none⟩ (.slice A3 (setC x.pg.cells key (vh,vd)).length c3)):=(Upd.one wc b 4 _).same (Upd.one _ b 5 _)
       have hcell:CellsE ((wc.setCell ⟨b,4,none⟩ (.int .i64 (lsn:Nat))).setCell ⟨b,5,none⟩ (.slice A3 (setC x.pg.cells key (vh,vd)).length c3)) (.slice A3 (setC x.pg.cells key (vh,vd)).length c3) (setC x.pg.cells key (vh,vd)):=HO.out.cellsE.upd hw (noC_blk HBW.out (by decide))
       have hblk:Blk ((wc.setCell ⟨b,4,none⟩ (.int .i64 (lsn:Nat))).setCell ⟨b,5,none⟩ (.slice A3 (setC x.pg.cells key (vh,vd)).length c3)) b 142 (frC { x with lsn:=lsn,cells:=setC x.cells key (vh,vd),rc:=if x.rc=0 then lsn else x.rc } (.slice A3 (setC x.pg.cells key (vh,vd)).length c3)):=by
        have h9:=(HBW.out.set_ 4 (.int .i64 (lsn:Nat))).set_ 5 (.slice A3 (setC x.pg.cells key (vh,vd)).length c3);unfold frC at h9 ⊢;simp only[qsA,qsS,qsZ]at h9;simp only[if_neg HRC.out];exact h9
       have hfin:=HPA.out.setFr HQ.out (x:={ x with lsn:=lsn,cells:=setC x.cells key (vh,vd),rc:=if x.rc=0 then lsn else x.rc }) rfl hw ⟨A3,c3,hblk,hcell⟩
       have HFIN:=qh hfin
       have HUFN:=qh (HUZ.out.any.trans (hw.mono fun k _ e=>(e▸HPA.out.frameF HQ.out:PoolF bz wc k)) fun k hk e=>by
        exact Classical.byContradiction fun hn=>hn (e.upd hk HUZ.out id))
       clear hw hcell hblk hfin;clear hrc hrcv;go_wp2_with fail
       go_ret;rw[HCS3.out];exact⟨rfl,HFIN.out,HUFN.out⟩
   | false=>
     have HR:=qh hr;have HS1:=qh (pset_f (w:=wA.drew) (HCE.out.up (Upd.refl Nowhere wA).drew) HOK.out lsn HL12.out key vh vd HCO.out hr);have HS2:=qh (pset_f (w:=(wA.alloc (.cells #[.int .i64 0,.slice none 0 0] 72)).drew) ((HCE.out.up ((Upd.refl Nowhere wA).alloc (.cells #[.int .i64 0,.slice none 0 0] 72))).up (Upd.refl Nowhere _).drew) HOK.out lsn HL12.out key vh vd HCO.out hr);clear hr;go_cut [12,13] (fun t12 t13 wz=>∃(q13:Nat),t12= .int .i64 100∧t13= .pointer (some ⟨q13,0,none⟩)∧Blk wz q13 72 #[.int .i64 0,.slice none 0 0]∧Upd Nowhere wA wz)
     case first=>
      go_region_held3 (fun w'=>w'.cell? ⟨b,4,none⟩=some (.int .i64 (x.lsn:Nat))∧w'.cell? ⟨b,5,none⟩=some (.slice A x.cells.length c)∧w'.cell? ⟨w.heap.size,0,none⟩=some (.bool vh)∧w'.cell? ⟨w.heap.size,1,none⟩=some (strV vd)) (first | with_reducible exact dd | with_reducible exact d2 | with_reducible exact k2 | with_reducible exact k3 | with_reducible exact k4 | with_reducible exact k5)
       (first
         | (go_at_call 81
            refine HS1.out.mono ?_;rintro e w3 ⟨rfl,hU3⟩;have hU3':Upd Nowhere wA w3:=(Upd.refl Nowhere wA).drew.same hU3;have k2:=EE.out w3 hU3';have k3:=EE.out _ (hU3'.alloc (.cells #[.int .i64 0,.slice none 0 0] 72));have k4:=EE.out _ (hU3'.alloc (.cells #[.int .i64 0,.slice none 0 0] 72));have HU3:=qh hU3';clear hU3 hU3')
         | (go_at_call 81
            refine HS2.out.mono ?_;rintro e w3 ⟨rfl,hU3⟩;have hU3':Upd Nowhere wA w3:=(((Upd.refl Nowhere wA).alloc (.cells #[.int .i64 0,.slice none 0 0] 72)).drew:Upd Nowhere wA (wA.alloc (.cells #[.int .i64 0,.slice none 0 0] 72)).drew).same hU3;have k2:=EE.out w3 hU3';have k5:=EE.out _ ((hU3'.setCell (p:=⟨wA.heap.size,0,none⟩) (fun h=>absurd h (Nat.lt_irrefl _)) (.int .i64 0)).setCell (p:=⟨wA.heap.size,1,none⟩) (fun h=>absurd h (Nat.lt_irrefl _)) (.slice none 0 0))
            have hbq:=(Blk.new wA 72 #[.int .i64 0,.slice none 0 0]).drew.upd hU3 id;have z0:=hbq.cell 0;have z1:=hbq.cell 1;have y0:=hbq.frozen 0;have y1:=hbq.frozen 1;simp only[qA,qZ,qS]at z0 z1;have HBQ:=qh hbq;have HU3:=qh hU3';clear hU3 hU3' hbq))
      ·go_wp2_with fail
       go_meet;exact⟨w3.heap.size,rfl,rfl,Blk.new _ _ _,HU3.out.alloc _⟩
      ·go_wp2_with fail
       go_meet
       first
        | exact⟨wA.heap.size,rfl,rfl,HBQ.out,HU3.out⟩
        | (have hbz:=(HBQ.out.set_ 0 (.int .i64 0)).set_ 1 (.slice none 0 0)
           simp only[qsA,qsS,qsZ]at hbz;exact⟨wA.heap.size,rfl,rfl,hbz,(HU3.out.setCell (p:=⟨wA.heap.size,0,none⟩) (fun h=>absurd h (Nat.lt_irrefl _)) _).setCell (p:=⟨wA.heap.size,1,none⟩) (fun h=>absurd h (Nat.lt_irrefl _)) _⟩)
     case rest=>
      obtain⟨q13,rfl,rfl,hb13,hu⟩:=hcut;have HUZ:=qh (HU.out.same hu);have HPA:=qh (HHA.out.up hu);have hcs2:=HCS2.out;rw[HR.out]at hcs2;have hcs3:changeS T n lsn key (vh,vd)=(T,100):=hcs2;have HCS3:=qh hcs3;clear hu hcs2 hcs3;go_wp2_with fail
      go_ret;rw[HCS3.out];exact⟨rfl,HPA.out,HUZ.out.any⟩
end
theorem pforced_ok{bz:Nat}{w:World}{l k:Nat}{p:DkP}{S:LogS}(h:LogAt bz w l p S)(hB:LogB k S)(hk:k≤80)(hd:S.down=false):
 Calls Tryz.prog 34 #[.pointer (some ⟨l,0,none⟩)] w fun e w'=>e= .returned (.int .i64 (S.m.lsn+(S.forced:Nat) - 1))∧Upd Nowhere w w':=by
 have hoff:=off_ok h;rw[hd]at hoff;obtain⟨A,c,its,hbx,_,hl,_⟩:=h.ex;obtain⟨lsn,hlsn⟩:=Int.eq_ofNat_of_zero_le (by have:=hB.lsn.1;omega:0≤S.m.lsn)
 have h1:=hB.lsn;have h2:=hB.len;have h6:=hB.frc;obtain⟨dk,count,⟨gen,minc,first,mlsn,check⟩,items,forced,next,forces,down⟩:=S;simp only at hlsn hbx hl h1 h2 h6 hoff ⊢;subst hlsn;have c5:=hbx.cell 5;have c8:=hbx.cell 8;simp only[qA,qZ,qS]at c5 c8;have h3:(lsn:Int)≤100000:=by omega
 have h4:((forced:Nat):Int)≤100000:=by omega
 have h5:(1:Int)≤(lsn:Int):=by omega
 have HOF:=qh hoff;clear h hB hk hbx h1 h2 h6 hoff;go_enter Tryz.func34,Tryz.ntmps34
 go_wp2_with fail
 refine HOF.out.mono ?_;rintro e w2 ⟨rfl,rfl⟩;go_wp2_with fail
 go_region
 go_wp2_with fail
 go_ret;exact⟨rfl,(Upd.refl _ _).drew⟩
structure DkC(n:Nat)(D:DiskS):Prop where
 fuse:D.fuse≤9223372036854775807
 syncs:0≤D.syncs∧D.syncs≤3000000000
 size:204+2 * n≤D.size
 read:∀k:Int,(D.read k).length=256
 pend:D.pend.length≤80000
def LogS.lastF(S:LogS):Int:=S.m.lsn+(S.forced:Nat) - 1
def fcS(S:LogS)(x:FrP):LogS×Int:=if S.lastF<(x.lsn:Int) then S.forceS else (S,0)
def backS(S:LogS)(T:PoS)(x:FrP):(LogS×PoS)×Int:=
 if x.rc=0 then ((S,T),0)
 else if (fcS S x).2≠0 then (((fcS S x).1,T),(fcS S x).2)
 else if (saveS (fcS S x).1.dk x.no (x.stamp+1) x.pg).2≠0 then (({ (fcS S x).1 with dk:=(saveS (fcS S x).1.dk x.no (x.stamp+1) x.pg).1 },T),(saveS (fcS S x).1.dk x.no (x.stamp+1) x.pg).2)
 else (({ (fcS S x).1 with dk:=(saveS (fcS S x).1.dk x.no (x.stamp+1) x.pg).1 },{ T with L:=updF T.L { x with stamp:=x.stamp+1,rc:=0 } }),0)
def PwP(bz P l:Nat)(p:DkP)(R:(LogS×PoS)×Int)(w:World)(e:Ending)(w':World):Prop:=∃p':DkP,p'.d=p.d∧e= .returned (.int .i64 R.2)∧PoolAt bz w' P p' l R.1.1 R.1.2∧Upd (PoolF bz w) w w'
section
variable {w:World} {bz P l:Nat} {p:DkP} {S:LogS} {T:PoS}
theorem back_ok(h:PoolAt bz w P p l S T)(hT:PoB T){k:Nat}(hB:LogB k S)(hk:k≤70)(hd:S.down=false)(hW:HalfW w){q:FrB}(hq:q∈T.L)(hD:DkC q.1.no S.dk)(hD2:DkC q.1.no S.forceS.1.dk):Calls Tryz.prog 85 #[.pointer (some ⟨P,0,none⟩),ptrF q] w (PwP bz P l p (backS S T q.1) w):=by
 obtain⟨x,b⟩:=q;simp only at hD hD2 ⊢;unfold ptrF;simp only;obtain⟨A,c,f0,f1,f2,f3,f4,f5,f6,fz,hce⟩:=(h.fr _ hq).cells;simp only at f0 f1 f2 f3 f4 f5 f6 hce;have HH:=qh h;have HQ:=qh hq
 have HBS:Hid (backS S T x=if x.rc=0 then ((S,T),0)
  else if (fcS S x).2≠0 then (((fcS S x).1,T),(fcS S x).2)
  else if (saveS (fcS S x).1.dk x.no (x.stamp+1) x.pg).2≠0 then (({ (fcS S x).1 with dk:=(saveS (fcS S x).1.dk x.no (x.stamp+1) x.pg).1 },T),(saveS (fcS S x).1.dk x.no (x.stamp+1) x.pg).2)
  else (({ (fcS S x).1 with dk:=(saveS (fcS S x).1.dk x.no (x.stamp+1) x.pg).1 },{ T with L:=updF T.L { x with stamp:=x.stamp+1,rc:=0 } }),0)):=qh rfl
 by_cases hrc:x.rc=0
 ·have hbs:=HBS.out;rw[if_pos hrc]at hbs;rw[hbs];have f2':w.cell? ⟨b,2,none⟩=some (.int .i64 0):=by rw[f2,hrc];rfl
  clear h hT hB hd hW hq hD hD2 hrc hbs HBS f0 f1 f2 f3 f4 f5 f6 fz hce;go_enter Tryz.func85,Tryz.ntmps85
  go_wp2_with fail
  go_ret;exact⟨p,rfl,rfl,HH.out,Upd.refl _ _⟩
 ·have hbs:=HBS.out;rw[if_neg hrc]at hbs;have HBS:=qh hbs;have hbx:=h.blk;have c0:=hbx.cell 0;have c1:=hbx.cell 1;have c2:=hbx.cell 2;simp only[qA,qZ,qS]at c0 c1 c2;have HLB:=qh hB;have HW:=qh hW;have HD:=qh hD;have HD2:=qh hD2;have HT:=qh hT;have HDN:=qh hd;obtain⟨rcv,hrcv⟩:∃rcv,x.rc=rcv:=⟨_,rfl⟩;have hrb:((rcv:Int) == 0)=false:=by rw[←hrcv];simpa using hrc
  have hrb2:¬(rcv:Int)=0:=by omega
  rw[hrcv]at f2;have dd:w.drew.cell? ⟨b,4,none⟩=some (.int .i64 (x.lsn:Nat))∧w.drew.cell? ⟨P,1,none⟩=some (.pointer (some ⟨l,0,none⟩)):=⟨f4,c1⟩;have hfo:=pforced_ok (h.log.up (Upd.refl Nowhere w).drew) hB (by omega) hd
  have HFO:=qh hfo
  have hblt:b<w.heap.size:=by
   obtain⟨_,_,hb',_⟩:=(h.fr _ hq).ex;exact hb'.lt
  have hPlt:P<w.heap.size:=hbx.lt;clear h hT hB hd hW hq hD hD2 hrc hbs f0 f1 f3 f5 f6 hce hbx hfo hrcv;go_enter Tryz.func85,Tryz.ntmps85
  go_wp2_with fail
  go_region_held3 (fun w'=>w'.cell? ⟨b,4,none⟩=some (.int .i64 (x.lsn:Nat))∧w'.cell? ⟨P,1,none⟩=some (.pointer (some ⟨l,0,none⟩))) (first | with_reducible exact dd | with_reducible exact k2)
   (first
     | (go_at_call 34
        refine HFO.out.mono ?_;rintro e w1 ⟨rfl,hU1⟩;have k2:w1.cell? ⟨b,4,none⟩=some (.int .i64 (x.lsn:Nat))∧w1.cell? ⟨P,1,none⟩=some (.pointer (some ⟨l,0,none⟩)):=⟨(hU1.cell (p:=⟨b,4,none⟩) hblt id).trans dd.1,(hU1.cell (p:=⟨P,1,none⟩) hPlt id).trans dd.2⟩;have HU1:=qh hU1;clear hU1))
  go_upto_if 24 with(fail)
  have HP1:=qh (HH.out.up ((Upd.refl Nowhere w).drew.same HU1.out));have HW1:=qh (HW.out.upd ((Upd.refl Nowhere w).drew.same HU1.out) id);have HUA:=qh (((Upd.refl (PoolF bz w) w).drew).same HU1.out.any);have HFC:Hid (fcS S x=if S.lastF<(x.lsn:Int) then S.forceS else (S,0)):=qh rfl
  clear dd k2;go_cut [5] (fun t5 wz=>∃p2:DkP,p2.d=p.d∧(fcS S x).2=0∧PoolAt bz wz P p2 l (fcS S x).1 T∧Upd (PoolF bz w) w wz)
  case first=>
   by_cases hlt:S.lastF<(x.lsn:Int)
   ·have hfc:=HFC.out;rw[if_pos hlt]at hfc;have HFC2:=qh hfc;have dw:decide (S.m.lsn+(S.forced:Nat) - 1<(x.lsn:Int))=true:=decide_eq_true hlt;rw[dw];have c1':=HP1.out.blk.cell 1;simp only[qA,qZ,qS]at c1';have hfo:=force_ok HP1.out.log HLB.out (by omega) HDN.out HW1.out (HLB.out.sheets_good (by omega)) (by rw[HLB.out.find_len,placesB_len]) HLB.out.find_le
    have HFR:=qh hfo;clear hfo hfc dw hlt;go_wp2_with fail
    refine HFR.out.mono ?_;rintro e w2 ⟨p2,hpd,rfl,hL2,hU2⟩;have HP2:=qh (HP1.out.logs hL2 hpd hU2);have HU2:=qh (HUA.out.pools (hU2.log_pool));have HPD:=qh hpd;clear hL2 hU2 hpd;obtain⟨⟨S2,x2⟩,hS2⟩:∃t,S.forceS=t:=⟨_,rfl⟩;rw[hS2]at HFC2 HP2 ⊢;simp only at HP2 ⊢;clear hS2;by_cases hx2:x2=0
    ·subst hx2;go_wp2_with fail
     go_meet;exact⟨p2,HPD.out,by rw[HFC2.out],by rw[HFC2.out];exact HP2.out,HU2.out⟩
    ·have hxb:(x2 == 0)=false:=by simpa using hx2
     have HX2:=qh hx2;clear hx2;go_wp2_with fail
     go_ret;have hbs:=HBS.out;rw[HFC2.out,if_pos HX2.out]at hbs;rw[hbs];exact⟨p2,HPD.out,rfl,HP2.out,HU2.out⟩
   ·have hfc:=HFC.out;rw[if_neg hlt]at hfc;have HFC2:=qh hfc;have dw:decide (S.m.lsn+(S.forced:Nat) - 1<(x.lsn:Int))=false:=decide_eq_false hlt;rw[dw];clear hfc dw hlt;go_wp2_with fail
    go_meet;exact⟨p,rfl,by rw[HFC2.out],by rw[HFC2.out];exact HP1.out,HUA.out⟩
  case rest=>
   obtain⟨p2,hpd,hz,hP2,hU2⟩:=hcut
   have hDK:DkC x.no (fcS S x).1.dk:=by
    rw[HFC.out];split
    ·exact HD2.out
    ·exact HD.out
   obtain⟨A1,k1,g0,g1,g2,g3,g4,g5,g6,gz,hce⟩:=(hP2.fr _ HQ.out).cells;have hok:=(HT.out.fr _ HQ.out);simp only at g0 g3 g4 g5 hce hok;have hbx:=hP2.blk;have c0':=hbx.cell 0;have c2':=hbx.cell 2;simp only[qA,qZ,qS]at c0' c2';rw[hpd]at c0';have dd:wc.drew.cell? ⟨P,0,none⟩=some (.pointer (some ⟨p.d,0,none⟩))∧wc.drew.cell? ⟨P,2,none⟩=some (.int .i64 202)∧wc.drew.cell? ⟨b,0,none⟩=some (.int .i64 (x.no:Nat))∧wc.drew.cell? ⟨b,3,none⟩=some (.int .i64 (x.stamp:Nat))∧wc.drew.cell? ⟨b,4,none⟩=some (.int .i64 (x.lsn:Nat))∧wc.drew.cell? ⟨b,5,none⟩=some (.slice A1 x.cells.length k1):=⟨c0',c2',g0,g3,g4,g5⟩;have hsv:=ssave_ok ((hP2.log.up (Upd.refl Nowhere wc).drew).dk) hDK.fuse hDK.syncs x.no (x.stamp+1) (by have:=hok.1;have:=HT.out.pages;omega) hDK.size hDK.read hDK.pend (by omega) (by have:=hok.2.2.1;omega) (p:=x.pg) (hce.up (Upd.refl Nowhere wc).drew) hok.2.2.2
   rw[hpd]at hsv;have hst:(x.stamp:Int)≤1000:=by have:=hok.2.2.1;omega
   have hwr:IntKind.i64.wrap ((x.stamp:Int)+1)=((x.stamp+1:Nat):Int):=by rw[IntKind.wrap_i64];omega
   have HSV:=qh hsv;have HPD:=qh hpd;have HZ:=qh hz;have HP2:=qh hP2;have HU2:=qh hU2;have hbs:=HBS.out;rw[if_neg (by rw[hz];decide)]at hbs
   have HBS2:=qh hbs;obtain⟨⟨D3,x3⟩,hD3⟩:∃t,saveS (fcS S x).1.dk x.no (x.stamp+1) x.pg=t:=⟨_,rfl⟩;rw[hD3]at HSV HBS2;simp only at HSV HBS2;clear hsv hpd hz hP2 hU2 hDK hbs hok hce g0 g1 g2 g3 g4 g5 g6 gz hbx c0' c2' hD3;obtain⟨m1,hm1⟩:∃m1,x.stamp+1=m1:=⟨_,rfl⟩;rw[hm1]at hwr HSV;have HM1:=qh hm1;clear hm1;go_upto_region 7 with(fail)
   go_region_held3 (fun w'=>w'.cell? ⟨P,0,none⟩=some (.pointer (some ⟨p.d,0,none⟩))∧w'.cell? ⟨P,2,none⟩=some (.int .i64 202)∧w'.cell? ⟨b,0,none⟩=some (.int .i64 (x.no:Nat))∧w'.cell? ⟨b,3,none⟩=some (.int .i64 (x.stamp:Nat))∧w'.cell? ⟨b,4,none⟩=some (.int .i64 (x.lsn:Nat))∧w'.cell? ⟨b,5,none⟩=some (.slice A1 x.cells.length k1)) (first | with_reducible exact dd | with_reducible exact k2)
    (first
      | (go_at_call 137
         refine HSV.out.mono ?_;rintro e w3 ⟨v3,rfl,hD,hU,hN⟩;have hlu:=(HP2.out.log.up (Upd.refl Nowhere wc).drew);have hL3:=hlu.disk (p':=p2.at_ v3) rfl ⟨rfl,rfl⟩ hU hD (hlu.far hN);have hP3:=(HP2.out.up (Upd.refl Nowhere wc).drew).logs (p':=p2.at_ v3) hL3 rfl (hlu.foot hU);have HP3:=qh hP3;have HU3:=qh (HU2.out.pools ((Upd.refl (PoolF bz wc) wc).drew.trans ((hlu.foot hU).log_pool) fun _ _ h=>h))
         have k2:w3.cell? ⟨P,0,none⟩=some (.pointer (some ⟨p.d,0,none⟩))∧w3.cell? ⟨P,2,none⟩=some (.int .i64 202)∧w3.cell? ⟨b,0,none⟩=some (.int .i64 (x.no:Nat))∧w3.cell? ⟨b,3,none⟩=some (.int .i64 (x.stamp:Nat))∧w3.cell? ⟨b,4,none⟩=some (.int .i64 (x.lsn:Nat))∧w3.cell? ⟨b,5,none⟩=some (.slice A1 x.cells.length k1):=by
          have hbp:Upd (LogF bz wc.drew) wc.drew w3:=hlu.foot hU;have hnP:¬LogF bz wc.drew P:=(HP2.out.up (Upd.refl Nowhere wc).drew).blk.noLog rfl
          have hnb:¬LogF bz wc.drew b:=by
           obtain⟨_,_,hb',_⟩:=((HP2.out.up (Upd.refl Nowhere wc).drew).fr _ HQ.out).ex;exact hb'.noLog rfl
          have hPl:P<wc.drew.heap.size:=HP2.out.blk.lt
          have hbl:b<wc.drew.heap.size:=by
           obtain⟨_,_,hb',_⟩:=(HP2.out.fr _ HQ.out).ex;exact hb'.lt
          exact⟨(hbp.cell (p:=⟨P,0,none⟩) hPl hnP).trans dd.1,(hbp.cell (p:=⟨P,2,none⟩) hPl hnP).trans dd.2.1,(hbp.cell (p:=⟨b,0,none⟩) hbl hnb).trans dd.2.2.1,(hbp.cell (p:=⟨b,3,none⟩) hbl hnb).trans dd.2.2.2.1,(hbp.cell (p:=⟨b,4,none⟩) hbl hnb).trans dd.2.2.2.2.1,(hbp.cell (p:=⟨b,5,none⟩) hbl hnb).trans dd.2.2.2.2.2⟩
         clear hlu hL3 hP3 hU hD hN))
   all_goals
    by_cases hx3:x3=0
    ·subst hx3;have hbs:=HBS2.out;rw[if_neg (by decide)]at hbs
     have HBS3:=qh hbs;have hfr3:=HP3.out.fr _ HQ.out;obtain⟨_,_,hb3,_⟩:=hfr3.ex;have z3:=hb3.frozen 3;have z2:=hb3.frozen 2;have r3:=k2.2.2.2.1;have r2:w3.cell? ⟨b,2,none⟩=some (.int .i64 (x.rc:Nat)):=hb3.cell 2;have hfs:=(hfr3.set (x':={ x with stamp:=m1 }) 3 (.int .i64 (m1:Nat)) rfl fun v=>rfl).set (x':={ x with stamp:=m1,rc:=0 }) 2 (.int .i64 0) rfl fun v=>rfl
     have hfin:=HP3.out.setFr HQ.out (x:={ x with stamp:=m1,rc:=0 }) rfl ((Upd.one w3 b 3 _).same (Upd.one _ b 2 _)) hfs
     rw[←HM1.out]at hfin;have HFIN:=qh hfin;have HUF:=qh (HU3.out.pools ((((Upd.refl (PoolF bz w3) w3).setCell (p:=⟨b,3,none⟩) (fun _=>HP3.out.frameF HQ.out) (.int .i64 (m1:Nat)))).setCell (p:=⟨b,2,none⟩) (fun _=>HP3.out.frameF HQ.out) (.int .i64 0)))
     have HMM:=qh HM1.out;clear dd hbs hfr3 hb3 hfs hfin k2;have hwr3:(x.stamp:Int)+1=(m1:Int):=by have:=HMM.out;omega
     go_wp2_with fail
     go_ret;rw[HBS3.out];refine⟨p2.at_ v3,HPD.out,rfl,?_,?_⟩
     ·have h9:=HFIN.out;simp only[HMM.out]at h9;simp only[HMM.out];exact h9
     ·exact HUF.out
    ·have hbs:=HBS2.out;rw[if_pos (by simpa using hx3)]at hbs
     have HBS3:=qh hbs;have hxb:(x3 == 0)=false:=by simpa using hx3
     clear dd hbs k2 hx3;go_wp2_with fail
     go_ret;rw[HBS3.out];exact⟨p2.at_ v3,HPD.out,rfl,HP3.out,HU3.out⟩
end
end Go.Proofs.YtdfccegeihfdpaaGreatDoor
