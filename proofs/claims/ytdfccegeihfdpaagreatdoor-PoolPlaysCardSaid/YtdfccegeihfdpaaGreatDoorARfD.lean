/-
  The document's pages copied. The document's pool: back.
-/
import Derived.Test.YtdfccegeihfdpaaGreatDoorARfA
set_option maxRecDepth 100000
set_option maxHeartbeats 4000000
namespace Go.Proofs.YtdfccegeihfdpaaGreatDoor
open Go Go.RowKit
theorem rcopy_ok{w:World}{A:Option Addr}{c n:Nat}{K:Cl}(h:CellsE w (.slice A n c) K)(hn:K.length=n)(hl:n≤1000)(lsn:Int):Calls Tryz.prog 141 #[.agg #[.int .i64 lsn,.slice A n c]] w fun e w'=>∃A' c',e= .returned (.agg #[.int .i64 lsn,.slice A' n c'])∧CellsE w' (.slice A' n c') K∧Upd Nowhere w w':=by
 obtain⟨b1,hb1⟩:∃b1,w.heap.size=b1:=⟨_,rfl⟩;obtain⟨wA,hwA⟩:∃wA,(w.alloc (.cells #[.int .i64 lsn,.slice A n c] 72)).alloc (.cells #[.int .i64 0,.slice none 0 0] 72)=wA:=⟨_,rfl⟩;have hs1:(w.alloc (.cells #[.int .i64 lsn,.slice A n c] 72)).heap.size=b1+1:=by rw[←hb1];simp
 have hB1:Blk wA b1 72 #[.int .i64 lsn,.slice A n c]:=by rw[←hwA,←hb1];exact(Blk.new w _ _).alloc _
 have hB2:Blk wA (b1+1) 72 #[.int .i64 0,.slice none 0 0]:=by rw[←hwA];exact Blk.new' _ _ _ hs1.symm
 have hsA:wA.heap.size=b1+1+1:=by rw[←hwA];simp[hb1]
 have hUA:Upd Nowhere w wA:=by rw[←hwA];exact((Upd.refl Nowhere w).alloc _).alloc _
 obtain⟨wE,hwE⟩:∃wE,wA.drew.alloc (.cells #[] 155)=wE:=⟨_,rfl⟩;have hUE:Upd Nowhere wA wE:=hwE▸(Upd.refl Nowhere wA).drew.alloc _;have hlit:OwnR 155 cellC 3 wA.heap.size wE (.slice (some ⟨wA.heap.size,0,none⟩) 0 0) []:=hwE▸OwnR.lit 155 cellC 3 wA.heap.size wA.drew (qlr _);have hK:Els 3 cellC wE (.slice A n c) K:=((h.up hUA).up hUE).els;obtain⟨A8,c8,w8,hrun,hO8,hu8⟩:=cell_row.appU hlit hUE.size 70 hK (by simp;omega)
 simp only[List.length_nil,Nat.zero_add,List.nil_append,hn]at hrun hO8;rw[hsA]at hrun
 have hU8:Upd Nowhere wA w8:=hUE.trans hu8 fun k hk e=>by
  have:k=wA.heap.size:=by simpa [Value.ownBlock] using e.symm
  omega
 have dd:wA.cell? ⟨b1,0,none⟩=some (.int .i64 lsn)∧wA.cell? ⟨b1,1,none⟩=some (.slice A n c):=⟨hB1.cell 0,hB1.cell 1⟩;have EE:Hid (∀W,Upd Nowhere wA W→W.cell? ⟨b1,0,none⟩=some (.int .i64 lsn)∧W.cell? ⟨b1,1,none⟩=some (.slice A n c)):=qh fun W hW=>⟨(hB1.upd hW id).cell 0,(hB1.upd hW id).cell 1⟩
 have d2:=EE.out _ (Upd.refl Nowhere wA).drew;have d3:=EE.out _ hUE;have d4:=EE.out _ hU8;have hb8:=hB2.upd hU8 id;have x0:=hb8.frozen 0;have x1:=hb8.frozen 1;have v0:=hb8.cell 0;have v1:=hb8.cell 1;simp only[qA,qZ,qS]at v0 v1;have HRUN:=qh hrun;have HO8:=qh hO8;have hset:=(hb8.set_ 0 (.int .i64 lsn)).set_ 1 (.slice A8 n c8);simp only[qsA,qsS,qsZ]at hset;have s0:=hset.cell 0;have s1:=hset.cell 1;simp only[qA,qZ,qS]at s0 s1;have HC:Hid (CellsE ((w8.setCell ⟨b1+1,0,none⟩ (.int .i64 lsn)).setCell ⟨b1+1,1,none⟩ (.slice A8 n c8)) (.slice A8 n c8) K):=qh (hO8.cellsE.upd ((Upd.one w8 (b1+1) 0 (.int .i64 lsn)).same (Upd.one _ (b1+1) 1 (.slice A8 n c8))) (noC_blk hb8 (by decide)))
 have HU:Hid (Upd Nowhere w ((w8.setCell ⟨b1+1,0,none⟩ (.int .i64 lsn)).setCell ⟨b1+1,1,none⟩ (.slice A8 n c8))):=qh (((hUA.same hU8).setCell (p:=⟨b1+1,0,none⟩) (fun h=>by have h:b1+1<w.heap.size:=h;omega) _).setCell (p:=⟨b1+1,1,none⟩) (fun h=>by have h:b1+1<w.heap.size:=h;omega) _)
 obtain⟨d00,d01⟩:=dd;obtain⟨d30,d31⟩:=d3;obtain⟨d40,d41⟩:=d4;clear d2 h hn hl hs1 hB1 hB2 hUA hUE hlit hK hrun hO8 hu8 hU8 hb8 hset EE;go_enter Tryz.func141,Tryz.ntmps141
 go_wp2_with fail
 go_region_law (refine step_append_run rfl _ _ _ rfl rfl rfl HRUN.out ?_)
 all_goals
  go_wp2_with fail
  refine bodyPost_ret (v:= .agg #[.int .i64 lsn,.slice A8 n c8]) (by simp[results,Tryz.results141,go_sem,s0,s1]) rfl ⟨_,_,rfl,HC.out,HU.out⟩
structure OpD(bz:Nat)(w:World)(q most pages a b g c:Nat)(os:List FrO)(M1 M2:DkM)(la fo ck:Nat):Prop where
 blk:Blk w q 91 (boxD most pages a b (.slice (some ⟨g,0,none⟩) os.length c) la fo ck)
 row:RowD bz w (.slice (some ⟨g,0,none⟩) os.length c) os
 pgs:PagesAt w a pages M1
 trn:TurnsAt w b pages M2
 ha:bz≤a
 hb:bz≤b
 hq:bz≤q
section
variable {F:Nat→Prop} {bz:Nat} {w w':World} {q most pages a b g c:Nat} {os:List FrO} {M1 M2:DkM} {la fo ck:Nat}
theorem OpD.rf{M:DkM}(h:OpD bz w q most pages a b g c os M M la fo ck):RfAt bz w q most pages (os.map (·.1)) M la fo ck:=
 ⟨⟨_,a,b,os,h.blk,h.row,rfl,h.pgs,h.trn,h.ha,h.hb⟩,h.hq⟩
theorem OpD.upd(h:OpD bz w q most pages a b g c os M1 M2 la fo ck)(hu:Upd F w w')(hF:∀k,F k→¬RfF bz w k)(hC:NoC F w):OpD bz w' q most pages a b g c os M1 M2 la fo ck:=
 ⟨h.blk.upd hu fun e=>hF _ e (h.blk.rfF h.hq rfl),h.row.upd hu (fun _ hk e=>hF _ e (h.row.rfF hk)) hC,h.pgs.upd hu (fun e=>hF _ e (h.pgs.rfF h.ha)) hC,h.trn.upd hu (fun e=>hF _ e (h.trn.rfF h.hb)),h.ha,h.hb,h.hq⟩
theorem OpD.up(h:OpD bz w q most pages a b g c os M1 M2 la fo ck)(hu:Upd Nowhere w w'):OpD bz w' q most pages a b g c os M1 M2 la fo ck:=h.upd hu (fun _ e=>absurd e id) (NoC.nowhere w)
theorem OpD.box(h:OpD bz w q most pages a b g c os M1 M2 la fo ck)(i:Nat)(u:Int){la' fo' ck':Nat}(hb:∀v,(boxD most pages a b v la fo ck).setIfInBounds i (.int .i64 u)=boxD most pages a b v la' fo' ck'):OpD bz (w.setCell ⟨q,i,none⟩ (.int .i64 u)) q most pages a b g c os M1 M2 la' fo' ck'∧Upd (RfF bz w) w (w.setCell ⟨q,i,none⟩ (.int .i64 u)):=by
 have hC:NoC (fun k=>k=q) w:=noC_blk h.blk (by decide)
 have hu:=Upd.one w q i (.int .i64 u);have hs:=h.blk.set_ i (.int .i64 u);rw[hb]at hs;obtain⟨cs,hg⟩:=h.row.blk
 exact⟨⟨hs,h.row.upd hu (fun k hk e=>by
  subst e;have:g=k:=by simpa [Value.ownBlock] using hk
  exact hg.ne_of h.blk (by decide) this) hC,h.pgs.upd hu (fun e=>h.pgs.ne h.blk (by decide) e) hC,h.trn.upd hu (fun e=>h.trn.ne h.blk (by decide) e),h.ha,h.hb,h.hq⟩,hu.mono fun k _ e=>by subst e;exact h.blk.rfF h.hq rfl⟩
theorem OpD.page(h:OpD bz w q most pages a b g c os M1 M2 la fo ck){n:Nat}(hn:n<pages)(x:PgP)(t:Nat){A:Option Addr}{k:Nat}(hx:CellsE w (.slice A x.cells.length k) x.cells):OpD bz ((w.setCell ⟨a,n * 2,none⟩ (.int .i64 (x.lsn:Nat))).setCell ⟨a,n * 2+1,none⟩ (.slice A x.cells.length k)) q most pages a b g c os (setM M1 n (x,t)) M2 la fo ck∧Upd (RfF bz w) w ((w.setCell ⟨a,n * 2,none⟩ (.int .i64 (x.lsn:Nat))).setCell ⟨a,n * 2+1,none⟩ (.slice A x.cells.length k)):=by
 obtain⟨arr,hp,_⟩:=h.pgs.ex;have hC:NoC (fun k=>k=a) w:=noC_blk hp (by decide)
 have hu:=(Upd.one w a (n * 2) (.int .i64 (x.lsn:Nat))).same (Upd.one _ a (n * 2+1) (.slice A x.cells.length k));obtain⟨cs,hg⟩:=h.row.blk
 exact⟨⟨h.blk.upd hu fun e=>h.blk.ne_of hp (by decide) e,h.row.upd hu (fun k hk e=>by
  subst e;have:g=k:=by simpa [Value.ownBlock] using hk
  exact hg.ne_of hp (by decide) this) hC,h.pgs.set hn x t hx,h.trn.upd hu (fun e=>h.trn.ne hp (by decide) e),h.ha,h.hb,h.hq⟩,hu.mono fun k _ e=>by subst e;exact h.pgs.rfF h.ha⟩
theorem OpD.turn(h:OpD bz w q most pages a b g c os M1 M2 la fo ck){n:Nat}(hn:n<pages)(x:PgP)(t:Nat):OpD bz (w.setCell ⟨b,n,none⟩ (.int .i64 (t:Nat))) q most pages a b g c os M1 (setM M2 n (x,t)) la fo ck∧Upd (RfF bz w) w (w.setCell ⟨b,n,none⟩ (.int .i64 (t:Nat))):=by
 obtain⟨arr,hp,_⟩:=h.trn.ex;have hC:NoC (fun k=>k=b) w:=noC_blk hp (by decide)
 have hu:=Upd.one w b n (.int .i64 (t:Nat));obtain⟨cs,hg⟩:=h.row.blk
 exact⟨⟨h.blk.upd hu fun e=>h.blk.ne_of hp (by decide) e,h.row.upd hu (fun k hk e=>by
  subst e;have:g=k:=by simpa [Value.ownBlock] using hk
  exact hg.ne_of hp (by decide) this) hC,h.pgs.upd hu (fun e=>h.pgs.ne hp (by decide) e) hC,h.trn.set hn x t,h.ha,h.hb,h.hq⟩,hu.mono fun k _ e=>by subst e;exact h.trn.rfF h.hb⟩
theorem OpD.set1(h:OpD bz w q most pages a b g c os M1 M2 la fo ck){i j:Nat}{o o':FrO}{u:Value}(hi:os[i]? =some o)(hj:j<7)(he:frD o'=(frD o).set j u)(hs:slO o'=slO o∧o'.1.cells=o.1.cells):OpD bz (w.setCell ⟨g,i * 7+j,none⟩ u) q most pages a b g c (os.set i o') M1 M2 la fo ck∧Upd (RfF bz w) w (w.setCell ⟨g,i * 7+j,none⟩ u):=by
 obtain⟨cs,hb⟩:=h.row.blk;have hC:NoC (fun k=>k=g) w:=noC_blk hb (by decide)
 have hu:=Upd.one w g (i * 7+j) u;refine⟨⟨by rw[List.length_set];exact h.blk.upd hu fun e=>h.blk.ne_of hb (by decide) e,h.row.set1 hi hj he hs,h.pgs.upd hu (fun e=>h.pgs.ne hb (by decide) e) hC,h.trn.upd hu (fun e=>h.trn.ne hb (by decide) e),h.ha,h.hb,h.hq⟩,hu.mono fun k _ e=>by subst e;exact h.row.rfF rfl⟩
theorem OpD.set6(h:OpD bz w q most pages a b g c os M1 M2 la fo ck){i:Nat}{o:FrO}(hi:os[i]? =some o)(x:FrP)(h1:x.no=o.1.no)(h2:x.pins=o.1.pins)(h3:x.lsn=o.1.lsn)(h4:x.cells=o.1.cells)(h5:x.at_=o.1.at_):∃w',w'=(((((w.setCell ⟨g,i * 7,none⟩ (.int .i64 (o.1.no:Nat))).setCell ⟨g,i * 7+1,none⟩ (.int .i64 (o.1.pins:Nat))).setCell ⟨g,i * 7+2,none⟩ (.int .i64 (x.rc:Nat))).setCell ⟨g,i * 7+3,none⟩ (.int .i64 (x.stamp:Nat))).setCell ⟨g,i * 7+4,none⟩ (.int .i64 (o.1.lsn:Nat))).setCell ⟨g,i * 7+5,none⟩ (.slice o.2.1 o.1.cells.length o.2.2)∧OpD bz w' q most pages a b g c (os.set i (x,o.2)) M1 M2 la fo ck∧Upd (RfF bz w) w w':=by
 have hlt:=(qei.1 hi).1;have g0:=h.set1 (j:=0) (u:= .int .i64 (o.1.no:Nat)) hi (by omega) (o':=o) rfl ⟨rfl,rfl⟩
 have i0:(os.set i o)[i]? =some o:=by rw[List.getElem?_set_self hlt]
 have g1:=g0.1.set1 (j:=1) (u:= .int .i64 (o.1.pins:Nat)) i0 (by omega) (o':=o) rfl ⟨rfl,rfl⟩
 rw[List.set_set]at g1;have g2:=g1.1.set1 (j:=2) (u:= .int .i64 (x.rc:Nat)) i0 (by omega) (o':=({ o.1 with rc:=x.rc },o.2)) rfl ⟨rfl,rfl⟩
 rw[List.set_set]at g2;have g3:=g2.1.set1 (j:=3) (u:= .int .i64 (x.stamp:Nat)) (List.getElem?_set_self hlt) (by omega) (o':=({ o.1 with rc:=x.rc,stamp:=x.stamp },o.2)) rfl ⟨rfl,rfl⟩
 rw[List.set_set]at g3;have g4:=g3.1.set1 (j:=4) (u:= .int .i64 (o.1.lsn:Nat)) (List.getElem?_set_self hlt) (by omega) (o':=({ o.1 with rc:=x.rc,stamp:=x.stamp },o.2)) rfl ⟨rfl,rfl⟩
 rw[List.set_set]at g4;have g5:=g4.1.set1 (j:=5) (u:= .slice o.2.1 o.1.cells.length o.2.2) (List.getElem?_set_self hlt) (by omega) (o':=({ o.1 with rc:=x.rc,stamp:=x.stamp },o.2)) rfl ⟨rfl,rfl⟩
 rw[List.set_set]at g5
 have e:x={ o.1 with rc:=x.rc,stamp:=x.stamp }:=by
  obtain⟨x1,x2,x3,x4,x5,x6,x7⟩:=x;simp only at h1 h2 h3 h4 h5;subst h1 h2 h3 h4 h5;rfl
 refine⟨_,rfl,?_,((((g0.2.rfs g1.2).rfs g2.2).rfs g3.2).rfs g4.2).rfs g5.2⟩;rw[e];exact g5.1
end
end Go.Proofs.YtdfccegeihfdpaaGreatDoor
