/-
  play.changes, and the whole of play.does, where both pools are played. The whole of play.does, where both pools are played. The two pools as they begin; what is told of the disk and the log.
-/
import Derived.Test.YtdfccegeihfdpaaGreatDoorARgF
set_option maxRecDepth 100000
set_option maxHeartbeats 16000000
namespace Go.Proofs.YtdfccegeihfdpaaGreatDoor
open Go Go.RowKit
section
variable {w w1 wr:World} {P l d pg fr x q c bq:Nat} {y:CaV} {kind n:Int} {key:Bs} {vh:Bool} {vd:Bs}
theorem KB.changes(h:KB w w1 P l d pg fr x q c wr)(hc:c≤970)(hk:CellOK (key,(vh,vd))):Calls Tryz.prog 88 #[.pointer (some ⟨x,0,none⟩),.agg #[.int .i64 kind,.int .i64 n,strV key,.bool vh,strV vd]] wr fun e w'=>e= .returned (.bool true)∧KB w w1 P l d pg fr x q (c+4) w':=by
 obtain⟨bq,hbq⟩:∃bq,wr.heap.size=bq:=⟨_,rfl⟩;have hq:KD w w1 P l d pg fr x q c bq ⟨kind,n,key,vh,vd⟩ (wr.alloc (.cells #[.int .i64 kind,.int .i64 n,strV key,.bool vh,strV vd] 61)):=⟨h.up ((Upd.refl Nowhere wr).alloc _),hbq▸Blk.new wr _ _⟩;obtain⟨wA,hwA⟩:∃wA,wr.alloc (.cells #[.int .i64 kind,.int .i64 n,strV key,.bool vh,strV vd] 61)=wA:=⟨_,rfl⟩;rw[hwA]at hq;have z:KDc P l x q bq ⟨kind,n,key,vh,vd⟩ wA:=hq.cells;obtain⟨z1,z2,z3,z4,z5,z6,z7,z8⟩:=z;simp only at z4 z5 z6 z7 z8;have HQ:=qh hq;obtain⟨lsn,K,ye,hKl,_,hp2,hpe⟩:=hq.kb.page (by omega) n
 have HP2:=qh hp2;have HPE:=qh hpe;have HK:=qh hk;have EE:Hid (∀W,Upd Nowhere wA W→(W.cell? ⟨x,1,none⟩=some (.pointer (some ⟨l,0,none⟩))∧W.cell? ⟨x,2,none⟩=some (.pointer (some ⟨P,0,none⟩))∧W.cell? ⟨x,3,none⟩=some (.pointer (some ⟨q,0,none⟩))∧W.cell? ⟨bq,0,none⟩=some (.int .i64 kind)∧W.cell? ⟨bq,1,none⟩=some (.int .i64 n)∧W.cell? ⟨bq,2,none⟩=some (strV key)∧W.cell? ⟨bq,3,none⟩=some (.bool vh)∧W.cell? ⟨bq,4,none⟩=some (strV vd))):=qh fun W hW=>(HQ.out.up hW).cells
 have dd:=EE.out wA (Upd.refl _ _);have d2:=EE.out wA.drew (Upd.refl Nowhere wA).drew;have d3:=EE.out (wA.alloc (.cells #[.int .i64 0,.slice none 0 0] 72)) ((Upd.refl Nowhere wA).alloc _);have d4:=EE.out (wA.alloc (.cells #[.int .i64 0,.slice none 0 0] 72)).drew ((Upd.refl Nowhere wA).alloc _).drew;have HU0:Hid (Upd Nowhere wA (wA.alloc (.cells #[.int .i64 0,.slice none 0 0] 72)).drew):=qh ((Upd.refl Nowhere wA).alloc (.cells #[.int .i64 0,.slice none 0 0] 72)).drew;clear h hq hp2 hpe hKl hk;go_enter Tryz.func88,Tryz.ntmps88
 go_wp2_with fail
 go_cut [5,6] (fun ta tb wz=>∃(r5:Nat) (A:Option Addr) (c0:Nat),ta= .pointer (some ⟨r5,0,none⟩)∧tb= .int .i64 ye∧Blk wz r5 72 #[.int .i64 lsn,.slice A K.length c0]∧CellsE wz (.slice A K.length c0) K∧Upd Nowhere wA wz)
 case first=>
  go_region_held3 (fun w'=>w'.cell? ⟨x,1,none⟩=some (.pointer (some ⟨l,0,none⟩))∧w'.cell? ⟨x,2,none⟩=some (.pointer (some ⟨P,0,none⟩))∧w'.cell? ⟨x,3,none⟩=some (.pointer (some ⟨q,0,none⟩))∧w'.cell? ⟨bq,0,none⟩=some (.int .i64 kind)∧w'.cell? ⟨bq,1,none⟩=some (.int .i64 n)∧w'.cell? ⟨bq,2,none⟩=some (strV key)∧w'.cell? ⟨bq,3,none⟩=some (.bool vh)∧w'.cell? ⟨bq,4,none⟩=some (strV vd)) (first | with_reducible exact dd | with_reducible exact d2 | with_reducible exact d3 | with_reducible exact d4 | with_reducible exact k2 | with_reducible exact k3 | with_reducible exact k4 | with_reducible exact k5)
   (first
     | (go_at_call 91
        refine(HP2.out wA.drew (Upd.refl Nowhere wA).drew).mono ?_;rintro e w3 ⟨A3,c3,rfl,hO3,hU3⟩;have hU3':Upd Nowhere wA w3:=(Upd.refl Nowhere wA).drew.same hU3;have k2:=EE.out w3 hU3';have k3:=EE.out _ (hU3'.alloc (.cells #[.int .i64 0,.slice none 0 0] 72));have k4:=EE.out _ (hU3'.alloc (.cells #[.int .i64 lsn,.slice A3 K.length c3] 72));have HU3:=qh hU3';have HO3:=qh hO3;clear hU3 hU3' hO3)
     | (go_at_call 91
        refine(HP2.out _ HU0.out).mono ?_;rintro e w3 ⟨A3,c3,rfl,hO3,hU3⟩;have hU3':Upd Nowhere wA w3:=HU0.out.same hU3;have k2:=EE.out w3 hU3';have k5:=EE.out _ ((hU3'.setCell (p:=⟨wA.heap.size,0,none⟩) (fun h=>absurd h (Nat.lt_irrefl _)) (.int .i64 lsn)).setCell (p:=⟨wA.heap.size,1,none⟩) (fun h=>absurd h (Nat.lt_irrefl _)) (.slice A3 K.length c3))
        have hbq5:=(Blk.new wA 72 #[.int .i64 0,.slice none 0 0]).drew.upd hU3 id;have y0:=hbq5.cell 0;have y1:=hbq5.cell 1;have x0:=hbq5.frozen 0;have x1:=hbq5.frozen 1;simp only[qA,qZ,qS]at y0 y1;have HBQ:=qh hbq5;have HU3:=qh hU3';have HO3:=qh hO3;clear hU3 hU3' hO3 hbq5))
  ·go_wp2_with fail
   go_meet;exact⟨w3.heap.size,A3,c3,rfl,rfl,Blk.new _ _ _,HO3.out.up ((Upd.refl Nowhere w3).alloc _),HU3.out.alloc _⟩
  ·go_wp2_with fail
   go_meet;have hbz:=(HBQ.out.set_ 0 (.int .i64 lsn)).set_ 1 (.slice A3 K.length c3);simp only[qsA,qsS,qsZ]at hbz;exact⟨wA.heap.size,A3,c3,rfl,rfl,hbz,HO3.out.upd ((Upd.one w3 wA.heap.size 0 _).same (Upd.one _ wA.heap.size 1 _)) (noC_blk HBQ.out (by decide)),(HU3.out.setCell (p:=⟨wA.heap.size,0,none⟩) (fun h=>absurd h (Nat.lt_irrefl _)) _).setCell (p:=⟨wA.heap.size,1,none⟩) (fun h=>absurd h (Nat.lt_irrefl _)) _⟩
 case rest=>
  obtain⟨r5,A5,c5,rfl,rfl,_,_,hu5⟩:=hcut;clear dd d2 d3 d4 EE HU0 z1 z2 z3 z4 z5 z6 z7 z8 HP2;have hq5:=HQ.out.up hu5;by_cases hye:ye=0
  ·subst hye;clear HPE;have HQ5:=qh hq5;have dd:wc.cell? ⟨x,1,none⟩=some (.pointer (some ⟨l,0,none⟩))∧wc.cell? ⟨x,2,none⟩=some (.pointer (some ⟨P,0,none⟩))∧wc.cell? ⟨x,3,none⟩=some (.pointer (some ⟨q,0,none⟩))∧wc.cell? ⟨bq,0,none⟩=some (.int .i64 kind)∧wc.cell? ⟨bq,1,none⟩=some (.int .i64 n)∧wc.cell? ⟨bq,2,none⟩=some (strV key)∧wc.cell? ⟨bq,3,none⟩=some (.bool vh)∧wc.cell? ⟨bq,4,none⟩=some (strV vd):=hq5.cells;have d2:wc.drew.cell? ⟨x,1,none⟩=some (.pointer (some ⟨l,0,none⟩))∧wc.drew.cell? ⟨x,2,none⟩=some (.pointer (some ⟨P,0,none⟩))∧wc.drew.cell? ⟨x,3,none⟩=some (.pointer (some ⟨q,0,none⟩))∧wc.drew.cell? ⟨bq,0,none⟩=some (.int .i64 kind)∧wc.drew.cell? ⟨bq,1,none⟩=some (.int .i64 n)∧wc.drew.cell? ⟨bq,2,none⟩=some (strV key)∧wc.drew.cell? ⟨bq,3,none⟩=some (.bool vh)∧wc.drew.cell? ⟨bq,4,none⟩=some (strV vd):=(hq5.up (Upd.refl Nowhere wc).drew).cells;have hap:=(hq5.up (Upd.refl Nowhere wc).drew).kb.append (by omega) key vh vd HK.out
   unfold updA at hap;have HAP:=qh hap;clear hap hq5 hu5 HQ;go_wp2_with fail
   go_cut [8,9] (fun t8 t9 wz=>∃k ya:Int,t8= .int .i64 k∧t9= .int .i64 ya∧Blk wz bq 61 #[.int .i64 kind,.int .i64 n,strV key,.bool vh,strV vd]∧((ya=90∧KB w w1 P l d pg fr x q c wz)∨(ya=0∧∃kn:Nat,k=(kn:Nat)∧KA w w1 P l d pg fr x q (c+1) kn wz)))
   case first=>
    go_region_held3 (fun w'=>w'.cell? ⟨x,1,none⟩=some (.pointer (some ⟨l,0,none⟩))∧w'.cell? ⟨x,2,none⟩=some (.pointer (some ⟨P,0,none⟩))∧w'.cell? ⟨x,3,none⟩=some (.pointer (some ⟨q,0,none⟩))∧w'.cell? ⟨bq,0,none⟩=some (.int .i64 kind)∧w'.cell? ⟨bq,1,none⟩=some (.int .i64 n)∧w'.cell? ⟨bq,2,none⟩=some (strV key)∧w'.cell? ⟨bq,3,none⟩=some (.bool vh)∧w'.cell? ⟨bq,4,none⟩=some (strV vd)) (first | with_reducible exact dd | with_reducible exact d2 | with_reducible exact k2)
     (first
       | (go_at_call 24
          refine HAP.out.mono ?_;rintro e w2 ⟨k9,y9,rfl,hu2,hA9⟩;have k2:w2.cell? ⟨x,1,none⟩=some (.pointer (some ⟨l,0,none⟩))∧w2.cell? ⟨x,2,none⟩=some (.pointer (some ⟨P,0,none⟩))∧w2.cell? ⟨x,3,none⟩=some (.pointer (some ⟨q,0,none⟩))∧w2.cell? ⟨bq,0,none⟩=some (.int .i64 kind)∧w2.cell? ⟨bq,1,none⟩=some (.int .i64 n)∧w2.cell? ⟨bq,2,none⟩=some (strV key)∧w2.cell? ⟨bq,3,none⟩=some (.bool vh)∧w2.cell? ⟨bq,4,none⟩=some (strV vd):=(HQ5.out.up (Upd.refl Nowhere wc).drew).mid hu2;have HB9:=qh ((HQ5.out.up (Upd.refl Nowhere wc).drew).blk.upd hu2 ((HQ5.out.up (Upd.refl Nowhere wc).drew).blk.noPool rfl));have HA9:=qh hA9;clear hA9 hu2))
    all_goals
     go_wp2_with fail
     go_meet;exact⟨k9,y9,rfl,rfl,HB9.out,HA9.out⟩
   case rest=>
    obtain⟨k9,y9,rfl,rfl,hb9,hA9⟩:=hcut;clear dd d2 HAP HQ5
    rcases hA9 with⟨rfl,hK9⟩ | ⟨rfl,kn,rfl,hK9⟩
    ·have HK9:=qh hK9;clear hK9 hb9;go_wp2_with fail
     go_ret;exact⟨rfl,HK9.out.mono (by omega)⟩
    ·have HK9:=qh hK9;have HB9:=qh hb9;have x3:=hK9.play.cell 3;simp only[qA,qZ,qS]at x3;obtain⟨⟨u4,q4⟩,q4z,hu4,p,S,T,M,h1,h2,h3,hkn⟩:=hK9.heard;obtain⟨wS,hwS⟩:∃wS,wc.setCell ⟨q,4,none⟩ (.int .i64 (kn:Nat))=wS:=⟨_,rfl⟩;rw[hwS]at hu4 h1 h2;have hx:=hK9.play.upd hu4 (hK9.play.noRf rfl);have hb:=hb9.upd hu4 (hb9.noRf rfl);have hw:=hK9.upd.same (hu4.mono fun _ _ e=>Nat.le_trans hK9.le e.1)
     have hud:Upd Nowhere wS wS.drew:=(Upd.refl Nowhere wS).drew;have dd:wS.cell? ⟨x,1,none⟩=some (.pointer (some ⟨l,0,none⟩))∧wS.cell? ⟨x,2,none⟩=some (.pointer (some ⟨P,0,none⟩))∧wS.cell? ⟨x,3,none⟩=some (.pointer (some ⟨q,0,none⟩))∧wS.cell? ⟨bq,0,none⟩=some (.int .i64 kind)∧wS.cell? ⟨bq,1,none⟩=some (.int .i64 n)∧wS.cell? ⟨bq,2,none⟩=some (strV key)∧wS.cell? ⟨bq,3,none⟩=some (.bool vh)∧wS.cell? ⟨bq,4,none⟩=some (strV vd):=kdc_of (y:=⟨kind,n,key,vh,vd⟩) hx hb;have d2:wS.drew.cell? ⟨x,1,none⟩=some (.pointer (some ⟨l,0,none⟩))∧wS.drew.cell? ⟨x,2,none⟩=some (.pointer (some ⟨P,0,none⟩))∧wS.drew.cell? ⟨x,3,none⟩=some (.pointer (some ⟨q,0,none⟩))∧wS.drew.cell? ⟨bq,0,none⟩=some (.int .i64 kind)∧wS.drew.cell? ⟨bq,1,none⟩=some (.int .i64 n)∧wS.drew.cell? ⟨bq,2,none⟩=some (strV key)∧wS.drew.cell? ⟨bq,3,none⟩=some (.bool vh)∧wS.drew.cell? ⟨bq,4,none⟩=some (strV vd):=kdc_of (y:=⟨kind,n,key,vh,vd⟩) (hx.upd hud id) (hb.upd hud id);have HCH:=qh (changeL_ok (hx.upd hud id) (hw.same hud.any) hK9.le (h1.up hud) (h2.up hud) h3 (by omega) n kn hK9.k1 hkn key vh vd HK.out)
     have HBQ2:=qh (hb.upd hud id);have HPL:=qh (hx.upd hud id);clear hK9 hb9 hu4 hx hb hw hud h1 h2 h3 hkn HK9 HB9;go_wp2_with fail
     go_region_held3 (fun w'=>w'.cell? ⟨x,1,none⟩=some (.pointer (some ⟨l,0,none⟩))∧w'.cell? ⟨x,2,none⟩=some (.pointer (some ⟨P,0,none⟩))∧w'.cell? ⟨x,3,none⟩=some (.pointer (some ⟨q,0,none⟩))∧w'.cell? ⟨bq,0,none⟩=some (.int .i64 kind)∧w'.cell? ⟨bq,1,none⟩=some (.int .i64 n)∧w'.cell? ⟨bq,2,none⟩=some (strV key)∧w'.cell? ⟨bq,3,none⟩=some (.bool vh)∧w'.cell? ⟨bq,4,none⟩=some (strV vd)) (first | with_reducible exact dd | with_reducible exact d2 | with_reducible exact k2 | with_reducible exact k3)
      (first
        | (go_at_call 25
           refine HCH.out.mono ?_;rintro e w2 ⟨y2,rfl,hu2,hC2⟩;have hb2:=HBQ2.out.upd hu2 (HBQ2.out.noPool rfl);have k2:w2.cell? ⟨x,1,none⟩=some (.pointer (some ⟨l,0,none⟩))∧w2.cell? ⟨x,2,none⟩=some (.pointer (some ⟨P,0,none⟩))∧w2.cell? ⟨x,3,none⟩=some (.pointer (some ⟨q,0,none⟩))∧w2.cell? ⟨bq,0,none⟩=some (.int .i64 kind)∧w2.cell? ⟨bq,1,none⟩=some (.int .i64 n)∧w2.cell? ⟨bq,2,none⟩=some (strV key)∧w2.cell? ⟨bq,3,none⟩=some (.bool vh)∧w2.cell? ⟨bq,4,none⟩=some (strV vd):=kdc_of (y:=⟨kind,n,key,vh,vd⟩) (HPL.out.play hu2) hb2;have HC2:=qh hC2;have HB2:=qh hb2;clear hC2 hu2 hb2)
        | (go_at_call 143
           refine HC2.out.mono ?_;rintro e w3 ⟨rfl,hK3,hu3⟩;have k3:w3.cell? ⟨x,1,none⟩=some (.pointer (some ⟨l,0,none⟩))∧w3.cell? ⟨x,2,none⟩=some (.pointer (some ⟨P,0,none⟩))∧w3.cell? ⟨x,3,none⟩=some (.pointer (some ⟨q,0,none⟩))∧w3.cell? ⟨bq,0,none⟩=some (.int .i64 kind)∧w3.cell? ⟨bq,1,none⟩=some (.int .i64 n)∧w3.cell? ⟨bq,2,none⟩=some (strV key)∧w3.cell? ⟨bq,3,none⟩=some (.bool vh)∧w3.cell? ⟨bq,4,none⟩=some (strV vd):=kdc_of (y:=⟨kind,n,key,vh,vd⟩) hK3.play (HB2.out.upd hu3 (HB2.out.noRf rfl));have HK3:=qh hK3;clear hK3 hu3))
     all_goals
      go_wp2_with fail
      go_ret;exact⟨by simp,HK3.out.mono (by omega)⟩
  ·obtain⟨p,S,T,M,h1,h2,h3,hpin⟩:=HPE.out hye;have hyb:(ye == 0)=false:=by simpa using hye
   have hud:Upd Nowhere wA wc.drew:=hu5.drew;have hq6:=HQ.out.up hud;have hch:=changeE_ok hq6.kb (h1.up hud) (h2.up hud) h3 (by omega) hpin key vh vd HK.out
   have HCH:Hid (Calls Tryz.prog 25 #[.pointer (some ⟨P,0,none⟩),.int .i64 n,.int .i64 1,strV key,.agg #[.bool vh,strV vd]] wc.drew fun e w2=>∃y,e= .returned (.int .i64 y)∧Upd (PoolF w1.heap.size wc.drew) wc.drew w2∧Calls Tryz.prog 143 #[.pointer (some ⟨q,0,none⟩),.int .i64 n,.int .i64 1,strV key,.agg #[.bool vh,strV vd]] w2 fun e2 w3=>e2= .returned (.int .i64 y)∧KB w w1 P l d pg fr x q c w3∧Upd (RfF w1.heap.size w2) w2 w3):=qh (hch.mono fun e w2 h=>⟨ye,h⟩)
   have dd:wc.cell? ⟨x,1,none⟩=some (.pointer (some ⟨l,0,none⟩))∧wc.cell? ⟨x,2,none⟩=some (.pointer (some ⟨P,0,none⟩))∧wc.cell? ⟨x,3,none⟩=some (.pointer (some ⟨q,0,none⟩))∧wc.cell? ⟨bq,0,none⟩=some (.int .i64 kind)∧wc.cell? ⟨bq,1,none⟩=some (.int .i64 n)∧wc.cell? ⟨bq,2,none⟩=some (strV key)∧wc.cell? ⟨bq,3,none⟩=some (.bool vh)∧wc.cell? ⟨bq,4,none⟩=some (strV vd):=hq5.cells;have d2:wc.drew.cell? ⟨x,1,none⟩=some (.pointer (some ⟨l,0,none⟩))∧wc.drew.cell? ⟨x,2,none⟩=some (.pointer (some ⟨P,0,none⟩))∧wc.drew.cell? ⟨x,3,none⟩=some (.pointer (some ⟨q,0,none⟩))∧wc.drew.cell? ⟨bq,0,none⟩=some (.int .i64 kind)∧wc.drew.cell? ⟨bq,1,none⟩=some (.int .i64 n)∧wc.drew.cell? ⟨bq,2,none⟩=some (strV key)∧wc.drew.cell? ⟨bq,3,none⟩=some (.bool vh)∧wc.drew.cell? ⟨bq,4,none⟩=some (strV vd):=hq6.cells;have HBQ2:=qh hq6.blk;have HPL:=qh hq6.kb.play;clear hye hpin h1 h2 h3 hch hq5 hq6 hu5 hud HPE HQ;go_wp2_with fail
   go_region_held3 (fun w'=>w'.cell? ⟨x,1,none⟩=some (.pointer (some ⟨l,0,none⟩))∧w'.cell? ⟨x,2,none⟩=some (.pointer (some ⟨P,0,none⟩))∧w'.cell? ⟨x,3,none⟩=some (.pointer (some ⟨q,0,none⟩))∧w'.cell? ⟨bq,0,none⟩=some (.int .i64 kind)∧w'.cell? ⟨bq,1,none⟩=some (.int .i64 n)∧w'.cell? ⟨bq,2,none⟩=some (strV key)∧w'.cell? ⟨bq,3,none⟩=some (.bool vh)∧w'.cell? ⟨bq,4,none⟩=some (strV vd)) (first | with_reducible exact dd | with_reducible exact d2 | with_reducible exact k2 | with_reducible exact k3)
    (first
      | (go_at_call 25
         refine HCH.out.mono ?_;rintro e w2 ⟨y2,rfl,hu2,hC2⟩;have hb2:=HBQ2.out.upd hu2 (HBQ2.out.noPool rfl);have k2:w2.cell? ⟨x,1,none⟩=some (.pointer (some ⟨l,0,none⟩))∧w2.cell? ⟨x,2,none⟩=some (.pointer (some ⟨P,0,none⟩))∧w2.cell? ⟨x,3,none⟩=some (.pointer (some ⟨q,0,none⟩))∧w2.cell? ⟨bq,0,none⟩=some (.int .i64 kind)∧w2.cell? ⟨bq,1,none⟩=some (.int .i64 n)∧w2.cell? ⟨bq,2,none⟩=some (strV key)∧w2.cell? ⟨bq,3,none⟩=some (.bool vh)∧w2.cell? ⟨bq,4,none⟩=some (strV vd):=kdc_of (y:=⟨kind,n,key,vh,vd⟩) (HPL.out.play hu2) hb2;have HC2:=qh hC2;have HB2:=qh hb2;clear hC2 hu2 hb2)
      | (go_at_call 143
         refine HC2.out.mono ?_;rintro e w3 ⟨rfl,hK3,hu3⟩;have k3:w3.cell? ⟨x,1,none⟩=some (.pointer (some ⟨l,0,none⟩))∧w3.cell? ⟨x,2,none⟩=some (.pointer (some ⟨P,0,none⟩))∧w3.cell? ⟨x,3,none⟩=some (.pointer (some ⟨q,0,none⟩))∧w3.cell? ⟨bq,0,none⟩=some (.int .i64 kind)∧w3.cell? ⟨bq,1,none⟩=some (.int .i64 n)∧w3.cell? ⟨bq,2,none⟩=some (strV key)∧w3.cell? ⟨bq,3,none⟩=some (.bool vh)∧w3.cell? ⟨bq,4,none⟩=some (strV vd):=kdc_of (y:=⟨kind,n,key,vh,vd⟩) hK3.play (HB2.out.upd hu3 (HB2.out.noRf rfl));have HK3:=qh hK3;clear hK3 hu3))
   all_goals
    go_wp2_with fail
    go_ret;exact⟨by simp,HK3.out.mono (by omega)⟩
theorem KB.doesK(h:KB w w1 P l d pg fr x q c wr)(hc:c≤970)(H2:kind=2→Calls Tryz.prog 31 #[.pointer (some ⟨x,0,none⟩),.agg #[.int .i64 kind,.int .i64 n,strV key,.bool vh,strV vd]] wr fun e w'=>e= .returned (.bool true)∧KB w w1 P l d pg fr x q (c+4) w'):Calls Tryz.prog 31 #[.pointer (some ⟨x,0,none⟩),.agg #[.int .i64 kind,.int .i64 n,strV key,.bool vh,strV vd]] wr fun e w'=>e= .returned (.bool true)∧KB w w1 P l d pg fr x q (c+4) w':=by
 by_cases h2:kind=2
 ·exact H2 h2
 by_cases h0:kind=0
 ·subst h0;exact h.does0 (by omega)
 by_cases h1:kind=1
 ·subst h1;exact h.does1 (by omega)
 by_cases h3:kind=3
 ·subst h3;exact h.does3 (by omega)
 by_cases h4:kind=4
 ·subst h4;exact h.does4 (by omega)
 by_cases h5:kind=5
 ·subst h5;exact h.does5 (by omega)
 exact h.does6 (by omega) h0 h1 h2 h3 h4 h5
end
section
variable {w w1 wr:World} {P l d pg fr x q c bq:Nat} {y:CaV} {kind n:Int} {key:Bs} {vh:Bool} {vd:Bs}
theorem KB.does2(h:KB w w1 P l d pg fr x q c wr)(hc:c≤970)(hk:CellOK (key,(vh,vd))):Calls Tryz.prog 31 #[.pointer (some ⟨x,0,none⟩),.agg #[.int .i64 2,.int .i64 n,strV key,.bool vh,strV vd]] wr fun e w'=>e= .returned (.bool true)∧KB w w1 P l d pg fr x q (c+4) w':=by
 obtain⟨bq,hbq⟩:∃bq,wr.heap.size=bq:=⟨_,rfl⟩;have hq:KD w w1 P l d pg fr x q c bq ⟨2,n,key,vh,vd⟩ (wr.alloc (.cells #[.int .i64 2,.int .i64 n,strV key,.bool vh,strV vd] 61)):=⟨h.up ((Upd.refl Nowhere wr).alloc _),hbq▸Blk.new wr _ _⟩;obtain⟨wA,hwA⟩:∃wA,wr.alloc (.cells #[.int .i64 2,.int .i64 n,strV key,.bool vh,strV vd] 61)=wA:=⟨_,rfl⟩;rw[hwA]at hq;have z:KDc P l x q bq ⟨2,n,key,vh,vd⟩ wA:=hq.cells;obtain⟨z1,z2,z3,z4,z5,z6,z7,z8⟩:=z;simp only at z4 z5 z6 z7 z8;have HQ:=qh hq;have HCH:=qh (hq.kb.changes (kind:=2) (n:=n) hc hk);clear h hc hk hq HQ;go_enter Tryz.func31,Tryz.ntmps31
 go_wp2_with fail
 refine HCH.out.mono ?_;rintro e w2 ⟨rfl,hK⟩;have HK2:=qh hK;clear hK;go_wp2_with fail
 go_ret;exact⟨rfl,HK2.out⟩
theorem KB.does(h:KB w w1 P l d pg fr x q c wr)(hc:c≤970)(hk:CellOK (key,(vh,vd))):Calls Tryz.prog 31 #[.pointer (some ⟨x,0,none⟩),.agg #[.int .i64 kind,.int .i64 n,strV key,.bool vh,strV vd]] wr fun e w'=>e= .returned (.bool true)∧KB w w1 P l d pg fr x q (c+4) w':=by
 refine h.doesK hc fun h2=> ?_
 subst h2;exact h.does2 hc hk
end
theorem RefNew.rf{lo:Nat}{w:World}{q pages most:Nat}(h:RefNew lo w q pages most):RfAt lo w q most pages [] (fun _=>(pg0,0)) 0 0 0:=by
 obtain⟨a,b,g1,g2,g3,h1,h2,h3⟩:=h.ex;refine⟨⟨.slice none 0 0,a,b,[],h1,⟨OwnR.nil _ _ _ _ _,fun o ho=>by cases ho⟩,rfl,⟨_,h2,fun n hn=>⟨none,0,?_,?_,CellsE.nil _⟩⟩,⟨_,h3,fun n hn=> ?_⟩,g2,g3⟩,g1⟩
 ·unfold madeCells;rw[Array.getElem?_map,Array.getElem?_range,if_pos (by omega),Option.map_some]
  show some ((#[Value.int .i64 0,.slice none 0 0])[n * 2 % 2]!)=_
  rw[show n * 2 % 2=0 by omega]
  rfl
 ·unfold madeCells;rw[Array.getElem?_map,Array.getElem?_range,if_pos (by omega),Option.map_some]
  show some ((#[Value.int .i64 0,.slice none 0 0])[(n * 2+1) % 2]!)=_
  rw[show(n * 2+1) % 2=1 by omega]
  rfl
 ·unfold madeCells;rw[Array.getElem?_map,Array.getElem?_range,if_pos (by omega),Option.map_some]
  show some ((#[Value.int .i64 0])[n % 1]!)=_
  rw[show n % 1=0 by omega]
  rfl
theorem KB.start{w w1 w':World}{pg fr x:Nat}(hW:HalfW w1)(h1:1≤pg∧pg≤20)(h2:1≤fr∧fr≤20)(hu:Upd Nowhere w w1)(h:BegP pg fr w1 x w'):∃P l q d,KB w w1 P l d pg fr x q 0 w':=by
 obtain⟨P,l,q,d,p,S,T,hx,hP,hT,hS,hF,hR⟩:=begK hW h1 h2 h;refine⟨P,l,q,d,⟨⟨p,S,T,_,hP,?_,?_⟩,hx,(hu.same h.upd).any,hu.size⟩⟩
 ·have hf:frs T=[]:=by unfold frs;rw[hT];rfl
  have hc:T.clock=0:=Nat.le_zero.1 hP.inv.clk;rw[hf,hS,hF,hc];exact hR.rf
 ·exact⟨by rw[hT];exact List.nodup_nil,fun r hr=>by rw[hT]at hr;cases hr⟩
theorem KB.ahead{w w1 wr:World}{P l d pg fr x q c:Nat}(h:KB w w1 P l d pg fr x q c wr)(hc:c≤980):∃S:LogS,∃p:DkP,LogAt w1.heap.size wr l p S∧(LogB 2 S∧S.down=false)∧S.lastF=(S.forced:Nat)∧∀n,n<pg→∀W,Upd Nowhere wr W→Calls Tryz.prog 33 #[.pointer (some ⟨d,0,none⟩),.int .i64 202,.int .i64 (n:Nat)] W fun e w'=>∃(lsn t k:Nat) (A:Option Addr) (c0:Nat),e= .returned (.tuple #[.agg #[.int .i64 (lsn:Nat),.slice A k c0],.int .i64 (t:Nat),.int .i64 0])∧lsn≤S.forced∧Upd Nowhere W w':=by
 obtain⟨p,S,T,M,h1,h2,h3⟩:=h.ex;refine⟨S,p,h1.at_.log,⟨h1.inv.lg.bounds h1.inv.p20 (by omega),h1.inv.lg.dwn⟩,h1.inv.lg.lastF,fun n hn W hW=> ?_⟩
 obtain⟨s,hs⟩:=h1.inv.place n hn;obtain⟨sy,hd,_⟩:=h1.inv.lg.dk;have hp20:=h1.inv.p20;have hl:=sload_ok (h1.at_.up hW).log.dk hd.down n (by omega) (by rw[hd.size];omega) hs
 rw[h1.pd]at hl;refine hl.mono ?_;rintro e w' ⟨A,c0,rfl,_,hu⟩;exact⟨_,_,_,A,c0,rfl,by have:=h1.inv.ahead n;omega,hu⟩
end Go.Proofs.YtdfccegeihfdpaaGreatDoor
