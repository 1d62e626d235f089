/-
  play.changes and the rest of play.does, where both pools are played.
-/
import Derived.Test.YtdfccegeihfdpaaGreatDoorARgE
set_option maxRecDepth 100000
set_option maxHeartbeats 8000000
namespace Go.Proofs.YtdfccegeihfdpaaGreatDoor
open Go Go.RowKit
section
variable {w w1 wr:World} {P l d pg fr x q c bq:Nat} {y:CaV} {kind n:Int} {key:Bs} {vh:Bool} {vd:Bs}
theorem KB.page(h:KB w w1 P l d pg fr x q c wr)(hc:c≤980)(n:Int):∃(lsn:Int) (K:Cl) (y:Int),K.length≤1000∧(∀W,Upd Nowhere wr W→Calls Tryz.prog 27 #[.pointer (some ⟨P,0,none⟩),.int .i64 n] W fun e w2=>∃A c0,e= .returned (.tuple #[.agg #[.int .i64 lsn,.slice A K.length c0],.int .i64 y])∧CellsE w2 (.slice A K.length c0) K∧Upd Nowhere W w2)∧(∀W,Upd Nowhere wr W→Calls Tryz.prog 91 #[.pointer (some ⟨q,0,none⟩),.int .i64 n] W fun e w2=>∃A c0,e= .returned (.tuple #[.agg #[.int .i64 lsn,.slice A K.length c0],.int .i64 y])∧CellsE w2 (.slice A K.length c0) K∧Upd Nowhere W w2)∧(y≠0→∃p S T M,PSt w1.heap.size P l d 0 pg fr c wr p S T M∧RfAt w1.heap.size wr q fr pg (frs T) M S.items.length S.forced T.clock∧AtI T∧pinS T n= .error y):=by
 obtain⟨p,S,T,M,h1,h2,h3⟩:=h.ex;have hB:=h1.inv.rfB (by omega)
 have hr:∀W,Upd Nowhere wr W→RfAt w1.heap.size W q fr T.pages (frs T) M S.items.length S.forced T.clock:=fun W hW=>by
  rw[h1.inv.pgs];exact h2.up hW
 cases hp:pinS T n with
 | error z=>
   refine⟨0,[],z,by simp,fun W hW=> ?_,fun W hW=> ?_,fun _=>⟨p,S,T,M,h1,h2,h3,hp⟩⟩
   ·refine(ppage_ok (h1.up hW).at_ (h1.inv.bounds (by omega)) n).mono ?_
    rintro e w2 ⟨hA,_,hu⟩;exact⟨none,0,hA z hp,CellsE.nil _,hu⟩
   ·refine(rpage_ok (hr W hW) hB.nos hB.len n).mono ?_;rintro e w2 ⟨hA,_,hu⟩;exact⟨none,0,hA z hp,CellsE.nil _,hu⟩
 | ok r=>
   obtain⟨hm,_⟩:=pinS_ok hp;refine⟨(r.1.lsn:Nat),r.1.cells,0,(hB.fr r hm).2.2.1,fun W hW=> ?_,fun W hW=> ?_,fun e=>absurd rfl e⟩
   ·refine(ppage_ok (h1.up hW).at_ (h1.inv.bounds (by omega)) n).mono ?_
    rintro e w2 ⟨_,hA,hu⟩;obtain⟨A,c0,rfl,hO⟩:=hA r hp;exact⟨A,c0,rfl,hO.cellsE,hu⟩
   ·refine(rpage_ok (hr W hW) hB.nos hB.len n).mono ?_;rintro e w2 ⟨_,hA,hu⟩;obtain⟨A,c0,rfl,hO⟩:=hA r hp;exact⟨A,c0,rfl,hO,hu⟩
structure KA(w w1:World)(P l d pg fr x q c k:Nat)(wr:World):Prop where
 ex:∃p S T M la,PSt w1.heap.size P l d 0 pg fr c wr p S T M∧RfAt w1.heap.size wr q fr pg (frs T) M la S.forced T.clock∧AtI T∧k=S.items.length
 play:Blk wr x 65 #[.pointer (some ⟨d,0,none⟩),.pointer (some ⟨l,0,none⟩),.pointer (some ⟨P,0,none⟩),.pointer (some ⟨q,0,none⟩)]
 upd:Upd (fun k=>w.heap.size≤k) w wr
 le:w.heap.size≤w1.heap.size
 k1:1≤k
theorem KA.up{k:Nat}(h:KA w w1 P l d pg fr x q c k wr){w':World}(hu:Upd Nowhere wr w'):KA w w1 P l d pg fr x q c k w':=by
 obtain⟨p,S,T,M,la,h1,h2,h3⟩:=h.ex;exact⟨⟨p,S,T,M,la,h1.up hu,h2.up hu,h3⟩,h.play.upd hu id,h.upd.same hu.any,h.le,h.k1⟩
theorem KA.heard{k:Nat}(h:KA w w1 P l d pg fr x q c k wr):(∃u,wr.cell? ⟨q,4,none⟩=some u)∧wr.frozen? ⟨q,4,none⟩=false∧Upd (RfF w1.heap.size wr) wr (wr.setCell ⟨q,4,none⟩ (.int .i64 (k:Nat)))∧∃p S T M,PSt w1.heap.size P l d 0 pg fr c (wr.setCell ⟨q,4,none⟩ (.int .i64 (k:Nat))) p S T M∧RfAt w1.heap.size (wr.setCell ⟨q,4,none⟩ (.int .i64 (k:Nat))) q fr pg (frs T) M S.items.length S.forced T.clock∧AtI T∧k=S.items.length:=by
 obtain⟨p,S,T,M,la,h1,h2,h3,rfl⟩:=h.ex;obtain⟨v,a,b,os,hb,_⟩:=h2.ex;have b4:=hb.cell 4;obtain⟨hR,hu⟩:=h2.box 4 (S.items.length:Nat) (la':=S.items.length) (fun _ _ _=>rfl)
 exact⟨⟨_,b4⟩,hb.frozen 4,hu,p,S,T,M,h1.rf hu,hR,h3,rfl⟩
theorem KB.append(h:KB w w1 P l d pg fr x q c wr)(hc:c≤980)(key:Bs)(vh:Bool)(vd:Bs)(hk:CellOK (key,(vh,vd))):Calls Tryz.prog 24 #[.pointer (some ⟨l,0,none⟩),.agg (updA key vh vd),.int .i64 0] wr fun e w'=>∃k y:Int,e= .returned (.tuple #[.int .i64 k,.int .i64 y])∧Upd (PoolF w1.heap.size wr) wr w'∧((y=90∧KB w w1 P l d pg fr x q c w')∨(y=0∧∃kn:Nat,k=(kn:Nat)∧KA w w1 P l d pg fr x q (c+1) kn w')):=by
 obtain⟨p,S,T,M,h1,h2,h3⟩:=h.ex;refine(appendK h1 (by omega) key vh vd hk).mono ?_
 rintro e w' ⟨k,y,rfl,hA,hu⟩;have hplay:=h.play.play hu;have hupd:=h.upd.same (hu.mono fun _ _ e=>Nat.le_trans h.le e.1)
 refine⟨k,y,rfl,hu,?_⟩
 rcases hA.code with rfl | rfl
 ·obtain⟨S',rfl,a1,a2,a3⟩:=hA.in_ rfl;exact .inr ⟨rfl,_,rfl,⟨⟨p,S',T,M,S.items.length,a3,by rw[a2];exact h2.pool hu,h3,rfl⟩,hplay,hupd,h.le,by omega⟩⟩
 ·obtain⟨_,a1⟩:=hA.out rfl;exact .inl ⟨rfl,⟨⟨p,S,T,M,a1,h2.pool hu,h3⟩,hplay,hupd,h.le⟩⟩
theorem KB.does5(h:KB w w1 P l d pg fr x q c wr)(hc:c≤980):Calls Tryz.prog 31 #[.pointer (some ⟨x,0,none⟩),.agg #[.int .i64 5,.int .i64 n,strV key,.bool vh,strV vd]] wr fun e w'=>e= .returned (.bool true)∧KB w w1 P l d pg fr x q (c+4) w':=by
 obtain⟨bq,hbq⟩:∃bq,wr.heap.size=bq:=⟨_,rfl⟩;have hq:KD w w1 P l d pg fr x q c bq ⟨5,n,key,vh,vd⟩ (wr.alloc (.cells #[.int .i64 5,.int .i64 n,strV key,.bool vh,strV vd] 61)):=⟨h.up ((Upd.refl Nowhere wr).alloc _),hbq▸Blk.new wr _ _⟩;obtain⟨wA,hwA⟩:∃wA,wr.alloc (.cells #[.int .i64 5,.int .i64 n,strV key,.bool vh,strV vd] 61)=wA:=⟨_,rfl⟩;rw[hwA]at hq;have z:KDc P l x q bq ⟨5,n,key,vh,vd⟩ wA:=hq.cells;obtain⟨z1,z2,z3,z4,z5,z6,z7,z8⟩:=z;simp only at z4 z5 z6 z7 z8;have HQ:=qh hq;obtain⟨lsn,K,ye,hKl,hp1,hp2,_⟩:=hq.kb.page hc n;have HP1:=qh hp1;have HP2:=qh hp2;have HKL:=qh hKl;have EE:Hid (∀W,Upd Nowhere wA W→(W.cell? ⟨x,1,none⟩=some (.pointer (some ⟨l,0,none⟩))∧W.cell? ⟨x,2,none⟩=some (.pointer (some ⟨P,0,none⟩))∧W.cell? ⟨x,3,none⟩=some (.pointer (some ⟨q,0,none⟩))∧W.cell? ⟨bq,0,none⟩=some (.int .i64 5)∧W.cell? ⟨bq,1,none⟩=some (.int .i64 n)∧W.cell? ⟨bq,2,none⟩=some (strV key)∧W.cell? ⟨bq,3,none⟩=some (.bool vh)∧W.cell? ⟨bq,4,none⟩=some (strV vd))):=qh fun W hW=>(HQ.out.up hW).cells
 have dd:=EE.out wA (Upd.refl _ _);have d2:=EE.out wA.drew (Upd.refl Nowhere wA).drew;have d3:=EE.out (wA.alloc (.cells #[.int .i64 0,.slice none 0 0] 72)) ((Upd.refl Nowhere wA).alloc _);have d4:=EE.out (wA.alloc (.cells #[.int .i64 0,.slice none 0 0] 72)).drew ((Upd.refl Nowhere wA).alloc _).drew;have HU0:Hid (Upd Nowhere wA (wA.alloc (.cells #[.int .i64 0,.slice none 0 0] 72)).drew):=qh ((Upd.refl Nowhere wA).alloc (.cells #[.int .i64 0,.slice none 0 0] 72)).drew;clear h hc hq hp1 hp2 hKl;go_enter Tryz.func31,Tryz.ntmps31
 go_wp2_with fail
 go_cut [5,6] (fun ta tb wz=>∃(r5:Nat) (A:Option Addr) (c0:Nat),ta= .pointer (some ⟨r5,0,none⟩)∧tb= .int .i64 ye∧Blk wz r5 72 #[.int .i64 lsn,.slice A K.length c0]∧CellsE wz (.slice A K.length c0) K∧Upd Nowhere wA wz)
 case first=>
  go_region_held3 (fun w'=>w'.cell? ⟨x,1,none⟩=some (.pointer (some ⟨l,0,none⟩))∧w'.cell? ⟨x,2,none⟩=some (.pointer (some ⟨P,0,none⟩))∧w'.cell? ⟨x,3,none⟩=some (.pointer (some ⟨q,0,none⟩))∧w'.cell? ⟨bq,0,none⟩=some (.int .i64 5)∧w'.cell? ⟨bq,1,none⟩=some (.int .i64 n)∧w'.cell? ⟨bq,2,none⟩=some (strV key)∧w'.cell? ⟨bq,3,none⟩=some (.bool vh)∧w'.cell? ⟨bq,4,none⟩=some (strV vd)) (first | with_reducible exact dd | with_reducible exact d2 | with_reducible exact d3 | with_reducible exact d4 | with_reducible exact k2 | with_reducible exact k3 | with_reducible exact k4 | with_reducible exact k5)
   (first
     | (go_at_call 27
        refine(HP1.out wA.drew (Upd.refl Nowhere wA).drew).mono ?_;rintro e w3 ⟨A3,c3,rfl,hO3,hU3⟩;have hU3':Upd Nowhere wA w3:=(Upd.refl Nowhere wA).drew.same hU3;have k2:=EE.out w3 hU3';have k3:=EE.out _ (hU3'.alloc (.cells #[.int .i64 0,.slice none 0 0] 72));have k4:=EE.out _ (hU3'.alloc (.cells #[.int .i64 lsn,.slice A3 K.length c3] 72));have HU3:=qh hU3';have HO3:=qh hO3;clear hU3 hU3' hO3)
     | (go_at_call 27
        refine(HP1.out _ HU0.out).mono ?_;rintro e w3 ⟨A3,c3,rfl,hO3,hU3⟩;have hU3':Upd Nowhere wA w3:=HU0.out.same hU3;have k2:=EE.out w3 hU3';have k5:=EE.out _ ((hU3'.setCell (p:=⟨wA.heap.size,0,none⟩) (fun h=>absurd h (Nat.lt_irrefl _)) (.int .i64 lsn)).setCell (p:=⟨wA.heap.size,1,none⟩) (fun h=>absurd h (Nat.lt_irrefl _)) (.slice A3 K.length c3))
        have hbq5:=(Blk.new wA 72 #[.int .i64 0,.slice none 0 0]).drew.upd hU3 id;have y0:=hbq5.cell 0;have y1:=hbq5.cell 1;have x0:=hbq5.frozen 0;have x1:=hbq5.frozen 1;simp only[qA,qZ,qS]at y0 y1;have HBQ:=qh hbq5;have HU3:=qh hU3';have HO3:=qh hO3;clear hU3 hU3' hO3 hbq5))
  ·go_wp2_with fail
   go_meet;exact⟨w3.heap.size,A3,c3,rfl,rfl,Blk.new _ _ _,HO3.out.up ((Upd.refl Nowhere w3).alloc _),HU3.out.alloc _⟩
  ·go_wp2_with fail
   go_meet;have hbz:=(HBQ.out.set_ 0 (.int .i64 lsn)).set_ 1 (.slice A3 K.length c3);simp only[qsA,qsS,qsZ]at hbz;exact⟨wA.heap.size,A3,c3,rfl,rfl,hbz,HO3.out.upd ((Upd.one w3 wA.heap.size 0 _).same (Upd.one _ wA.heap.size 1 _)) (noC_blk HBQ.out (by decide)),(HU3.out.setCell (p:=⟨wA.heap.size,0,none⟩) (fun h=>absurd h (Nat.lt_irrefl _)) _).setCell (p:=⟨wA.heap.size,1,none⟩) (fun h=>absurd h (Nat.lt_irrefl _)) _⟩
 case rest=>
  obtain⟨r5,A5,c5,rfl,rfl,hb5,hce5,hu5⟩:=hcut;clear dd d2 d3 d4 EE HU0 z1 z2 z3 z4 z5 z6 z7 z8 HP1;have HB5:=qh hb5;have HCE:=qh hce5;have hq5:=HQ.out.up hu5;have HP3:Hid (∀W,Upd Nowhere wc W→Calls Tryz.prog 91 #[.pointer (some ⟨q,0,none⟩),.int .i64 n] W fun e w2=>∃A c0,e= .returned (.tuple #[.agg #[.int .i64 lsn,.slice A K.length c0],.int .i64 ye])∧CellsE w2 (.slice A K.length c0) K∧Upd Nowhere W w2):=qh fun W hW=>HP2.out W (hu5.same hW)
  clear HQ HP2;have HQ:=qh hq5;have EE:Hid (∀W,Upd Nowhere wc W→(W.cell? ⟨x,1,none⟩=some (.pointer (some ⟨l,0,none⟩))∧W.cell? ⟨x,2,none⟩=some (.pointer (some ⟨P,0,none⟩))∧W.cell? ⟨x,3,none⟩=some (.pointer (some ⟨q,0,none⟩))∧W.cell? ⟨bq,0,none⟩=some (.int .i64 5)∧W.cell? ⟨bq,1,none⟩=some (.int .i64 n)∧W.cell? ⟨bq,2,none⟩=some (strV key)∧W.cell? ⟨bq,3,none⟩=some (.bool vh)∧W.cell? ⟨bq,4,none⟩=some (strV vd))):=qh fun W hW=>(HQ.out.up hW).cells
  have dd:=EE.out wc (Upd.refl _ _);have d2:=EE.out wc.drew (Upd.refl Nowhere wc).drew;have d3:=EE.out (wc.alloc (.cells #[.int .i64 0,.slice none 0 0] 72)) ((Upd.refl Nowhere wc).alloc _);have d4:=EE.out (wc.alloc (.cells #[.int .i64 0,.slice none 0 0] 72)).drew ((Upd.refl Nowhere wc).alloc _).drew;have HU0:Hid (Upd Nowhere wc (wc.alloc (.cells #[.int .i64 0,.slice none 0 0] 72)).drew):=qh ((Upd.refl Nowhere wc).alloc (.cells #[.int .i64 0,.slice none 0 0] 72)).drew;clear hq5 hb5 hce5 hu5;go_wp2_with fail
  go_cut [7,8] (fun ta tb wz=>∃(r5:Nat) (A:Option Addr) (c0:Nat),ta= .pointer (some ⟨r5,0,none⟩)∧tb= .int .i64 ye∧Blk wz r5 72 #[.int .i64 lsn,.slice A K.length c0]∧CellsE wz (.slice A K.length c0) K∧Upd Nowhere wc wz)
  case first=>
   go_region_held3 (fun w'=>w'.cell? ⟨x,1,none⟩=some (.pointer (some ⟨l,0,none⟩))∧w'.cell? ⟨x,2,none⟩=some (.pointer (some ⟨P,0,none⟩))∧w'.cell? ⟨x,3,none⟩=some (.pointer (some ⟨q,0,none⟩))∧w'.cell? ⟨bq,0,none⟩=some (.int .i64 5)∧w'.cell? ⟨bq,1,none⟩=some (.int .i64 n)∧w'.cell? ⟨bq,2,none⟩=some (strV key)∧w'.cell? ⟨bq,3,none⟩=some (.bool vh)∧w'.cell? ⟨bq,4,none⟩=some (strV vd)) (first | with_reducible exact dd | with_reducible exact d2 | with_reducible exact d3 | with_reducible exact d4 | with_reducible exact k2 | with_reducible exact k3 | with_reducible exact k4 | with_reducible exact k5)
    (first
      | (go_at_call 91
         refine(HP3.out wc.drew (Upd.refl Nowhere wc).drew).mono ?_;rintro e w3 ⟨A3,c3,rfl,hO3,hU3⟩;have hU3':Upd Nowhere wc w3:=(Upd.refl Nowhere wc).drew.same hU3;have k2:=EE.out w3 hU3';have k3:=EE.out _ (hU3'.alloc (.cells #[.int .i64 0,.slice none 0 0] 72));have k4:=EE.out _ (hU3'.alloc (.cells #[.int .i64 lsn,.slice A3 K.length c3] 72));have HU3:=qh hU3';have HO3:=qh hO3;clear hU3 hU3' hO3)
      | (go_at_call 91
         refine(HP3.out _ HU0.out).mono ?_;rintro e w3 ⟨A3,c3,rfl,hO3,hU3⟩;have hU3':Upd Nowhere wc w3:=HU0.out.same hU3;have k2:=EE.out w3 hU3';have k5:=EE.out _ ((hU3'.setCell (p:=⟨wc.heap.size,0,none⟩) (fun h=>absurd h (Nat.lt_irrefl _)) (.int .i64 lsn)).setCell (p:=⟨wc.heap.size,1,none⟩) (fun h=>absurd h (Nat.lt_irrefl _)) (.slice A3 K.length c3))
         have hbq5:=(Blk.new wc 72 #[.int .i64 0,.slice none 0 0]).drew.upd hU3 id;have y0:=hbq5.cell 0;have y1:=hbq5.cell 1;have x0:=hbq5.frozen 0;have x1:=hbq5.frozen 1;simp only[qA,qZ,qS]at y0 y1;have HBQ:=qh hbq5;have HU3:=qh hU3';have HO3:=qh hO3;clear hU3 hU3' hO3 hbq5))
   ·go_wp2_with fail
    go_meet;exact⟨w3.heap.size,A3,c3,rfl,rfl,Blk.new _ _ _,HO3.out.up ((Upd.refl Nowhere w3).alloc _),HU3.out.alloc _⟩
   ·go_wp2_with fail
    go_meet;have hbz:=(HBQ.out.set_ 0 (.int .i64 lsn)).set_ 1 (.slice A3 K.length c3);simp only[qsA,qsS,qsZ]at hbz;exact⟨wc.heap.size,A3,c3,rfl,rfl,hbz,HO3.out.upd ((Upd.one w3 wc.heap.size 0 _).same (Upd.one _ wc.heap.size 1 _)) (noC_blk HBQ.out (by decide)),(HU3.out.setCell (p:=⟨wc.heap.size,0,none⟩) (fun h=>absurd h (Nat.lt_irrefl _)) _).setCell (p:=⟨wc.heap.size,1,none⟩) (fun h=>absurd h (Nat.lt_irrefl _)) _⟩
  case rest=>
   obtain⟨r7,A7,c7,rfl,rfl,hb7,hce7,hu7⟩:=hcut;clear dd d2 d3 d4 EE HU0 HP3;have HQ7:=qh (HQ.out.up hu7);have c50:=(HB5.out.upd hu7 id).cell 0;have c51:=(HB5.out.upd hu7 id).cell 1;have c70:=hb7.cell 0;have c71:=hb7.cell 1;simp only[qA,qZ,qS]at c50 c51 c70 c71;have HSM:=qh (rsame_ok (HCE.out.up hu7) hce7 HKL.out lsn);clear hb7 hce7 hu7 HB5 HCE HQ;go_wp2_with fail
   refine HSM.out.mono ?_;rintro e w8 ⟨rfl,hu8⟩;have HQ8:=qh (HQ7.out.up hu8);clear hu8;go_wp2_with fail
   go_ret;exact⟨rfl,HQ8.out.kb.mono (by omega)⟩
end
end Go.Proofs.YtdfccegeihfdpaaGreatDoor
