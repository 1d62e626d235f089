/-
  The two pools side by side: a page is changed, behind a record or with none; the log is forced.
-/
import Derived.Test.YtdfccegeihfdpaaGreatDoorARgA
namespace Go.Proofs.YtdfccegeihfdpaaGreatDoor
open Go Go.RowKit
section
variable {w w1 wr:World} {P l d pg fr x q c:Nat}
theorem PSt.oks{bz P l d e0 pages most c:Nat}{w:World}{p:DkP}{S:LogS}{T:PoS}{M:DkM}(h:PSt bz P l d e0 pages most c w p S T M):∀r∈T.L,r.1.pg.ok:=fun r hr=>(h.inv.fr r hr).2.2.1
theorem changeE_ok{p:DkP}{S:LogS}{T:PoS}{M:DkM}(h:KB w w1 P l d pg fr x q c wr)(h1:PSt w1.heap.size P l d 0 pg fr c wr p S T M)(h2:RfAt w1.heap.size wr q fr pg (frs T) M S.items.length S.forced T.clock)(h3:AtI T)(hc:c≤980){n:Int}{y:Int}(hp:pinS T n= .error y)(key:Bs)(vh:Bool)(vd:Bs)(hk:CellOK (key,(vh,vd))):Calls Tryz.prog 25 #[.pointer (some ⟨P,0,none⟩),.int .i64 n,.int .i64 1,strV key,.agg #[.bool vh,strV vd]] wr fun e w2=>e= .returned (.int .i64 y)∧Upd (PoolF w1.heap.size wr) wr w2∧Calls Tryz.prog 143 #[.pointer (some ⟨q,0,none⟩),.int .i64 n,.int .i64 1,strV key,.agg #[.bool vh,strV vd]] w2 fun e2 w3=>e2= .returned (.int .i64 y)∧KB w w1 P l d pg fr x q c w3∧Upd (RfF w1.heap.size w2) w2 w3:=by
 have hB:=h1.inv.rfB (by omega)
 have hcs:changeS T n 1 key (vh,vd)=(T,y):=by unfold changeS;rw[hp]
 have hch:=change_ok h1.at_ (h1.inv.bounds (by omega)) n 1 (qlr _) (by omega) key vh vd hk
 rw[show((1:Nat):Int)=1 from rfl,hcs]at hch;refine hch.mono ?_;rintro e w2 ⟨rfl,hP,hu⟩;refine⟨rfl,hu,?_⟩;have hP2:PSt w1.heap.size P l d 0 pg fr c w2 p S T M:=⟨hP,h1.inv,HalfW.pools h1.at_.log.hz h1.half hu,h1.mst,h1.pd⟩;have hr:=h2.pool hu;rw[←h1.inv.pgs]at hr;have hrc:=rchange_ok hr hB h1.oks n 1 (qlr _) (by omega) key vh vd hk
 rw[show((1:Nat):Int)=1 from rfl,hcs]at hrc;refine hrc.mono ?_;rintro e w3 ⟨rfl,hR,hu3⟩;rw[h1.inv.pgs]at hR;exact⟨rfl,h.both hu hu3 ⟨p,S,T,M,hP2,hR,h3⟩,hu3⟩
theorem changeL_ok{p:DkP}{S:LogS}{T:PoS}{M:DkM}(hx:Blk wr x 65 #[.pointer (some ⟨d,0,none⟩),.pointer (some ⟨l,0,none⟩),.pointer (some ⟨P,0,none⟩),.pointer (some ⟨q,0,none⟩)])(hw:Upd (fun k=>w.heap.size≤k) w wr)(hle:w.heap.size≤w1.heap.size)(h1:PSt w1.heap.size P l d 0 pg fr c wr p S T M)(h2:RfAt w1.heap.size wr q fr pg (frs T) M S.items.length S.forced T.clock)(h3:AtI T)(hc:c≤980)(n:Int)(k:Nat)(hk1:1≤k)(hkl:k=S.items.length)(key:Bs)(vh:Bool)(vd:Bs)(hk:CellOK (key,(vh,vd))):Calls Tryz.prog 25 #[.pointer (some ⟨P,0,none⟩),.int .i64 n,.int .i64 (k:Nat),strV key,.agg #[.bool vh,strV vd]] wr fun e w2=>∃y,e= .returned (.int .i64 y)∧Upd (PoolF w1.heap.size wr) wr w2∧Calls Tryz.prog 143 #[.pointer (some ⟨q,0,none⟩),.int .i64 n,.int .i64 (k:Nat),strV key,.agg #[.bool vh,strV vd]] w2 fun e2 w3=>e2= .returned (.int .i64 y)∧KB w w1 P l d pg fr x q c w3∧Upd (RfF w1.heap.size w2) w2 w3:=by
 have hB:=h1.inv.rfB (by omega)
 have hil:=h1.inv.lg.len;have h:KB w w1 P l d pg fr x q c wr:=⟨⟨p,S,T,M,h1,h2,h3⟩,hx,hw,hle⟩;refine(changeK h1 (by omega) (by omega) n k hk1 (by omega) key vh vd hk).mono ?_
 rintro e w2 ⟨rfl,hP,hu⟩;refine⟨_,rfl,hu,?_⟩;have hr:=h2.pool hu;rw[←h1.inv.pgs]at hr;refine(rchange_ok hr hB h1.oks n k hk1 (by omega) key vh vd hk).mono ?_
 rintro e w3 ⟨rfl,hR,hu3⟩;rw[h1.inv.pgs]at hR;refine⟨rfl,h.both hu hu3 ⟨p,S,_,M,hP,?_,?_⟩,hu3⟩
 ·have hck:(changeS T n k key (vh,vd)).1.clock=T.clock:=by
   unfold changeS;split
   ·rfl
   ·split<;>rfl
  rw[hck];exact hR
 ·unfold changeS
  cases hp:pinS T n with
  | error y=>exact h3
  | ok r=>
    simp only;split
    ·exact h3.upd hB.nos (pinS_ok hp).1 rfl rfl
    ·exact h3
theorem KB.force(h:KB w w1 P l d pg fr x q c wr)(hc:c≤980):∃la:Int,wr.cell? ⟨q,4,none⟩=some (.int .i64 la)∧wr.frozen? ⟨q,5,none⟩=false∧(∃u,wr.cell? ⟨q,5,none⟩=some u)∧Calls Tryz.prog 49 #[.pointer (some ⟨l,0,none⟩)] (wr.setCell ⟨q,5,none⟩ (.int .i64 la)) fun e w'=>e= .returned (.int .i64 0)∧KB w w1 P l d pg fr x q (c+1) w':=by
 obtain⟨p,S,T,M,h1,h2,h3⟩:=h.ex;obtain⟨v,a,b,os,hb,_⟩:=h2.ex;have b4:=hb.cell 4;have b5:=hb.cell 5;have z5:=hb.frozen 5;unfold boxD at b4 b5;simp only[qA,qZ,qS]at b4 b5;obtain⟨hR,hu⟩:=h2.box 5 (S.items.length:Nat) (fo':=S.items.length) (fun _ _ _=>rfl)
 refine⟨_,b4,z5,⟨_,b5⟩,?_⟩;have hP:=h1.rf hu;have hplay:=h.play.upd hu (h.play.noRf rfl);have hupd:=h.upd.same (hu.mono fun _ _ e=>Nat.le_trans h.le e.1)
 refine(forceK hP (by omega)).mono ?_
 rintro e w' ⟨p',rfl,hP',hu'⟩;obtain⟨_,_,f3,f4⟩:=h1.inv.forced (by omega)
 refine⟨rfl,⟨p',_,T,M,hP',?_,h3⟩,hplay.play hu',hupd.same (hu'.mono fun _ _ e=>Nat.le_trans h.le e.1),h.le⟩
 rw[f3,f4];exact hR.pool hu'
end
end Go.Proofs.YtdfccegeihfdpaaGreatDoor
