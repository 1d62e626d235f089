/-
  The document's pool, where it has no frames. PoolFrames: the law's own pins, and what a round leaves.
-/
import Derived.Test.YtdfccegeihfdpaaGreatDoorAPgV
import Derived.Test.YtdfccegeihfdpaaGreatDoorAPgZ
namespace Go.Proofs.YtdfccegeihfdpaaGreatDoor
open Go Go.RowKit
structure RefE(w:World)(q pages:Nat)(fo:Int):Prop where
 ex:∃(most a b:Nat) (la ck:Int),Blk w q 91 #[.int .i64 (most:Nat),.slice none 0 0,.slice (some ⟨a,0,none⟩) pages pages,.slice (some ⟨b,0,none⟩) pages pages,.int .i64 la,.int .i64 fo,.int .i64 ck]
theorem RefE.upd{F:Nat→Prop}{w w':World}{q pages:Nat}{fo:Int}(h:RefE w q pages fo)(hu:Upd F w w')(hF:¬F q):RefE w' q pages fo:=by
 obtain⟨most,a,b,la,ck,h1⟩:=h.ex;exact⟨most,a,b,la,ck,h1.upd hu hF⟩
theorem RefE.pool{bz:Nat}{w w':World}{q pages:Nat}{fo:Int}(h:RefE w q pages fo)(hu:Upd (PoolF bz w) w w'):RefE w' q pages fo:=by
 obtain⟨most,a,b,la,ck,h1⟩:=h.ex;exact⟨most,a,b,la,ck,h1.upd hu (h1.noPool rfl)⟩
section
variable {w:World} {q pages:Nat} {fo:Int}
def inR(pages:Nat)(n:Int):Bool:=decide (0≤n) && decide (n<(pages:Nat))
end
section
variable {bz P l d e0 pages most c:Nat} {w:World} {p:DkP} {S:LogS} {T:PoS} {M:DkM}
theorem fetch_no(h:PoolAt bz w P p l S T)(n:Int)(hin:¬inT T n):Calls Tryz.prog 23 #[.pointer (some ⟨P,0,none⟩),.int .i64 n] w fun e w'=>e= .returned (.int .i64 1)∧w'=w:=by
 have HIS:=qh (is_ok h n);rw[if_neg hin]at HIS;clear h hin;go_enter Tryz.func23,Tryz.ntmps23
 go_wp2_with fail
 refine HIS.out.mono ?_;rintro e w1 ⟨rfl,rfl⟩;go_wp2_with fail
 go_ret;exact⟨rfl,rfl⟩
theorem forceK(h:PSt bz P l d e0 pages most c w p S T M)(hc:c≤990):Calls Tryz.prog 49 #[.pointer (some ⟨l,0,none⟩)] w fun e w'=>∃p',e= .returned (.int .i64 0)∧PSt bz P l d e0 pages most (c+1) w' p' S.forceS.1 T M∧Upd (PoolF bz w) w w':=by
 have hB:=h.inv.lg.bounds h.inv.p20 (by omega)
 have hf:=force_ok h.at_.log hB (by omega) h.inv.lg.dwn h.half (hB.sheets_good (by omega)) (by rw[hB.find_len,placesB_len]) hB.find_le
 refine hf.mono ?_;rintro e w' ⟨p',hpd,rfl,hL,hu⟩;obtain⟨h1,h2,_⟩:=h.inv.forced (by omega)
 exact⟨p',by rw[h1],⟨h.at_.logs hL hpd hu,h2,HalfW.pools h.at_.log.hz h.half hu.log_pool,h.mst,hpd.trans h.pd⟩,hu.log_pool⟩
end
structure PinsAt(w:World)(pb:Nat)(f:Nat→Nat):Prop where
 ex:∃arr,Blk w pb 78 arr∧∀m,m<20→arr[m]? =some (.int .i64 (f m:Nat))
section
variable {w w':World} {pb:Nat} {f:Nat→Nat}
theorem PinsAt.upd{F:Nat→Prop}(h:PinsAt w pb f)(hu:Upd F w w')(hF:¬F pb):PinsAt w' pb f:=by
 obtain⟨arr,h1,h2⟩:=h.ex;exact⟨arr,h1.upd hu hF,h2⟩
theorem PinsAt.up(h:PinsAt w pb f)(hu:Upd Nowhere w w'):PinsAt w' pb f:=h.upd hu id
theorem PinsAt.get(h:PinsAt w pb f){n:Nat}(hn:n<20):w.cell? ⟨pb,n,none⟩=some (.int .i64 (f n:Nat)):=by
 obtain⟨arr,h1,h2⟩:=h.ex;exact(h1.cell _).trans (h2 n hn)
end
structure KX(w w1:World)(P l d pg fr x q pb c:Nat)(f g:Nat→Nat)(wr:World):Prop where
 ex:∃p S T M,PSt w1.heap.size P l d 1 pg fr c wr p S T M∧∀m,pinsP T.L m=g m
 ref:∃fo,RefE wr q pg fo
 pins:PinsAt wr pb f
 play:Blk wr x 65 #[.pointer (some ⟨d,0,none⟩),.pointer (some ⟨l,0,none⟩),.pointer (some ⟨P,0,none⟩),.pointer (some ⟨q,0,none⟩)]
 upd:Upd (fun k=>w.heap.size≤k) w wr
 le:w.heap.size≤w1.heap.size
 qge:w1.heap.size≤q
 pge:w1.heap.size≤pb
 pg20:pg≤20
section
variable {w w1 wr:World} {P l d pg fr x q pb c:Nat} {f g:Nat→Nat}
theorem KX.up(h:KX w w1 P l d pg fr x q pb c f g wr){w':World}(hu:Upd Nowhere wr w'):KX w w1 P l d pg fr x q pb c f g w':=by
 obtain⟨p,S,T,M,h1,h2⟩:=h.ex;obtain⟨fo,h3⟩:=h.ref;exact⟨⟨p,S,T,M,h1.up hu,h2⟩,⟨fo,h3.upd hu id⟩,h.pins.up hu,h.play.upd hu id,h.upd.same hu.any,h.le,h.qge,h.pge,h.pg20⟩
theorem KX.mono(h:KX w w1 P l d pg fr x q pb c f g wr){c':Nat}(hc:c≤c'):KX w w1 P l d pg fr x q pb c' f g wr:=by
 obtain⟨p,S,T,M,h1,h2⟩:=h.ex;exact⟨⟨p,S,T,M,h1.mono hc,h2⟩,h.ref,h.pins,h.play,h.upd,h.le,h.qge,h.pge,h.pg20⟩
end
end Go.Proofs.YtdfccegeihfdpaaGreatDoor
