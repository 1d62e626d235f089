/-
  Contracts of layer 10: cells in memory; fits, order, find, may. Contracts of layer 10: find, may, Room.
-/
import Derived.Test.YtdfccegeihfdpaaGreatDoorAPoA
import Derived.Test.YtdfccegeihfdpaaGreatDoorAWm2
import Derived.Lib.Bytealg
import Derived.Sort.Walk0
set_option maxRecDepth 100000
set_option maxHeartbeats 2000000
namespace Go.Proofs.YtdfccegeihfdpaaGreatDoor
open Go Go.RowKit
def cellC(c:Ky×Vl):List Value:=[strV c.1,.bool c.2.1,strV c.2.2]
theorem cellC_len(c:Ky×Vl):(cellC c).length=3:=rfl
def IsC(w:World)(k:Nat):Prop:=∃cs fz,w.heap[k]? =some (.cells cs 155 fz)
def NoC(F:Nat→Prop)(w:World):Prop:=∀k,F k→¬IsC w k
theorem IsC.upd{F:Nat→Prop}{w w':World}{k:Nat}(h:IsC w k)(hu:Upd F w w')(hF:¬F k):IsC w' k:=by
 obtain⟨cs,fz,h⟩:=h;exact⟨cs,fz,(hu.block k (lt_of_heap h) hF).trans h⟩
theorem IsC.ne{w:World}{k g:Nat}{t:TypeId}{cs:Array Value}(h:IsC w k)(hb:Blk w g t cs)(ht:t≠155):k≠g:=by
 rintro rfl;obtain⟨cs',fz,h⟩:=h;unfold Blk at hb;rw[h]at hb;injection hb with hb
 injection hb with _ e _
 exact ht e.symm
theorem noC_blk{w:World}{g t:Nat}{cs:Array Value}(h:Blk w g t cs)(ht:t≠155):NoC (fun k=>k=g) w:=fun _ e hc=>hc.ne h ht e
theorem NoC.nowhere(w:World):NoC Nowhere w:=fun _ h=>absurd h id
structure CellsE(w:World)(v:Value)(L:Cl):Prop where
 els:Els 3 cellC w v L
 blk:∀k,v.ownBlock=some k→IsC w k
abbrev OwnC:=OwnR 155 cellC 3
theorem cell_row:RowK Tryz.prog 70 155 cellC 3:=
 ⟨Tryz.underlying70,⟨.agg #[.string ⟨#[]⟩,.bool false,.string ⟨#[]⟩],40,by kernel_rfl,rfl,by decide⟩,fun _=>rfl,fun a u h=>by
  simp only[cellC,qmc,List.not_mem_nil,or_false]at h
  rcases h with rfl | rfl | rfl<;>rfl,by decide⟩
section
variable {F:Nat→Prop} {w w':World} {v:Value} {L:Cl} {B:Nat}
theorem CellsE.upd(h:CellsE w v L)(hu:Upd F w w')(hF:NoC F w):CellsE w' v L:=
 ⟨h.els.upd hu fun k hk e=>hF k e (h.blk k hk),fun k hk=>(h.blk k hk).upd hu fun e=>hF k e (h.blk k hk)⟩
theorem CellsE.up(h:CellsE w v L)(hu:Upd Nowhere w w'):CellsE w' v L:=h.upd hu (NoC.nowhere w)
theorem OwnR.cellsE(h:OwnC B w v L):CellsE w v L:=⟨h.els,fun k hk=>by
 obtain⟨cs,hc⟩:=h.is_cells hk;exact⟨cs,_,hc⟩⟩
theorem CellsE.val(h:CellsE w v L):∃A c,v= .slice A L.length c∧L.length≤c:=h.els.val
theorem CellsE.get(h:CellsE w v L){i:Nat}{a:Ky×Vl}(ha:L[i]? =some a):∃b off c,v= .slice (some ⟨b,off,none⟩) L.length c∧b<w.heap.size∧w.cell? ⟨b,off+i * 3,none⟩=some (strV a.1)∧w.cell? ⟨b,off+i * 3+1,none⟩=some (.bool a.2.1)∧w.cell? ⟨b,off+i * 3+2,none⟩=some (strV a.2.2):=by
 obtain⟨b,off,c,hv,hb,hc⟩:=h.els.get cellC_len ha;exact⟨b,off,c,hv,hb,by have:=hc 0 (by omega);rw[Nat.add_zero]at this;exact this,hc 1 (by omega),hc 2 (by omega)⟩
theorem CellsE.nil(w:World):CellsE w (.slice none 0 0) []:=(OwnR.nil 155 cellC 3 0 w).cellsE
end
theorem fits_ok(c:Ky×Vl)(h:CellOK c)(w:World):Calls Tryz.prog 131 #[strV c.1,.agg #[.bool c.2.1,strV c.2.2]] w fun e w'=>e= .returned (.bool true)∧Upd Nowhere w w':=by
 obtain⟨k,hh,d⟩:=c;obtain⟨h1,h2,h3,h4⟩:=h;simp only at h1 h2 h3 h4 ⊢;have hb:(k == [])=false:=by rw[beq_eq_false_iff_ne];exact h1
 have h2':((k.length:Nat):Int)≤16:=by omega
 have h3':((d.length:Nat):Int)≤32:=by omega
 have HU:=qh ((Upd.refl Nowhere w).alloc (.cells #[.bool hh,strV d] 32));clear h1 h2 h3
 cases hh with
 | true=>
   clear h4;go_enter Tryz.func131,Tryz.ntmps131
   go_wp2_with fail
   go_ret;exact⟨rfl,HU.out⟩
 | false=>
   obtain rfl:d=[]:=h4.resolve_left (by decide)
   clear h4;go_enter Tryz.func131,Tryz.ntmps131
   go_wp2_with fail
   go_ret;exact⟨rfl,HU.out⟩
theorem compareBytes_lt:∀(a b:Ky),(Go.Lib.compareBytes a b<0)=(a<b)
 | [],[]=>by simp[Go.Lib.compareBytes]
 | [],_::_=>by simp[Go.Lib.compareBytes]
 | _::_,[]=>by simp[Go.Lib.compareBytes]
 | a::la,b::lb=>by
   unfold Go.Lib.compareBytes;rw[List.cons_lt_cons_iff,←compareBytes_lt la lb];by_cases h:a<b
   ·simp[h]
   ·by_cases h':b<a
    ·have:a≠b:=fun e=>UInt8.lt_irrefl _ (e▸h')
     simp[h,h',this]
    ·have e:a=b:=UInt8.le_antisymm (UInt8.not_lt.1 h') (UInt8.not_lt.1 h);subst e;simp[UInt8.lt_irrefl]
theorem cmpstr_ok(a b:Ky)(w:World):Calls Tryz.prog 259 #[strV a,strV b] w fun e w'=>e= .returned (.int .i64 (Go.Lib.compareBytes a b))∧w'=w:=by
 go_enter Tryz.func259,Tryz.ntmps259
 go_wp2_with fail
 rw[run_callFunc_extern Tryz.func262 (by kernel_rfl) (by kernel_rfl) (by kernel_rfl) (e:=Extern.BytealgCompare.compare) (by kernel_rfl),Go.Lib.run_compareString]
 simp only[Result.andThen];rw[Oper.upon_value];go_wp2_with fail
 go_ret;exact⟨rfl,rfl⟩
theorem scompare_ok(a b:Ky)(w:World):Calls Tryz.prog 245 #[strV a,strV b] w fun e w'=>e= .returned (.int .i64 (Go.Lib.compareBytes a b))∧w'=w:=by
 go_enter Tryz.func245,Tryz.ntmps245
 go_wp2_with fail
 refine(cmpstr_ok a b w).mono ?_;rintro e w1 ⟨rfl,rfl⟩;go_wp2_with fail
 go_ret;exact⟨rfl,rfl⟩
theorem order_ok(k:Ky)(h:Bool)(d:Bs)(key:Ky)(w:World):Calls Tryz.prog 197 #[.agg #[strV k,.bool h,strV d],strV key] w fun e w'=>e= .returned (.int .i64 (Go.Lib.compareBytes k key))∧Upd Nowhere w w':=by
 have HU:=qh ((Upd.refl Nowhere w).alloc (.cells #[strV k,.bool h,strV d] 155));go_enter Tryz.func197,Tryz.ntmps197
 go_wp2_with fail
 refine(scompare_ok k key _).mono ?_;rintro e w1 ⟨rfl,rfl⟩;go_wp2_with fail
 go_ret;exact⟨rfl,HU.out⟩
def hasAt(L:Cl)(i:Nat)(key:Ky):Bool:=match L[i]? with
 | some p=>p.1 == key
 | none=>false
theorem find_ok'{w:World}{v:Value}{L:Cl}(h:CellsE w v L)(hl:L.length≤1000)(lsn:Int)(key:Ky):Calls Tryz.prog 134 #[.agg #[.int .i64 lsn,v],strV key] w fun e w'=>∃i:Nat,e= .returned (.tuple #[.int .i64 (i:Int),.bool (hasAt L i key)])∧PlaceC L key i∧Upd Nowhere w w':=by
 obtain⟨A,c,rfl,hc⟩:=h.val;have hb0:=Blk.new w 72 #[.int .i64 lsn,.slice A L.length c];have HU0:=qh ((Upd.refl Nowhere w).alloc (.cells #[.int .i64 lsn,.slice A L.length c] 72));have HB0:=qh hb0;have H:=qh h;clear h;obtain⟨n,hn⟩:∃n,L.length=n:=⟨_,rfl⟩;rw[hn]at H HB0 HU0 hb0 hl hc ⊢;have HN:=qh hn;have c0:=hb0.cell 0;have c1:=hb0.cell 1;simp only[qA,qZ,qS]at c0 c1;clear hb0 hn;go_enter Tryz.func134,Tryz.ntmps134
 go_wp2_with fail
 generalize w.alloc (.cells #[.int .i64 lsn,.slice A n c] 72)=w1 at*;clear c0 c1;go_loopw [11] (fun s11 wr=>∃k:Nat,s11= .int .i64 (k:Int)∧k≤n∧(∀j p,j<k→L[j]? =some p→p.1<key)∧Upd Nowhere w1 wr) (fun s11 _=>n - (intOf s11).toNat)
 case atStart=>exact⟨0,rfl,by omega,fun j p hj=>absurd hj (by omega),Upd.refl _ _⟩
 case round=>
  obtain⟨k,rfl,hk,hno,hu⟩:=hrel;by_cases hlt:k<n
  ·obtain⟨⟨kk,vh,vd⟩,hp⟩:∃p,L[k]? =some p:=⟨_,qeg (by rw[HN.out];exact hlt)⟩
   have hce:=(H.out.up HU0.out).up hu;have hg:=hce.get hp;rw[HN.out]at hg;obtain⟨b,off,c',he,hb,p0,p1,p2⟩:=hg
   cases he;simp only at p0 p1 p2;have hi:(k:Int)<(n:Int):=by omega
   have hne:(n:Int)≤1000:=by omega
   have HU:=qh (HU0.out.same hu);have HU1:=qh hu;have HNO:=qh hno;have HP:=qh hp;have hq:=Blk.new wr 155 #[strV kk,.bool vh,strV vd];have q0:=hq.cell 0;have q1:=hq.cell 1;have q2:=hq.cell 2;simp only[qA,qZ,qS]at q0 q1 q2;have HUA:=qh ((Upd.refl Nowhere wr).alloc (.cells #[strV kk,.bool vh,strV vd] 155));have HQ:=qh hq;clear hu hno hp hce hq;go_wp2_with fail
   refine(order_ok kk vh vd key _).mono ?_;rintro e w2 ⟨rfl,hu2⟩;have hq2:=HQ.out.upd hu2 id;have r0:=hq2.cell 0;simp only[qA,qZ]at r0;have HU2:=qh (HUA.out.same hu2);have hcmp:=compareBytes_lt kk key;generalize Go.Lib.compareBytes kk key=x at*;clear hu2 hq2 p0 p1 p2 q0 q1 q2;by_cases hx:x<0
   ·have hkk:kk<key:=hcmp▸hx;have hx':¬0≤x:=by omega
    have HK:=qh hkk;clear hcmp hkk r0;go_wp2_with fail
    go_roundw
    case rel=>
     refine⟨k+1,by go_num,by omega,fun j p hj hp=> ?_,HU1.out.same HU2.out⟩
     rcases(by omega:j<k∨j=k) with h1 | rfl
     ·exact HNO.out j p h1 hp
     ·rw[HP.out]at hp;cases hp;exact HK.out
    case measure=>simp[intOf];omega
   ·have hkk:¬kk<key:=hcmp▸hx;have hx':0≤x:=by omega
    have HK:=qh hkk;clear hcmp hkk;go_wp2_with fail
    have HR:=qh r0;go_region
    all_goals
     go_wp2_with fail
     go_ret2;refine⟨k,?_,⟨by rw[HN.out];exact Nat.le_of_lt hlt,HNO.out,fun p hp=>by rw[HP.out]at hp;cases hp;exact HK.out⟩,(HU.out.same HU2.out).drew⟩
     unfold hasAt;rw[HP.out];rfl
  ·have e:k=n:=by omega
   subst e;have hi:¬(k:Int)<(k:Int):=by omega
   have c1:=HB0.out.upd hu id;have d1:=c1.cell 1;simp only[qA,qZ,qS]at d1;have HU:=qh (HU0.out.same hu);have HNO:=qh hno;clear hu hno c1;go_wp2_with fail
   go_ret2;have hnone:L[k]? =none:=List.getElem?_eq_none (by rw[HN.out];exact qlr _)
   refine⟨k,?_,⟨by rw[HN.out];exact qlr _,HNO.out,fun p hp=>by rw[hnone]at hp;cases hp⟩,HU.out⟩
   unfold hasAt;rw[hnone];rfl
def lastK(L:Cl)(k:Nat):Ky:=match k with
 | 0=>[]
 | k+1=>match L[k]? with
   | some p=>p.1
   | none=>[]
theorem nil_lt{k:Ky}(h:k≠[]):[]<k:=by
 cases k with
 | nil=>exact absurd rfl h
 | cons a l=>exact List.nil_lt_cons a l
theorem lastK_lt{L:Cl}(hr:RisC L)(hm:∀c∈L,CellOK c){k:Nat}{p:Ky×Vl}(hp:L[k]? =some p):lastK L k<p.1:=by
 cases k with
 | zero=>exact nil_lt (hm p (qmg hp)).ne
 | succ k=>
   obtain⟨hk,e⟩:=qei.1 hp;unfold lastK;simp only;rw[qeg (by omega:k<L.length)]
   have:=List.pairwise_iff_getElem.1 hr k (k+1) (by omega) hk (by omega)
   rw[e]at this;exact this
theorem pmay_ok{w:World}{v:Value}{p:PgP}(h:CellsE w v p.cells)(hp:p.ok):Calls Tryz.prog 130 #[.agg #[.int .i64 (p.lsn:Nat),v]] w fun e w'=>e= .returned (.bool true)∧Upd Nowhere w w':=by
 obtain⟨lsn,L⟩:=p;obtain⟨hl,hlen,hris,hmay⟩:=hp;simp only at h hl hlen hris hmay ⊢;obtain⟨A,c,rfl,hc⟩:=h.val;have hb0:=Blk.new w 72 #[.int .i64 (lsn:Nat),.slice A L.length c];have HU0:=qh ((Upd.refl Nowhere w).alloc (.cells #[.int .i64 (lsn:Nat),.slice A L.length c] 72));have HB0:=qh hb0;have H:=qh h;have HR:Hid (∀(k:Nat) (p:Ky×Vl),L[k]? =some p→lastK L k<p.1):=qh fun k p hp=>lastK_lt hris hmay hp
 have HM:=qh hmay;clear h hris hmay;obtain⟨n,hn⟩:∃n,L.length=n:=⟨_,rfl⟩;rw[hn]at H HB0 HU0 hb0 hlen hc ⊢;have HN:=qh hn;have c0:=hb0.cell 0;have c1:=hb0.cell 1;simp only[qA,qZ,qS]at c0 c1;have hlsn:(lsn:Int)≤1099511627776:=by omega
 have hlen':(n:Int)≤4:=by omega
 clear hb0 hn;go_enter Tryz.func130,Tryz.ntmps130
 go_wp2_with fail
 generalize w.alloc (.cells #[.int .i64 (lsn:Nat),.slice A n c] 72)=w1 at*;clear c0 c1;go_loopw [3,9] (fun s3 s9 wr=>∃k:Nat,s9= .int .i64 (k:Int)∧k≤n∧s3=strV (lastK L k)∧Upd Nowhere w1 wr) (fun _ s9 _=>n - (intOf s9).toNat)
 case atStart=>exact⟨0,rfl,by omega,rfl,Upd.refl _ _⟩
 case round=>
  obtain⟨k,rfl,hk,rfl,hu⟩:=hrel;by_cases hlt:k<n
  ·obtain⟨⟨kk,vh,vd⟩,hp⟩:∃p,L[k]? =some p:=⟨_,qeg (by rw[HN.out];exact hlt)⟩
   have hce:=(H.out.up HU0.out).up hu;have hg:=hce.get hp;rw[HN.out]at hg;obtain⟨b,off,c',he,hb,p0,p1,p2⟩:=hg
   cases he;simp only at p0 p1 p2;have hi:(k:Int)<(n:Int):=by omega
   have hlast:=HR.out _ _ hp;have hbl:Op.bytesLess kk (lastK L k)=false:=by rw[_root_.Go.Proofs.bytesLess_eq];simpa using List.le_of_lt hlast
   have hbe:(kk == lastK L k)=false:=by
    rw[beq_eq_false_iff_ne];rintro e;exact List.lt_irrefl _ (e▸hlast:lastK L k<lastK L k)
   clear hlast;have HU:=qh (HU0.out.same hu);have HU1:=qh hu;have HP:=qh hp;have hq:=Blk.new wr 155 #[strV kk,.bool vh,strV vd];have q0:=hq.cell 0;have q1:=hq.cell 1;have q2:=hq.cell 2;simp only[qA,qZ,qS]at q0 q1 q2;have HUA:=qh ((Upd.refl Nowhere wr).alloc (.cells #[strV kk,.bool vh,strV vd] 155));have HQ:=qh hq;have HOK:=qh (HM.out _ (qmg hp));obtain⟨lk,hlk⟩:∃lk,lastK L k=lk:=⟨_,rfl⟩;rw[hlk]at hbl hbe ⊢;clear hu hp hce hq hlk;go_wp2_with fail
   refine(fits_ok (kk,vh,vd) HOK.out _).mono ?_;rintro e w2 ⟨rfl,hu2⟩;have hq2:=HQ.out.upd hu2 id;have r0:=hq2.cell 0;simp only[qA,qZ]at r0;have HU2:=qh (HUA.out.same hu2);clear hu2 hq2 p0 p1 p2 q0 q1 q2;go_wp2_with fail
   go_roundw
   case rel=>
    refine⟨k+1,by go_num,by omega,?_,HU1.out.same HU2.out⟩
    unfold lastK;simp only;rw[HP.out]
   case measure=>simp[intOf];omega
  ·have e:k=n:=by omega
   subst e;have hi:¬(k:Int)<(k:Int):=by omega
   have c1:=HB0.out.upd hu id;have d0:=c1.cell 0;have d1:=c1.cell 1;simp only[qA,qZ,qS]at d0 d1;have HU:=qh (HU0.out.same hu);clear hu c1;go_wp2_with fail
   go_ret;exact⟨rfl,HU.out⟩
end Go.Proofs.YtdfccegeihfdpaaGreatDoor
