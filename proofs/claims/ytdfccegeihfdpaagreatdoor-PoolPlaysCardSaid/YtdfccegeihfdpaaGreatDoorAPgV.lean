/-
  Contracts of the document's pages: Key, Value, has, Room, Same; right. Contracts of the document's pages: has, Room, Same.
-/
import Derived.Test.YtdfccegeihfdpaaGreatDoorAPoH
set_option maxRecDepth 100000
set_option maxHeartbeats 4000000
namespace Go.Proofs.YtdfccegeihfdpaaGreatDoor
open Go Go.RowKit
theorem rkey_ok(s:Bs)(w:World):Calls Tryz.prog 40 #[strV s] w fun e w'=>e= .returned (.bool (keyP s))∧w'=w:=by
 by_cases h1:(1:Int)≤(s.length:Int)
 ·have hne:s≠[]:=fun e=>by subst e;simp at h1
  by_cases h2:(s.length:Int)≤16
  ·go_enter Tryz.func40,Tryz.ntmps40
   go_wp2_with fail
   go_ret;exact⟨by unfold keyP;rw[decide_eq_true hne,decide_eq_true (by omega)];rfl,rfl⟩
  ·go_enter Tryz.func40,Tryz.ntmps40
   go_wp2_with fail
   go_ret;exact⟨by unfold keyP;rw[decide_eq_true hne,decide_eq_false (by omega)];rfl,rfl⟩
 ·have hne:s=[]:=List.length_eq_zero_iff.1 (by omega)
  go_enter Tryz.func40,Tryz.ntmps40
  go_wp2_with fail
  go_ret;exact⟨by subst hne;rfl,rfl⟩
theorem rval_ok(h:Bool)(d:Bs)(w:World):Calls Tryz.prog 41 #[.agg #[.bool h,strV d]] w (BoolP (valueP h d) w):=by
 cases h with
 | true=>
   by_cases h2:(d.length:Int)≤32
   ·go_enter Tryz.func41,Tryz.ntmps41
    go_wp2_with fail
    go_ret;exact⟨by unfold valueP;rw[decide_eq_true (by omega)];rfl,(Upd.refl _ w).alloc _⟩
   ·go_enter Tryz.func41,Tryz.ntmps41
    go_wp2_with fail
    go_ret;exact⟨by unfold valueP;rw[decide_eq_false (by omega)];rfl,(Upd.refl _ w).alloc _⟩
 | false=>
   by_cases h2:d=[]
   ·subst h2;go_enter Tryz.func41,Tryz.ntmps41
    go_wp2_with fail
    go_ret;exact⟨rfl,(Upd.refl _ w).alloc _⟩
   ·have hb:(d == [])=false:=beq_eq_false_iff_ne.2 h2;go_enter Tryz.func41,Tryz.ntmps41
    go_wp2_with fail
    go_ret;exact⟨by unfold valueP;rw[decide_eq_false h2];simp,(Upd.refl _ w).alloc _⟩
theorem CellOK.says{k:Ky}{v:Vl}(h:CellOK (k,v)):keyP k=true∧valueP v.1 v.2=true:=by
 obtain⟨h1,h2,h3,h4⟩:=h;refine⟨?_,?_⟩
 ·unfold keyP;rw[decide_eq_true h1,decide_eq_true h2];rfl
 ·unfold valueP;rw[decide_eq_true h3]
  rcases h4 with h4 | h4
  ·rw[show v.1=true from h4];rfl
  ·rw[decide_eq_true (by exact h4)];simp
theorem CellOK.of{k:Ky}{v:Vl}(h1:keyP k=true)(h2:valueP v.1 v.2=true):CellOK (k,v):=by
 unfold keyP at h1;unfold valueP at h2;simp only[Bool.and_eq_true,Bool.or_eq_true,decide_eq_true_eq]at h1 h2;exact⟨h1.1,h1.2,h2.1,h2.2⟩
structure CaV where
 kind:Int
 n:Int
 key:Bs
 vh:Bool
 vd:Bs
def CaV.cells(x:CaV):List Value:=[.int .i64 x.kind,.int .i64 x.n,strV x.key,.bool x.vh,strV x.vd]
theorem CaV.cells_len(x:CaV):x.cells.length=5:=rfl
def CaV.ok(x:CaV):Prop:=CellOK (x.key,(x.vh,x.vd))
structure RightP(pages frames:Int)(L:List CaV):Prop where
 pages:1≤pages∧pages≤20
 frames:1≤frames∧frames≤20
 len:L.length≤100
 ok:∀x∈L,x.ok
def RightR(pages frames:Int)(L:List CaV)(w:World)(e:Ending)(w':World):Prop:=∃b,e= .returned (.bool b)∧(b=true→RightP pages frames L)∧Upd Nowhere w w'
theorem CaV.get{L:List CaV}{w:World}{A:Option Addr}{n c k:Nat}(h:Els 5 CaV.cells w (.slice A n c) L){x:CaV}(hx:L[k]? =some x):∃b off,A=some ⟨b,off,none⟩∧b<w.heap.size∧w.cell? ⟨b,off+k * 5,none⟩=some (.int .i64 x.kind)∧w.cell? ⟨b,off+k * 5+1,none⟩=some (.int .i64 x.n)∧w.cell? ⟨b,off+k * 5+2,none⟩=some (strV x.key)∧w.cell? ⟨b,off+k * 5+3,none⟩=some (.bool x.vh)∧w.cell? ⟨b,off+k * 5+4,none⟩=some (strV x.vd):=by
 obtain⟨b,off,c',he,hb,hc⟩:=h.get CaV.cells_len hx
 cases he;exact⟨b,off,rfl,hb,by have:=hc 0 (by omega);rw[Nat.add_zero]at this;exact this,hc 1 (by omega),hc 2 (by omega),hc 3 (by omega),hc 4 (by omega)⟩
theorem pright_ok(pages frames:Int){w:World}{A:Option Addr}{n c:Nat}{L:List CaV}(hE:Els 5 CaV.cells w (.slice A n c) L)(hn:L.length=n):Calls Tryz.prog 20 #[.int .i64 pages,.int .i64 frames,.slice A n c] w (RightR pages frames L w):=by
 have bad:¬(1≤pages∧pages≤20∧1≤frames∧frames≤20∧(n:Int)≤100)→Calls Tryz.prog 20 #[.int .i64 pages,.int .i64 frames,.slice A n c] w (RightR pages frames L w):=by
  intro hb;by_cases h1:pages<1
  ·go_enter Tryz.func20,Tryz.ntmps20
   go_wp2_with fail
   go_ret;exact⟨false,rfl,by simp,Upd.refl _ _⟩
  by_cases h2:20<pages
  ·go_enter Tryz.func20,Tryz.ntmps20
   go_wp2_with fail
   go_ret;exact⟨false,rfl,by simp,Upd.refl _ _⟩
  by_cases h3:frames<1
  ·go_enter Tryz.func20,Tryz.ntmps20
   go_wp2_with fail
   go_ret;exact⟨false,rfl,by simp,Upd.refl _ _⟩
  by_cases h4:20<frames
  ·go_enter Tryz.func20,Tryz.ntmps20
   go_wp2_with fail
   go_ret;exact⟨false,rfl,by simp,Upd.refl _ _⟩
  have h5:(100:Int)<(n:Int):=by omega
  go_enter Tryz.func20,Tryz.ntmps20
  go_wp2_with fail
  go_ret;exact⟨false,rfl,by simp,Upd.refl _ _⟩
 by_cases hg:1≤pages∧pages≤20∧1≤frames∧frames≤20∧(n:Int)≤100
 ·clear bad;obtain⟨h1,h2,h3,h4,h5⟩:=hg;have HE:=qh hE;have HN:=qh hn;have HR:Hid ((∀x∈L,x.ok)→RightP pages frames L):=qh fun h=>⟨⟨h1,h2⟩,⟨h3,h4⟩,by omega,h⟩
  have a1:¬pages<1:=by omega
  have a2:¬20<pages:=by omega
  have a3:¬frames<1:=by omega
  have a4:¬20<frames:=by omega
  have a5:¬(100:Int)<(n:Int):=by omega
  clear hE hn h1 h2 h3 h4;go_enter Tryz.func20,Tryz.ntmps20
  go_wp2_with fail
  clear a1 a2 a3 a4 a5;go_loopw [7] (fun s7 wr=>∃k:Nat,s7= .int .i64 (k:Int)∧k≤n∧(∀j x,j<k→L[j]? =some x→x.ok)∧Upd Nowhere w wr) (fun s7 _=>n - (intOf s7).toNat)
  case atStart=>exact⟨0,rfl,by omega,fun j p hj=>absurd hj (by omega),Upd.refl _ _⟩
  case round=>
   obtain⟨k,rfl,hk,hno,hu⟩:=hrel;by_cases hlt:k<n
   ·obtain⟨x,hx⟩:∃p,L[k]? =some p:=⟨_,qeg (by rw[HN.out];exact hlt)⟩
    obtain⟨b,off,rfl,hb,p0,p1,p2,p3,p4⟩:=CaV.get (HE.out.upd hu fun _ _=>id) hx
    obtain⟨kind,nn,key,vh,vd⟩:=x;simp only at p0 p1 p2 p3 p4;have hi:(k:Int)<(n:Int):=by omega
    have HU:=qh hu;have HNO:=qh hno;have HX:=qh hx;clear hu hno hx;by_cases hk1:keyP key=true
    ·have hkc:∀w,Calls Tryz.prog 40 #[strV key] w fun e w'=>e= .returned (.bool true)∧w'=w:=fun w=>by have:=rkey_ok key w;rwa [hk1]at this
     have HKC:=qh hkc;have HK1:=qh hk1;clear hkc hk1;by_cases hv1:valueP vh vd=true
     ·have hvc:=rval_ok vh vd wr;rw[hv1]at hvc;have HVC:=qh hvc;have HV1:=qh hv1;clear hvc hv1;go_wp2_with (first | (go_at_call 40;refine(HKC.out _).mono ?_;rintro e w9 ⟨rfl,hw9⟩;obtain rfl:=hw9.symm) | (go_at_call 41;refine HVC.out.mono ?_;rintro e w9 ⟨rfl,hu9⟩))
      go_roundw
      case rel=>
       refine⟨k+1,by go_num,by omega,fun j p hj hp=> ?_,HU.out.same hu9⟩
       rcases(by omega:j<k∨j=k) with h1 | rfl
       ·exact HNO.out j p h1 hp
       ·rw[HX.out]at hp;cases hp;exact CellOK.of HK1.out HV1.out
      case measure=>simp[intOf];omega
     ·have hv1:valueP vh vd=false:=by simpa using hv1
      have hvc:=rval_ok vh vd wr;rw[hv1]at hvc;have HVC:=qh hvc;clear hvc hv1;go_wp2_with (first | (go_at_call 40;refine(HKC.out _).mono ?_;rintro e w9 ⟨rfl,hw9⟩;obtain rfl:=hw9.symm) | (go_at_call 41;refine HVC.out.mono ?_;rintro e w9 ⟨rfl,hu9⟩))
      go_ret;exact⟨false,rfl,by simp,HU.out.same hu9⟩
    ·have hk1:keyP key=false:=by simpa using hk1
     have hkc:∀w,Calls Tryz.prog 40 #[strV key] w fun e w'=>e= .returned (.bool false)∧w'=w:=fun w=>by have:=rkey_ok key w;rwa [hk1]at this
     have HKC:=qh hkc;clear hkc hk1;go_wp2_with (first | (go_at_call 40;refine(HKC.out _).mono ?_;rintro e w9 ⟨rfl,hw9⟩;obtain rfl:=hw9.symm))
     go_ret;exact⟨false,rfl,by simp,HU.out⟩
   ·have e:k=n:=by omega
    subst e;have hi:¬(k:Int)<(k:Int):=by omega
    have HU:=qh hu;have HNO:=qh hno;clear hu hno;go_wp2_with fail
    go_ret;refine⟨true,rfl,fun _=>HR.out fun x hx=> ?_,HU.out⟩
    obtain⟨j,hj,e⟩:=List.getElem_of_mem hx;exact HNO.out j x (by have:=HN.out;omega) (by rw[qeg hj,e])
 ·exact bad hg
theorem rhas_ok{w:World}{v:Value}{L:Cl}(h:CellsE w v L)(hl:L.length≤1000)(lsn:Int)(key:Ky):Calls Tryz.prog 136 #[.agg #[.int .i64 lsn,v],strV key] w fun e w'=>e= .returned (.bool (hasC L key))∧Upd Nowhere w w':=by
 obtain⟨A,c,rfl,hc⟩:=h.val;have hb0:=Blk.new w 72 #[.int .i64 lsn,.slice A L.length c];have HU0:=qh ((Upd.refl Nowhere w).alloc (.cells #[.int .i64 lsn,.slice A L.length c] 72));have HB0:=qh hb0;have H:=qh h;clear h;obtain⟨n,hn⟩:∃n,L.length=n:=⟨_,rfl⟩;rw[hn]at H HB0 HU0 hb0 hl hc ⊢;have HN:=qh hn;have HH:Hid (∀b,hasC L key=b→hasC L key=b):=qh fun _ h=>h
 obtain⟨hb,hhb⟩:∃b,hasC L key=b:=⟨_,rfl⟩;rw[hhb];have HHB:=qh hhb;clear hb0 hn hhb;go_enter Tryz.func136,Tryz.ntmps136
 go_wp2_with fail
 generalize w.alloc (.cells #[.int .i64 lsn,.slice A n c] 72)=w1 at*;go_loopw [5] (fun s5 wr=>∃k:Nat,s5= .int .i64 (k:Int)∧k≤n∧(∀j p,j<k→L[j]? =some p→p.1≠key)∧Upd Nowhere w1 wr) (fun s5 _=>n - (intOf s5).toNat)
 case atStart=>exact⟨0,rfl,by omega,fun j p hj=>absurd hj (by omega),Upd.refl _ _⟩
 case round=>
  obtain⟨k,rfl,hk,hno,hu⟩:=hrel;have hbr:=HB0.out.upd hu id;have c1:=hbr.cell 1;simp only[qA,qZ,qS]at c1;clear hbr;by_cases hlt:k<n
  ·obtain⟨⟨kk,vh,vd⟩,hp⟩:∃p,L[k]? =some p:=⟨_,qeg (by rw[HN.out];exact hlt)⟩
   have hce:=(H.out.up HU0.out).up hu;have hg:=hce.get hp;rw[HN.out]at hg;obtain⟨b,off,c',he,hb,p0,p1,p2⟩:=hg
   cases he;simp only at p0 p1 p2;have hi:(k:Int)<(n:Int):=by omega
   have hne:(n:Int)≤1000:=by omega
   have HU:=qh hu;have HNO:=qh hno;have HP:=qh hp;clear hu hno hp hce;by_cases heq:kk=key
   ·have hbe:(kk == key)=true:=by simpa using heq
    have HEQ:=qh heq;clear heq;go_wp2_with fail
    go_ret;refine⟨?_,HU0.out.same HU.out⟩;have ht:hasC L key=true:=List.any_eq_true.2 ⟨(kk,vh,vd),qmg HP.out,hbe⟩;rw[←HHB.out,ht];rfl
   ·have hbe:(kk == key)=false:=by simpa using heq
    have HEQ:=qh heq;clear heq;go_wp2_with fail
    go_roundw
    case rel=>
     refine⟨k+1,by go_num,by omega,fun j p hj hp=> ?_,HU.out⟩
     rcases(by omega:j<k∨j=k) with h1 | rfl
     ·exact HNO.out j p h1 hp
     ·rw[HP.out]at hp;cases hp;exact HEQ.out
    case measure=>simp[intOf];omega
  ·have e:k=n:=by omega
   subst e;have hi:¬(k:Int)<(k:Int):=by omega
   have HU:=qh hu;have HNO:=qh hno;clear hu hno;go_wp2_with fail
   go_ret;refine⟨?_,HU0.out.same HU.out⟩
   have ht:hasC L key=false:=by
    refine Bool.eq_false_iff.2 fun ht=> ?_
    obtain⟨p,hp,he⟩:=List.any_eq_true.1 ht;obtain⟨j,hj,e⟩:=List.getElem_of_mem hp;exact HNO.out j p (by have:=HN.out;omega) (by rw[qeg hj,e]) (by simpa using he)
   rw[←HHB.out,ht];rfl
theorem rroom_ok{w:World}{v:Value}{L:Cl}(h:CellsE w v L)(hl:L.length≤1000)(lsn:Int)(key:Ky):Calls Tryz.prog 83 #[.agg #[.int .i64 lsn,v],strV key] w fun e w'=>e= .returned (.bool (roomB L key))∧Upd Nowhere w w':=by
 obtain⟨A,c,rfl,hc⟩:=h.val;have hb0:=Blk.new w 72 #[.int .i64 lsn,.slice A L.length c];have HU0:=qh ((Upd.refl Nowhere w).alloc (.cells #[.int .i64 lsn,.slice A L.length c] 72));have HB0:=qh hb0;have hhas:=qh (rhas_ok (h.up HU0.out) hl lsn key);have HRB:Hid (roomB L key=(decide (L.length<4) || hasC L key)):=qh rfl;obtain⟨rb,hrb⟩:∃b,roomB L key=b:=⟨_,rfl⟩;rw[hrb]at HRB ⊢;obtain⟨hb,hhb⟩:∃b,hasC L key=b:=⟨_,rfl⟩;rw[hhb]at HRB hhas;obtain⟨n,hn⟩:∃n,L.length=n:=⟨_,rfl⟩;rw[hn]at HRB hhas HB0 HU0 hl hc hb0 ⊢;have c0:=hb0.cell 0;have c1:=hb0.cell 1;simp only[qA,qZ,qS]at c0 c1;clear h hb0 hn hrb hhb
 cases hb with
 | true=>
   go_enter Tryz.func83,Tryz.ntmps83
   go_wp2_with (refine hhas.out.mono ?_;rintro e w2 ⟨rfl,hu2⟩)
   go_ret;refine⟨?_,HU0.out.same hu2⟩;rw[HRB.out];simp
 | false=>
   by_cases h4:(n:Int)<4
   ·go_enter Tryz.func83,Tryz.ntmps83
    go_wp2_with (refine hhas.out.mono ?_;rintro e w2 ⟨rfl,hu2⟩;have d1:=(HB0.out.upd hu2 id).cell 1;simp only[qA,qZ,qS]at d1)
    go_ret;refine⟨?_,HU0.out.same hu2⟩;have e4:decide (n<4)=true:=decide_eq_true (by omega)
    rw[HRB.out,e4];rfl
   ·go_enter Tryz.func83,Tryz.ntmps83
    go_wp2_with (refine hhas.out.mono ?_;rintro e w2 ⟨rfl,hu2⟩;have d1:=(HB0.out.upd hu2 id).cell 1;simp only[qA,qZ,qS]at d1)
    go_ret;refine⟨?_,HU0.out.same hu2⟩;have e4:decide (n<4)=false:=decide_eq_false (by omega)
    have e5:decide ((n:Int)<4)=false:=decide_eq_false (by omega)
    rw[HRB.out,e4,e5];rfl
theorem rsame_ok{w:World}{v u:Value}{L:Cl}(h:CellsE w v L)(h':CellsE w u L)(hl:L.length≤1000)(lsn:Int):Calls Tryz.prog 28 #[.agg #[.int .i64 lsn,v],.agg #[.int .i64 lsn,u]] w fun e w'=>e= .returned (.bool true)∧Upd Nowhere w w':=by
 obtain⟨A,c,rfl,hc⟩:=h.val;obtain⟨A',c',rfl,hc'⟩:=h'.val;have hb0:=(Blk.new w 72 #[.int .i64 lsn,.slice A L.length c]).alloc (.cells #[.int .i64 lsn,.slice A' L.length c'] 72);have hb1:=Blk.new (w.alloc (.cells #[.int .i64 lsn,.slice A L.length c] 72)) 72 #[.int .i64 lsn,.slice A' L.length c'];have HU0:=qh (((Upd.refl Nowhere w).alloc (.cells #[.int .i64 lsn,.slice A L.length c] 72)).alloc (.cells #[.int .i64 lsn,.slice A' L.length c'] 72));simp only[World.size_alloc]at hb1;have HB0:=qh hb0;have HB1:=qh hb1;have H:=qh h;have H':=qh h';clear h h';obtain⟨n,hn⟩:∃n,L.length=n:=⟨_,rfl⟩;rw[hn]at H H' HB0 HB1 HU0 hb0 hb1 hl hc hc' ⊢;have HN:=qh hn;have c0:=hb0.cell 0;have c1:=hb0.cell 1;have d0:=hb1.cell 0;have d1:=hb1.cell 1;simp only[qA,qZ,qS]at c0 c1 d0 d1;clear hb0 hb1 hn;go_enter Tryz.func28,Tryz.ntmps28
 go_wp2_with fail
 generalize (w.alloc (.cells #[.int .i64 lsn,.slice A n c] 72)).alloc (.cells #[.int .i64 lsn,.slice A' n c'] 72)=w1 at*;clear c0 c1 d0 d1;go_loopw [5] (fun s5 wr=>∃k:Nat,s5= .int .i64 (k:Int)∧k≤n∧Upd Nowhere w1 wr) (fun s5 _=>n - (intOf s5).toNat)
 case atStart=>exact⟨0,rfl,by omega,Upd.refl _ _⟩
 case round=>
  obtain⟨k,rfl,hk,hu⟩:=hrel;have c1:=(HB0.out.upd hu id).cell 1;have d1:=(HB1.out.upd hu id).cell 1;simp only[qA,qZ,qS]at c1 d1;by_cases hlt:k<n
  ·obtain⟨⟨kk,vh,vd⟩,hp⟩:∃p,L[k]? =some p:=⟨_,qeg (by rw[HN.out];exact hlt)⟩
   have hg:=((H.out.up HU0.out).up hu).get hp;have hg':=((H'.out.up HU0.out).up hu).get hp;rw[HN.out]at hg hg';obtain⟨b,off,c9,he,hb,p0,p1,p2⟩:=hg
   cases he;obtain⟨b',off',c9,he,hb',q0,q1,q2⟩:=hg'
   cases he;simp only at p0 p1 p2 q0 q1 q2;have hi:(k:Int)<(n:Int):=by omega
   have hne:(n:Int)≤1000:=by omega
   have HU:=qh hu;clear hu hp;go_wp2_with fail
   go_region
   all_goals
    go_wp2_with fail
    go_roundw
    case rel=>exact⟨k+1,by go_num,by omega,HU.out.drew⟩
    case measure=>simp[intOf];omega
  ·have e:k=n:=by omega
   subst e;have hi:¬(k:Int)<(k:Int):=by omega
   have HU:=qh hu;clear hu;go_wp2_with fail
   go_ret;exact⟨rfl,HU0.out.same HU.out⟩
end Go.Proofs.YtdfccegeihfdpaaGreatDoor
