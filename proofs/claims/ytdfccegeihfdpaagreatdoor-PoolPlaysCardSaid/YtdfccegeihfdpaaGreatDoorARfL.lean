/-
  The document's pool: what Fetch leaves.
-/
import Derived.Test.YtdfccegeihfdpaaGreatDoorARfK
import Derived.Test.YtdfccegeihfdpaaGreatDoorAHel
set_option maxRecDepth 100000
set_option maxHeartbeats 16000000
namespace Go.Proofs.YtdfccegeihfdpaaGreatDoor
open Go Go.RowKit
def newD(n:Nat)(x:PgP×Nat)(at_:Nat):FrP:={ newFr n x.1 x.2 with pins:=1,at_:=at_ }
structure FetD(bz q most:Nat)(T:PoS)(M:DkM)(la fo n:Nat)(w:World)(e:Ending)(w':World):Prop where
 upd:Upd (RfF bz w) w w'
 hit:∀r,findF T.L (n:Nat)=some r→e= .returned (.int .i64 0)∧RfAt bz w' q most T.pages (frs (touchT (tickT T) r)) M la fo (T.clock+1)
 room:findF T.L (n:Nat)=none→T.L.length<most→e= .returned (.int .i64 0)∧RfAt bz w' q most T.pages (frs T++[newD n (M n) (T.clock+1)]) M la fo (T.clock+1)
 full:findF T.L (n:Nat)=none→¬T.L.length<most→(∀r∈T.L,r.1.pins≠0)→e= .returned (.int .i64 120)∧RfAt bz w' q most T.pages (frs T) M la fo (T.clock+1)
 old:findF T.L (n:Nat)=none→¬T.L.length<most→¬(∀r∈T.L,r.1.pins≠0)→∃r,IsOld T.L r∧e= .returned (.int .i64 0)∧RfAt bz w' q most T.pages ((remF (backL T.L r.1) r.1.no).map (·.1)++[newD n (M n) (T.clock+1)]) (backM M r.1) la (if r.1.rc≠0∧fo<r.1.lsn then la else fo) (T.clock+1)
def OldD(L:List FrP)(k:Nat):Option Nat→Prop
 | none=>∀i y,i<k→L[i]? =some y→y.pins≠0
 | some j=>∃x,L[j]? =some x∧x.pins=0∧j<k∧∀i y,i<k→L[i]? =some y→y.pins=0→x.at_≤y.at_
def oldV:Option Nat→Value
 | none=> .int .i64 (-1)
 | some j=> .int .i64 (j:Nat)
theorem OldD.skip{L:List FrP}{k:Nat}{o:Option Nat}(h:OldD L k o){y:FrP}(hy:L[k]? =some y)(hp:y.pins≠0∨∃j x,o=some j∧L[j]? =some x∧x.at_≤y.at_):OldD L (k+1) o:=by
 cases o with
 | none=>
   intro i z hi hz
   rcases Nat.lt_succ_iff_lt_or_eq.1 hi with h1 | rfl
   ·exact h i z h1 hz
   ·rw[hy]at hz
    cases hz
    rcases hp with h2 | ⟨j,x,h2,_⟩
    ·exact h2
    ·cases h2
 | some j=>
   obtain⟨x,h1,h2,h3,h4⟩:=h;refine⟨x,h1,h2,by omega,fun i z hi hz hz0=> ?_⟩
   rcases Nat.lt_succ_iff_lt_or_eq.1 hi with h5 | rfl
   ·exact h4 i z h5 hz hz0
   ·rw[hy]at hz
    cases hz
    rcases hp with h6 | ⟨j',x',h6,h7,h8⟩
    ·exact absurd hz0 h6
    ·cases h6;rw[h1]at h7
     cases h7;exact h8
theorem OldD.take{L:List FrP}{k:Nat}{o:Option Nat}(h:OldD L k o){y:FrP}(hy:L[k]? =some y)(hp:y.pins=0)(hl:∀j x,o=some j→L[j]? =some x→y.at_≤x.at_):OldD L (k+1) (some k):=by
 refine⟨y,hy,hp,by omega,fun i z hi hz hz0=> ?_⟩
 rcases Nat.lt_succ_iff_lt_or_eq.1 hi with h5 | rfl
 ·cases o with
  | none=>exact absurd hz0 (h i z h5 hz)
  | some j=>
    obtain⟨x,h1,h2,h3,h4⟩:=h;exact Nat.le_trans (hl j x rfl h1) (h4 i z h5 hz hz0)
 ·rw[hy]at hz
  cases hz;exact qlr _
theorem OldD.isOld{T:PoS}{k j:Nat}(h:OldD (frs T) k (some j))(hk:T.L.length≤k):∃r,T.L[j]? =some r∧IsOld T.L r:=by
 obtain⟨x,h1,h2,h3,h4⟩:=h;unfold frs at h1;rw[qgm]at h1
 cases hr:T.L[j]? with
 | none=>rw[hr]at h1;cases h1
 | some r=>
   rw[hr]at h1;simp only[Option.map_some,Option.some.injEq]at h1;subst h1;refine⟨r,rfl,qmg hr,h2,fun s hs h0=> ?_⟩
   obtain⟨i,hi⟩:=List.getElem?_of_mem hs;exact h4 i s.1 (by have:=(qei.1 hi).1;omega) (frs_get hi) h0
theorem OldD.all{T:PoS}{k:Nat}(h:OldD (frs T) k none)(hk:T.L.length≤k):∀r∈T.L,r.1.pins≠0:=fun r hr=>by
 obtain⟨i,hi⟩:=List.getElem?_of_mem hr;exact h i r.1 (by have:=(qei.1 hi).1;omega) (frs_get hi)
section
variable {bz:Nat} {w w':World} {q most:Nat} {T:PoS} {M:DkM} {la fo:Nat}
theorem append_fin{pages a b c lm vb c7:Nat}{A A7:Option Addr}{os:List FrO}{M:DkM}{fo ck:Nat}{x:FrP}{wc w8:World}(h1:Blk wc q 91 (boxD most pages a b (.slice A os.length c) la fo ck))(h2:RowD bz wc (.slice A os.length c) os)(h4:PagesAt wc a pages M)(h5:TurnsAt wc b pages M)(h6:bz≤a)(h7:bz≤b)(hq:bz≤q)(hu8:Upd Nowhere wc w8)(hrow:Blk w8 vb 166 (frD (x,(A7,c7))).toArray)(hlm:os.length=lm)(hl:lm≤1000)(hce:CellsE w8 (.slice A7 x.cells.length c7) x.cells):∃A9 c9 w9,(Builtin.append_ #[89,89] 89 #[.slice A lm c,.slice (some ⟨vb,0,none⟩) 1 1]).run Tryz.prog w8= .ok (.slice A9 (lm+1) c9) w9∧(∃u,w9.cell? ⟨q,1,none⟩=some u)∧w9.frozen? ⟨q,1,none⟩=false∧RfAt bz (w9.setCell ⟨q,1,none⟩ (.slice A9 (lm+1) c9)) q most pages (os.map (·.1)++[x]) M la fo ck∧Upd (RfF bz wc) wc (w9.setCell ⟨q,1,none⟩ (.slice A9 (lm+1) c9))∧(∀z i:Nat,(z=a∨z=b∨z=q∧i≠1)→w9.cell? ⟨z,i,none⟩=w8.cell? ⟨z,i,none⟩∧(w9.setCell ⟨q,1,none⟩ (.slice A9 (lm+1) c9)).cell? ⟨z,i,none⟩=w8.cell? ⟨z,i,none⟩):=by
 subst hlm
 have hbz8:bz≤w8.heap.size:=by
  have:=(h1.upd hu8 id).lt;omega
 have hR8:=h2.upd hu8 (fun _ _=>id) (NoC.nowhere wc)
 obtain⟨A9,c9,w9,hrun,hO9,hu9⟩:=frameD_row.appU hR8.own hbz8 89 (oneE frD_len hrow) (by simp;omega)
 simp only[qls]at hrun hO9;have hu9':Upd (RfF bz w8) w8 w9:=hu9.mono fun k _ e=>hR8.rfF e
 have hnt:∀{k t:Nat} {cs':Array Value},Blk w8 k t cs'→166≠t→¬(Value.slice A os.length c).ownBlock=some k:=fun hb ht e=>by
  obtain⟨cs',hcs⟩:=hR8.own.is_cells e;exact Blk.ne_of hcs hb ht rfl
 have hnC:=noC_own hR8.own (by decide)
 have q8:=h1.upd hu8 id;have q9:=q8.upd hu9 (hnt q8 (by decide))
 have p8:=h4.upd hu8 id (NoC.nowhere wc);have t8:=h5.upd hu8 id;obtain⟨pa,hpa,_⟩:=p8.ex;obtain⟨ta,hta,_⟩:=t8.ex;have p9:=p8.upd hu9 (hnt hpa (by decide)) hnC
 have t9:=t8.upd hu9 (hnt hta (by decide))
 have hv:=Upd.one w9 q 1 (.slice A9 (os.length+1) c9);have hvC:NoC (fun k=>k=q) w9:=noC_blk q9 (by decide)
 have hset:=q9.set_ 1 (.slice A9 (os.length+1) c9);have c1:=q9.cell 1;refine⟨A9,c9,w9,hrun,⟨_,c1⟩,q9.frozen 1,⟨⟨_,a,b,os++[(x,(A7,c7))],hset,⟨?_,fun o2 ho2=> ?_⟩,by rw[List.map_append];rfl,p9.upd hv (fun e=>p9.ne q9 (by decide) e) hvC,t9.upd hv (fun e=>t9.ne q9 (by decide) e),h6,h7⟩,hq⟩,(hu8.any.rfs hu9').rfs (hv.mono fun k _ e=>by subst e;exact q9.rfF hq rfl),fun z i hz=> ?_⟩
 ·refine hO9.upd hv fun k hk e=> ?_
  obtain⟨cs',hcs⟩:=hO9.is_cells hk;exact Blk.ne_of hcs q9 (by decide) e
 ·rcases qma.1 ho2 with h | h
  ·exact((hR8.cells o2 h).upd hu9 hnC).upd hv hvC
  ·obtain rfl:=List.mem_singleton.1 h;exact(hce.upd hu9 hnC).upd hv hvC
 ·rcases hz with rfl | rfl | ⟨rfl,hi⟩
  ·have k9:=hpa.upd hu9 (hnt hpa (by decide))
   have k10:=k9.upd hv fun e=>k9.ne_of q9 (by decide) e
   exact⟨(k9.cell i).trans (hpa.cell i).symm,(k10.cell i).trans (hpa.cell i).symm⟩
  ·have k9:=hta.upd hu9 (hnt hta (by decide))
   have k10:=k9.upd hv fun e=>k9.ne_of q9 (by decide) e
   exact⟨(k9.cell i).trans (hta.cell i).symm,(k10.cell i).trans (hta.cell i).symm⟩
  ·exact⟨(q9.cell i).trans (q8.cell i).symm,((hset.cell i).trans (Array.getElem?_setIfInBounds_ne (fun e=>hi e.symm))).trans (q8.cell i).symm⟩
theorem rfetch_ok(h:RfAt bz w q most T.pages (frs T) M la fo T.clock)(hB:RfB T)(hbz:bz≤w.heap.size)(hck:T.clock≤100000)(hmo:most≤1000)(n:Nat)(hn:n<T.pages)(hM:(M n).1.cells.length≤1000):Calls Tryz.prog 86 #[.pointer (some ⟨q,0,none⟩),.int .i64 (n:Nat)] w (FetD bz q most T M la fo n w):=by
 have HIS:=qh (ris_ok h (n:Nat));rw[inR_iff.2 ⟨by omega,by omega⟩]at HIS
 obtain⟨c1,hc1⟩:∃c1,T.clock+1=c1:=⟨_,rfl⟩;obtain⟨v,a,b,os,h1,_⟩:=h.ex;have b6:=h1.cell 6;have z6:=h1.frozen 6;unfold boxD at b6;simp only[qA,qZ,qS]at b6;have hbx:=h.box 6 (c1:Nat) (ck':=c1) (fun _ _ _=>rfl)
 obtain⟨w1,hw1⟩:∃w1,w.setCell ⟨q,6,none⟩ (.int .i64 (c1:Nat))=w1:=⟨_,rfl⟩;rw[hw1]at hbx;obtain⟨hR1,hU1⟩:=hbx;have HR1:=qh hR1;have HU1:=qh hU1;have HFD:=qh (rfind_ok hR1 (n:Nat) (by unfold frs;rw[qlm];exact hB.len))
 have HB:=qh hB;have HBZ1:Hid (bz≤w1.heap.size):=qh (Nat.le_trans hbz hU1.size);have HN:=qh hn;have HC1:=qh hc1;have HML:=qh hM;obtain⟨k0,hk0⟩:∃k0,T.clock=k0:=⟨_,rfl⟩;rw[hk0]at b6;have e1:(k0:Int)+1=(c1:Int):=by omega
 have e2:(k0:Int)≤100000:=by omega
 have e3:(c1:Int)≤100001:=by omega
 have hmI:(most:Int)≤1000:=by omega
 have hnI:(n:Int)<(T.pages:Int):=by omega
 have hpI:(T.pages:Int)≤1000:=by have:=hB.pgs;omega
 clear h hB hbz hck hn hM h1 hc1 hR1 hU1 hk0;go_enter Tryz.func86,Tryz.ntmps86
 go_wp2_with fail
 refine HIS.out.mono ?_;rintro e w9 ⟨rfl,hw9⟩;obtain rfl:=hw9.symm;clear HIS;go_wp2_with fail
 refine HFD.out.mono ?_;rintro e w8 ⟨hf,hw8⟩;obtain rfl:=hw8.symm;clear HFD b6 z6 e1
 have hfc:∃t5:Int,e= .returned (.int .i64 t5)∧((∃(i:Nat) (r:FrB),t5=(i:Nat)∧T.L[i]? =some r∧findF T.L (n:Nat)=some r)∨(t5= -1∧findF T.L (n:Nat)=none)):=by
  rcases hf with⟨i,x,rfl,hix,hxn⟩ | ⟨rfl,hno⟩
  ·obtain⟨r,hr,rfl,hfr⟩:=find_of_D HB.out.nos hix hxn;exact⟨_,rfl,.inl ⟨i,r,rfl,hr,hfr⟩⟩
  ·exact⟨_,rfl,.inr ⟨rfl,find_none_D hno⟩⟩
 obtain⟨t5,rfl,hcase⟩:=hfc;clear hf;have HCASE:=qh hcase;clear hcase;go_upto_if 23 with(fail)
 go_cut [5] (fun t5 wz=>∃(i:Nat) (y:FrP) (L':List FrP) (M':DkM) (fo':Nat),t5= .int .i64 (i:Nat)∧L'[i]? =some y∧y.pins≤1000∧L'.length≤1001∧RfAt bz wz q most T.pages L' M' la fo' c1∧Upd (RfF bz w) w wz∧∀W,RfAt bz W q most T.pages (L'.set i { y with pins:=y.pins+1,at_:=c1 }) M' la fo' c1→Upd (RfF bz w) w W→FetD bz q most T M la fo n w (.returned (.int .i64 0)) W)
 case first=>
  rcases HCASE.out with⟨i,r,rfl,hi,hfr⟩ | ⟨rfl,hfn⟩
  ·have HI:=qh hi;have HFR:=qh hfr;have hi0:decide ((i:Int)<0)=false:=decide_eq_false (by omega)
   have hi1:¬(i:Int)<0:=by omega
   clear hi hfr;go_wp2_with fail
   go_meet;refine⟨i,r.1,frs T,M,fo,rfl,frs_get HI.out,(HB.out.fr r (qmg HI.out)).2.2.2,by unfold frs;rw[qlm];have:=HB.out.len;omega,HR1.out,HU1.out,fun W hW hu=>⟨hu,fun r' hr'=> ?_,fun hn=>(by rw[HFR.out]at hn;cases hn),fun hn=>(by rw[HFR.out]at hn;cases hn),fun hn=>(by rw[HFR.out]at hn;cases hn)⟩⟩
   rw[HFR.out]at hr'
   cases hr';refine⟨rfl,?_⟩
   have e:(frs T).set i { r.1 with pins:=r.1.pins+1,at_:=c1 }=frs (touchT (tickT T) r):=by
    rw[←HC1.out];exact(upd_set HB.out.nos HI.out { r.1 with pins:=r.1.pins+1,at_:=T.clock+1 } rfl).symm
   rw[e,←HC1.out]at hW;exact hW
  ·have HFN:=qh hfn;obtain⟨v,a,b,os,h1,h2,h3,_⟩:=HR1.out.ex;obtain⟨A,c,rfl,_⟩:=h2.own.els.val;have g1:=h1.cell 1;have g0:=h1.cell 0;unfold boxD at g1 g0;simp only[qA,qZ,qS]at g1 g0;have hlo:os.length=T.L.length:=by have:=congrArg List.length h3;unfold frs at this;simpa using this
   obtain⟨ln,hln⟩:∃ln,T.L.length=ln:=⟨_,rfl⟩;rw[hlo,hln]at g1;have HLN:=qh hln;have hl2:(ln:Int)≤1000:=by have:=HB.out.len;omega
   clear hfn h1 h2 h3 hlo hln;have hlt0:decide ((-1:Int)<0)=true:=rfl;go_upto_region 6 with(fail)
   go_cut [33] (fun t33 wz=>t33= .bool (decide (most≤ln))∧Upd Nowhere w1 wz)
   case first=>
    go_region
    all_goals
     go_wp2_with fail
     go_meet;exact⟨by simp,(Upd.refl Nowhere w1).drew⟩
   case rest=>
    obtain⟨rfl,hu⟩:=hcut;have HRC:=qh (HR1.out.up hu);have HUC:=qh (HU1.out.same hu.any);have HBZ2:Hid (bz≤wc.heap.size):=qh (Nat.le_trans HBZ1.out hu.size);clear hu g1 g0;go_upto_if 33 with(fail)
    go_cut [6] (fun _ wz=>∃(L':List FrP) (M':DkM) (fo':Nat),RfAt bz wz q most T.pages L' M' la fo' c1∧Upd (RfF bz w) w wz∧L'.length≤1000∧M' n=M n∧∀W,RfAt bz W q most T.pages (L'++[newD n (M n) c1]) M' la fo' c1→Upd (RfF bz w) w W→FetD bz q most T M la fo n w (.returned (.int .i64 0)) W)
    case first=>
     by_cases hlm:most≤ln
     ·have hd:decide (most≤ln)=true:=decide_eq_true hlm;rw[hd];have HLM:=qh hlm;clear hd hlm;go_wp2_with fail
      go_loopw [6,7] (fun s6 s7 wr=>∃(k:Nat) (o:Option Nat),s7= .int .i64 (k:Int)∧k≤ln∧s6=oldV o∧OldD (frs T) k o∧Upd Nowhere wc wr) (fun _ s7 _=>ln - (intOf s7).toNat)
      case atStart=>exact⟨0,none,rfl,Nat.zero_le _,rfl,fun i y hi=>by omega,Upd.refl _ _⟩
      case round=>
       obtain⟨k,o,rfl,hk,rfl,hO,hu⟩:=hrel;have HO:=qh hO;have HU:=qh hu;have HR:=qh (HRC.out.up hu);clear hO
       obtain⟨A2,c2,g1⟩:∃A2 c2,wr.cell? ⟨q,1,none⟩=some (.slice A2 ln c2):=by
        obtain⟨v,a,b,os,h1,h2,h3,_⟩:=HR.out.ex;obtain⟨A,c,rfl,_⟩:=h2.own.els.val;have g1:=h1.cell 1;unfold boxD at g1;simp only[qA,qZ,qS]at g1;have hlo:os.length=T.L.length:=by have:=congrArg List.length h3;unfold frs at this;simpa using this
        rw[hlo,HLN.out]at g1;exact⟨_,_,g1⟩
       clear hu;by_cases hlt:k<ln
       ·obtain⟨y,hy⟩:∃y,(frs T)[k]? =some y:=⟨_,qeg (by unfold frs;rw[qlm,HLN.out];exact hlt)⟩
        obtain⟨_,_,os,g,c,o',_,_,_,hlo,_,_,d1,_,q1,_,_,_,_,q6,_⟩:=HR.out.at_ hy;have hlo:os.length=ln:=by rw[hlo];unfold frs;rw[qlm];exact HLN.out
        rw[hlo]at d1;have hkI:(k:Int)<(ln:Int):=by omega
        have HY:=qh hy;obtain⟨pv,hpv⟩:∃pv,y.pins=pv:=⟨_,rfl⟩;obtain⟨av,hav⟩:∃av,y.at_=av:=⟨_,rfl⟩;have HPV:=qh hpv;have HAV:=qh hav;rw[hpv]at q1;rw[hav]at q6;rw[d1]at g1
        cases g1;clear hy hlo hpv hav;by_cases hp:pv=0
        ·have HP:Hid (y.pins=0):=qh (by rw[HPV.out];exact hp)
         subst hp;rw[show((0:Nat):Int)=0 from rfl]at q1
         cases o with
         | none=>
           unfold oldV;go_wp2_with fail
           go_region
           all_goals
            go_wp2_with fail
            go_roundw
            case rel=>exact⟨k+1,some k,by go_num,by omega,rfl,HO.out.take HY.out HP.out fun j x e=>(by cases e),HU.out.drew⟩
            case measure=>simp[intOf];omega
         | some j=>
           obtain⟨x,hx,hx0,hjk,_⟩:=HO.out;obtain⟨_,_,os2,g2,c2,o2,_,_,_,hlo2,_,_,d2,_,_,_,_,_,_,r6,_⟩:=HR.out.at_ hx;rw[d1]at d2;injection d2 with d2
           injection d2 with d2 _ _
           injection d2 with d2
           injection d2 with d2 _ _
           subst d2;obtain⟨xv,hxv⟩:∃xv,x.at_=xv:=⟨_,rfl⟩;rw[hxv]at r6;have HXV:=qh hxv;have HX:=qh hx;have hjI:(j:Int)<(ln:Int):=by omega
           have hj0:decide ((j:Int)<0)=false:=decide_eq_false (by omega)
           have hj1:¬(j:Int)<0:=by omega
           unfold oldV;clear hx hx0 hjk hxv hlo2;by_cases hl:av<xv
           ·have HLT:=qh hl;have h1:(av:Int)<(xv:Int):=by omega
            have h2:decide ((av:Int)<(xv:Int))=true:=decide_eq_true h1;have h3:decide (av<xv)=true:=decide_eq_true hl;go_wp2_with fail
            go_region
            all_goals
             go_wp2_with fail
             go_roundw
             case rel=>exact⟨k+1,some k,by go_num,by omega,rfl,HO.out.take HY.out HP.out fun j' x' e hx'=>(by cases e;rw[HX.out]at hx';cases hx';rw[HAV.out,HXV.out];have:=HLT.out;omega),HU.out.drew⟩
             case measure=>simp[intOf];omega
           ·have HLT:=qh hl;have h2:decide ((av:Int)<(xv:Int))=false:=decide_eq_false (by omega)
            have h3:decide (av<xv)=false:=decide_eq_false hl;clear hl;go_wp2_with fail
            go_region
            all_goals
             go_wp2_with fail
             go_roundw
             case rel=>exact⟨k+1,some j,by go_num,by omega,rfl,HO.out.skip HY.out (.inr ⟨j,x,rfl,HX.out,by rw[HAV.out,HXV.out];have:=HLT.out;omega⟩),HU.out.drew⟩
             case measure=>simp[intOf];omega
        ·have HP:Hid (y.pins≠0):=qh (by rw[HPV.out];exact hp)
         have h1:((pv:Int) == 0)=false:=by simpa using hp
         have h2:¬(pv:Int)=0:=by omega
         clear hp
         cases o with
         | none=>
           unfold oldV;go_wp2_with fail
           go_region
           all_goals
            go_wp2_with fail
            go_roundw
            case rel=>exact⟨k+1,none,by go_num,by omega,rfl,HO.out.skip HY.out (.inl HP.out),HU.out.drew⟩
            case measure=>simp[intOf];omega
         | some j=>
           unfold oldV;go_wp2_with fail
           go_region
           all_goals
            go_wp2_with fail
            go_roundw
            case rel=>exact⟨k+1,some j,by go_num,by omega,rfl,HO.out.skip HY.out (.inl HP.out),HU.out.drew⟩
            case measure=>simp[intOf];omega
       ·have e:k=ln:=by omega
        subst e;have hkk:¬(k:Int)<(k:Int):=by omega
        cases o with
        | none=>
          have hall:=HO.out.all (by rw[HLN.out];exact qlr _)
          have HFIN:Hid (FetD bz q most T M la fo n w (.returned (.int .i64 120)) wr):=qh
           ⟨HUC.out.same HU.out.any,fun r hr=>(by rw[HFN.out]at hr;cases hr),fun _ h=>absurd h (by rw[HLN.out];have:=HLM.out;omega),fun _ _ _=>⟨rfl,by rw[HC1.out];exact HR.out⟩,fun _ _ h=>absurd hall h⟩
          unfold oldV;clear hall;go_wp2_with fail
          go_ret;exact HFIN.out
        | some j=>
          obtain⟨r,hr,hold⟩:=HO.out.isOld (by rw[HLN.out];exact qlr _)
          have hbd:=rbd_ok HR.out HB.out (Nat.le_trans HBZ2.out HU.out.size) hr;have HBD:=qh hbd;have HOLD:=qh hold;have hj0:decide ((j:Int)<0)=false:=decide_eq_false (by omega)
          have hj1:¬(j:Int)<0:=by omega
          have hrn:∀s,findF T.L (n:Nat)=none→s∈T.L→s.1.no≠n:=fun s h hs e=>by have:=findF_none h s hs;omega
          have HRN:=qh (hrn r HFN.out hold.mem)
          have hlen:((remF (backL T.L r.1) r.1.no).map (·.1)).length≤1000:=by
           have h1:(remF (backL T.L r.1) r.1.no).length≤(backL T.L r.1).length:=List.length_filter_le ..;have h2:=congrArg List.length (back_nos (K:=T.L) r.1);rw[qlm,qlm]at h2;have:=HB.out.len;rw[qlm];omega
          have HLE:=qh hlen;unfold oldV;clear hr hbd hold hrn hlen;go_wp2_with fail
          refine HBD.out.mono ?_;rintro e w5 ⟨rfl,hu5,hC⟩;have HC:=qh hC;clear hC hu5;go_wp2_with fail
          refine HC.out.mono ?_;rintro e w6 ⟨rfl,hR6,hu6⟩;have HR6:=qh hR6;have HU6:=qh ((HUC.out.same HU.out.any).rfs hu6);clear hR6 hu6;go_wp2_with fail
          go_meet;refine⟨_,_,_,HR6.out,HU6.out,HLE.out,?_,fun W hW huW=>⟨huW,fun r' hr'=>(by rw[HFN.out]at hr';cases hr'),fun _ h=>absurd h (by rw[HLN.out];have:=HLM.out;omega),fun _ _ h=>absurd HOLD.out.pins (h r HOLD.out.mem),fun _ _ _=>⟨r,HOLD.out,rfl,by rw[HC1.out];exact hW⟩⟩⟩
          unfold backM setM;split
          ·rfl
          ·exact if_neg fun e=>HRN.out e.symm
     ·have hd:decide (most≤ln)=false:=decide_eq_false hlm;rw[hd];have HLM:=qh hlm;clear hd hlm;go_wp2_with fail
      go_meet;exact⟨frs T,M,fo,HRC.out,HUC.out,by unfold frs;rw[qlm];exact HB.out.len,rfl,fun W hW huW=>⟨huW,fun r' hr'=>(by rw[HFN.out]at hr';cases hr'),fun _ _=>⟨rfl,by rw[HC1.out];exact hW⟩,fun _ h=>absurd (by rw[HLN.out];have:=HLM.out;omega) h,fun _ h=>absurd (by rw[HLN.out];have:=HLM.out;omega) h⟩⟩
    case rest=>
     obtain⟨L',M',fo',hR,hU,hL,hMn,hfin⟩:=hcut;have HFIN:=qh hfin;have HU:=qh hU;have HQ:=qh hR.hq;obtain⟨v,a,b,os,h1,h2,h3,h4,h5,h6,h7⟩:=hR.ex;obtain⟨A,c,rfl,_⟩:=h2.own.els.val;obtain⟨lm,hlm⟩:∃lm,os.length=lm:=⟨_,rfl⟩;have hLm:L'.length=lm:=by rw[←h3,qlm,hlm]
     obtain⟨tv,htv⟩:∃tv,(M n).2=tv:=⟨_,rfl⟩;obtain⟨lv,hlv⟩:∃lv,(M n).1.lsn=lv:=⟨_,rfl⟩;obtain⟨kn,hkn⟩:∃kn,(M n).1.cells.length=kn:=⟨_,rfl⟩;obtain⟨Ax,cx,_,p0,p1,_,hce⟩:=h4.get HN.out;obtain⟨_,t0,_⟩:=h5.get HN.out;rw[hMn,hlv]at p0;rw[hMn,hkn]at p1 hce;rw[hMn,htv]at t0;have HB1:=qh h1;have HPA:=qh h4;have HTA:=qh h5;have HRW:=qh h2;have HCEx:=qh hce
     have EE:Hid (∀W,Upd Nowhere wc W→(W.cell? ⟨q,1,none⟩=some (.slice A lm c)∧W.cell? ⟨q,2,none⟩=some (.slice (some ⟨a,0,none⟩) T.pages T.pages)∧W.cell? ⟨q,3,none⟩=some (.slice (some ⟨b,0,none⟩) T.pages T.pages)∧W.cell? ⟨a,n * 2,none⟩=some (.int .i64 (lv:Nat))∧W.cell? ⟨a,n * 2+1,none⟩=some (.slice Ax kn cx)∧W.cell? ⟨b,n,none⟩=some (.int .i64 (tv:Nat)))):=qh fun W hW=>by
      have b1:=(HB1.out.upd hW id).cell 1;have b2:=(HB1.out.upd hW id).cell 2;have b3:=(HB1.out.upd hW id).cell 3;unfold boxD at b1 b2 b3;simp only[qA,qZ,qS]at b1 b2 b3;rw[hlm]at b1;obtain⟨arr,r1,_⟩:=HPA.out.ex;obtain⟨trr,r2,_⟩:=HTA.out.ex;exact⟨b1,b2,b3,(((r1.upd hW id).cell _).trans ((r1.cell _).symm.trans p0)),(((r1.upd hW id).cell _).trans ((r1.cell _).symm.trans p1)),(((r2.upd hW id).cell _).trans ((r2.cell _).symm.trans t0))⟩
     have HCP:=qh (rcopy_ok (hce.up (Upd.refl Nowhere wc).drew) hkn (by have:=HML.out;omega) (lv:Nat))
     have hpc:∀W,Upd Nowhere wc W→CellsE W (.slice Ax kn cx) (M n).1.cells:=fun W hW=>HCEx.out.up hW
     obtain⟨i1,dd⟩:=EE.out wc (Upd.refl _ _);obtain⟨_,d2⟩:=EE.out wc.drew (Upd.refl Nowhere wc).drew;obtain⟨m2,hm2⟩:∃m2,lm+1=m2:=⟨_,rfl⟩;have HM2:=qh hm2;have HLM2:=qh hLm;have HTV:=qh htv;have HLV:=qh hlv;have HKN:=qh hkn;have HLO:=qh hlm;have H3:=qh h3;have HAB:=qh (show bz≤a∧bz≤b from⟨h6,h7⟩)
     have HL1:=qh hL
     have HALL:Hid (∀w7 A7 c7,CellsE w7 (.slice A7 kn c7) (M n).1.cells→Upd Nowhere wc.drew w7→∃w8 A9 c9 w9,w7.alloc (.cells #[.int .i64 (n:Nat),.int .i64 0,.int .i64 0,.int .i64 (tv:Nat),.int .i64 (lv:Nat),.slice A7 kn c7,.int .i64 0] 166)=w8∧(w7.cell? ⟨q,1,none⟩=some (.slice A lm c)∧w7.cell? ⟨q,2,none⟩=some (.slice (some ⟨a,0,none⟩) T.pages T.pages)∧w7.cell? ⟨q,3,none⟩=some (.slice (some ⟨b,0,none⟩) T.pages T.pages)∧w7.cell? ⟨a,n * 2,none⟩=some (.int .i64 (lv:Nat))∧w7.cell? ⟨a,n * 2+1,none⟩=some (.slice Ax kn cx)∧w7.cell? ⟨b,n,none⟩=some (.int .i64 (tv:Nat)))∧(w8.cell? ⟨q,1,none⟩=some (.slice A lm c)∧w8.cell? ⟨q,2,none⟩=some (.slice (some ⟨a,0,none⟩) T.pages T.pages)∧w8.cell? ⟨q,3,none⟩=some (.slice (some ⟨b,0,none⟩) T.pages T.pages)∧w8.cell? ⟨a,n * 2,none⟩=some (.int .i64 (lv:Nat))∧w8.cell? ⟨a,n * 2+1,none⟩=some (.slice Ax kn cx)∧w8.cell? ⟨b,n,none⟩=some (.int .i64 (tv:Nat)))∧(Builtin.append_ #[89,89] 89 #[.slice A lm c,.slice (some ⟨w7.heap.size,0,none⟩) 1 1]).run Tryz.prog w8= .ok (.slice A9 m2 c9) w9∧(∃u,w9.cell? ⟨q,1,none⟩=some u)∧w9.frozen? ⟨q,1,none⟩=false∧RfAt bz (w9.setCell ⟨q,1,none⟩ (.slice A9 m2 c9)) q most T.pages (L'++[newFr n (M n).1 (M n).2]) M' la fo' c1∧Upd (RfF bz w) w (w9.setCell ⟨q,1,none⟩ (.slice A9 m2 c9))∧(w9.cell? ⟨q,2,none⟩=some (.slice (some ⟨a,0,none⟩) T.pages T.pages)∧w9.cell? ⟨q,3,none⟩=some (.slice (some ⟨b,0,none⟩) T.pages T.pages)∧w9.cell? ⟨a,n * 2,none⟩=some (.int .i64 (lv:Nat))∧w9.cell? ⟨a,n * 2+1,none⟩=some (.slice Ax kn cx)∧w9.cell? ⟨b,n,none⟩=some (.int .i64 (tv:Nat)))∧((w9.setCell ⟨q,1,none⟩ (.slice A9 m2 c9)).cell? ⟨q,2,none⟩=some (.slice (some ⟨a,0,none⟩) T.pages T.pages)∧(w9.setCell ⟨q,1,none⟩ (.slice A9 m2 c9)).cell? ⟨q,3,none⟩=some (.slice (some ⟨b,0,none⟩) T.pages T.pages)∧(w9.setCell ⟨q,1,none⟩ (.slice A9 m2 c9)).cell? ⟨a,n * 2,none⟩=some (.int .i64 (lv:Nat))∧(w9.setCell ⟨q,1,none⟩ (.slice A9 m2 c9)).cell? ⟨a,n * 2+1,none⟩=some (.slice Ax kn cx)∧(w9.setCell ⟨q,1,none⟩ (.slice A9 m2 c9)).cell? ⟨b,n,none⟩=some (.int .i64 (tv:Nat)))):=qh fun w7 A7 c7 hce7 hu7=>by
      have hu7':Upd Nowhere wc w7:=(Upd.refl Nowhere wc).drew.same hu7;obtain⟨w8,hw8⟩:∃w8,w7.alloc (.cells #[.int .i64 (n:Nat),.int .i64 0,.int .i64 0,.int .i64 (tv:Nat),.int .i64 (lv:Nat),.slice A7 kn c7,.int .i64 0] 166)=w8:=⟨_,rfl⟩;have hu8:Upd Nowhere wc w8:=hw8▸hu7'.alloc _
      have hrow:Blk w8 w7.heap.size 166 (frD (newFr n (M n).1 (M n).2,(A7,c7))).toArray:=by
       rw[←hw8];unfold frD newFr;simp only;rw[HTV.out,HLV.out,HKN.out];exact Blk.new w7 _ _
      have hce8:CellsE w8 (.slice A7 kn c7) (M n).1.cells:=hw8▸hce7.up ((Upd.refl Nowhere w7).alloc _);obtain⟨A9,c9,w9,hrun,hq1,hqz,hres,hupd,hsame⟩:=append_fin (lm:=lm) (x:=newFr n (M n).1 (M n).2) (c7:=c7) HB1.out HRW.out HPA.out HTA.out HAB.out.1 HAB.out.2 HQ.out hu8 hrow HLO.out (by have:=HL1.out;have:=HLM2.out;omega) (by rw[←HKN.out]at hce8;exact hce8)
      rw[HM2.out]at hrun hres hupd hsame;rw[H3.out]at hres;obtain⟨_,y2,y3,y4,y5,y6⟩:=EE.out w8 hu8;have s2:=hsame q 2 (.inr (.inr ⟨rfl,by decide⟩))
      have s3:=hsame q 3 (.inr (.inr ⟨rfl,by decide⟩))
      have s4:=hsame a (n * 2) (.inl rfl);have s5:=hsame a (n * 2+1) (.inl rfl);have s6:=hsame b n (.inr (.inl rfl));exact⟨w8,A9,c9,w9,hw8,EE.out w7 hu7',EE.out w8 hu8,hrun,hq1,hqz,hres,HU.out.rfs hupd,⟨s2.1.trans y2,s3.1.trans y3,s4.1.trans y4,s5.1.trans y5,s6.1.trans y6⟩,⟨s2.2.trans y2,s3.2.trans y3,s4.2.trans y4,s5.2.trans y5,s6.2.trans y6⟩⟩
     have hlmI:(lm:Int)≤1000:=by omega
     have hm2I:(m2:Int) - 1=(lm:Int):=by omega
     have hm2J:(m2:Int)≤1001:=by omega
     clear hR hU hL hMn hfin h1 h2 h3 h4 h5 h6 h7 hlm hLm htv hlv hkn p0 p1 t0 hce hpc hm2;go_wp2_with fail
     go_cut [109] (fun _ wz=>RfAt bz wz q most T.pages (L'++[newFr n (M n).1 (M n).2]) M' la fo' c1∧Upd (RfF bz w) w wz)
     case first=>
      have j1:wc.drew.cell? ⟨q,1,none⟩=some (.slice A lm c):=i1;refine wp_region_held_drew (S:=(fun w'=>w'.cell? ⟨q,2,none⟩=some (.slice (some ⟨a,0,none⟩) T.pages T.pages)∧w'.cell? ⟨q,3,none⟩=some (.slice (some ⟨b,0,none⟩) T.pages T.pages)∧w'.cell? ⟨a,n * 2,none⟩=some (.int .i64 (lv:Nat))∧w'.cell? ⟨a,n * 2+1,none⟩=some (.slice Ax kn cx)∧w'.cell? ⟨b,n,none⟩=some (.int .i64 (tv:Nat)))) (by kernel_rfl) d2 (fun hHeld=> ?_)
      (refine held_take (v:= ?_) 0 rfl (fun _ _ _ h=>h) ?_ ?_ hHeld;rotate_left;focus ((intro w hSw;(try dsimp only at hSw);go_simp)<;>with_reducible rfl);(try simp only[Act.put,qsA,qsZ,qsS]))
      (refine held_take (v:= ?_) 1 rfl (fun _ _ _ h=>h) ?_ ?_ hHeld;rotate_left;focus ((intro w hSw;(try dsimp only at hSw);go_simp)<;>with_reducible rfl);(try simp only[Act.put,qsA,qsZ,qsS]))
      (refine held_take (v:= ?_) 2 rfl (fun _ _ _ h=>h) ?_ ?_ hHeld;rotate_left;focus ((intro w hSw;(try dsimp only at hSw);go_simp)<;>with_reducible rfl);(try simp only[Act.put,qsA,qsZ,qsS]))
      (refine held_take (v:= ?_) 3 rfl (fun _ _ _ h=>h) ?_ ?_ hHeld;rotate_left;focus ((intro w hSw;(try dsimp only at hSw);go_simp)<;>with_reducible rfl);(try simp only[Act.put,qsA,qsZ,qsS]))
      (refine held_take (v:= ?_) 5 rfl (fun _ _ _ h=>h) ?_ ?_ hHeld;rotate_left;focus ((intro w hSw;(try dsimp only at hSw);go_simp)<;>with_reducible rfl);(try simp only[Act.put,qsA,qsZ,qsS]))
      (refine held_take (v:= ?_) 6 rfl (fun _ _ _ h=>h) ?_ ?_ hHeld;rotate_left;focus ((intro w hSw;(try dsimp only at hSw);go_simp)<;>with_reducible rfl);(try simp only[Act.put,qsA,qsZ,qsS]))
      (refine held_take (v:= ?_) 7 rfl (fun _ _ _ h=>h) ?_ ?_ hHeld;rotate_left;focus ((intro w hSw;(try dsimp only at hSw);go_simp)<;>with_reducible rfl);(try simp only[Act.put,qsA,qsZ,qsS]))
      (refine held_take (v:= ?_) 8 rfl (fun _ _ _ h=>h) ?_ ?_ hHeld;rotate_left;focus ((intro w hSw;(try dsimp only at hSw);go_simp)<;>with_reducible rfl);(try simp only[Act.put,qsA,qsZ,qsS]))
      (refine held_take (v:= ?_) 9 rfl (fun _ _ _ h=>h) ?_ ?_ hHeld;rotate_left;focus ((intro w hSw;(try dsimp only at hSw);go_simp)<;>with_reducible rfl);(try simp only[Act.put,qsA,qsZ,qsS]))
      (refine held_take (v:= ?_) 10 rfl (fun _ _ _ h=>h) ?_ ?_ hHeld;rotate_left;focus ((intro w hSw;(try dsimp only at hSw);go_simp)<;>with_reducible rfl);(try simp only[Act.put,qsA,qsZ,qsS]))
      (refine held_take (v:= ?_) 11 rfl (fun _ _ _ h=>h) ?_ ?_ hHeld;rotate_left;focus ((intro w hSw;(try dsimp only at hSw);go_simp)<;>with_reducible rfl);(try simp only[Act.put,qsA,qsZ,qsS]))
      (refine held_take (v:= ?_) 12 rfl (fun _ _ _ h=>h) ?_ ?_ hHeld;rotate_left;focus ((intro w hSw;(try dsimp only at hSw);go_simp)<;>with_reducible rfl);(try simp only[Act.put,qsA,qsZ,qsS]))
      (refine held_take (v:= ?_) 14 rfl (fun _ _ _ h=>h) ?_ ?_ hHeld;rotate_left;focus ((intro w hSw;(try dsimp only at hSw);go_simp)<;>with_reducible rfl);(try simp only[Act.put,qsA,qsZ,qsS]))
      (refine held_take (v:= ?_) 15 rfl (fun _ _ _ h=>h) ?_ ?_ hHeld;rotate_left;focus ((intro w hSw;(try dsimp only at hSw);go_simp)<;>with_reducible rfl);(try simp only[Act.put,qsA,qsZ,qsS]))
      (refine held_take (v:= ?_) 16 rfl (fun _ _ _ h=>h) ?_ ?_ hHeld;rotate_left;focus ((intro w hSw;(try dsimp only at hSw);go_simp)<;>with_reducible rfl);(try simp only[Act.put,qsA,qsZ,qsS]))
      (refine held_take (v:= ?_) 17 rfl (fun _ _ _ h=>h) ?_ ?_ hHeld;rotate_left;focus ((intro w hSw;(try dsimp only at hSw);go_simp)<;>with_reducible rfl);(try simp only[Act.put,qsA,qsZ,qsS]))
      (refine held_take (v:= ?_) 18 rfl (fun _ _ _ h=>h) ?_ ?_ hHeld;rotate_left;focus ((intro w hSw;(try dsimp only at hSw);go_simp)<;>with_reducible rfl);(try simp only[Act.put,qsA,qsZ,qsS]))
      (refine held_take (v:= ?_) 19 rfl (fun _ _ _ h=>h) ?_ ?_ hHeld;rotate_left;focus ((intro w hSw;(try dsimp only at hSw);go_simp)<;>with_reducible rfl);(try simp only[Act.put,qsA,qsZ,qsS]))
      (refine held_take (v:= ?_) 20 rfl (fun _ _ _ h=>h) ?_ ?_ hHeld;rotate_left;focus ((intro w hSw;(try dsimp only at hSw);go_simp)<;>with_reducible rfl);(try simp only[Act.put,qsA,qsZ,qsS]))
      refine held_two 4 13 (fun K hK=> ?_) (fun K hK=> ?_)
      ·go_simp
       refine hK.out _ _ (d2) (fun hHeld=> ?_)
       clear hK K
       try simp only[Act.put,qsA,qsZ,qsS]
       refine held_one 13 (fun K hK=> ?_)
       go_simp
       go_at_call 141
       refine HCP.out.mono ?_;rintro e w7 ⟨A7,c7,rfl,hce7,hu7⟩;obtain⟨w8,A9,c9,w9,hw8,⟨x1,k7⟩,⟨y1,k8⟩,hrun,⟨u9,hq1⟩,hqz,hres,hupd,k9,k10⟩:=HALL.out w7 A7 c7 hce7 hu7;have HRUN:=qh hrun;have HF:=qh (And.intro hres hupd);clear hu7 hce7 hrun hres hupd;go_wp2_with fail
       refine hK.out _ _ (k7) (fun hHeld=> ?_)
       clear hK K
       try simp only[Act.put,qsA,qsZ,qsS]
       (refine held_take (v:= ?_) 21 rfl (fun _ _ _ h=>h) ?_ ?_ hHeld;rotate_left;focus ((intro w hSw;(try dsimp only at hSw);go_simp)<;>with_reducible rfl);(try simp only[Act.put,qsA,qsZ,qsS]))
       (refine held_take (v:= ?_) 22 rfl (fun _ _ _ h=>h) ?_ ?_ hHeld;rotate_left;focus ((intro w hSw;(try dsimp only at hSw);go_simp)<;>with_reducible rfl);(try simp only[Act.put,qsA,qsZ,qsS]))
       refine held_one 23 (fun K hK=> ?_)
       go_simp
       refine hK.out _ _ (k8) (fun hHeld=> ?_)
       clear hK K
       try simp only[Act.put,qsA,qsZ,qsS]
       refine held_one 24 (fun K hK=> ?_)
       refine step_append_run rfl _ _ _ rfl rfl rfl HRUN.out ?_;refine hK.out _ _ (k9) (fun hHeld=> ?_)
       clear hK K
       try simp only[Act.put,qsA]
       (refine held_take (v:= ?_) 25 rfl (fun _ _ _ h=>h) ?_ ?_ hHeld;rotate_left;focus ((intro w hSw;(try dsimp only at hSw);go_simp)<;>with_reducible rfl);(try simp only[Act.put,qsA,qsZ,qsS]))
       (refine held_take (v:= ?_) 26 rfl (fun _ _ _ h=>h) ?_ ?_ hHeld;rotate_left;focus ((intro w hSw;(try dsimp only at hSw);go_simp)<;>with_reducible rfl);(try simp only[Act.put,qsA,qsZ,qsS]))
       refine held_one 27 (fun K hK=> ?_)
       go_simp
       refine hK.out _ _ (k10) (fun hHeld=> ?_)
       clear hK K
       try simp only[Act.put,qsA]
       refine wpAnyH_done (by kernel_rfl) ?_ _
       go_wp2_with fail
       go_meet;exact HF.out
      ·go_simp
       go_at_call 141
       refine HCP.out.mono ?_;rintro e w7 ⟨A7,c7,rfl,hce7,hu7⟩;obtain⟨w8,A9,c9,w9,hw8,⟨x1,k7⟩,⟨y1,k8⟩,hrun,⟨u9,hq1⟩,hqz,hres,hupd,k9,k10⟩:=HALL.out w7 A7 c7 hce7 hu7;have HRUN:=qh hrun;have HF:=qh (And.intro hres hupd);clear hu7 hce7 hrun hres hupd;go_wp2_with fail
       refine hK.out _ _ (k7) (fun hHeld=> ?_)
       clear hK K
       try simp only[Act.put,qsA,qsZ,qsS]
       (refine held_take (v:= ?_) 21 rfl (fun _ _ _ h=>h) ?_ ?_ hHeld;rotate_left;focus ((intro w hSw;(try dsimp only at hSw);go_simp)<;>with_reducible rfl);(try simp only[Act.put,qsA,qsZ,qsS]))
       (refine held_take (v:= ?_) 22 rfl (fun _ _ _ h=>h) ?_ ?_ hHeld;rotate_left;focus ((intro w hSw;(try dsimp only at hSw);go_simp)<;>with_reducible rfl);(try simp only[Act.put,qsA,qsZ,qsS]))
       refine held_two 4 23 (fun K hK=> ?_) (fun K hK=> ?_)
       ·go_simp
        refine hK.out _ _ (k7) (fun hHeld=> ?_)
        clear hK K
        try simp only[Act.put,qsA,qsZ,qsS]
        refine held_one 23 (fun K hK=> ?_)
        go_simp
        refine hK.out _ _ (k8) (fun hHeld=> ?_)
        clear hK K
        try simp only[Act.put,qsA,qsZ,qsS]
        refine held_one 24 (fun K hK=> ?_)
        refine step_append_run rfl _ _ _ rfl rfl rfl HRUN.out ?_;refine hK.out _ _ (k9) (fun hHeld=> ?_)
        clear hK K
        try simp only[Act.put,qsA]
        (refine held_take (v:= ?_) 25 rfl (fun _ _ _ h=>h) ?_ ?_ hHeld;rotate_left;focus ((intro w hSw;(try dsimp only at hSw);go_simp)<;>with_reducible rfl);(try simp only[Act.put,qsA,qsZ,qsS]))
        (refine held_take (v:= ?_) 26 rfl (fun _ _ _ h=>h) ?_ ?_ hHeld;rotate_left;focus ((intro w hSw;(try dsimp only at hSw);go_simp)<;>with_reducible rfl);(try simp only[Act.put,qsA,qsZ,qsS]))
        refine held_one 27 (fun K hK=> ?_)
        go_simp
        refine hK.out _ _ (k10) (fun hHeld=> ?_)
        clear hK K
        try simp only[Act.put,qsA]
        refine wpAnyH_done (by kernel_rfl) ?_ _
        go_wp2_with fail
        go_meet;exact HF.out
       ·go_simp
        refine hK.out _ _ (k8) (fun hHeld=> ?_)
        clear hK K
        try simp only[Act.put,qsA,qsZ,qsS]
        refine held_one 4 (fun K hK=> ?_)
        go_simp
        refine hK.out _ _ (k8) (fun hHeld=> ?_)
        clear hK K
        try simp only[Act.put,qsA,qsZ,qsS]
        refine held_one 24 (fun K hK=> ?_)
        refine step_append_run rfl _ _ _ rfl rfl rfl HRUN.out ?_;refine hK.out _ _ (k9) (fun hHeld=> ?_)
        clear hK K
        try simp only[Act.put,qsA]
        (refine held_take (v:= ?_) 25 rfl (fun _ _ _ h=>h) ?_ ?_ hHeld;rotate_left;focus ((intro w hSw;(try dsimp only at hSw);go_simp)<;>with_reducible rfl);(try simp only[Act.put,qsA,qsZ,qsS]))
        (refine held_take (v:= ?_) 26 rfl (fun _ _ _ h=>h) ?_ ?_ hHeld;rotate_left;focus ((intro w hSw;(try dsimp only at hSw);go_simp)<;>with_reducible rfl);(try simp only[Act.put,qsA,qsZ,qsS]))
        refine held_one 27 (fun K hK=> ?_)
        go_simp
        refine hK.out _ _ (k10) (fun hHeld=> ?_)
        clear hK K
        try simp only[Act.put,qsA]
        refine wpAnyH_done (by kernel_rfl) ?_ _
        go_wp2_with fail
        go_meet;exact HF.out
     case rest=>
      obtain⟨hR,hU⟩:=hcut;obtain⟨v,a',b',os',h1,h2,h3,_⟩:=hR.ex;obtain⟨A',c',rfl,_⟩:=h2.own.els.val;have u1:=h1.cell 1;unfold boxD at u1;simp only[qA,qZ,qS]at u1
      have hlo:os'.length=m2:=by
       have h4:=congrArg List.length h3;rw[qlm,qla,HLM2.out,qls,HM2.out]at h4;exact h4
      rw[hlo]at u1;have HR2:=qh hR;have HU2:=qh hU;clear hR hU h1 h2 h3 hlo i1 dd d2;go_wp2_with fail
      go_meet;refine⟨lm,newFr n (M n).1 (M n).2,L'++[newFr n (M n).1 (M n).2],M',fo',rfl,by rw[qar (by have:=HLM2.out;omega),HLM2.out,Nat.sub_self];rfl,by show 0≤1000;omega,by rw[qla,qls];have:=HL1.out;omega,HR2.out,HU2.out,fun W hW hu=>HFIN.out W ?_ hu⟩
      rw[List.set_append_right _ _ (by have:=HLM2.out;omega),HLM2.out,Nat.sub_self]at hW
      exact hW
 case rest=>
  obtain⟨i,y,L',M',fo',rfl,hy,hyp,hl',hR,hU,hfin⟩:=hcut;clear HCASE;obtain⟨a,b,os,g,c,o,⟨h1,h2,h3,h4,h5,h6,h7⟩,ho,hor,hlo,hio,hfz,g1,_,q1,_⟩:=hR.at_ hy;have HOP:Hid (OpD bz wc q most T.pages a b g c os M' M' la fo' c1):=qh ⟨h1,h2,h4,h5,h6,h7,hR.hq⟩;obtain⟨ln,hln⟩:∃ln,os.length=ln:=⟨_,rfl⟩;rw[hln]at g1;have hiI:(i:Int)<(ln:Int):=by omega
  have hl2:(ln:Int)≤1001:=by omega
  have z1:=hfz (i * 7+1);obtain⟨pv,hpv⟩:∃pv,y.pins=pv:=⟨_,rfl⟩;obtain⟨pw,hpw⟩:∃pw,pv+1=pw:=⟨_,rfl⟩;rw[hpv]at q1;have e4:(pv:Int)+1=(pw:Int):=by omega
  have e5:(pv:Int)≤1000:=by omega
  have e6:(pw:Int)≤1001:=by omega
  obtain⟨hs1,hu1⟩:=HOP.out.set1 (j:=1) (u:= .int .i64 (pw:Nat)) ho (by omega) (o':=({ o.1 with pins:=pw },o.2)) rfl ⟨rfl,rfl⟩
  obtain⟨wB,hwB⟩:∃wB,wc.setCell ⟨g,i * 7+1,none⟩ (.int .i64 (pw:Nat))=wB:=⟨_,rfl⟩;rw[hwB]at hs1 hu1;have hi2:(os.set i ({ o.1 with pins:=pw },o.2))[i]? =some ({ o.1 with pins:=pw },o.2):=List.getElem?_set_self (qei.1 ho).1
  have f1:=hs1.blk.cell 1;have f6:=hs1.blk.cell 6;unfold boxD at f1 f6;rw[List.length_set,hln]at f1;simp only[qA,qZ,qS]at f1 f6;obtain⟨g',c',hv,_,gz,_,_,_,_,_,_,g6⟩:=hs1.row.get hi2;injection hv with hv1 _ _
  injection hv1 with hv1
  injection hv1 with hv1 _ _
  subst hv1;have gz6:=gz (i * 7+6);simp only at g6;obtain⟨hs2,hu2⟩:=hs1.set1 (j:=6) (u:= .int .i64 (c1:Nat)) hi2 (by omega) (o':=({ o.1 with pins:=pw,at_:=c1 },o.2)) rfl ⟨rfl,rfl⟩
  have HFIN:Hid (FetD bz q most T M la fo n w (.returned (.int .i64 0)) (wB.setCell ⟨g,i * 7+6,none⟩ (.int .i64 (c1:Nat))).drew):=qh (by
   have h5:=hs2.rf;rw[List.set_set,List.map_set,h3,hor]at h5;have e:({ y with pins:=pw,at_:=c1 }:FrP)={ y with pins:=y.pins+1,at_:=c1 }:=by rw[hpv,hpw]
   refine hfin _ ?_ ((hU.rfs hu1).rfs hu2).drew;rw[←e];exact h5.up (Upd.refl Nowhere _).drew)
  clear h1 h2 h3 h4 h5 h6 h7 ho hor hlo hio hfz hR hU hfin hln hpv hpw hyp hl' hy hs1 hu1 hi2 gz hs2 hu2 HOP;go_wp2_with fail
  go_region
  all_goals
   go_wp2_with fail
   go_ret;exact HFIN.out
end
end Go.Proofs.YtdfccegeihfdpaaGreatDoor
