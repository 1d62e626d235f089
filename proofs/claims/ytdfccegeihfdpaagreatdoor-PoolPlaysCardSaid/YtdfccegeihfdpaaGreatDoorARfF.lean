/-
  The document's pool: back, walked.
-/
import Derived.Test.YtdfccegeihfdpaaGreatDoorARfD
set_option maxRecDepth 100000
set_option maxHeartbeats 8000000
namespace Go.Proofs.YtdfccegeihfdpaaGreatDoor
open Go Go.RowKit
section
variable {bz:Nat} {w w':World} {q most pages:Nat} {la fo ck:Nat}
theorem Upd.frame{k:Nat}{cs:Array Value}(h:Blk w k 83 cs):(∀j,(fun j=>j=k) j→¬RfF bz w j)∧NoC (fun j=>j=k) w:=⟨fun j e=>by subst e;exact h.noRf rfl,noC_blk h (by decide)⟩
theorem Upd.rfsE{f4:Nat}{x y z:World}(h:Upd (fun k=>RfF bz x k∨k=f4) x y)(h':Upd (RfF bz y) y z):Upd (fun k=>RfF bz x k∨k=f4) x z:=
 h.trans h' fun _ hk hb=>Classical.byContradiction fun hn=>hn (.inl (hb.upd hk h hn))
theorem rback_ok{L:List FrP}{M:DkM}(h:RfAt bz w q most pages L M la fo ck)(_:bz≤w.heap.size){i:Nat}{x:FrP}(hx:L[i]? =some x)(hl:L.length≤1000)(hno:x.no<pages)(hpg:pages≤1000)(hst:x.stamp≤100000)(hcl:x.cells.length≤1000):Calls Tryz.prog 139 #[.pointer (some ⟨q,0,none⟩),.int .i64 (i:Nat)] w fun e w'=>e= .returned (.tuple #[])∧RfAt bz w' q most pages (if x.rc=0 then L else L.set i { x with stamp:=x.stamp+1,rc:=0 }) (backM M x) la (if x.rc≠0∧fo<x.lsn then la else fo) ck∧Upd (RfF bz w) w w':=by
 obtain⟨a,b,os,g,c,o,⟨h1,h2,h3,h4,h5,h6,h7⟩,ho,hor,hlo,hio,hfz,c1,q0,q1,q2,q3,q4,q5,_,hce⟩:=h.at_ hx;have hD:OpD bz w q most pages a b g c os M M la fo ck:=⟨h1,h2,h4,h5,h6,h7,h.hq⟩;obtain⟨ln,hln⟩:∃ln,os.length=ln:=⟨_,rfl⟩;have hl2:(ln:Int)≤1000:=by omega
 have hiI:(i:Int)<(ln:Int):=by omega
 obtain⟨f4,hf4⟩:∃f4,w.heap.size=f4:=⟨_,rfl⟩;obtain⟨wA,hwA⟩:∃wA,w.alloc (.cells #[.int .i64 (x.no:Nat),.int .i64 (x.pins:Nat),.int .i64 (x.rc:Nat),.int .i64 (x.stamp:Nat),.int .i64 (x.lsn:Nat),.slice o.2.1 x.cells.length o.2.2] 83)=wA:=⟨_,rfl⟩;have hF:Blk wA f4 83 #[.int .i64 (x.no:Nat),.int .i64 (x.pins:Nat),.int .i64 (x.rc:Nat),.int .i64 (x.stamp:Nat),.int .i64 (x.lsn:Nat),.slice o.2.1 x.cells.length o.2.2]:=by rw[←hwA,←hf4];exact Blk.new w _ _
 have hU:Upd Nowhere w wA:=hwA▸(Upd.refl Nowhere w).alloc _;have hDA:=hD.up hU;have HDA:=qh hDA;have HFA:=qh hF;have HUA:=qh hU;have HCE:=qh (hce.up hU);have HLN:=qh hln;have f2:=hF.cell 2;have f4':=hF.cell 4;have b4:=hDA.blk.cell 4;have b5:=hDA.blk.cell 5;have bz5:=hDA.blk.frozen 5;unfold boxD at b4 b5;simp only[qA,qZ,qS]at f2 f4' b4 b5;rw[hln]at c1;have H:=qh h;have HO:=qh ho;have HOR:=qh hor;have HM:=qh h3;have HNO:=qh hno;have hnI:(x.no:Int)<(pages:Int):=by omega
 have hsI:(x.stamp:Int)≤100000:=by omega
 have hpI:(pages:Int)≤1000:=by omega
 have HCL:=qh hcl;clear h1 h2 h3 h4 h5 h6 h7 hD hDA ho hor hlo hio hfz hce hln hF hU h hx hl hno hpg hst hcl;by_cases hrc:x.rc=0
 ·rw[hrc]at f2 q2;rw[show((0:Nat):Int)=0 from rfl]at f2 q2;have HRC:=qh hrc;go_enter Tryz.func139,Tryz.ntmps139
  go_wp2_with fail
  refine bodyPost_ret (results_none rfl _ _ _) rfl ?_;refine⟨rfl,?_,((Upd.refl Nowhere w).alloc _).any⟩;unfold backM;rw[if_pos HRC.out];exact H.out.up ((Upd.refl Nowhere w).alloc _)
 ·have hz:((x.rc:Int) == 0)=false:=by simpa using hrc
  obtain⟨x',hx'⟩:∃x':FrP,{ x with stamp:=x.stamp+1,rc:=0 }=x':=⟨_,rfl⟩
  obtain⟨st,hst⟩:∃st,x.stamp+1=st:=⟨_,rfl⟩;obtain⟨fo',hfo⟩:∃fo',(if fo<x.lsn then la else fo)=fo':=⟨_,rfl⟩
  have hgoal:(if x.rc=0 then L else L.set i { x with stamp:=x.stamp+1,rc:=0 })=L.set i x'∧backM M x=setM M x.no (x.pg,st)∧(if x.rc≠0∧fo<x.lsn then la else fo)=fo':=by
   refine⟨by rw[if_neg hrc,hx'],by unfold backM;rw[if_neg hrc,hst],?_⟩
   rw[←hfo];simp[hrc]
  rw[hgoal.1,hgoal.2.1,hgoal.2.2];have HX':=qh hx';have HST:=qh hst;have hstI:(st:Int)≤100001:=by omega
  have e1:(x.stamp:Int)+1=(st:Int):=by omega
  have e2:IntKind.i64.wrap ((x.stamp:Int)+1)=(st:Int):=by rw[IntKind.wrap_i64];omega
  have HFO:=qh hfo;clear hx' hfo hgoal hst;go_enter Tryz.func139,Tryz.ntmps139
  go_wp2_with fail
  go_cut [23] (fun t23 wz=>t23= .bool (decide (fo<x.lsn))∧Upd Nowhere wA wz)
  case first=>
   go_region
   all_goals
    go_wp2_with fail
    go_meet;exact⟨by simp,(Upd.refl Nowhere wA).drew⟩
  case rest=>
   obtain⟨rfl,hu⟩:=hcut;have HD1:=qh (HDA.out.up hu);have HF1:=qh (HFA.out.upd hu id);have HC1:=qh (HCE.out.up hu);have HU1:=qh (HUA.out.same hu);clear hu HDA HFA HCE HUA f2 f4' b4 b5 bz5 q0 q1 q2 q3 q4 q5 c1;go_upto_if 23 with(fail)
   go_cut [23] (fun _ wz=>OpD bz wz q most pages a b g c os M M la fo' ck∧Blk wz f4 83 #[.int .i64 (x.no:Nat),.int .i64 (x.pins:Nat),.int .i64 (x.rc:Nat),.int .i64 (x.stamp:Nat),.int .i64 (x.lsn:Nat),.slice o.2.1 x.cells.length o.2.2]∧CellsE wz (.slice o.2.1 x.cells.length o.2.2) x.cells∧Upd (RfF bz w) w wz)
   case first=>
    by_cases hlt:fo<x.lsn
    ·have b4:=HD1.out.blk.cell 4;have b5:=HD1.out.blk.cell 5;have bz5:=HD1.out.blk.frozen 5;unfold boxD at b4 b5;simp only[qA,qZ,qS]at b4 b5;have hbx:=HD1.out.box 5 (la:Nat) (fo':=la) (fun v=>rfl)
     have HR:Hid (OpD bz (wc.setCell ⟨q,5,none⟩ (.int .i64 (la:Nat))) q most pages a b g c os M M la fo' ck∧Blk (wc.setCell ⟨q,5,none⟩ (.int .i64 (la:Nat))) f4 83 #[.int .i64 (x.no:Nat),.int .i64 (x.pins:Nat),.int .i64 (x.rc:Nat),.int .i64 (x.stamp:Nat),.int .i64 (x.lsn:Nat),.slice o.2.1 x.cells.length o.2.2]∧CellsE (wc.setCell ⟨q,5,none⟩ (.int .i64 (la:Nat))) (.slice o.2.1 x.cells.length o.2.2) x.cells∧Upd (RfF bz w) w (wc.setCell ⟨q,5,none⟩ (.int .i64 (la:Nat)))):=qh (by
      have e:fo'=la:=by rw[←HFO.out,if_pos hlt]
      rw[e];exact⟨hbx.1,HF1.out.upd hbx.2 (HF1.out.noRf rfl),HC1.out.upd hbx.2 (RfF.noC _),HU1.out.any.rfs hbx.2⟩)
     clear hbx;go_wp2_with fail
     go_meet;exact HR.out
    ·have HR:Hid (OpD bz wc q most pages a b g c os M M la fo' ck∧Blk wc f4 83 #[.int .i64 (x.no:Nat),.int .i64 (x.pins:Nat),.int .i64 (x.rc:Nat),.int .i64 (x.stamp:Nat),.int .i64 (x.lsn:Nat),.slice o.2.1 x.cells.length o.2.2]∧CellsE wc (.slice o.2.1 x.cells.length o.2.2) x.cells∧Upd (RfF bz w) w wc):=qh (by
      have e:fo'=fo:=by rw[←HFO.out,if_neg hlt]
      rw[e];exact⟨HD1.out,HF1.out,HC1.out,HU1.out.any⟩)
     go_wp2_with fail
     go_meet;exact HR.out
   case rest=>
    obtain⟨hd,hf,hc,hu⟩:=hcut;clear HD1 HF1 HC1 HU1;obtain⟨wB,hwB⟩:∃wB,(wc.setCell ⟨f4,2,none⟩ (.int .i64 0)).setCell ⟨f4,3,none⟩ (.int .i64 (st:Nat))=wB:=⟨_,rfl⟩;have hset:=(hf.set_ 2 (.int .i64 0)).set_ 3 (.int .i64 (st:Nat));simp only[qsA,qsS,qsZ]at hset;have hu1:=(Upd.one wc f4 2 (.int .i64 0)).same (Upd.one _ f4 3 (.int .i64 (st:Nat)));have hfr:=Upd.frame (bz:=bz) hf;rw[hwB]at hset hu1;have HDB:=qh (hd.upd hu1 hfr.1 hfr.2);have HFB:=qh hset;have HCB:=qh (hc.upd hu1 hfr.2);have HUB:Hid (Upd (fun k=>RfF bz w k∨k=f4) w wB):=qh ((hu.mono fun _ _ e=> .inl e).same (hu1.mono fun _ _ e=> .inr e))
    have c2:=hf.cell 2;have c3:=hf.cell 3;have z2:=hf.frozen 2;have z3:=hf.frozen 3;simp only[qA,qZ,qS]at c2 c3;clear hd hf hc hu hset hu1 hfr;go_upto_region 6 with(fail)
    have EE:Hid (∀W,Upd Nowhere wB W→(W.cell? ⟨q,2,none⟩=some (.slice (some ⟨a,0,none⟩) pages pages)∧W.cell? ⟨f4,0,none⟩=some (.int .i64 (x.no:Nat))∧W.cell? ⟨f4,4,none⟩=some (.int .i64 (x.lsn:Nat))∧W.cell? ⟨f4,5,none⟩=some (.slice o.2.1 x.cells.length o.2.2))):=qh fun W hW=>by
     have b2:=(HDB.out.blk.upd hW id).cell 2;have a0:=(HFB.out.upd hW id).cell 0;have a4:=(HFB.out.upd hW id).cell 4;have a5:=(HFB.out.upd hW id).cell 5;unfold boxD at b2;simp only[qA,qZ,qS]at b2 a0 a4 a5;exact⟨b2,a0,a4,a5⟩
    have dd:=EE.out wB (Upd.refl _ _);have d2:=EE.out wB.drew (Upd.refl Nowhere wB).drew;obtain⟨kn,hkn⟩:∃kn,x.cells.length=kn:=⟨_,rfl⟩;have HKN:=qh hkn;have hcb:=HCB.out.up (Upd.refl Nowhere wB).drew;rw[hkn]at hcb;have hcp:=rcopy_ok hcb hkn (by have:=HCL.out;omega) (x.lsn:Nat)
    have HCP:=qh hcp;rw[hkn]at dd d2 EE;clear hcp hcb hkn c2 c3 z2 z3;go_cut [44] (fun _ wz=>OpD bz wz q most pages a b g c os (setM M x.no (x.pg,st)) M la fo' ck∧Blk wz f4 83 #[.int .i64 (x.no:Nat),.int .i64 (x.pins:Nat),.int .i64 0,.int .i64 (st:Nat),.int .i64 (x.lsn:Nat),.slice o.2.1 x.cells.length o.2.2]∧Upd (fun k=>RfF bz w k∨k=f4) w wz)
    case first=>
     go_region_held3 (fun w'=>w'.cell? ⟨q,2,none⟩=some (.slice (some ⟨a,0,none⟩) pages pages)∧w'.cell? ⟨f4,0,none⟩=some (.int .i64 (x.no:Nat))∧w'.cell? ⟨f4,4,none⟩=some (.int .i64 (x.lsn:Nat))∧w'.cell? ⟨f4,5,none⟩=some (.slice o.2.1 kn o.2.2)) (first | with_reducible exact dd | with_reducible exact d2 | with_reducible exact k2 | with_reducible exact k3)
      (first
        | (go_at_call 141
           refine HCP.out.mono ?_;rintro e w7 ⟨A7,c7,rfl,hce7,hu7⟩;have hu7':Upd Nowhere wB w7:=(Upd.refl Nowhere wB).drew.same hu7;have k2:=EE.out w7 hu7';have hd7:=HDB.out.up hu7';obtain⟨A9,c9,_,p0,p1,pz,_⟩:=hd7.pgs.get HNO.out;have pz0:=pz (x.no * 2);have pz1:=pz (x.no * 2+1);rw[←HKN.out]at hce7;have hpg7:=hd7.page HNO.out x.pg st (A:=A7) (k:=c7) hce7;have HU7:=qh (HUB.out.same hu7'.any);have hf8:=(HFB.out.upd hu7' id).upd hpg7.2 ((HFB.out.upd hu7' id).noRf rfl)
           have k3:((w7.setCell ⟨a,x.no * 2,none⟩ (.int .i64 (x.lsn:Nat))).setCell ⟨a,x.no * 2+1,none⟩ (.slice A7 kn c7)).cell? ⟨q,2,none⟩=some (.slice (some ⟨a,0,none⟩) pages pages)∧((w7.setCell ⟨a,x.no * 2,none⟩ (.int .i64 (x.lsn:Nat))).setCell ⟨a,x.no * 2+1,none⟩ (.slice A7 kn c7)).cell? ⟨f4,0,none⟩=some (.int .i64 (x.no:Nat))∧((w7.setCell ⟨a,x.no * 2,none⟩ (.int .i64 (x.lsn:Nat))).setCell ⟨a,x.no * 2+1,none⟩ (.slice A7 kn c7)).cell? ⟨f4,4,none⟩=some (.int .i64 (x.lsn:Nat))∧((w7.setCell ⟨a,x.no * 2,none⟩ (.int .i64 (x.lsn:Nat))).setCell ⟨a,x.no * 2+1,none⟩ (.slice A7 kn c7)).cell? ⟨f4,5,none⟩=some (.slice o.2.1 kn o.2.2):=by
            have b2:=hpg7.1.blk.cell 2;have a0:=hf8.cell 0;have a4:=hf8.cell 4;have a5:=hf8.cell 5;unfold boxD at b2;simp only[qA,qZ,qS]at b2 a0 a4 a5;rw[show x.pg.cells.length=kn from HKN.out,show x.pg.lsn=x.lsn from rfl]at b2 a0 a4 a5;rw[HKN.out]at a5;exact⟨b2,a0,a4,a5⟩
           have HF8:=qh hf8;have HU8:=qh (HU7.out.rfsE hpg7.2);rw[show x.pg.cells.length=kn from HKN.out,show x.pg.lsn=x.lsn from rfl]at HF8 HU8;have HPG7:=qh hpg7;rw[show x.pg.cells.length=kn from HKN.out,show x.pg.lsn=x.lsn from rfl]at HPG7;clear hce7 hu7 hu7' hd7 pz hpg7 hf8 HU7))
     all_goals
      go_wp2_with fail
      go_meet;exact⟨HPG7.out.1,HF8.out,HU8.out⟩
    case rest=>
     obtain⟨hd,hf,hu⟩:=hcut;clear dd d2 EE HCP HDB HFB HCB HUB;have HD7:=qh hd;have HF7:=qh hf;have HU7:=qh hu;have b3:=hd.blk.cell 3;have a0:=hf.cell 0;have a3:=hf.cell 3;unfold boxD at b3;simp only[qA,qZ,qS]at b3 a0 a3;obtain⟨_,t0,tz⟩:=hd.trn.get HNO.out;have tz0:=tz x.no;have htn:=(hd.up (Upd.refl Nowhere wc).drew).turn HNO.out x.pg st;have HTN:=qh htn;have HF8:=qh ((hf.upd (Upd.refl Nowhere wc).drew id).upd htn.2 ((hf.upd (Upd.refl Nowhere wc).drew id).noRf rfl));have HU8:=qh ((hu.same (Upd.refl Nowhere wc).drew.any).rfsE htn.2);clear hd hf hu tz htn;go_wp2_with fail
     go_cut [53] (fun _ wz=>OpD bz wz q most pages a b g c os (setM M x.no (x.pg,st)) (setM M x.no (x.pg,st)) la fo' ck∧Blk wz f4 83 #[.int .i64 (x.no:Nat),.int .i64 (x.pins:Nat),.int .i64 0,.int .i64 (st:Nat),.int .i64 (x.lsn:Nat),.slice o.2.1 x.cells.length o.2.2]∧Upd (fun k=>RfF bz w k∨k=f4) w wz)
     case first=>
      go_region
      all_goals
       go_wp2_with fail
       go_meet;exact⟨HTN.out.1,HF8.out,HU8.out⟩
     case rest=>
      obtain⟨hd,hf,hu⟩:=hcut;clear b3 a0 a3 t0 tz0 HTN HF8 HU8 HD7 HF7 HU7;have b1:=hd.blk.cell 1;have a0:=hf.cell 0;have a1:=hf.cell 1;have a2:=hf.cell 2;have a3:=hf.cell 3;have a4:=hf.cell 4;have a5:=hf.cell 5;unfold boxD at b1;rw[HLN.out]at b1;simp only[qA,qZ,qS]at b1 a0 a1 a2 a3 a4 a5;obtain⟨g',c',hv,_,gz,g0,g1,g2,g3,g4,g5,_⟩:=hd.row.get HO.out;injection hv with hv1 _ _
      injection hv1 with hv1
      injection hv1 with hv1 _ _
      subst hv1;have gz0:=gz (i * 7);have gz1:=gz (i * 7+1);have gz2:=gz (i * 7+2);have gz3:=gz (i * 7+3);have gz4:=gz (i * 7+4);have gz5:=gz (i * 7+5);unfold slO at g5;obtain⟨wE,hwE,hdE,huE⟩:=hd.set6 HO.out x' (by rw[←HX'.out,HOR.out]) (by rw[←HX'.out,HOR.out]) (by rw[←HX'.out,HOR.out]) (by rw[←HX'.out,HOR.out]) (by rw[←HX'.out,HOR.out])
      rw[show x'.rc=0 from by rw[←HX'.out],show x'.stamp=st from by rw[←HX'.out];exact HST.out]at hwE
      rw[HOR.out]at hwE g0 g1 g2 g3 g4 g5
      have HRE:Hid (RfAt bz wE q most pages (L.set i x') (setM M x.no (x.pg,st)) la fo' ck∧Upd (RfF bz w) w wE):=qh (by
       refine⟨?_,(hu.rfsE huE).mono fun k hk e=>e.elim id fun e=>by omega⟩
       have:=hdE.rf;rw[List.map_set,HM.out]at this;exact this)
      rw[show((0:Nat):Int)=0 from rfl]at hwE;clear hd hf hu gz hdE huE;go_wp2_with fail
      go_region
      all_goals
       go_wp2_with fail
       go_end0;rw[←hwE];exact⟨rfl,HRE.out.1.up (Upd.refl Nowhere wE).drew,HRE.out.2.drew⟩
end
end Go.Proofs.YtdfccegeihfdpaaGreatDoor
