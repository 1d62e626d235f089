/-
  Contracts of layer 10: Room, Clone, Set.
-/
import Derived.Test.YtdfccegeihfdpaaGreatDoorAPgD
import Derived.Test.YtdfccegeihfdpaaGreatDoorAPm4
set_option maxRecDepth 100000
set_option maxHeartbeats 4000000
namespace Go.Proofs.YtdfccegeihfdpaaGreatDoor
open Go Go.RowKit
theorem cclone_ok{w:World}{v:Value}{L:Cl}(h:CellsE w v L)(hl:L.length≤1000):Calls Tryz.prog 133 #[v] w fun e w'=>∃A c,e= .returned (.slice A L.length c)∧OwnC w.heap.size w' (.slice A L.length c) L∧Upd Nowhere w w':=by
 obtain⟨A,c,rfl,hc⟩:=h.val;have hq:∀(w:World) (a:Option Addr) (n c n' c':Nat),(binOp .eql 70 (.slice a n c) (.slice none n' c')).run Tryz.prog w= .ok (.bool a.isNone) w:=fun w a n c n' c'=>Go.Lib.run_eql_slice_nil w _ _ a n c n' c' Tryz.underlying70
 cases A with
 | none=>
   obtain⟨A',c',e,hn,hcell⟩:=h.els
   cases e
   have h0:L.length=0:=by
    rcases Nat.eq_zero_or_pos L.length with h0 | h0
    ·exact h0
    ·obtain⟨ad,e,_⟩:=hcell.2 h0
     cases e
   have hL:L=[]:=List.length_eq_zero_iff.1 h0;subst hL;go_enter Tryz.func133,Tryz.ntmps133
   go_wp2_with fail
   go_ret;exact⟨none,0,rfl,OwnR.nil _ _ _ _ _,Upd.refl _ _⟩
 | some a=>
   obtain⟨A2,c2,w2,hrun,hO,hU⟩:=cell_row.appU (OwnR.lit 155 cellC 3 w.heap.size w (qlr _)) (by simp) 70 (h.els.alloc (.cells #[] 155)) (by simp;omega)
   simp only[List.length_nil,Nat.zero_add,List.nil_append]at hrun hO;have HRUN:=qh hrun;have HO:=qh hO
   have HU:=qh (((Upd.refl Nowhere w).alloc (.cells #[] 155)).trans hU fun k hk e=>by
    simp only[Value.ownBlock,Option.some.injEq]at e;omega)
   clear hrun hO hU h;go_enter Tryz.func133,Tryz.ntmps133
   go_wp2_with (at_builtin;refine wpList_append_run rfl _ _ _ rfl rfl rfl HRUN.out ?_)
   go_ret;exact⟨A2,c2,rfl,HO.out,HU.out⟩
theorem room1_ok{w:World}{kb:Nat}{key:Ky}(h:Blk w kb 9 #[strV key])(k:Ky)(hh:Bool)(d:Bs):Calls Tryz.prog 196 #[.agg #[strV k,.bool hh,strV d],.pointer (some ⟨kb,0,none⟩)] w fun e w'=>e= .returned (.bool (k == key))∧Upd Nowhere w w':=by
 have HU:=qh ((Upd.refl Nowhere w).alloc (.cells #[strV k,.bool hh,strV d] 155));have c0:=(h.alloc (.cells #[strV k,.bool hh,strV d] 155)).cell 0;simp only[qA,qZ]at c0;clear h;go_enter Tryz.func196,Tryz.ntmps196
 go_wp2_with fail
 go_ret;exact⟨rfl,HU.out⟩
def hasC(L:Cl)(key:Ky):Bool:=L.any fun c=>c.1 == key
theorem cf_room1(args:Array Value)(w:World):(callFunc 196 args).run Tryz.prog w= .ok (.enter 196 args) w:=by go_simp
theorem cindex_ok{w:World}{v:Value}{L:Cl}(h:CellsE w v L)(hl:L.length≤1000){kb:Nat}{key:Ky}(hk:Blk w kb 9 #[strV key]):Calls Tryz.prog 244 #[v,.func (.func 196) #[] #[.pointer (some ⟨kb,0,none⟩)]] w fun e w'=>∃i:Int,e= .returned (.int .i64 i)∧(hasC L key=decide (0≤i))∧Upd Nowhere w w':=by
 obtain⟨A,c,rfl,hc⟩:=h.val;have H:=qh h;have HK:=qh hk;clear h hk;obtain⟨n,hn⟩:∃n,L.length=n:=⟨_,rfl⟩;rw[hn]at H hl hc ⊢;have HN:=qh hn;have hcf:=cf_room1;clear hn;go_enter Tryz.func244,Tryz.ntmps244
 go_wp2_with fail
 go_loopw [8] (fun s8 wr=>∃k:Nat,s8= .int .i64 (k:Int)∧k≤n∧(∀j p,j<k→L[j]? =some p→p.1≠key)∧Upd Nowhere w wr) (fun s8 _=>n - (intOf s8).toNat)
 case atStart=>exact⟨0,rfl,by omega,fun j p hj=>absurd hj (by omega),Upd.refl _ _⟩
 case round=>
  obtain⟨k,rfl,hk,hno,hu⟩:=hrel;by_cases hlt:k<n
  ·obtain⟨⟨kk,vh,vd⟩,hp⟩:∃p,L[k]? =some p:=⟨_,qeg (by rw[HN.out];exact hlt)⟩
   have hg:=(H.out.up hu).get hp;rw[HN.out]at hg;obtain⟨b,off,c',he,hb,p0,p1,p2⟩:=hg
   cases he;simp only at p0 p1 p2;have hi:(k:Int)<(n:Int):=by omega
   have hnb:(n:Int)≤1000:=by omega
   have HCALL:=qh (room1_ok (HK.out.upd hu id) kk vh vd);have HU:=qh hu;have HNO:=qh hno;have HP:=qh hp;clear hu hno hp;by_cases heq:kk=key
   ·have hbe:(kk == key)=true:=by simpa using heq
    have HEQ:=qh heq;clear heq;go_wp2_with (refine HCALL.out.mono ?_;rintro e w2 ⟨rfl,hu2⟩)
    go_ret;refine⟨k,rfl,?_,HU.out.same hu2⟩;rw[show decide ((0:Int)≤(k:Int))=true from decide_eq_true (by omega)]
    exact List.any_eq_true.2 ⟨_,qmg HP.out,hbe⟩
   ·have hbe:(kk == key)=false:=by simpa using heq
    have HEQ:=qh heq;clear heq;go_wp2_with (refine HCALL.out.mono ?_;rintro e w2 ⟨rfl,hu2⟩)
    go_roundw
    case rel=>
     refine⟨k+1,by go_num,by omega,fun j p hj hp=> ?_,HU.out.same hu2⟩
     rcases(by omega:j<k∨j=k) with h1 | rfl
     ·exact HNO.out j p h1 hp
     ·rw[HP.out]at hp;cases hp;exact HEQ.out
    case measure=>simp[intOf];omega
  ·have e:k=n:=by omega
   subst e;have hi:¬(k:Int)<(k:Int):=by omega
   have HU:=qh hu;have HNO:=qh hno;clear hu hno;go_wp2_with fail
   go_ret;refine⟨-1,rfl,?_,HU.out⟩;rw[show decide ((0:Int)≤ -1)=false from rfl];refine Bool.eq_false_iff.2 fun ht=> ?_
   obtain⟨p,hp,hpe⟩:=List.any_eq_true.1 ht;obtain⟨j,hj,e⟩:=List.getElem_of_mem hp;exact HNO.out j p (by rw[HN.out]at hj;exact hj) (by rw[qeg hj,e]) (by simpa using hpe)
theorem ccont_ok{w:World}{v:Value}{L:Cl}(h:CellsE w v L)(hl:L.length≤1000){kb:Nat}{key:Ky}(hk:Blk w kb 9 #[strV key]):Calls Tryz.prog 195 #[v,.func (.func 196) #[] #[.pointer (some ⟨kb,0,none⟩)]] w fun e w'=>e= .returned (.bool (hasC L key))∧Upd Nowhere w w':=by
 have HC:=qh (cindex_ok h hl hk);clear h hk;go_enter Tryz.func195,Tryz.ntmps195
 go_wp2_with fail
 refine HC.out.mono ?_;rintro e w2 ⟨i,rfl,hi,hu⟩;have HI:=qh hi;have HU:=qh hu;clear hi hu;go_wp2_with fail
 go_ret;exact⟨by rw[HI.out];rfl,HU.out⟩
def roomB(L:Cl)(key:Ky):Bool:=decide (L.length<4) || hasC L key
theorem roomB_iff(L:Cl)(key:Ky):roomB L key=true↔roomC 4 L key:=by
 unfold roomB roomC hasC;rw[Bool.or_eq_true,decide_eq_true_iff,List.any_eq_true];constructor
 ·rintro(h | ⟨⟨a,b⟩,h,e⟩)
  ·exact .inl h
  ·have:a=key:=by simpa using e
   subst this;exact .inr ⟨b,h⟩
 ·rintro(h | ⟨v,h⟩)
  ·exact .inl h
  ·exact .inr ⟨(key,v),h,by simp⟩
theorem proom_ok{w:World}{v:Value}{L:Cl}(h:CellsE w v L)(hl:L.length≤1000)(lsn:Int)(key:Ky):Calls Tryz.prog 132 #[.agg #[.int .i64 lsn,v],strV key] w fun e w'=>e= .returned (.bool (roomB L key))∧Upd Nowhere w w':=by
 obtain⟨A,c,rfl,hc⟩:=h.val;have hz:(w.alloc (.cells #[.int .i64 lsn,.slice A L.length c] 72)).heap.size=w.heap.size+1:=by simp
 have hk:=Blk.new' (w.alloc (.cells #[.int .i64 lsn,.slice A L.length c] 72)) 9 #[strV key] hz.symm;have hu:=((Upd.refl Nowhere w).alloc (.cells #[.int .i64 lsn,.slice A L.length c] 72)).alloc (.cells #[strV key] 9);have HC:=qh (ccont_ok (h.up hu) hl hk);have HU:=qh hu;clear h hz hk hu;obtain⟨n,hn⟩:∃n,L.length=n:=⟨_,rfl⟩;have HR:Hid (roomB L key=(decide (n<4) || hasC L key)):=qh (by rw[←hn];rfl)
 rw[hn]at HC HU hl hc ⊢;have hnb:(n:Int)≤1000:=by omega
 clear hn;by_cases h4:n<4
 ·have h4':(n:Int)<4:=by omega
  go_enter Tryz.func132,Tryz.ntmps132
  go_wp2_with fail
  go_ret;exact⟨by rw[HR.out,decide_eq_true h4];rfl,HU.out⟩
 ·have h4':¬(n:Int)<4:=by omega
  go_enter Tryz.func132,Tryz.ntmps132
  go_wp2_with (refine HC.out.mono ?_;rintro e w2 ⟨rfl,hu2⟩)
  go_ret;exact⟨by rw[HR.out,decide_eq_false h4];rfl,HU.out.same hu2⟩
def PsetP(p:PgP)(lsn:Nat)(key:Ky)(v:Vl)(w:World)(e:Ending)(w':World):Prop:=
 (roomB p.cells key=true→∃A c,e= .returned (.tuple #[.agg #[.int .i64 (lsn:Nat),.slice A (setC p.cells key v).length c],.int .i64 0])∧OwnC w.heap.size w' (.slice A (setC p.cells key v).length c) (setC p.cells key v))∧
 (roomB p.cells key=false→e= .returned (.tuple #[.agg #[.int .i64 0,.slice none 0 0],.int .i64 100]))∧Upd Nowhere w w'
theorem pset_ok{w:World}{v:Value}{p:PgP}(h:CellsE w v p.cells)(hp:p.ok)(lsn:Nat)(h1:1≤lsn)(h2:lsn≤1099511627776)(key:Ky)(vh:Bool)(vd:Bs)(hc:CellOK (key,(vh,vd))):Calls Tryz.prog 81 #[.agg #[.int .i64 (p.lsn:Nat),v],.int .i64 (lsn:Nat),strV key,.agg #[.bool vh,strV vd]] w (PsetP p lsn key (vh,vd) w):=by
 obtain⟨A,c,rfl,hcap⟩:=h.val;obtain⟨pl,L⟩:=p;simp only at h hcap ⊢;obtain⟨n,hn⟩:∃n,L.length=n:=⟨_,rfl⟩;have hlen:L.length≤4:=hp.len;have HLEN:=qh hlen;have HN:=qh hn;obtain⟨wA,hwA⟩:∃wA,wA=((w.alloc (.cells #[.int .i64 (pl:Nat),.slice A n c] 72)).alloc (.cells #[.bool vh,strV vd] 32)).alloc (.cells #[.int .i64 0,.slice none 0 0] 72):=⟨_,rfl⟩;have z1:(w.alloc (.cells #[.int .i64 (pl:Nat),.slice A n c] 72)).heap.size=w.heap.size+1:=by simp
 have z2:((w.alloc (.cells #[.int .i64 (pl:Nat),.slice A n c] 72)).alloc (.cells #[.bool vh,strV vd] 32)).heap.size=w.heap.size+1+1:=by simp
 have zA:wA.heap.size=w.heap.size+1+1+1:=by rw[hwA];simp
 have hb4:Blk wA w.heap.size 72 #[.int .i64 (pl:Nat),.slice A n c]:=by rw[hwA];exact((Blk.new w _ _).alloc _).alloc _
 have hb7:Blk wA (w.heap.size+1) 32 #[.bool vh,strV vd]:=by rw[hwA];exact(Blk.new' _ _ _ z1.symm).alloc _
 have hb8:Blk wA (w.heap.size+1+1) 72 #[.int .i64 0,.slice none 0 0]:=by rw[hwA];exact Blk.new' _ _ _ z2.symm
 have hUA:Upd Nowhere w wA:=by rw[hwA];exact(((Upd.refl Nowhere w).alloc _).alloc _).alloc _
 rw[hn]at h;have HA:=qh (h.up hUA);have HB4:=qh hb4;have HB7:=qh hb7;have HB8:=qh hb8;have HUA:=qh hUA;have HP:=qh hp;have HC:=qh hc;have HZA:=qh zA;have a0:=hb4.cell 0;have a1:=hb4.cell 1;have b0:=hb7.cell 0;have b1:=hb7.cell 1;simp only[qA,qZ,qS]at a0 a1 b0 b1;have k1:¬(lsn:Int)<1:=by omega
 have k2:¬(1099511627776:Int)<(lsn:Int):=by omega
 have HWA:=qh hwA;have HK2:=qh h2;clear hwA z1 z2 zA hb4 hb7 hb8 hUA h hp hc hlen hn h1 h2;rw[HN.out];go_enter Tryz.func81,Tryz.ntmps81
 go_upto_region 1 with(fail)
 rw[←HWA.out];go_wp2_with fail
 refine(pmay_ok HA.out HP.out).mono ?_;rintro e w1 ⟨rfl,hu1⟩;have HU1:=qh hu1;have d0:=(HB7.out.upd hu1 id).cell 0;have d1:=(HB7.out.upd hu1 id).cell 1;simp only[qA,qZ,qS]at d0 d1;clear hu1 a0 a1 b0 b1;go_wp2_with fail
 refine(fits_ok (key,vh,vd) HC.out _).mono ?_;rintro e w2 ⟨rfl,hu2⟩;have HU2:=qh (HU1.out.same hu2);have e0:=(HB4.out.upd HU2.out id).cell 0;have e1:=(HB4.out.upd HU2.out id).cell 1;simp only[qA,qZ,qS]at e0 e1;clear hu2 d0 d1;go_wp2_with fail
 refine(proom_ok (HA.out.up HU2.out) (by have:=HLEN.out;omega) pl key).mono ?_
 rintro e w3 ⟨rfl,hu3⟩;have HU3:=qh (HU2.out.same hu3);clear hu3 e0 e1
 cases hroom:roomB L key with
 | false=>
   have hb:=HB8.out.upd HU3.out id;have f0:=hb.frozen 0;have f1:=hb.frozen 1;have g0:=hb.cell 0;have g1:=hb.cell 1;simp only[qA,qZ,qS]at g0 g1;have hs:=(hb.set_ 0 (.int .i64 0)).set_ 1 (.slice none 0 0);have s0:=hs.cell 0;have s1:=hs.cell 1;simp only[qA,qZ,qS,qsA,qsS,qsZ]at s0 s1;have HUF:Hid (Upd Nowhere w ((w3.setCell ⟨w.heap.size+1+1,0,none⟩ (.int .i64 0)).setCell ⟨w.heap.size+1+1,1,none⟩ (.slice none 0 0))):=qh (((HUA.out.same HU3.out).setCell (p:=⟨w.heap.size+1+1,0,none⟩) (fun h=>by simp only at h;omega) _).setCell (p:=⟨w.heap.size+1+1,1,none⟩) (fun h=>by simp only at h;omega) _)
   have HR:=qh hroom;clear hb hs hroom;go_wp2_with fail
   refine bodyPost_ret (v:= .tuple #[.agg #[.int .i64 0,.slice none 0 0],.int .i64 100]) (by simp[results,Tryz.results81,go_sem,s0,s1]) rfl ⟨fun e=> ?_,fun _=>rfl,HUF.out⟩
   rw[HR.out]at e
   cases e
 | true=>
   have hb:=HB4.out.upd HU3.out id;have g0:=hb.cell 0;have g1:=hb.cell 1;simp only[qA,qZ,qS]at g0 g1;have HR:=qh hroom;clear hb hroom;go_wp2_with fail
   have hcl:=HA.out.up HU3.out;rw[←HN.out]at hcl;have hcc:=cclone_ok hcl (by have:=HLEN.out;omega)
   rw[HN.out]at hcc;refine hcc.mono ?_;rintro e w4 ⟨A4,c4,rfl,hO4,hu4⟩;have hO4':=hO4.far (B':=w.heap.size) fun k hk=>by have:=hO4.new k hk;have:=HUA.out.size;have:=HU3.out.size;omega
   have HU4:=qh (HU3.out.same hu4);have HUP:=qh ((HUA.out.same HU4.out).alloc (.cells #[.int .i64 (lsn:Nat),.slice A4 n c4] 72));have HUQ:=qh (HU4.out.alloc (.cells #[.int .i64 (lsn:Nat),.slice A4 n c4] 72));have HO5:=qh (hO4'.alloc (.cells #[.int .i64 (lsn:Nat),.slice A4 n c4] 72));have hb10:=Blk.new w4 72 #[.int .i64 (lsn:Nat),.slice A4 n c4];have HB10:=qh hb10;have f0:=hb10.cell 0;have f1:=hb10.cell 1;simp only[qA,qZ,qS]at f0 f1;clear hcl hcc hO4 hO4' hu4 g0 g1 hb10;go_wp2_with fail
   obtain⟨q10,hq10⟩:∃q10,w4.heap.size=q10:=⟨_,rfl⟩;obtain⟨w5,hw5⟩:∃w5,w4.alloc (.cells #[.int .i64 (lsn:Nat),.slice A4 n c4] 72)=w5:=⟨_,rfl⟩;rw[hw5]at HUP HUQ HO5 HB10 f0 f1 ⊢;rw[hq10]at HB10 f0 f1 ⊢;have hcl:=HO5.out.cellsE;have HQ8:Hid (w.heap.size+1+1≠q10):=qh fun e=>by have:=HU4.out.size;have:=HZA.out;omega
   have HQW:Hid (w.heap.size≤q10):=qh (by have:=HU4.out.size;have:=HZA.out;omega)
   clear f0 f1 hw5 hq10;have hfind:=find_ok' hcl (by have:=HLEN.out;omega) lsn key
   refine hfind.mono ?_;rintro e w6 ⟨i,rfl,hpl,hu6⟩;have HU6:=qh hu6;have HPL:=qh hpl;have HB10:=qh (HB10.out.upd hu6 id);have HUX:=qh (HUP.out.same hu6);have HUY:=qh (HUQ.out.same hu6);have HB7:=qh (HB7.out.upd HUY.out id);have HB8:=qh (HB8.out.upd HUY.out id);have HO6:=qh (HO5.out.upd hu6 fun _ _=>id)
   clear hcl hfind hpl hu6;have HIS:Hid (hasAt L i key=match L[i]? with | some p=>p.1 == key | none=>false):=qh rfl
   cases his:hasAt L i key with
   | true=>
     obtain⟨u,hu⟩:∃u,L[i]? =some (key,u):=by
      have h:=HIS.out;rw[his]at h
      cases hL:L[i]? with
      | none=>rw[hL]at h;cases h
      | some p=>
        rw[hL]at h;obtain⟨a,u⟩:=p;have:a=key:=by simpa using h.symm
        subst this;exact⟨u,rfl⟩
     have hne:L≠[]:=by rintro rfl;simp at hu
     have HSET:=qh (setC_old (v:=(vh,vd)) HPL.out hu).symm;obtain⟨M,hM⟩:∃M,M=L:=⟨_,rfl⟩;have HMM:Hid (M.length=n):=qh (by rw[hM];exact HN.out)
     have HI9:Hid (M[i]? =some (key,u)):=qh (by rw[hM];exact hu)
     obtain⟨g,rfl,_⟩:=HO6.out.addr hne;have HSET:Hid (M.set i (key,(vh,vd))=setC L key (vh,vd)):=qh (by rw[hM];exact HSET.out)
     have HO9:Hid (OwnC w.heap.size w6 (.slice (some ⟨g,0,none⟩) M.length c4) M):=qh (by rw[HMM.out,hM];exact HO6.out)
     obtain⟨c9,hc9⟩:∃c9,c4=c9:=⟨_,rfl⟩;rw[hc9]at HO9 HB10 ⊢;have HC9:=qh hc9;clear hu hne hM hc9 HO6 HO5 HC9;have hO9:=HO9.out;have hi9:=HI9.out;have hlm:i<M.length:=(qei.1 hi9).1;have hm:=HMM.out;rw[hm]at hO9 hlm;have hgc:=hO9.cellsE.get hi9;rw[hm]at hgc;obtain⟨_,_,_,he9,hgl,q0,q1,q2⟩:=hgc
     cases he9;rw[Nat.zero_add]at q1 q2;obtain⟨gcs,hgcs⟩:=hO9.is_cells (k:=g) rfl;have hgb:Blk w6 g 155 gcs:=hgcs;have hg8:g≠w.heap.size+1+1:=fun e=>hO9.blk_ne HB8.out (by decide) (by rw[e];rfl)
     have hg10:g≠q10:=fun e=>hO9.blk_ne HB10.out (by decide) (by rw[e];rfl)
     have hg7:g≠w.heap.size+1:=fun e=>hO9.blk_ne HB7.out (by decide) (by rw[e];rfl)
     have fg1:=hgb.frozen (i * 3+1);have fg2:=hgb.frozen (i * 3+1+1);have q2':w6.cell? ⟨g,i * 3+1+1,none⟩=some (strV u.2):=q2;have hs1:=hO9.setAt cellC_len (i:=i) (j:=1) (a:=(key,u)) (a':=(key,(vh,u.2))) (u:= .bool vh) hi9 (by omega) rfl
     have hi10:(M.set i (key,(vh,u.2)))[i]? =some (key,(vh,u.2)):=by
      rw[List.getElem?_set_self (by rw[hm];exact hlm)]
     have hs2:=hs1.setAt cellC_len (i:=i) (j:=2) (a:=(key,(vh,u.2))) (a':=(key,(vh,vd))) (u:=strV vd) hi10 (by omega) rfl
     rw[List.set_set,HSET.out]at hs2;have hu9:=(Upd.one w6 g (i * 3+1) (.bool vh)).same (Upd.one _ g (i * 3+1+1) (strV vd));have hb10:=HB10.out.upd hu9 fun e=>hg10 e.symm
     have hb8:=HB8.out.upd hu9 fun e=>hg8 e.symm
     have p70:=HB7.out.cell 0;have p71:=HB7.out.cell 1;have p10:=HB10.out.cell 1;have s0:=hb10.cell 0;have s1:=hb10.cell 1;have r0:=hb8.cell 0;have r1:=hb8.cell 1;have fr0:=hb8.frozen 0;have fr1:=hb8.frozen 1;have hbz:=(hb8.set_ 0 (.int .i64 (lsn:Nat))).set_ 1 (.slice (some ⟨g,0,none⟩) n c9);have t0:=hbz.cell 0;have t1:=hbz.cell 1;simp only[qA,qZ,qS,qsA,qsS,qsZ]at p70 p71 p10 s0 s1 r0 r1 t0 t1;have HOF:Hid (OwnC w.heap.size ((((w6.setCell ⟨g,i * 3+1,none⟩ (.bool vh)).setCell ⟨g,i * 3+1+1,none⟩ (strV vd)).setCell ⟨w.heap.size+1+1,0,none⟩ (.int .i64 (lsn:Nat))).setCell ⟨w.heap.size+1+1,1,none⟩ (.slice (some ⟨g,0,none⟩) n c9)) (.slice (some ⟨g,0,none⟩) n c9) (setC L key (vh,vd))):=qh ((hs2.upd (Upd.one _ (w.heap.size+1+1) 0 _) fun k hk e=>hg8 (by simp only[Value.ownBlock,Option.some.injEq]at hk;omega)).upd (Upd.one _ (w.heap.size+1+1) 1 _) fun k hk e=>hg8 (by simp only[Value.ownBlock,Option.some.injEq]at hk;omega))
     have hgw:w.heap.size≤g:=hO9.new g rfl;have HUF:Hid (Upd Nowhere w ((((w6.setCell ⟨g,i * 3+1,none⟩ (.bool vh)).setCell ⟨g,i * 3+1+1,none⟩ (strV vd)).setCell ⟨w.heap.size+1+1,0,none⟩ (.int .i64 (lsn:Nat))).setCell ⟨w.heap.size+1+1,1,none⟩ (.slice (some ⟨g,0,none⟩) n c9))):=qh ((((HUX.out.trans hu9 fun k hk e=>by omega)).setCell (p:=⟨w.heap.size+1+1,0,none⟩) (fun h=>by simp only at h;omega) _).setCell (p:=⟨w.heap.size+1+1,1,none⟩) (fun h=>by simp only at h;omega) _)
     have im:(i:Int)<((n:Nat):Int):=by omega
     have HML:Hid (n=(setC L key (vh,vd)).length):=qh (by rw[←HSET.out,List.length_set,hm])
     clear hO9 hi9 hlm hm hgcs hs1 hi10 hs2 hu9 hb10 hb8 hbz hg8 hg10 hg7 hgw q2 hgb hgl;go_wp2_with fail
     refine bodyPost_ret (v:= .tuple #[.agg #[.int .i64 (lsn:Nat),.slice (some ⟨g,0,none⟩) n c9],.int .i64 0]) (by simp[results,Tryz.results81,go_sem,t0,t1]) rfl ⟨fun _=> ?_,fun e=> ?_,HUF.out⟩
     ·rw[←HML.out];exact⟨_,_,rfl,HML.out▸HOF.out⟩
     ·rw[HR.out]at e
      cases e
   | false=>
     have hne:∀p,L[i]? =some p→p.1≠key:=fun p hp=>by
      have h:=HIS.out;rw[his,hp]at h
      simpa using h.symm
     have hil:i≤n:=by rw[←HN.out];exact HPL.out.le
     have hrow:=Blk.new w6 155 (cellC (key,noV)).toArray
     have hnb:(Value.slice A4 n c4).ownBlock≠some w6.heap.size:=fun e=>by
      have:=HO6.out.lt e;omega
     have hO6:=HO6.out.alloc (.cells (cellC (key,noV)).toArray 155);have hins:=insert_ok hO6 (by have:=HUX.out.size;simp;omega) (by have:=HLEN.out;omega) i HPL.out.le (key,noV) hrow hnb
     rw[HN.out]at hins;have HINS:=qh hins;have HNE:Hid (setC L key (vh,vd)=L.take i++(key,(vh,vd))::L.drop i):=qh (setC_new HPL.out hne);have hb10:=HB10.out.alloc (.cells (cellC (key,noV)).toArray 155);have f1:=HB10.out.cell 1;simp only[qA,qZ,qS]at f1;have HIL:=qh hil;clear hne hrow hnb hO6 hins hb10;go_wp2_with fail
     refine HINS.out.mono ?_;rintro e w8 ⟨A8,c8,rfl,hO8,hu8⟩;have hq10:(Value.slice A4 n c4).ownBlock≠some q10:=fun e=>HO6.out.blk_ne HB10.out (by decide) e
     have hq7:(Value.slice A4 n c4).ownBlock≠some (w.heap.size+1):=fun e=>HO6.out.blk_ne HB7.out (by decide) e
     have hq8:(Value.slice A4 n c4).ownBlock≠some (w.heap.size+1+1):=fun e=>HO6.out.blk_ne HB8.out (by decide) e
     have hb10:=(HB10.out.alloc (.cells (cellC (key,noV)).toArray 155)).upd hu8 hq10;have hb7:=(HB7.out.alloc (.cells (cellC (key,noV)).toArray 155)).upd hu8 hq7;have hb8:=(HB8.out.alloc (.cells (cellC (key,noV)).toArray 155)).upd hu8 hq8;have fz:=hb10.frozen 1;have f1:=hb10.cell 1;simp only[qA,qZ,qS]at f1;obtain⟨g,rfl,hgw⟩:=hO8.addr (by simp)
     have hg10:g≠q10:=fun e=>hO8.blk_ne hb10 (by decide) (by rw[e];rfl)
     have hB9:=hb10.set_ 1 (.slice (some ⟨g,0,none⟩) (n+1) c8);simp only[qsA,qsS,qsZ]at hB9;have hq107:w.heap.size+1≠q10:=fun e=>Blk.ne_ (HB7.out) (HB10.out) (by decide) e
     have hq108:w.heap.size+1+1≠q10:=HQ8.out;obtain⟨M,hM⟩:∃M,M=L.take i++(key,noV)::L.drop i:=⟨_,rfl⟩;have hML:M.length=n+1:=by rw[hM];simp[HN.out];have:=HIL.out;omega
     rw[←hM]at hO8;have hkw:∀k,(Value.slice A4 n c4).ownBlock=some k→w.heap.size≤k:=fun k hk=>HO6.out.new k hk
     have hqw:w.heap.size≤q10:=by
      have:=HQW.out;omega
     have HUX:Hid (Upd Nowhere w (w8.setCell ⟨q10,1,none⟩ (.slice (some ⟨g,0,none⟩) (n+1) c8))):=qh ((((HUX.out.alloc (.cells (cellC (key,noV)).toArray 155))).trans hu8 fun k hk e=>by have:=hkw k e;omega).setCell (p:=⟨q10,1,none⟩) (fun h=>by simp only at h;omega) _)
     have HO9:Hid (OwnC w.heap.size (w8.setCell ⟨q10,1,none⟩ (.slice (some ⟨g,0,none⟩) (n+1) c8)) (.slice (some ⟨g,0,none⟩) M.length c8) M):=qh (by rw[hML];exact hO8.upd (Upd.one _ q10 1 _) fun k hk e=>hg10 (by simp only[Value.ownBlock,Option.some.injEq]at hk;omega))
     have HB10:=qh hB9;have HB7:=qh (hb7.far hq107 (p:=⟨q10,1,none⟩) (.slice (some ⟨g,0,none⟩) (n+1) c8));have HB8:=qh (hb8.far hq108 (p:=⟨q10,1,none⟩) (.slice (some ⟨g,0,none⟩) (n+1) c8));have HMM:=qh hML;have hlt:(L.take i).length=i:=by rw[qlt,HN.out];have:=HIL.out;omega
     have HI9:Hid (M[i]? =some (key,noV)):=qh (by rw[hM,qar (by omega),hlt,Nat.sub_self];rfl)
     have HSET:Hid (M.set i (key,(vh,vd))=setC L key (vh,vd)):=qh (by rw[hM,HNE.out,List.set_append_right _ _ (by omega),hlt,Nat.sub_self];rfl)
     obtain⟨u,hu⟩:∃u,u=noV:=⟨_,rfl⟩;rw[←hu]at HI9;obtain⟨c9,hc9⟩:∃c9,c8=c9:=⟨_,rfl⟩;rw[hc9]at HO9 HB10 HB7 HB8 HUX ⊢;clear hO8 hu8 hq10 hq7 hq8 hb10 hb7 hb8 hg10 hB9 hq107 hq108 hM hML hkw hqw hlt hu HO6 HO5 hgw;go_upto_region 9 with(fail)
     clear f1 fz;obtain⟨w9,hw9⟩:∃w9,w8.setCell ⟨q10,1,none⟩ (.slice (some ⟨g,0,none⟩) (n+1) c9)=w9:=⟨_,rfl⟩;rw[hw9]at HO9 HB10 HB7 HB8 HUX ⊢;clear hw9;have hO9:=HO9.out;have hi9:=HI9.out;have hlm:i<M.length:=(qei.1 hi9).1;have hm:=HMM.out;rw[hm]at hO9 hlm;have hgc:=hO9.cellsE.get hi9;rw[hm]at hgc;obtain⟨_,_,_,he9,hgl,q0,q1,q2⟩:=hgc
     cases he9;rw[Nat.zero_add]at q1 q2;obtain⟨gcs,hgcs⟩:=hO9.is_cells (k:=g) rfl;have hgb:Blk w9 g 155 gcs:=hgcs;have hg8:g≠w.heap.size+1+1:=fun e=>hO9.blk_ne HB8.out (by decide) (by rw[e];rfl)
     have hg10:g≠q10:=fun e=>hO9.blk_ne HB10.out (by decide) (by rw[e];rfl)
     have hg7:g≠w.heap.size+1:=fun e=>hO9.blk_ne HB7.out (by decide) (by rw[e];rfl)
     have fg1:=hgb.frozen (i * 3+1);have fg2:=hgb.frozen (i * 3+1+1);have q2':w9.cell? ⟨g,i * 3+1+1,none⟩=some (strV u.2):=q2;have hs1:=hO9.setAt cellC_len (i:=i) (j:=1) (a:=(key,u)) (a':=(key,(vh,u.2))) (u:= .bool vh) hi9 (by omega) rfl
     have hi10:(M.set i (key,(vh,u.2)))[i]? =some (key,(vh,u.2)):=by
      rw[List.getElem?_set_self (by rw[hm];exact hlm)]
     have hs2:=hs1.setAt cellC_len (i:=i) (j:=2) (a:=(key,(vh,u.2))) (a':=(key,(vh,vd))) (u:=strV vd) hi10 (by omega) rfl
     rw[List.set_set,HSET.out]at hs2;have hu9:=(Upd.one w9 g (i * 3+1) (.bool vh)).same (Upd.one _ g (i * 3+1+1) (strV vd));have hb10:=HB10.out.upd hu9 fun e=>hg10 e.symm
     have hb8:=HB8.out.upd hu9 fun e=>hg8 e.symm
     have p70:=HB7.out.cell 0;have p71:=HB7.out.cell 1;have p10:=HB10.out.cell 1;have s0:=hb10.cell 0;have s1:=hb10.cell 1;have r0:=hb8.cell 0;have r1:=hb8.cell 1;have fr0:=hb8.frozen 0;have fr1:=hb8.frozen 1;have hbz:=(hb8.set_ 0 (.int .i64 (lsn:Nat))).set_ 1 (.slice (some ⟨g,0,none⟩) (n+1) c9);have t0:=hbz.cell 0;have t1:=hbz.cell 1;simp only[qA,qZ,qS,qsA,qsS,qsZ]at p70 p71 p10 s0 s1 r0 r1 t0 t1;have HOF:Hid (OwnC w.heap.size ((((w9.setCell ⟨g,i * 3+1,none⟩ (.bool vh)).setCell ⟨g,i * 3+1+1,none⟩ (strV vd)).setCell ⟨w.heap.size+1+1,0,none⟩ (.int .i64 (lsn:Nat))).setCell ⟨w.heap.size+1+1,1,none⟩ (.slice (some ⟨g,0,none⟩) (n+1) c9)) (.slice (some ⟨g,0,none⟩) (n+1) c9) (setC L key (vh,vd))):=qh ((hs2.upd (Upd.one _ (w.heap.size+1+1) 0 _) fun k hk e=>hg8 (by simp only[Value.ownBlock,Option.some.injEq]at hk;omega)).upd (Upd.one _ (w.heap.size+1+1) 1 _) fun k hk e=>hg8 (by simp only[Value.ownBlock,Option.some.injEq]at hk;omega))
     have hgw:w.heap.size≤g:=hO9.new g rfl;have HUF:Hid (Upd Nowhere w ((((w9.setCell ⟨g,i * 3+1,none⟩ (.bool vh)).setCell ⟨g,i * 3+1+1,none⟩ (strV vd)).setCell ⟨w.heap.size+1+1,0,none⟩ (.int .i64 (lsn:Nat))).setCell ⟨w.heap.size+1+1,1,none⟩ (.slice (some ⟨g,0,none⟩) (n+1) c9))):=qh ((((HUX.out.trans hu9 fun k hk e=>by omega)).setCell (p:=⟨w.heap.size+1+1,0,none⟩) (fun h=>by simp only at h;omega) _).setCell (p:=⟨w.heap.size+1+1,1,none⟩) (fun h=>by simp only at h;omega) _)
     have im:(i:Int)<(n:Int)+1:=by omega
     have HML:Hid (n+1=(setC L key (vh,vd)).length):=qh (by rw[←HSET.out,List.length_set,hm])
     clear hO9 hi9 hlm hm hgcs hs1 hi10 hs2 hu9 hb10 hb8 hbz hg8 hg10 hg7 hgw q2 hgb hgl;go_wp2_with fail
     refine bodyPost_ret (v:= .tuple #[.agg #[.int .i64 (lsn:Nat),.slice (some ⟨g,0,none⟩) (n+1) c9],.int .i64 0]) (by simp[results,Tryz.results81,go_sem,t0,t1]) rfl ⟨fun _=> ?_,fun e=> ?_,HUF.out⟩
     ·rw[←HML.out];exact⟨_,_,rfl,HML.out▸HOF.out⟩
     ·rw[HR.out]at e
      cases e
end Go.Proofs.YtdfccegeihfdpaaGreatDoor
