/-
  PoolPlays: SameFrames, SameDirty: of the same lists. PoolPlays: what both pools tell, and what the log has forced.
-/
import Derived.Test.YtdfccegeihfdpaaGreatDoorAPhB
import Derived.Test.YtdfccegeihfdpaaGreatDoorARgG
set_option maxRecDepth 100000
set_option maxHeartbeats 8000000
namespace Go.Proofs.YtdfccegeihfdpaaGreatDoor
open Go Go.RowKit
theorem sameframes_ok{w:World}{v v':Value}{B B':Nat}{os os':List FrO}(hO:OwnF B w v os)(hO':OwnF B' w v' os')(hC:∀o∈os,CellsE w (slO o) o.1.cells)(hC':∀o∈os',CellsE w (slO o) o.1.cells)(he:os.map (·.1)=os'.map (·.1))(hl:os.length≤20)(hk:∀o∈os,o.1.cells.length≤1000):
 Calls Tryz.prog 35 #[v,v'] w fun e w'=>e= .returned (.bool true)∧Upd Nowhere w w':=by
 obtain⟨A,c,rfl,_⟩:=hO.els.val;obtain⟨A',c',rfl,_⟩:=hO'.els.val;have hll:os'.length=os.length:=by simpa using(congrArg List.length he).symm
 have HO:=qh hO;have HO':=qh hO';have HC:=qh hC;have HC':=qh hC';have HE:=qh he;have HK:=qh hk;rw[hll];obtain⟨n,hn⟩:∃n,os.length=n:=⟨_,rfl⟩;rw[hn];have HN:=qh hn;have HN':Hid (os'.length=n):=qh (by omega)
 have hnI:(n:Int)≤20:=by omega
 clear hO hO' hC hC' he hk hl hll hn;go_enter Tryz.func35,Tryz.ntmps35
 go_wp2_with fail
 go_loopw [5] (fun s5 wr=>∃k:Nat,s5= .int .i64 (k:Int)∧k≤n∧Upd Nowhere w wr) (fun s5 _=>n - (intOf s5).toNat)
 case atStart=>exact⟨0,rfl,Nat.zero_le _,Upd.refl _ _⟩
 case round=>
  obtain⟨k,rfl,hk,hu⟩:=hrel;have HU:=qh hu;by_cases hlt:k<n
  ·obtain⟨o,ho⟩:∃o,os[k]? =some o:=⟨_,qeg (by rw[HN.out];exact hlt)⟩
   obtain⟨o',ho'⟩:∃o,os'[k]? =some o:=⟨_,qeg (by rw[HN'.out];exact hlt)⟩
   have hoo:o'.1=o.1:=by
    have h1:=congrArg (fun l=>l[k]?) HE.out
    simp only[qgm,ho,ho',Option.map_some,Option.some.injEq]at h1;exact h1.symm
   have hg:=ownF_get HO.out ho;have hg':=ownF_get HO'.out ho';rw[HN.out]at hg;rw[HN'.out,hoo]at hg';obtain⟨b,off,c9,e9,hb,p0,p1,p2,p3,p4,p5⟩:=hg
   cases e9;obtain⟨b',off',c8,e8,hb',r0,r1,r2,r3,r4,r5⟩:=hg'
   cases e8;have hce:=HC.out o (qmg ho);have hce':=HC'.out o' (qmg ho');rw[hoo]at hce';have hkl:=HK.out o (qmg ho);unfold slO at hce hce';rw[hoo]at hce';obtain⟨⟨xno,xpins,xrc,xst,xlsn,xcells,xat⟩,oa,ocap⟩:=o;obtain⟨_,oa',ocap'⟩:=o';simp only at p0 p1 p2 p3 p4 p5 r0 r1 r2 r3 r4 r5 hce hce' hkl;have HSM:Hid (∀W,Upd Nowhere w W→Calls Tryz.prog 28 #[.agg #[.int .i64 (xlsn:Nat),.slice oa xcells.length ocap],.agg #[.int .i64 (xlsn:Nat),.slice oa' xcells.length ocap']] W fun e w'=>e= .returned (.bool true)∧Upd Nowhere W w'):=qh fun W hW=>rsame_ok (hce.up hW) (hce'.up hW) hkl (xlsn:Nat)
   obtain⟨kn,hkn⟩:∃kn,xcells.length=kn:=⟨_,rfl⟩;rw[hkn]at p5 r5 HSM;have lt:∀{W:World} {a:Addr} {u:Value},Upd Nowhere w W→w.cell? a=some u→W.cell? a=some u:=fun hW ha=>(hW.cell (World.block_lt_of_cell? _ _ ha) id).trans ha
   have EE:Hid (∀W,Upd Nowhere w W→(W.cell? ⟨b,off+k * 6,none⟩=some (.int .i64 (xno:Nat))∧W.cell? ⟨b,off+k * 6+1,none⟩=some (.int .i64 (xpins:Nat))∧W.cell? ⟨b,off+k * 6+2,none⟩=some (.int .i64 (xrc:Nat))∧W.cell? ⟨b,off+k * 6+3,none⟩=some (.int .i64 (xst:Nat))∧W.cell? ⟨b,off+k * 6+4,none⟩=some (.int .i64 (xlsn:Nat))∧W.cell? ⟨b,off+k * 6+5,none⟩=some (.slice oa kn ocap)∧W.cell? ⟨b',off'+k * 6,none⟩=some (.int .i64 (xno:Nat))∧W.cell? ⟨b',off'+k * 6+1,none⟩=some (.int .i64 (xpins:Nat))∧W.cell? ⟨b',off'+k * 6+2,none⟩=some (.int .i64 (xrc:Nat))∧W.cell? ⟨b',off'+k * 6+3,none⟩=some (.int .i64 (xst:Nat))∧W.cell? ⟨b',off'+k * 6+4,none⟩=some (.int .i64 (xlsn:Nat))∧W.cell? ⟨b',off'+k * 6+5,none⟩=some (.slice oa' kn ocap'))):=qh fun W hW=>⟨lt hW p0,lt hW p1,lt hW p2,lt hW p3,lt hW p4,lt hW p5,lt hW r0,lt hW r1,lt hW r2,lt hW r3,lt hW r4,lt hW r5⟩
   have dd:=EE.out wr hu;have d2:=EE.out wr.drew hu.drew;have hkI:(k:Int)<(n:Int):=by omega
   clear ho ho' hoo hb hb' hce hce' hkl hkn p0 p1 p2 p3 p4 p5 r0 r1 r2 r3 r4 r5 lt hu;go_wp2_with fail
   go_region_held3 (fun w'=>w'.cell? ⟨b,off+k * 6,none⟩=some (.int .i64 (xno:Nat))∧w'.cell? ⟨b,off+k * 6+1,none⟩=some (.int .i64 (xpins:Nat))∧w'.cell? ⟨b,off+k * 6+2,none⟩=some (.int .i64 (xrc:Nat))∧w'.cell? ⟨b,off+k * 6+3,none⟩=some (.int .i64 (xst:Nat))∧w'.cell? ⟨b,off+k * 6+4,none⟩=some (.int .i64 (xlsn:Nat))∧w'.cell? ⟨b,off+k * 6+5,none⟩=some (.slice oa kn ocap)∧w'.cell? ⟨b',off'+k * 6,none⟩=some (.int .i64 (xno:Nat))∧w'.cell? ⟨b',off'+k * 6+1,none⟩=some (.int .i64 (xpins:Nat))∧w'.cell? ⟨b',off'+k * 6+2,none⟩=some (.int .i64 (xrc:Nat))∧w'.cell? ⟨b',off'+k * 6+3,none⟩=some (.int .i64 (xst:Nat))∧w'.cell? ⟨b',off'+k * 6+4,none⟩=some (.int .i64 (xlsn:Nat))∧w'.cell? ⟨b',off'+k * 6+5,none⟩=some (.slice oa' kn ocap')) (first | with_reducible exact dd | with_reducible exact d2 | with_reducible exact k2)
    (first
      | (go_at_call 28
         refine(HSM.out _ HU.out.drew).mono ?_;rintro e w6 ⟨rfl,hu6⟩;have hU6:=HU.out.drew.same hu6;have k2:=EE.out w6 hU6;have HU6:=qh hU6;clear hu6 hU6))
   all_goals
    go_wp2_with fail
    go_roundw
    case rel=>exact⟨k+1,by go_num,by omega,HU6.out⟩
    case measure=>simp[intOf];omega
  ·have e:k=n:=by omega
   subst e;have hkk:¬(k:Int)<(k:Int):=by omega
   clear hu;go_wp2_with fail
   go_ret;exact⟨rfl,HU.out⟩
theorem samedirty_ok{w:World}{v v':Value}{B B':Nat}{ds:List (Nat×Nat)}(hO:OwnY B w v ds)(hO':OwnY B' w v' ds)(hl:ds.length≤20):
 Calls Tryz.prog 37 #[v,v'] w fun e w'=>e= .returned (.bool true)∧Upd Nowhere w w':=by
 obtain⟨A,c,rfl,_⟩:=hO.els.val;obtain⟨A',c',rfl,_⟩:=hO'.els.val;have HO:=qh hO;have HO':=qh hO';obtain⟨n,hn⟩:∃n,ds.length=n:=⟨_,rfl⟩;rw[hn];have HN:=qh hn;have hnI:(n:Int)≤20:=by omega
 clear hO hO' hl hn;go_enter Tryz.func37,Tryz.ntmps37
 go_wp2_with fail
 go_loopw [5] (fun s5 wr=>∃k:Nat,s5= .int .i64 (k:Int)∧k≤n∧Upd Nowhere w wr) (fun s5 _=>n - (intOf s5).toNat)
 case atStart=>exact⟨0,rfl,Nat.zero_le _,Upd.refl _ _⟩
 case round=>
  obtain⟨k,rfl,hk,hu⟩:=hrel;have HU:=qh hu;by_cases hlt:k<n
  ·obtain⟨⟨xn,xr⟩,ho⟩:∃o,ds[k]? =some o:=⟨_,qeg (by rw[HN.out];exact hlt)⟩
   have hg:=(HO.out.upd hu fun _ _=>id).els.get dyC_len ho
   have hg':=(HO'.out.upd hu fun _ _=>id).els.get dyC_len ho
   rw[HN.out]at hg hg';obtain⟨b,off,c9,e9,hb,hc⟩:=hg
   cases e9;obtain⟨b',off',c8,e8,hb',hc'⟩:=hg'
   cases e8;have p0:=hc 0 (by omega)
   have p1:=hc 1 (by omega)
   have r0:=hc' 0 (by omega)
   have r1:=hc' 1 (by omega)
   rw[Nat.add_zero]at p0 r0;simp only[dyC,qZ,qS]at p0 p1 r0 r1;have hkI:(k:Int)<(n:Int):=by omega
   clear ho hb hb' hc hc' hu;go_wp2_with fail
   go_region
   all_goals
    go_wp2_with fail
    go_roundw
    case rel=>exact⟨k+1,by go_num,by omega,HU.out.drew⟩
    case measure=>simp[intOf];omega
  ·have e:k=n:=by omega
   subst e;have hkk:¬(k:Int)<(k:Int):=by omega
   clear hu;go_wp2_with fail
   go_ret;exact⟨rfl,HU.out⟩
theorem SrtX.len{L X:List FrP}(h:SrtX L X):X.length≤L.length:=by
 have hn:(X.map (·.no)).Nodup:=h.1.imp fun h=>Nat.ne_of_lt h
 have h1:=nodup_sub_len (X.map (·.no)) (L.map (·.no)) hn fun k hk=>by
  obtain⟨x,hx,rfl⟩:=List.mem_map.1 hk;exact List.mem_map.2 ⟨x,(h.2 x).1 hx,rfl⟩
 simpa using h1
def FrsA(L:List FrP)(W:World)(e:Ending)(w':World):Prop:=∃v os B,e= .returned v∧OwnF B w' v os∧SrtX L (os.map (·.1))∧(∀o∈os,CellsE w' (slO o) o.1.cells)∧Upd Nowhere W w'
theorem KB.tells{w w1 wr:World}{P l d pg fr x q c:Nat}(h:KB w w1 P l d pg fr x q c wr)(hc:c≤980):∃(fo:Nat) (L:List FrP),L.length≤20∧(∀y∈L,y.cells.length≤1000)∧
 (∀W,Upd Nowhere wr W→(W.cell? ⟨x,1,none⟩=some (.pointer (some ⟨l,0,none⟩))∧W.cell? ⟨x,2,none⟩=some (.pointer (some ⟨P,0,none⟩))∧W.cell? ⟨x,3,none⟩=some (.pointer (some ⟨q,0,none⟩))∧W.cell? ⟨q,5,none⟩=some (.int .i64 (fo:Nat))))∧
 (∀W,Upd Nowhere wr W→Calls Tryz.prog 32 #[.pointer (some ⟨P,0,none⟩)] W (FrsA L W))∧
 (∀W,Upd Nowhere wr W→Calls Tryz.prog 36 #[.pointer (some ⟨q,0,none⟩)] W (FrsA L W))∧
 (∀W,Upd Nowhere wr W→Calls Tryz.prog 38 #[.pointer (some ⟨P,0,none⟩)] W (DrtA L W))∧
 (∀W,Upd Nowhere wr W→Calls Tryz.prog 39 #[.pointer (some ⟨q,0,none⟩)] W (DrtA L W))∧
 (∀W,Upd Nowhere wr W→Calls Tryz.prog 34 #[.pointer (some ⟨l,0,none⟩)] W fun e w'=>e= .returned (.int .i64 (fo:Nat))∧Upd Nowhere W w'):=by
 obtain⟨p,S,T,M,h1,h2,h3⟩:=h.ex;have hB:=h1.inv.bounds (by omega)
 have hR:=h1.inv.rfB (by omega)
 have hlb:=h1.inv.lg.bounds h1.inv.p20 (c:=c) (by omega)
 have hl20:T.L.length≤20:=by have:=hB.len;have:=hB.most;omega
 have h2':=h2;rw[←h1.inv.pgs]at h2';refine⟨S.forced,frs T,by unfold frs;rw[qlm];exact hl20,fun y hy=> ?_,fun W hW=> ?_,fun W hW=> ?_,fun W hW=> ?_,fun W hW=> ?_,fun W hW=> ?_,fun W hW=> ?_⟩
 ·obtain⟨r,hr,rfl⟩:=List.mem_map.1 hy;exact(hR.fr r hr).2.2.1
 ·have hp:=h.play.upd hW id;have p1:=hp.cell 1;have p2:=hp.cell 2;have p3:=hp.cell 3;obtain⟨v,a,b,os,q1,_⟩:=(h2.up hW).ex;have c5:=q1.cell 5;unfold boxD at c5;simp only[qA,qZ,qS]at p1 p2 p3 c5;exact⟨p1,p2,p3,c5⟩
 ·refine(frames_ok (h1.at_.up hW) hB).mono ?_;rintro e w' ⟨v,os,rfl,hP,hu⟩;obtain⟨B,hO⟩:=hP.own;exact⟨v,os,B,rfl,hO,hP.srt,hP.cells,hu⟩
 ·refine(rframes_ok (h2'.up hW) hR.nos hR.len hR.pgs fun r hr=>(hR.fr r hr).1).mono ?_
  rintro e w' ⟨v,os,rfl,hP,hu⟩;obtain⟨B,hO⟩:=hP.own;exact⟨v,os,B,rfl,hO,hP.srt,hP.cells,hu⟩
 ·exact pdirty_ok (h1.at_.up hW) hB
 ·exact rdirty_ok (h2'.up hW) hR.nos hl20 hR.pgs fun r hr=>(hR.fr r hr).1
 ·have hfo:=pforced_ok (h1.at_.log.up hW) hlb (by omega) h1.inv.lg.dwn
  have e:S.m.lsn+(S.forced:Nat) - 1=(S.forced:Nat):=h1.inv.lg.lastF;rw[e]at hfo;exact hfo
end Go.Proofs.YtdfccegeihfdpaaGreatDoor
