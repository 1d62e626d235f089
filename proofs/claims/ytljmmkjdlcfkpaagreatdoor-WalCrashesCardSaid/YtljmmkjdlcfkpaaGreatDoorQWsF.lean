/-
  Layer 9: a log's first number; a record that is there. Layer 9: Forced, Check, whether a record was forced. Plain law for WalMarks: a fresh log that is appended to and forced; marked; opened anew. Plain law for WalMarks: marked, and opened anew.
-/
import Derived.Test.YtljmmkjdlcfkpaaGreatDoorQWrF
import Derived.Test.YtljmmkjdlcfkpaaGreatDoorQWvA
set_option maxRecDepth 100000
set_option maxHeartbeats 4000000
namespace Go.Proofs.YtljmmkjdlcfkpaaGreatDoor
open Go Go.RowKit
theorem wfirst_ok{bz:Nat}{w:World}{l:Nat}{p:DkP}{S:LogS}(h:LogAt bz w l p S)(hd:S.down=false):
 Calls Tryz.prog 25 #[.pointer (some ⟨l,0,none⟩)] w fun e w'=>e= .returned (.int .i64 S.m.lsn)∧Upd Nowhere w w':=by
 have hoff:=off_ok h;rw[hd]at hoff;obtain⟨A,c,its,hbx,_,hl,_⟩:=h.ex;have c5:=hbx.cell 5;simp only[qA,qZ,qS]at c5;have HOF:=qh hoff;clear h hbx hoff;go_enter Tryz.func25,Tryz.ntmps25
 go_wp2_with fail
 refine HOF.out.mono ?_;rintro e w2 ⟨rfl,rfl⟩;go_wp2_with fail
 go_ret;exact⟨rfl,Upd.refl _ _⟩
def DecTo(b:Bs)(x:RecP):Prop:=∀(w:World) (v:Value),BytesE w v b→Calls Tryz.prog 43 #[v] w fun e w'=>∃s:Sls,e= .returned (.tuple #[.agg (x.rv s).cells.toArray,.int .i64 0])∧RecN w.heap.size w' x s∧Upd Nowhere w w'
def GotP(x:RecP)(w:World)(e:Ending)(w':World):Prop:=∃s:Sls,e= .returned (.tuple #[.agg (x.rv s).cells.toArray,.int .i64 0])∧RecN w.heap.size w' x s∧Upd Nowhere w w'
theorem wget_ok{bz:Nat}{w:World}{l k i q:Nat}{p:DkP}{S:LogS}{b:Bs}{x:RecP}(h:LogAt bz w l p S)(hB:LogB k S)(hk:k≤80)(hd:S.down=false)(hi:S.items[i]? =some (b,q))(hD:DecTo b x){lsn:Int}(hlsn:lsn=S.m.lsn+(i:Nat)):
 Calls Tryz.prog 18 #[.pointer (some ⟨l,0,none⟩),.int .i64 lsn] w (GotP x w):=by
 have hU0:=(Upd.refl Nowhere w).alloc (.cells zeroA 38);have hZ:=Blk.new w 38 zeroA;have h1:=h.up hU0;have hoff:=off_ok h1;rw[hd]at hoff;have hlast:=wlast_ok h1 hB hk hd;have hil:i<S.items.length:=(qei.1 hi).1;obtain⟨A,c,its,hbx,hO,hl,hits⟩:=h1.ex;obtain⟨it,hit⟩:∃it,its[i]? =some it:=⟨_,qeg (by omega)⟩
 obtain⟨hbE,_,_⟩:=hits i it b q hit hi;obtain⟨g,off,cc,hsl,hg,hgc⟩:=hO.els.get itemC_len hit;have u16:=hgc 16 (by omega)
 obtain⟨itr,⟨ba,bn,bc⟩,itp⟩:=it;simp only[itemC,RecV.cells,slV,List.cons_append,List.nil_append,qZ,qS]at u16;simp only[slV]at hbE;have c5:=hbx.cell 5;have c7:=hbx.cell 7;simp only[qA,qZ,qS]at c5 c7;have hlx:=hbx.lt;have hgz:=hO.blk_ne hZ (by decide)
 injection hsl with hsl1 hsl2 hsl3
 subst hsl1;have hgne:g≠w.heap.size:=fun e=>hgz (by rw[e];rfl)
 have hmb:=hB.lsn;have hlb:=hB.len;obtain⟨m,hm⟩:=Int.eq_ofNat_of_zero_le (show 0≤S.m.lsn by omega)
 obtain⟨N,hN⟩:∃N,its.length=N:=⟨_,rfl⟩;rw[hm]at c5 hlast hlsn;rw[hN]at c7;rw[←hl,hN]at hlast;have hiN:i<N:=by omega
 have hiI:(i:Int)<(N:Int):=by omega
 have hmI:(m:Int)≤100000:=by omega
 have hNI:(N:Int)≤100000:=by omega
 have hl1:(m:Int)≤lsn:=by omega
 have hl2:lsn≤(m:Int)+(N:Int) - 1:=by omega
 have hl3:lsn≤200000:=by omega
 have hsub:IntKind.i64.wrap (lsn - (m:Int))=(i:Int):=by rw[IntWalk.i64_in _ (by omega)];omega
 have HLSN:=qh hlsn;clear hlsn;have hne:w.heap.size≠l:=by have:=h.lt;omega
 have HOF:=qh hoff;have HLA:=qh hlast;have HBE:=qh hbE;have HD:=qh hD;have HU0:=qh hU0;have HZ:=qh hZ;clear h hB hk hd hi hD hU0 hZ h1 hoff hlast hil hbx hO hl hits hit hbE hgc hmb hlb hm hN hsl2 hsl3 hgz;obtain⟨kind,tx,prev,next,key,oh,od,nh,nd,coord,mem,loc,row,dir,dee,pas⟩:=x;unfold zeroA at*;go_enter Tryz.func18,Tryz.ntmps18
 go_wp2_with fail
 generalize hw1:w.alloc (.cells #[.int .i64 0,.int .i64 0,.int .i64 0,.int .i64 0,.string ⟨#[]⟩,.bool false,.string ⟨#[]⟩,.bool false,.string ⟨#[]⟩,.int .i64 0,.slice none 0 0,.slice none 0 0,.slice none 0 0,.slice none 0 0,.slice none 0 0,.slice none 0 0] 38)=w1 at*;clear hw1;refine HOF.out.mono ?_;rintro e w2 ⟨rfl,rfl⟩;go_wp2_with fail
 refine HLA.out.mono ?_;rintro e w2 ⟨rfl,hU2⟩;have d5:=(hU2.cell (p:=⟨l,5,none⟩) hlx id).trans c5;have d7:=(hU2.cell (p:=⟨l,7,none⟩) hlx id).trans c7;have d16:=(hU2.cell (p:=⟨g,off+i * 18+16,none⟩) hg id).trans u16;have hdec:=HD.out w2.drew _ ((HBE.out.upd hU2 fun _ _=>id).upd (Upd.refl Nowhere w2).drew fun _ _=>id)
 have hdec':Calls Tryz.prog 43 #[.slice ba bn bc] w2.drew fun e w'=>∃(a1:Option Addr) (n1 c1:Nat) (a2:Option Addr) (n2 c2:Nat) (a3:Option Addr) (n3 c3:Nat) (a4:Option Addr) (n4 c4:Nat) (a5:Option Addr) (n5 c5:Nat) (a6:Option Addr) (n6 c6:Nat),e= .returned (.tuple #[.agg #[.int .i64 kind,.int .i64 tx,.int .i64 prev,.int .i64 next,strV key,.bool oh,strV od,.bool nh,strV nd,.int .i64 coord,.slice a1 n1 c1,.slice a2 n2 c2,.slice a3 n3 c3,.slice a4 n4 c4,.slice a5 n5 c5,.slice a6 n6 c6],.int .i64 0])∧RecN w2.drew.heap.size w' ⟨kind,tx,prev,next,key,oh,od,nh,nd,coord,mem,loc,row,dir,dee,pas⟩ ⟨(a1,n1,c1),(a2,n2,c2),(a3,n3,c3),(a4,n4,c4),(a5,n5,c5),(a6,n6,c6)⟩∧Upd Nowhere w2.drew w':=hdec.mono fun e w' h=>by
  obtain⟨⟨⟨a1,n1,c1⟩,⟨a2,n2,c2⟩,⟨a3,n3,c3⟩,⟨a4,n4,c4⟩,⟨a5,n5,c5⟩,⟨a6,n6,c6⟩⟩,he,hN,hU⟩:=h;exact⟨a1,n1,c1,a2,n2,c2,a3,n3,c3,a4,n4,c4,a5,n5,c5,a6,n6,c6,he,hN,hU⟩
 have hz2:=HZ.out.upd hU2 id;have dd:w2.drew.cell? ⟨l,5,none⟩=some (.int .i64 (m:Int))∧w2.drew.cell? ⟨l,7,none⟩=some (.slice (some ⟨g,off,none⟩) N c)∧w2.drew.cell? ⟨g,off+i * 18+16,none⟩=some (.slice ba bn bc):=⟨d5,d7,d16⟩;have HDC:=qh hdec';have HZ2:=qh hz2;have HU2:=qh (HU0.out.same hU2);have hlx2:l<w2.heap.size:=Nat.lt_of_lt_of_le hlx hU2.size;have hg2:g<w2.heap.size:=Nat.lt_of_lt_of_le hg hU2.size;clear hU2 hdec hdec' hz2 HD HBE HLA HOF c5 c7 u16;go_wp2_with fail
 go_region_held3 (fun w'=>w'.cell? ⟨l,5,none⟩=some (.int .i64 (m:Int))∧w'.cell? ⟨l,7,none⟩=some (.slice (some ⟨g,off,none⟩) N c)∧w'.cell? ⟨g,off+i * 18+16,none⟩=some (.slice ba bn bc)) (first | with_reducible exact dd | with_reducible exact k2 | with_reducible exact KP.out _ (((((((((((((((((Upd.refl (fun k=>k=w.heap.size) w3).setCell (p:=⟨w.heap.size,0,none⟩) (fun _=>rfl) (.int .i64 kind)).setCell (p:=⟨w.heap.size,1,none⟩) (fun _=>rfl) (.int .i64 tx)).setCell (p:=⟨w.heap.size,2,none⟩) (fun _=>rfl) (.int .i64 prev)).setCell (p:=⟨w.heap.size,3,none⟩) (fun _=>rfl) (.int .i64 next)).setCell (p:=⟨w.heap.size,4,none⟩) (fun _=>rfl) (strV key)).setCell (p:=⟨w.heap.size,5,none⟩) (fun _=>rfl) (.bool oh)).setCell (p:=⟨w.heap.size,6,none⟩) (fun _=>rfl) (strV od)).setCell (p:=⟨w.heap.size,7,none⟩) (fun _=>rfl) (.bool nh)).setCell (p:=⟨w.heap.size,8,none⟩) (fun _=>rfl) (strV nd)).setCell (p:=⟨w.heap.size,9,none⟩) (fun _=>rfl) (.int .i64 coord)).setCell (p:=⟨w.heap.size,10,none⟩) (fun _=>rfl) (.slice a1 n1 c1)).setCell (p:=⟨w.heap.size,11,none⟩) (fun _=>rfl) (.slice a2 n2 c2)).setCell (p:=⟨w.heap.size,12,none⟩) (fun _=>rfl) (.slice a3 n3 c3)).setCell (p:=⟨w.heap.size,13,none⟩) (fun _=>rfl) (.slice a4 n4 c4)).setCell (p:=⟨w.heap.size,14,none⟩) (fun _=>rfl) (.slice a5 n5 c5)).setCell (p:=⟨w.heap.size,15,none⟩) (fun _=>rfl) (.slice a6 n6 c6)))
  (first
    | (go_at_call 43
       refine HDC.out.mono ?_;rintro e w3 ⟨a1,n1,c1,a2,n2,c2,a3,n3,c3,a4,n4,c4,a5,n5,c5,a6,n6,c6,rfl,hN3,hU3⟩;have k2:w3.cell? ⟨l,5,none⟩=some (.int .i64 (m:Int))∧w3.cell? ⟨l,7,none⟩=some (.slice (some ⟨g,off,none⟩) N c)∧w3.cell? ⟨g,off+i * 18+16,none⟩=some (.slice ba bn bc):=⟨(hU3.cell (p:=⟨l,5,none⟩) hlx2 id).trans d5,(hU3.cell (p:=⟨l,7,none⟩) hlx2 id).trans d7,(hU3.cell (p:=⟨g,off+i * 18+16,none⟩) hg2 id).trans d16⟩;have KP:Hid (∀W,Upd (fun k=>k=w.heap.size) w3 W→W.cell? ⟨l,5,none⟩=some (.int .i64 (m:Int))∧W.cell? ⟨l,7,none⟩=some (.slice (some ⟨g,off,none⟩) N c)∧W.cell? ⟨g,off+i * 18+16,none⟩=some (.slice ba bn bc)):=qh fun W hW=>⟨(hW.cell (p:=⟨l,5,none⟩) (Nat.lt_of_lt_of_le hlx2 hU3.size) (fun e=>hne e.symm)).trans k2.1,(hW.cell (p:=⟨l,7,none⟩) (Nat.lt_of_lt_of_le hlx2 hU3.size) (fun e=>hne e.symm)).trans k2.2.1,(hW.cell (p:=⟨g,off+i * 18+16,none⟩) (Nat.lt_of_lt_of_le hg2 hU3.size) hgne).trans k2.2.2⟩
       have hz3:=HZ2.out.drew.upd hU3 id;have hltz:=hz3.lt;obtain⟨z0,z1,z2,z3,z4,z5,z6,z7,z8,z9,z10,z11,z12,z13,z14,z15⟩:=hz3.all16;have q0:=hz3.frozen 0;have q1:=hz3.frozen 1;have q2:=hz3.frozen 2;have q3:=hz3.frozen 3;have q4:=hz3.frozen 4;have q5:=hz3.frozen 5;have q6:=hz3.frozen 6;have q7:=hz3.frozen 7;have q8:=hz3.frozen 8;have q9:=hz3.frozen 9;have q10:=hz3.frozen 10;have q11:=hz3.frozen 11;have q12:=hz3.frozen 12;have q13:=hz3.frozen 13;have q14:=hz3.frozen 14;have q15:=hz3.frozen 15;have HZ3:=qh hz3;have HN3:=qh hN3;have HU3:=qh (HU2.out.drew.same hU3);clear hz3 hN3 hU3))
 all_goals
  go_wp2_with fail
  refine bodyPost_ret (res_rec2 (g:=w.heap.size) (cs:=#[.int .i64 kind,.int .i64 tx,.int .i64 prev,.int .i64 next,strV key,.bool oh,strV od,.bool nh,strV nd,.int .i64 coord,.slice a1 n1 c1,.slice a2 n2 c2,.slice a3 n3 c3,.slice a4 n4 c4,.slice a5 n5 c5,.slice a6 n6 c6]) rfl rfl (zero_blk16 _ _ _ _ _ _ _ _ _ _ _ _ _ _ _ _ HZ3.out) rfl) rfl ?_;have hu9:=(((((((((((((((((Upd.refl (fun k=>k=w.heap.size) w3).setCell (p:=⟨w.heap.size,0,none⟩) (fun _=>rfl) (.int .i64 kind)).setCell (p:=⟨w.heap.size,1,none⟩) (fun _=>rfl) (.int .i64 tx)).setCell (p:=⟨w.heap.size,2,none⟩) (fun _=>rfl) (.int .i64 prev)).setCell (p:=⟨w.heap.size,3,none⟩) (fun _=>rfl) (.int .i64 next)).setCell (p:=⟨w.heap.size,4,none⟩) (fun _=>rfl) (strV key)).setCell (p:=⟨w.heap.size,5,none⟩) (fun _=>rfl) (.bool oh)).setCell (p:=⟨w.heap.size,6,none⟩) (fun _=>rfl) (strV od)).setCell (p:=⟨w.heap.size,7,none⟩) (fun _=>rfl) (.bool nh)).setCell (p:=⟨w.heap.size,8,none⟩) (fun _=>rfl) (strV nd)).setCell (p:=⟨w.heap.size,9,none⟩) (fun _=>rfl) (.int .i64 coord)).setCell (p:=⟨w.heap.size,10,none⟩) (fun _=>rfl) (.slice a1 n1 c1)).setCell (p:=⟨w.heap.size,11,none⟩) (fun _=>rfl) (.slice a2 n2 c2)).setCell (p:=⟨w.heap.size,12,none⟩) (fun _=>rfl) (.slice a3 n3 c3)).setCell (p:=⟨w.heap.size,13,none⟩) (fun _=>rfl) (.slice a4 n4 c4)).setCell (p:=⟨w.heap.size,14,none⟩) (fun _=>rfl) (.slice a5 n5 c5)).setCell (p:=⟨w.heap.size,15,none⟩) (fun _=>rfl) (.slice a6 n6 c6))
  have hs3:=HU2.out.size;refine⟨⟨(a1,n1,c1),(a2,n2,c2),(a3,n3,c3),(a4,n4,c4),(a5,n5,c5),(a6,n6,c6)⟩,rfl,?_,HU3.out.news (hu9.mono fun k _ e=>by rw[e];exact qlr _)⟩
  exact(HN3.out.upd hu9 fun k hk _=>by have:=HZ2.out.lt;have e:w2.drew.heap.size=w2.heap.size:=rfl;omega).far (by have e:w2.drew.heap.size=w2.heap.size:=rfl;omega)
theorem wforced_ok{bz:Nat}{w:World}{l k:Nat}{p:DkP}{S:LogS}(h:LogAt bz w l p S)(hB:LogB k S)(hk:k≤80)(hd:S.down=false):
 Calls Tryz.prog 24 #[.pointer (some ⟨l,0,none⟩)] w fun e w'=>e= .returned (.int .i64 (S.m.lsn+(S.forced:Nat) - 1))∧Upd Nowhere w w':=by
 have hoff:=off_ok h;rw[hd]at hoff;obtain⟨A,c,its,hbx,_,hl,_⟩:=h.ex;obtain⟨lsn,hlsn⟩:=Int.eq_ofNat_of_zero_le (by have:=hB.lsn.1;omega:0≤S.m.lsn)
 have h1:=hB.lsn;have h2:=hB.len;have h6:=hB.frc;obtain⟨dk,count,⟨gen,minc,first,mlsn,check⟩,items,forced,next,forces,down⟩:=S;simp only at hlsn hbx hl h1 h2 h6 hoff ⊢;subst hlsn;have c5:=hbx.cell 5;have c8:=hbx.cell 8;simp only[qA,qZ,qS]at c5 c8;have h3:(lsn:Int)≤100000:=by omega
 have h4:((forced:Nat):Int)≤100000:=by omega
 have h5:(1:Int)≤(lsn:Int):=by omega
 have HOF:=qh hoff;clear h hB hk hbx h1 h2 h6 hoff;go_enter Tryz.func24,Tryz.ntmps24
 go_wp2_with fail
 refine HOF.out.mono ?_;rintro e w2 ⟨rfl,rfl⟩;go_wp2_with fail
 go_region
 go_wp2_with fail
 go_ret;exact⟨rfl,(Upd.refl _ _).drew⟩
theorem forcedOne_ok{bz:Nat}{w:World}{l k:Nat}{p:DkP}{S:LogS}(h:LogAt bz w l p S)(hB:LogB k S)(hk:k≤80)(hd:S.down=false)(n:Int):
 Calls Tryz.prog 59 #[.pointer (some ⟨l,0,none⟩),.int .i64 n] w fun e w'=>e= .returned (.bool (S.kept n))∧Upd Nowhere w w':=by
 have hfo:∀w',Upd Nowhere w w'→_:=fun w' hu=>wforced_ok (h.up hu) hB hk hd
 obtain⟨A,c,its,hbx,_,hl,_⟩:=h.ex;have c5:=hbx.cell 5;simp only[qA,qZ,qS]at c5;have hlt:=hbx.lt;have HFO:=qh hfo;obtain⟨a,ha⟩:∃a,S.m.lsn=a:=⟨_,rfl⟩;obtain⟨b,hb⟩:∃b,a+(S.forced:Nat) - 1=b:=⟨_,rfl⟩;have hke:S.kept n=(decide (a≤n) && decide (n≤b)):=by unfold LogS.kept;rw[ha,hb]
 rw[ha]at c5
 have HFO:Hid (∀w',Upd Nowhere w w'→Calls Tryz.prog 24 #[.pointer (some ⟨l,0,none⟩)] w' fun e w''=>e= .returned (.int .i64 b)∧Upd Nowhere w' w''):=qh fun w' hu=>by
  have:=HFO.out w' hu;rw[ha,hb]at this;exact this
 have HKE:=qh hke;clear h hB hk hd hbx hl hfo hke ha hb;by_cases h1:a≤n
 ·go_enter Tryz.func59,Tryz.ntmps59
  go_wp2_with fail
  refine(HFO.out w (Upd.refl _ _)).mono ?_;rintro e w2 ⟨rfl,hU2⟩;have HU2:=qh hU2;clear hU2;by_cases h2:n≤b
  ·go_wp2_with fail
   go_ret;exact⟨by rw[HKE.out,show decide (a≤n)=true from decide_eq_true (by omega),show decide (n≤b)=true from decide_eq_true (by omega)];rfl,HU2.out⟩
  ·go_wp2_with fail
   go_ret;exact⟨by rw[HKE.out,show decide (a≤n)=true from decide_eq_true (by omega),show decide (n≤b)=false from decide_eq_false (by omega)];rfl,HU2.out⟩
 ·go_enter Tryz.func59,Tryz.ntmps59
  go_wp2_with fail
  go_ret;exact⟨by rw[HKE.out,show decide (a≤n)=false from decide_eq_false (by omega)];rfl,Upd.refl _ _⟩
open Go
theorem page_data{D:DiskS}{n:Int}{s:SheetS}(hl:(D.read n).length=256)(h:D.page n=some s):s.data.length≤242:=by
 unfold DiskS.page at h
 cases hg:D.get n with
 | none=>rw[hg]at h;cases h
 | some p=>
   rw[hg]at h;have hp:=DiskS.get_len hl hg;have h:sheetOf p=some s:=h;unfold sheetOf at h;split at h
   ·cases h
   ·split at h
    ·have:=Option.some.inj h;rw[←this]
     show((p.drop 12).take _).length≤242
     rw[qlt,qld,hp];omega
    ·cases h
end Go.Proofs.YtljmmkjdlcfkpaaGreatDoor
