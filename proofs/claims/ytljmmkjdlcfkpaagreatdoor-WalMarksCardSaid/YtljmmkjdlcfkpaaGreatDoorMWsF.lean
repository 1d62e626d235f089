/-
  Layer 9: a log's first number; a record that is there. Layer 9: Forced, Check, whether a record was forced. Plain law for WalMarks: a fresh log that is appended to and forced; marked; opened anew. Plain law for WalMarks: marked, and opened anew.
-/
import Derived.Test.YtljmmkjdlcfkpaaGreatDoorMWrF
import Derived.Test.YtljmmkjdlcfkpaaGreatDoorMWvA
set_option maxRecDepth 100000
set_option maxHeartbeats 4000000
namespace Go.Proofs.YtljmmkjdlcfkpaaGreatDoor
open Go Go.RowKit
theorem wfirst_ok{bz:Nat}{w:World}{l:Nat}{p:DkP}{S:LogS}(h:LogAt bz w l p S)(hd:S.down=false):
 Calls Tryz.prog 25 #[.pointer (some ⟨l,0,none⟩)] w fun e w'=>e= .returned (.int .i64 S.m.lsn)∧Upd Nowhere w w':=by
 have hoff:=off_ok h;rw[hd]at hoff;obtain⟨A,c,its,hbx,_,hl,_⟩:=h.ex;have c5:=hbx.cell 5;simp only[qA,qZ,qS]at c5;have HOF:=qh hoff;clear h hbx hoff;go_enter Tryz.func25,Tryz.ntmps25
 go_wp2_with fail
 refine HOF.out.mono ?_;rintro e w2 ⟨rfl,rfl⟩;go_wp2_with fail
 go_ret;exact⟨rfl,Upd.refl _ _⟩
def DecTo(b:Bs)(x:RecP):Prop:=∀(w:World) (v:Value),BytesE w v b→Calls Tryz.prog 43 #[v] w fun e w'=>∃s:Sls,e= .returned (.tuple #[.agg (x.rv s).cells.toArray,.int .i64 0])∧RecN w.heap.size w' x s∧Upd Nowhere w w'
def GotP(x:RecP)(w:World)(e:Ending)(w':World):Prop:=∃s:Sls,e= .returned (.tuple #[.agg (x.rv s).cells.toArray,.int .i64 0])∧RecN w.heap.size w' x s∧Upd Nowhere w w'
theorem wget_ok{bz:Nat}{w:World}{l k i q:Nat}{p:DkP}{S:LogS}{b:Bs}{x:RecP}(h:LogAt bz w l p S)(hB:LogB k S)(hk:k≤80)(hd:S.down=false)(hi:S.items[i]? =some (b,q))(hD:DecTo b x){lsn:Int}(hlsn:lsn=S.m.lsn+(i:Nat)):
 Calls Tryz.prog 18 #[.pointer (some ⟨l,0,none⟩),.int .i64 lsn] w (GotP x w):=by
 have hU0:=(Upd.refl Nowhere w).alloc (.cells zeroA 38);have hZ:=Blk.new w 38 zeroA;have h1:=h.up hU0;have hoff:=off_ok h1;rw[hd]at hoff;have hlast:=wlast_ok h1 hB hk hd;have hil:i<S.items.length:=(qei.1 hi).1;obtain⟨A,c,its,hbx,hO,hl,hits⟩:=h1.ex;obtain⟨it,hit⟩:∃it,its[i]? =some it:=⟨_,qeg (by omega)⟩
 obtain⟨hbE,_,_⟩:=hits i it b q hit hi;obtain⟨g,off,cc,hsl,hg,hgc⟩:=hO.els.get itemC_len hit;have u16:=hgc 16 (by omega)
 obtain⟨itr,⟨ba,bn,bc⟩,itp⟩:=it;simp only[itemC,RecV.cells,slV,List.cons_append,List.nil_append,qZ,qS]at u16;simp only[slV]at hbE;have c5:=hbx.cell 5;have c7:=hbx.cell 7;simp only[qA,qZ,qS]at c5 c7;have hlx:=hbx.lt;have hgz:=hO.blk_ne hZ (by decide)
 injection hsl with hsl1 hsl2 hsl3
 subst hsl1;have hgne:g≠w.heap.size:=fun e=>hgz (by rw[e];rfl)
 have hmb:=hB.lsn;have hlb:=hB.len;obtain⟨m,hm⟩:=Int.eq_ofNat_of_zero_le (show 0≤S.m.lsn by omega)
 obtain⟨N,hN⟩:∃N,its.length=N:=⟨_,rfl⟩;rw[hm]at c5 hlast hlsn;rw[hN]at c7;rw[←hl,hN]at hlast;have hiN:i<N:=by omega
 have hiI:(i:Int)<(N:Int):=by omega
 have hmI:(m:Int)≤100000:=by omega
 have hNI:(N:Int)≤100000:=by omega
 have hl1:(m:Int)≤lsn:=by omega
 have hl2:lsn≤(m:Int)+(N:Int) - 1:=by omega
 have hl3:lsn≤200000:=by omega
 have hsub:IntKind.i64.wrap (lsn - (m:Int))=(i:Int):=by rw[IntWalk.i64_in _ (by omega)];omega
 have HLSN:=qh hlsn;clear hlsn;have hne:w.heap.size≠l:=by have:=h.lt;omega
 have HOF:=qh hoff;have HLA:=qh hlast;have HBE:=qh hbE;have HD:=qh hD;have HU0:=qh hU0;have HZ:=qh hZ;clear h hB hk hd hi hD hU0 hZ h1 hoff hlast hil hbx hO hl hits hit hbE hgc hmb hlb hm hN hsl2 hsl3 hgz;obtain⟨kind,tx,prev,next,key,oh,od,nh,nd,coord,mem,loc,row,dir,dee,pas⟩:=x;unfold zeroA at*;go_enter Tryz.func18,Tryz.ntmps18
 go_wp2_with fail
 generalize hw1:w.alloc (.cells #[.int .i64 0,.int .i64 0,.int .i64 0,.int .i64 0,.string ⟨#[]⟩,.bool false,.string ⟨#[]⟩,.bool false,.string ⟨#[]⟩,.int .i64 0,.slice none 0 0,.slice none 0 0,.slice none 0 0,.slice none 0 0,.slice none 0 0,.slice none 0 0] 38)=w1 at*;clear hw1;refine HOF.out.mono ?_;rintro e w2 ⟨rfl,rfl⟩;go_wp2_with fail
 refine HLA.out.mono ?_;rintro e w2 ⟨rfl,hU2⟩;have d5:=(hU2.cell (p:=⟨l,5,none⟩) hlx id).trans c5;have d7:=(hU2.cell (p:=⟨l,7,none⟩) hlx id).trans c7;have d16:=(hU2.cell (p:=⟨g,off+i * 18+16,none⟩) hg id).trans u16;have hdec:=HD.out w2.drew _ ((HBE.out.upd hU2 fun _ _=>id).upd (Upd.refl Nowhere w2).drew fun _ _=>id)
 have hdec':Calls Tryz.prog 43 #[.slice ba bn bc] w2.drew fun e w'=>∃(a1:Option Addr) (n1 c1:Nat) (a2:Option Addr) (n2 c2:Nat) (a3:Option Addr) (n3 c3:Nat) (a4:Option Addr) (n4 c4:Nat) (a5:Option Addr) (n5 c5:Nat) (a6:Option Addr) (n6 c6:Nat),e= .returned (.tuple #[.agg #[.int .i64 kind,.int .i64 tx,.int .i64 prev,.int .i64 next,strV key,.bool oh,strV od,.bool nh,strV nd,.int .i64 coord,.slice a1 n1 c1,.slice a2 n2 c2,.slice a3 n3 c3,.slice a4 n4 c4,.slice a5 n5 c5,.slice a6 n6 c6],.int .i64 0])∧RecN w2.drew.heap.size w' ⟨kind,tx,prev,next,key,oh,od,nh,nd,coord,mem,loc,row,dir,dee,pas⟩ ⟨(a1,n1,c1),(a2,n2,c2),(a3,n3,c3),(a4,n4,c4),(a5,n5,c5),(a6,n6,c6)⟩∧Upd Nowhere w2.drew w':=hdec.mono fun e w' h=>by
  obtain⟨⟨⟨a1,n1,c1⟩,⟨a2,n2,c2⟩,⟨a3,n3,c3⟩,⟨a4,n4,c4⟩,⟨a5,n5,c5⟩,⟨a6,n6,c6⟩⟩,he,hN,hU⟩:=h;exact⟨a1,n1,c1,a2,n2,c2,a3,n3,c3,a4,n4,c4,a5,n5,c5,a6,n6,c6,he,hN,hU⟩
 have hz2:=HZ.out.upd hU2 id;have dd:w2.drew.cell? ⟨l,5,none⟩=some (.int .i64 (m:Int))∧w2.drew.cell? ⟨l,7,none⟩=some (.slice (some ⟨g,off,none⟩) N c)∧w2.drew.cell? ⟨g,off+i * 18+16,none⟩=some (.slice ba bn bc):=⟨d5,d7,d16⟩;have HDC:=qh hdec';have HZ2:=qh hz2;have HU2:=qh (HU0.out.same hU2);have hlx2:l<w2.heap.size:=Nat.lt_of_lt_of_le hlx hU2.size;have hg2:g<w2.heap.size:=Nat.lt_of_lt_of_le hg hU2.size;clear hU2 hdec hdec' hz2 HD HBE HLA HOF c5 c7 u16;go_wp2_with fail
 go_region_held3 (fun w'=>w'.cell? ⟨l,5,none⟩=some (.int .i64 (m:Int))∧w'.cell? ⟨l,7,none⟩=some (.slice (some ⟨g,off,none⟩) N c)∧w'.cell? ⟨g,off+i * 18+16,none⟩=some (.slice ba bn bc)) (first | with_reducible exact dd | with_reducible exact k2 | with_reducible exact KP.out _ (((((((((((((((((Upd.refl (fun k=>k=w.heap.size) w3).setCell (p:=⟨w.heap.size,0,none⟩) (fun _=>rfl) (.int .i64 kind)).setCell (p:=⟨w.heap.size,1,none⟩) (fun _=>rfl) (.int .i64 tx)).setCell (p:=⟨w.heap.size,2,none⟩) (fun _=>rfl) (.int .i64 prev)).setCell (p:=⟨w.heap.size,3,none⟩) (fun _=>rfl) (.int .i64 next)).setCell (p:=⟨w.heap.size,4,none⟩) (fun _=>rfl) (strV key)).setCell (p:=⟨w.heap.size,5,none⟩) (fun _=>rfl) (.bool oh)).setCell (p:=⟨w.heap.size,6,none⟩) (fun _=>rfl) (strV od)).setCell (p:=⟨w.heap.size,7,none⟩) (fun _=>rfl) (.bool nh)).setCell (p:=⟨w.heap.size,8,none⟩) (fun _=>rfl) (strV nd)).setCell (p:=⟨w.heap.size,9,none⟩) (fun _=>rfl) (.int .i64 coord)).setCell (p:=⟨w.heap.size,10,none⟩) (fun _=>rfl) (.slice a1 n1 c1)).setCell (p:=⟨w.heap.size,11,none⟩) (fun _=>rfl) (.slice a2 n2 c2)).setCell (p:=⟨w.heap.size,12,none⟩) (fun _=>rfl) (.slice a3 n3 c3)).setCell (p:=⟨w.heap.size,13,none⟩) (fun _=>rfl) (.slice a4 n4 c4)).setCell (p:=⟨w.heap.size,14,none⟩) (fun _=>rfl) (.slice a5 n5 c5)).setCell (p:=⟨w.heap.size,15,none⟩) (fun _=>rfl) (.slice a6 n6 c6)))
  (first
    | (go_at_call 43
       refine HDC.out.mono ?_;rintro e w3 ⟨a1,n1,c1,a2,n2,c2,a3,n3,c3,a4,n4,c4,a5,n5,c5,a6,n6,c6,rfl,hN3,hU3⟩;have k2:w3.cell? ⟨l,5,none⟩=some (.int .i64 (m:Int))∧w3.cell? ⟨l,7,none⟩=some (.slice (some ⟨g,off,none⟩) N c)∧w3.cell? ⟨g,off+i * 18+16,none⟩=some (.slice ba bn bc):=⟨(hU3.cell (p:=⟨l,5,none⟩) hlx2 id).trans d5,(hU3.cell (p:=⟨l,7,none⟩) hlx2 id).trans d7,(hU3.cell (p:=⟨g,off+i * 18+16,none⟩) hg2 id).trans d16⟩;have KP:Hid (∀W,Upd (fun k=>k=w.heap.size) w3 W→W.cell? ⟨l,5,none⟩=some (.int .i64 (m:Int))∧W.cell? ⟨l,7,none⟩=some (.slice (some ⟨g,off,none⟩) N c)∧W.cell? ⟨g,off+i * 18+16,none⟩=some (.slice ba bn bc)):=qh fun W hW=>⟨(hW.cell (p:=⟨l,5,none⟩) (Nat.lt_of_lt_of_le hlx2 hU3.size) (fun e=>hne e.symm)).trans k2.1,(hW.cell (p:=⟨l,7,none⟩) (Nat.lt_of_lt_of_le hlx2 hU3.size) (fun e=>hne e.symm)).trans k2.2.1,(hW.cell (p:=⟨g,off+i * 18+16,none⟩) (Nat.lt_of_lt_of_le hg2 hU3.size) hgne).trans k2.2.2⟩
       have hz3:=HZ2.out.drew.upd hU3 id;have hltz:=hz3.lt;obtain⟨z0,z1,z2,z3,z4,z5,z6,z7,z8,z9,z10,z11,z12,z13,z14,z15⟩:=hz3.all16;have q0:=hz3.frozen 0;have q1:=hz3.frozen 1;have q2:=hz3.frozen 2;have q3:=hz3.frozen 3;have q4:=hz3.frozen 4;have q5:=hz3.frozen 5;have q6:=hz3.frozen 6;have q7:=hz3.frozen 7;have q8:=hz3.frozen 8;have q9:=hz3.frozen 9;have q10:=hz3.frozen 10;have q11:=hz3.frozen 11;have q12:=hz3.frozen 12;have q13:=hz3.frozen 13;have q14:=hz3.frozen 14;have q15:=hz3.frozen 15;have HZ3:=qh hz3;have HN3:=qh hN3;have HU3:=qh (HU2.out.drew.same hU3);clear hz3 hN3 hU3))
 all_goals
  go_wp2_with fail
  refine bodyPost_ret (res_rec2 (g:=w.heap.size) (cs:=#[.int .i64 kind,.int .i64 tx,.int .i64 prev,.int .i64 next,strV key,.bool oh,strV od,.bool nh,strV nd,.int .i64 coord,.slice a1 n1 c1,.slice a2 n2 c2,.slice a3 n3 c3,.slice a4 n4 c4,.slice a5 n5 c5,.slice a6 n6 c6]) rfl rfl (zero_blk16 _ _ _ _ _ _ _ _ _ _ _ _ _ _ _ _ HZ3.out) rfl) rfl ?_;have hu9:=(((((((((((((((((Upd.refl (fun k=>k=w.heap.size) w3).setCell (p:=⟨w.heap.size,0,none⟩) (fun _=>rfl) (.int .i64 kind)).setCell (p:=⟨w.heap.size,1,none⟩) (fun _=>rfl) (.int .i64 tx)).setCell (p:=⟨w.heap.size,2,none⟩) (fun _=>rfl) (.int .i64 prev)).setCell (p:=⟨w.heap.size,3,none⟩) (fun _=>rfl) (.int .i64 next)).setCell (p:=⟨w.heap.size,4,none⟩) (fun _=>rfl) (strV key)).setCell (p:=⟨w.heap.size,5,none⟩) (fun _=>rfl) (.bool oh)).setCell (p:=⟨w.heap.size,6,none⟩) (fun _=>rfl) (strV od)).setCell (p:=⟨w.heap.size,7,none⟩) (fun _=>rfl) (.bool nh)).setCell (p:=⟨w.heap.size,8,none⟩) (fun _=>rfl) (strV nd)).setCell (p:=⟨w.heap.size,9,none⟩) (fun _=>rfl) (.int .i64 coord)).setCell (p:=⟨w.heap.size,10,none⟩) (fun _=>rfl) (.slice a1 n1 c1)).setCell (p:=⟨w.heap.size,11,none⟩) (fun _=>rfl) (.slice a2 n2 c2)).setCell (p:=⟨w.heap.size,12,none⟩) (fun _=>rfl) (.slice a3 n3 c3)).setCell (p:=⟨w.heap.size,13,none⟩) (fun _=>rfl) (.slice a4 n4 c4)).setCell (p:=⟨w.heap.size,14,none⟩) (fun _=>rfl) (.slice a5 n5 c5)).setCell (p:=⟨w.heap.size,15,none⟩) (fun _=>rfl) (.slice a6 n6 c6))
  have hs3:=HU2.out.size;refine⟨⟨(a1,n1,c1),(a2,n2,c2),(a3,n3,c3),(a4,n4,c4),(a5,n5,c5),(a6,n6,c6)⟩,rfl,?_,HU3.out.news (hu9.mono fun k _ e=>by rw[e];exact qlr _)⟩
  exact(HN3.out.upd hu9 fun k hk _=>by have:=HZ2.out.lt;have e:w2.drew.heap.size=w2.heap.size:=rfl;omega).far (by have e:w2.drew.heap.size=w2.heap.size:=rfl;omega)
theorem wforced_ok{bz:Nat}{w:World}{l k:Nat}{p:DkP}{S:LogS}(h:LogAt bz w l p S)(hB:LogB k S)(hk:k≤80)(hd:S.down=false):
 Calls Tryz.prog 24 #[.pointer (some ⟨l,0,none⟩)] w fun e w'=>e= .returned (.int .i64 (S.m.lsn+(S.forced:Nat) - 1))∧Upd Nowhere w w':=by
 have hoff:=off_ok h;rw[hd]at hoff;obtain⟨A,c,its,hbx,_,hl,_⟩:=h.ex;obtain⟨lsn,hlsn⟩:=Int.eq_ofNat_of_zero_le (by have:=hB.lsn.1;omega:0≤S.m.lsn)
 have h1:=hB.lsn;have h2:=hB.len;have h6:=hB.frc;obtain⟨dk,count,⟨gen,minc,first,mlsn,check⟩,items,forced,next,forces,down⟩:=S;simp only at hlsn hbx hl h1 h2 h6 hoff ⊢;subst hlsn;have c5:=hbx.cell 5;have c8:=hbx.cell 8;simp only[qA,qZ,qS]at c5 c8;have h3:(lsn:Int)≤100000:=by omega
 have h4:((forced:Nat):Int)≤100000:=by omega
 have h5:(1:Int)≤(lsn:Int):=by omega
 have HOF:=qh hoff;clear h hB hk hbx h1 h2 h6 hoff;go_enter Tryz.func24,Tryz.ntmps24
 go_wp2_with fail
 refine HOF.out.mono ?_;rintro e w2 ⟨rfl,rfl⟩;go_wp2_with fail
 go_region
 go_wp2_with fail
 go_ret;exact⟨rfl,(Upd.refl _ _).drew⟩
theorem wcheck_ok{bz:Nat}{w:World}{l:Nat}{p:DkP}{S:LogS}(h:LogAt bz w l p S)(hd:S.down=false):
 Calls Tryz.prog 31 #[.pointer (some ⟨l,0,none⟩)] w fun e w'=>e= .returned (.int .i64 S.m.check)∧Upd Nowhere w w':=by
 have hoff:=off_ok h;rw[hd]at hoff;obtain⟨A,c,its,hbx,_,hl,_⟩:=h.ex;have c6:=hbx.cell 6;simp only[qA,qZ,qS]at c6;have HOF:=qh hoff;clear h hbx hoff;go_enter Tryz.func31,Tryz.ntmps31
 go_wp2_with fail
 refine HOF.out.mono ?_;rintro e w2 ⟨rfl,rfl⟩;go_wp2_with fail
 go_ret;exact⟨rfl,Upd.refl _ _⟩
theorem forcedOne_ok{bz:Nat}{w:World}{l k:Nat}{p:DkP}{S:LogS}(h:LogAt bz w l p S)(hB:LogB k S)(hk:k≤80)(hd:S.down=false)(n:Int):
 Calls Tryz.prog 59 #[.pointer (some ⟨l,0,none⟩),.int .i64 n] w fun e w'=>e= .returned (.bool (S.kept n))∧Upd Nowhere w w':=by
 have hfo:∀w',Upd Nowhere w w'→_:=fun w' hu=>wforced_ok (h.up hu) hB hk hd
 obtain⟨A,c,its,hbx,_,hl,_⟩:=h.ex;have c5:=hbx.cell 5;simp only[qA,qZ,qS]at c5;have hlt:=hbx.lt;have HFO:=qh hfo;obtain⟨a,ha⟩:∃a,S.m.lsn=a:=⟨_,rfl⟩;obtain⟨b,hb⟩:∃b,a+(S.forced:Nat) - 1=b:=⟨_,rfl⟩;have hke:S.kept n=(decide (a≤n) && decide (n≤b)):=by unfold LogS.kept;rw[ha,hb]
 rw[ha]at c5
 have HFO:Hid (∀w',Upd Nowhere w w'→Calls Tryz.prog 24 #[.pointer (some ⟨l,0,none⟩)] w' fun e w''=>e= .returned (.int .i64 b)∧Upd Nowhere w' w''):=qh fun w' hu=>by
  have:=HFO.out w' hu;rw[ha,hb]at this;exact this
 have HKE:=qh hke;clear h hB hk hd hbx hl hfo hke ha hb;by_cases h1:a≤n
 ·go_enter Tryz.func59,Tryz.ntmps59
  go_wp2_with fail
  refine(HFO.out w (Upd.refl _ _)).mono ?_;rintro e w2 ⟨rfl,hU2⟩;have HU2:=qh hU2;clear hU2;by_cases h2:n≤b
  ·go_wp2_with fail
   go_ret;exact⟨by rw[HKE.out,show decide (a≤n)=true from decide_eq_true (by omega),show decide (n≤b)=true from decide_eq_true (by omega)];rfl,HU2.out⟩
  ·go_wp2_with fail
   go_ret;exact⟨by rw[HKE.out,show decide (a≤n)=true from decide_eq_true (by omega),show decide (n≤b)=false from decide_eq_false (by omega)];rfl,HU2.out⟩
 ·go_enter Tryz.func59,Tryz.ntmps59
  go_wp2_with fail
  go_ret;exact⟨by rw[HKE.out,show decide (a≤n)=false from decide_eq_false (by omega)];rfl,Upd.refl _ _⟩
open Go
structure MkI(count i:Nat)(S:LogS)(Z:List SheetS)(F:List (Bs×Nat)):Prop where
 st:Stand S 0 Z F
 cnt:S.count=count
 m:S.m=mast2
 dwn:S.down=false
 dk:∃sy:Int,DkOK S.dk (2+count) sy 0∧0≤sy∧sy≤100+(i:Nat)
 len:S.items.length≤i
 fcs:S.forces≤i
 bod:∀x∈S.items,x.1.length≤4096
theorem MkI.start(count:Nat):MkI count 0 ⟨disk2 (2+count),count,mast2,[],0,0,0,false⟩ [] []:=
 ⟨Stand.start count,rfl,rfl,rfl,⟨2,(disk2_ok (2+count)).2,by omega,by omega⟩,qlr _,qlr _,fun x hx=>by cases hx⟩
theorem Stand.lay{S:LogS}{f:Nat}{Z:List SheetS}{F:List (Bs×Nat)}(h:Stand S f Z F)(hc:S.count≤300):(layAll S.pendB).1.length≤72600:=by
 have h1:=h.room;have h2:=h.nxt;rw[layAll_fst];unfold pagesN at h1;omega
theorem MkI.logB{count i:Nat}{S:LogS}{Z:List SheetS}{F:List (Bs×Nat)}(h:MkI count i S Z F)(h1:8≤count)(h2:count≤40)(hi:i≤200):LogB 0 S:=by
 obtain⟨sy,hd,hs1,hs2⟩:=h.dk;have hr:=h.st.room;have hn:=h.st.nxt;have hc:=h.cnt;have hl:=h.len;have hf:=h.fcs;refine⟨by omega,?_,?_,?_,by omega,?_,?_,h.st.frc,by omega,by omega,h.bod,h.st.lay (by omega),?_,?_,?_,hd.read,?_⟩
 ·rw[h.m];decide
 ·rw[h.m];decide
 ·rw[h.m];simp only[mast2];omega
 ·rw[h.m];decide
 ·rw[h.m];decide
 ·rw[hd.size];omega
 ·rw[hd.fuse];omega
 ·rw[hd.syncs];omega
 ·rw[h.st.pend];simp
theorem MkI.more{count i j:Nat}{S:LogS}{Z:List SheetS}{F:List (Bs×Nat)}(h:MkI count i S Z F)(hij:i≤j):MkI count j S Z F:=by
 obtain⟨sy,hd,hs1,hs2⟩:=h.dk;have hl:=h.len;have hf:=h.fcs;exact⟨h.st,h.cnt,h.m,h.dwn,⟨sy,hd,hs1,by omega⟩,by omega,by omega,h.bod⟩
theorem MkI.add{count i:Nat}{S:LogS}{Z:List SheetS}{F:List (Bs×Nat)}(h:MkI count i S Z F){b:Bs}{spare:Int}(hr:S.roomy b spare=true)(hb:b.length≤4096):MkI count (i+1) (S.add b) Z F:=by
 obtain⟨sy,hd,hs1,hs2⟩:=h.dk;have hl:=h.len;have hf:=h.fcs;refine⟨h.st.add hr,h.cnt,h.m,h.dwn,⟨sy,hd,hs1,by omega⟩,?_,Nat.le_succ_of_le hf,fun x hx=> ?_⟩
 ·show(S.items++[(b,0)]).length≤i+1
  rw[qla,qls];omega
 ·rcases qma.1 hx with hx | hx
  ·exact h.bod x hx
  ·rw[List.mem_singleton.1 hx];exact hb
theorem MkI.force{count i:Nat}{S:LogS}{Z:List SheetS}{F:List (Bs×Nat)}(h:MkI count i S Z F)(h1:8≤count)(h2:count≤40)(hi:i≤200):
 ∃S' Z' F',S.forceS=(S',0)∧MkI count (i+1) S' Z' F'∧S'.items.map (·.1)=S.items.map (·.1)∧S'.forced=S'.items.length:=by
 by_cases hf:S.forced=S.items.length
 ·exact⟨S,Z,F,by unfold LogS.forceS;rw[if_pos hf],h.more (by omega),rfl,hf⟩
 ·obtain⟨sy,hd,hs1,hs2⟩:=h.dk;obtain⟨S',e,st,dk,em,ec,ei,ef,efs,ed⟩:=h.st.force (h.logB h1 h2 hi) (by omega) hd hf
  have hlen:S'.items.length=S.items.length:=by
   have:=congrArg List.length ei;rw[qlm,qlm]at this;exact this
  have hl:=h.len;have hfc:=h.fcs;refine⟨S',_,_,e,⟨st,ec.trans h.cnt,em.trans h.m,ed.trans h.dwn,⟨sy+1,dk,by omega,by omega⟩,by omega,by omega,fun x hx=> ?_⟩,ei,by omega⟩
  have hx1:x.1∈S'.items.map (·.1):=List.mem_map.2 ⟨x,hx,rfl⟩;rw[ei]at hx1;obtain⟨y,hy,e2⟩:=List.mem_map.1 hx1;rw[←e2];exact h.bod y hy
def Holds(S:LogS)(X:List RecP):Prop:=S.items.length=X.length∧∀(a:Nat) (b:Bs) (q:Nat) (x:RecP),S.items[a]? =some (b,q)→X[a]? =some x→DecTo b x
theorem Holds.nil{S:LogS}(h:S.items=[]):Holds S []:=⟨by rw[h];rfl,fun a b q x h1 h2=>by simp at h2⟩
theorem Holds.add{S:LogS}{X:List RecP}(h:Holds S X){b:Bs}{x:RecP}(hd:DecTo b x):Holds (S.add b) (X++[x]):=by
 obtain⟨h1,h2⟩:=h;refine⟨by show(S.items++[(b,0)]).length=_;rw[qla,qla,h1];rfl,fun a b' q y ha hy=> ?_⟩
 have ha:(S.items++[(b,0)])[a]? =some (b',q):=ha;by_cases hl:a<S.items.length
 ·rw[qal hl]at ha;rw[qal (by omega)]at hy
  exact h2 a b' q y ha hy
 ·have hlt:=(qei.1 ha).1;rw[qla,qls]at hlt;have hae:a=S.items.length:=by omega
  subst hae;rw[qar (qlr _),Nat.sub_self]at ha;rw[qar (by omega),h1,Nat.sub_self]at hy
  simp only[qZ,Option.some.injEq,Prod.mk.injEq]at ha hy;rw[←ha.1,←hy];exact hd
theorem Holds.same{S S':LogS}{X:List RecP}(h:Holds S X)(e:S'.items.map (·.1)=S.items.map (·.1)):Holds S' X:=by
 have hlen:S'.items.length=S.items.length:=by
  have:=congrArg List.length e;rw[qlm,qlm]at this;exact this
 refine⟨hlen.trans h.1,fun a b q x ha hx=> ?_⟩
 have h1:(S'.items.map (·.1))[a]? =some b:=by rw[qgm,ha];rfl
 rw[e,qgm]at h1
 cases hs:S.items[a]? with
 | none=>rw[hs]at h1;cases h1
 | some y=>
   rw[hs]at h1;simp only[Option.map_some,Option.some.injEq]at h1;exact h.2 a b y.2 x (by rw[hs,←h1]) hx
theorem page_data{D:DiskS}{n:Int}{s:SheetS}(hl:(D.read n).length=256)(h:D.page n=some s):s.data.length≤242:=by
 unfold DiskS.page at h
 cases hg:D.get n with
 | none=>rw[hg]at h;cases h
 | some p=>
   rw[hg]at h;have hp:=DiskS.get_len hl hg;have h:sheetOf p=some s:=h;unfold sheetOf at h;split at h
   ·cases h
   ·split at h
    ·have:=Option.some.inj h;rw[←this]
     show((p.drop 12).take _).length≤242
     rw[qlt,qld,hp];omega
    ·cases h
theorem may_of{m:MastS}(h0:1≤m.gen∧m.gen≤1000)(h1:0≤m.inc∧m.inc≤1000)(h2:0≤m.first∧m.first≤1000)(h3:0≤m.lsn∧m.lsn≤1000)(h4:0≤m.check∧m.check≤1000):m.may=true:=by
 unfold MastS.may MastS.list;simp only[List.all_cons,List.all_nil,Bool.and_eq_true,decide_eq_true_eq,and_true];omega
structure Marked(count:Nat)(S:LogS)(a:Nat)(S1:LogS)(n k:Nat)(Z1:List SheetS)(F1:List (Bs×Nat)):Prop where
 eq:S.markS (1+(a:Nat)) (1+(a:Nat))=(S1,0)
 may:(S.markM (1+(a:Nat)) (1+(a:Nat))).may=true
 pls:∀x∈S.items,x.2≤1000000
 kept:S.kept (1+(a:Nat))=true
 na:n≤a
 lb:LogB 0 S1
 dwn:S1.down=false
 cnt:S1.count=count
 m:S1.m=⟨3,1,(k:Nat),1+(n:Nat),1+(a:Nat)⟩
 its:S1.items=S.items.drop n
 nxt:S1.next=S.next
 pend:S1.pendB=[]
 st:Stand S1 k Z1 F1
 frc:S1.forced=S1.items.length
 f1:S1.items=placedAt k F1
 dk:∃sy,DkOK S1.dk (2+count) sy 0∧0≤sy∧sy≤500
 kn:k≤40
theorem MkI.marked{count i:Nat}{S:LogS}{Z:List SheetS}{F:List (Bs×Nat)}(h:MkI count i S Z F)(h1:8≤count)(h2:count≤40)(hi:i≤200)(hall:S.forced=S.items.length){a:Nat}(ha:a<S.items.length):∃S1 n k Z1 F1,Marked count S a S1 n k Z1 F1:=by
 obtain⟨sy,hd,hs1,hs2⟩:=h.dk;have hlb:=h.logB h1 h2 hi;have hZ:=h.st.le;have hc:=h.cnt;have hm:=h.m;have hl:=h.len
 have hit:S.items=placedAt 0 F:=by
  have:=h.st.its
  rwa [hall,List.take_length]at this
 have hpl:∀x∈S.items,x.2≤40:=fun x hx=>by
  rw[hit,placedAt_zero]at hx;have:=h.st.pl x hx;omega
 obtain⟨x,hx⟩:∃x,S.items[a]? =some x:=⟨_,qeg ha⟩;have hlsn:S.m.lsn=1:=by rw[hm];rfl
 have hta:((1:Int)+(a:Nat) - S.m.lsn).toNat=a:=by rw[hlsn];omega
 have hq:(S.items.getD ((1:Int)+(a:Nat) - S.m.lsn).toNat ([],0)).2=x.2:=by rw[hta,List.getD_eq_getElem?_getD,hx];rfl
 have hxq:=hpl x (qmg hx);have hmn:markN S.items x.2≤a:=markN_lt hx (by omega)
 have hmM:S.markM (1+(a:Nat)) (1+(a:Nat))=⟨3,1,((x.2:Nat):Int),1+((markN S.items x.2:Nat):Int),1+(a:Nat)⟩:=by
  unfold LogS.markM;rw[hq,hm];rfl
 have hmay:(S.markM (1+(a:Nat)) (1+(a:Nat))).may=true:=by
  rw[hmM];exact may_of (by simp only;omega) (by simp only;omega) (by simp only;omega) (by simp only;omega) (by simp only;omega)
 obtain⟨S1,n,k,e,hn,hk,st,dk,l1,l2,l3,l4,l5,l6,l7,l8,l9,l10⟩:=h.st.mark (check:=1+(a:Nat)) (keep:=1+(a:Nat)) (i:=a) (by omega) (by rw[hlsn]) hd hmay (by rw[h.st.ld];exact Int.le_refl _)
 have hfst:=st.fst;rw[Nat.zero_add]at st hfst
 have hm1:S1.m=⟨3,1,(k:Nat),1+(n:Nat),1+(a:Nat)⟩:=by
  have e0:S1.m=⟨S1.m.gen,S1.m.inc,S1.m.first,S1.m.lsn,S1.m.check⟩:=rfl;rw[e0,l4,l3,hfst,l1,l2,hm];rfl
 have hpd:S1.pendB=[]:=by
  unfold LogS.pendB;rw[l5,l6,List.drop_drop,show n+(S.forced - n)=S.forced by omega,hall,List.drop_length]
  rfl
 have hfl:S1.forced=S1.items.length:=by rw[l6,l5,qld,hall]
 have hi1:S1.items=placedAt k (cutF k F):=by
  have:=st.its
  rwa [hfl,List.take_length]at this
 have hk40:k≤40:=by omega
 have hnx:=h.st.nxt;have hlen1:S1.items.length=S.items.length - n:=by rw[l5,qld]
 have hfc:=h.fcs;refine⟨S1,n,k,Z.drop k,cutF k F,e,hmay,fun x hx=>by have:=hpl x hx;omega,?_,hn,?_,l10.trans h.dwn,l7.trans hc,hm1,l5,l8,hpd,st,hfl,hi1,⟨sy+1,dk,by omega,by omega⟩,hk40⟩
 ·unfold LogS.kept;rw[Bool.and_eq_true,decide_eq_true_eq,decide_eq_true_eq,hlsn];omega
 ·refine⟨by rw[l7];omega,?_,?_,?_,by rw[l8];omega,?_,?_,st.frc,by omega,by rw[l9];omega,fun x hx=> ?_,by rw[hpd];exact Nat.zero_le _,?_,?_,?_,dk.read,?_⟩
  ·rw[hm1];simp only;omega
  ·rw[hm1];simp only;omega
  ·rw[hm1,l8,l7];simp only;omega
  ·rw[hm1];simp only;omega
  ·rw[hm1];simp only;omega
  ·rw[l5]at hx;exact h.bod x (List.mem_of_mem_drop hx)
  ·rw[dk.size,l7];omega
  ·rw[dk.fuse];omega
  ·rw[dk.syncs];omega
  ·rw[st.pend];simp
structure Opened(count:Nat)(S1:LogS)(k:Nat)(Z1:List SheetS)(F1:List (Bs×Nat))(D:DiskS)(S2:LogS):Prop where
 dk:DkOK D (2+count) 0 0
 ld:D.load=S1.m
 sh:sheetsGo D count D.load.inc count 0 k=Z1
 dt:∀s∈Z1,s.data.length≤242
 fb:findB Z1=F1
 may:S1.openM.may=true
 sv:(D.save S1.openM).2=0
 eq:S2=⟨(D.save S1.openM).1,count,S1.openM,placedAt k F1,F1.length,k+Z1.length,0,false⟩
 lb:LogB 0 S2
 its:S2.items=S1.items
 pend:S2.pendB=[]
 nxt:S2.next=S1.next
theorem Marked.opened{count a n k:Nat}{S S1:LogS}{Z1:List SheetS}{F1:List (Bs×Nat)}(h:Marked count S a S1 n k Z1 F1)(h1:8≤count)(h2:count≤40)(ha:a≤200):∃S2,Opened count S1 k Z1 F1 (S1.dk.crash [] false 0) S2:=by
 obtain⟨sy,hd,hs1,hs2⟩:=h.dk
 have hmay:S1.openM.may=true:=by
  have hna:=h.na;have hkn:=h.kn;unfold LogS.openM;rw[h.m];exact may_of (by simp only;omega) (by simp only;omega) (by simp only;omega) (by simp only;omega) (by simp only;omega)
 obtain⟨c1,c2,c3⟩:=crash_quiet h.st.now h.st.pend [] false 0;have hD:=hd.crash h.st.now h.st.pend [] false 0;obtain⟨o1,o2,o3,o4,o5,o6⟩:=h.st.opened hmay hD c1 c2 c3;rw[h.cnt]at o2 o4;have hlb:=h.lb;have hit:placedAt k F1=S1.items:=h.f1.symm;have hnx:=h.st.nxt;have hle:=h.st.le;have hfl:F1.length=S1.items.length:=by rw[h.f1,placedAt_len]
 have hpd:(⟨((S1.dk.crash [] false 0).save S1.openM).1,count,S1.openM,placedAt k F1,F1.length,k+Z1.length,0,false⟩:LogS).pendB=[]:=by
  unfold LogS.pendB;simp only;rw[List.drop_eq_nil_of_le (by rw[placedAt_len];exact qlr _)]
  rfl
 have hop:S1.openM=⟨4,2,(k:Nat),1+(n:Nat),1+(a:Nat)⟩:=by
  unfold LogS.openM;rw[h.m];rfl
 have hna:=h.na;have hkn:=h.kn;have hcn:=h.cnt;have hlen:=hlb.len;refine⟨_,hD,o1,by rw[o1];exact o2,fun s hs=> ?_,o3,hmay,o5,rfl,?_,hit,hpd,hnx.symm⟩
 ·obtain⟨j,hj⟩:=List.getElem?_of_mem hs;exact page_data (hd.read _) (h.st.pg j s hj).1
 ·refine⟨by simp only;omega,?_,?_,?_,by simp only;omega,?_,?_,by rw[placedAt_len];exact qlr _,by rw[placedAt_len];omega,by simp only;omega,fun x hx=> ?_,by rw[hpd];exact Nat.zero_le _,?_,?_,?_,o6.read,?_⟩
  ·rw[hop];simp only;omega
  ·rw[hop];simp only;omega
  ·rw[hop];simp only;omega
  ·rw[hop];simp only;omega
  ·rw[hop];simp only;omega
  ·simp only at hx;rw[hit]at hx;exact hlb.bod x hx
  ·rw[o6.size];simp only;omega
  ·rw[o6.fuse];omega
  ·rw[o6.syncs];omega
  ·rw[o4.pend];simp
end Go.Proofs.YtljmmkjdlcfkpaaGreatDoor
