/-
  Layer 7: a checkpoint's lists, a record may be; a record's bytes, or the error. Layer 7: a record that may be is small; what a record is encoded to.
-/
import Derived.Test.YtljmmkjdlcfkpaaGreatDoorMWqG
set_option maxRecDepth 100000
set_option maxHeartbeats 4000000
namespace Go.Proofs.YtljmmkjdlcfkpaaGreatDoor
open Go Go.RowKit
def encB(m:Bool)(bs:Bs):Bs×Int:=if m=false then ([],1) else if 4096<bs.length then ([],12) else (bs,0)
def BytesP(bs:Bs)(w:World)(e:Ending)(w':World):Prop:=∃A c,e= .returned (.slice A bs.length c)∧OwnB w.heap.size w' (.slice A bs.length c) bs∧Upd Nowhere w w'
theorem encode_walk(k tx prev next coord:Int)(key od nd:Bs)(oh nh:Bool)(a1 a2 a3 a4 a5 a6:Option Addr)(n1 n2 n3 n4 n5 n6 c1 c2 c3 c4 c5 c6:Nat)(w:World)(m:Bool)(bs:Bs)(hl:bs.length≤90000)(hm:∀w',Upd Nowhere w w'→Calls Tryz.prog 68 #[.agg #[.int .i64 k,.int .i64 tx,.int .i64 prev,.int .i64 next,strV key,.bool oh,strV od,.bool nh,strV nd,.int .i64 coord,.slice a1 n1 c1,.slice a2 n2 c2,.slice a3 n3 c3,.slice a4 n4 c4,.slice a5 n5 c5,.slice a6 n6 c6]] w' (BoolP m w'))
 (hb:m=true→∀w',Upd Nowhere w w'→Calls Tryz.prog 69 #[.agg #[.int .i64 k,.int .i64 tx,.int .i64 prev,.int .i64 next,strV key,.bool oh,strV od,.bool nh,strV nd,.int .i64 coord,.slice a1 n1 c1,.slice a2 n2 c2,.slice a3 n3 c3,.slice a4 n4 c4,.slice a5 n5 c5,.slice a6 n6 c6]] w' (BytesP bs w')):
 Calls Tryz.prog 40 #[.agg #[.int .i64 k,.int .i64 tx,.int .i64 prev,.int .i64 next,strV key,.bool oh,strV od,.bool nh,strV nd,.int .i64 coord,.slice a1 n1 c1,.slice a2 n2 c2,.slice a3 n3 c3,.slice a4 n4 c4,.slice a5 n5 c5,.slice a6 n6 c6]] w fun e w'=>∃A c,e= .returned (.tuple #[.slice A (encB m bs).1.length c,.int .i64 (encB m bs).2])∧OwnB w.heap.size w' (.slice A (encB m bs).1.length c) (encB m bs).1∧Upd Nowhere w w':=by
 have HU0:=qh ((Upd.refl Nowhere w).alloc (.cells #[.int .i64 k,.int .i64 tx,.int .i64 prev,.int .i64 next,strV key,.bool oh,strV od,.bool nh,strV nd,.int .i64 coord,.slice a1 n1 c1,.slice a2 n2 c2,.slice a3 n3 c3,.slice a4 n4 c4,.slice a5 n5 c5,.slice a6 n6 c6] 38));have HB0:=qh (Blk.new w 38 #[.int .i64 k,.int .i64 tx,.int .i64 prev,.int .i64 next,strV key,.bool oh,strV od,.bool nh,strV nd,.int .i64 coord,.slice a1 n1 c1,.slice a2 n2 c2,.slice a3 n3 c3,.slice a4 n4 c4,.slice a5 n5 c5,.slice a6 n6 c6]);have HM:=qh hm;have HB:=qh hb;have hlI:((bs.length:Nat):Int)≤90000:=by omega
 clear hm hb hl;go_enter Tryz.func40,Tryz.ntmps40
 go_wp2_with fail
 refine Calls.mono (HM.out _ HU0.out) ?_;rintro e w1 ⟨rfl,hU1⟩;have hB1:=HB0.out.upd hU1 id;obtain⟨b0,b1,b2,b3,b4,b5,b6,b7,b8,b9,b10,b11,b12,b13,b14,b15⟩:=hB1.all16;have hlt:=hB1.lt;have HU1:=qh (HU0.out.same hU1);clear hB1 hU1
 cases m with
 | false=>
   go_wp2_with fail
   go_ret2;exact⟨none,0,rfl,OwnR.nil _ _ _ _ _,HU1.out⟩
 | true=>
   go_wp2_with fail
   refine Calls.mono (HB.out (by trivial) _ HU1.out) ?_
   rintro e w2 ⟨A,c,rfl,hO2,hU2⟩;have HO2:=qh hO2;have HU2:=qh hU2;clear hO2 hU2 HB HM;by_cases h:4096<bs.length
   ·have hI:(4096:Int)<((bs.length:Nat):Int):=by omega
    have hen:encB true bs=([],12):=by simp[encB,h]
    have HEN:=qh hen;clear hen;go_wp2_with fail
    go_ret2;rw[HEN.out];exact⟨none,0,rfl,OwnR.nil _ _ _ _ _,HU1.out.same HU2.out⟩
   ·have hI:¬(4096:Int)<((bs.length:Nat):Int):=by omega
    have hen:encB true bs=(bs,0):=by simp[encB,h]
    have HEN:=qh hen;clear hen;go_wp2_with fail
    go_ret2;rw[HEN.out];exact⟨A,c,rfl,HO2.out.far fun k hk=>Nat.le_trans HU1.out.size (HO2.out.new k hk),HU1.out.same HU2.out⟩
structure RecP.mild(x:RecP):Prop where
 ml:x.mem.length≤90000
 ll:x.loc.length≤90000
 rl:x.row.length≤90000
 rb:∀r∈x.row,r.mem.length≤90000∧r.loc.length≤90000
 dl:x.dir.length≤90000
 el:x.dee.length≤90000
 eb:∀d∈x.dee,d.2.length≤90000
 pl:x.pas.length≤90000
theorem risesP_map{α β:Type}(f:α→β)(may:β→Bool)(less:β→β→Bool):∀(p:Option α) (l:List α),risesP (fun a=>may (f a)) (fun a b=>less (f a) (f b)) p l=risesP may less (p.map f) (l.map f):=by
 intro p l
 induction l generalizing p with
 | nil=>rfl
 | cons a l ih=>
   simp only[List.map_cons,risesP,ih]
   cases p<;>rfl
theorem risingP_map{α β:Type}(f:α→β)(most:Nat)(may:β→Bool)(less:β→β→Bool)(l:List α):risingP most (fun a=>may (f a)) (fun a b=>less (f a) (f b)) l=risingP most may less (l.map f):=by
 unfold risingP;rw[risesP_map,qlm];rfl
theorem Els.len{α:Type}{sz:Nat}{cells:α→List Value}{w:World}{t:SlT}{L:List α}(h:Els sz cells w (slV t) L):t.2.1=L.length:=by
 obtain⟨A,c,e,_⟩:=h.val;unfold slV at e;injection e
theorem Els.up{α:Type}{sz:Nat}{cells:α→List Value}{w w':World}{v:Value}{L:List α}(h:Els sz cells w v L)(hu:Upd Nowhere w w'):Els sz cells w' v L:=h.upd hu fun _ _ e=>e
theorem RowW.old.up{w w':World}{r:RowW}(h:r.old w)(hu:Upd Nowhere w w'):r.old w':=⟨h.1.up hu,h.2.up hu⟩
section
variable {w:World} {x:RecP} {s:Sls}
theorem check_ok(hE:RecE w x s)(hm:x.mild):Calls Tryz.prog 103 #[.agg (x.rv s).cells.toArray] w (BoolP x.check w):=by
 obtain⟨rs,hr1,hr2,hr3⟩:=hE.row;obtain⟨ds,he1,he2,he3⟩:=hE.dee;have hrm:∀q∈rs,q.p∈x.row:=fun q hq=>by rw[←hr2];exact List.mem_map_of_mem hq
 have hem:∀q∈ds,q.p∈x.dee:=fun q hq=>by rw[←he2];exact List.mem_map_of_mem hq
 refine check_walk x.kind x.tx x.prev x.next x.coord x.key x.od x.nd x.oh x.nh s.mem.1 s.loc.1 s.row.1 s.dir.1 s.dee.1 s.pas.1 s.mem.2.1 s.loc.2.1 s.row.2.1 s.dir.2.1 s.dee.2.1 s.pas.2.1 s.mem.2.2 s.loc.2.2 s.row.2.2 s.dir.2.2 s.dee.2.2 s.pas.2.2 w (risingP 64 RowP.may RowP.less x.row) (risingP 64 dirMay dirLess x.dir) (risingP 64 deeMay deeLess x.dee) (risingP 256 pasMay ltP x.pas) ?_ ?_ ?_ ?_
 ·intro w' hu;have h:=risingR_ok (hr1.up hu) (by have:=hm.rl;rw[←hr2,qlm]at this;exact this) 64 (by omega) (fun r=>r.p.may) (fun a b=>RowP.less a.p b.p) (fun q hq w'' hu'=>row_ok q hu' ((hr3 q hq).up hu) (hm.rb _ (hrm q hq)).1 (hm.rb _ (hrm q hq)).2) (fun a _ b _ w'' _=>rowless_ok a b w'')
  rw[risingP_map (fun r:RowW=>r.p) 64 RowP.may RowP.less,hr2]at h;exact h
 ·intro w' hu;exact risingD_ok (hE.dir.up hu) hm.dl 64 (by omega) dirMay dirLess (fun q _ w'' _=>dirmay_ok q w'') (fun a _ b _ w'' _=>dirless_ok a b w'')
 ·intro w' hu;have h:=risingE_ok (he1.up hu) (by have:=hm.el;rw[←he2,qlm]at this;exact this) 64 (by omega) (fun r=>deeMay r.p) (fun a b=>deeLess a.p b.p) (fun q hq w'' hu'=>deemay_ok q hu' ((he3 q hq).up hu) (hm.eb _ (hem q hq))) (fun a _ b _ w'' _=>deeless_ok a b w'')
  rw[risingP_map (fun r:DeedV=>r.p) 64 deeMay deeLess,he2]at h;exact h
 ·intro w' hu;exact risingI_ok (hE.pas.up hu) hm.pl 256 (by omega) pasMay ltP 151 152 cf_check6 cf_lower (fun q _ w'' _=>pasmay_ok q w'') (fun a _ b _ w'' _=>lower_ok a b w'')
theorem spare_ok(hk:kindP x.kind=true)(hE:RecE w x s)(hm:x.mild):Calls Tryz.prog 102 #[.agg (x.rv s).cells.toArray] w (BoolP x.spare w):=by
 have l1:=hE.mem.len;have l2:=hE.loc.len;have l4:=hE.dir.len;have l6:=hE.pas.len;obtain⟨rs,hr1,hr2,hr3⟩:=hE.row;obtain⟨ds,he1,he2,he3⟩:=hE.dee;have l3:s.row.2.1=x.row.length:=by rw[hr1.len,←hr2,qlm]
 have l5:s.dee.2.1=x.dee.length:=by rw[he1.len,←he2,qlm]
 have hb:∀k,x.kind=k→spareB (wantsP k) x.prev x.next x.key x.oh x.od x.nh x.nd x.coord s.mem.2.1 s.loc.2.1 s.row.2.1 s.dir.2.1 s.dee.2.1 s.pas.2.1=x.spare:=by
  rintro k rfl;rw[l1,l2,l3,l4,l5,l6];have e0:∀n:Int,(n != 0)=decide (n≠0):=fun n=>by by_cases h:n=0<;>simp[h]
  have e1:∀l:Bs,(l != [])=decide (l≠[]):=fun l=>by cases l<;>simp
  have e2:∀{α:Type} (l:List α),(((l.length:Nat):Int) != 0)=decide (l≠[]):=fun l=>by
   cases l with
   | nil=>rfl
   | cons a l=>
     rw[e0,decide_eq_decide];simp only[List.length_cons];exact⟨fun _ h=>(by cases h),fun _ h=>(by omega)⟩
  have e3:(((x.row.length:Nat):Int)+(x.dir.length:Nat)+(x.dee.length:Nat)+(x.pas.length:Nat) != 0)=decide (¬(x.row=[]∧x.dir=[]∧x.dee=[]∧x.pas=[])):=by
   rw[e0,decide_eq_decide];simp only[←List.length_eq_zero_iff];omega
  unfold spareB RecP.spare;simp only[e0 x.prev,e0 x.next,e0 x.coord,e1,e2 x.mem,e2 x.loc,e3]
 have i3:((s.row.2.1:Nat):Int)≤90000:=by have:=hm.rl;omega
 have i4:((s.dir.2.1:Nat):Int)≤90000:=by have:=hm.dl;omega
 have i5:((s.dee.2.1:Nat):Int)≤90000:=by have:=hm.el;omega
 have i6:((s.pas.2.1:Nat):Int)≤90000:=by have:=hm.pl;omega
 unfold kindP at hk;rw[Bool.and_eq_true,decide_eq_true_eq,decide_eq_true_eq]at hk
 rcases(by omega:x.kind=1∨x.kind=2∨x.kind=3∨x.kind=4∨x.kind=5∨x.kind=6∨x.kind=7∨x.kind=8∨x.kind=9∨x.kind=10) with e | e | e | e | e | e | e | e | e | e
 ·have h:=spare_a x s i3 i4 i5 i6 w (by rw[e];exact wants1_ok)
  have h2:=hb _ e;unfold wantsP at h2;simp only[Int.reduceEq,if_false,if_true,or_false]at h2;rw[h2]at h;exact h
 ·have h:=spare_b x s i3 i4 i5 i6 w (by rw[e];exact wants2_ok)
  have h2:=hb _ e;unfold wantsP at h2;simp only[Int.reduceEq,if_false,if_true,or_false]at h2;rw[h2]at h;exact h
 ·have h:=spare_c x s i3 i4 i5 i6 w (by rw[e];exact wants3_ok)
  have h2:=hb _ e;unfold wantsP at h2;simp only[Int.reduceEq,if_false,if_true,or_false]at h2;rw[h2]at h;exact h
 ·have h:=spare_d x s i3 i4 i5 i6 w (by rw[e];exact wants4_ok)
  have h2:=hb _ e;unfold wantsP at h2;simp only[Int.reduceEq,if_false,if_true,or_false]at h2;rw[h2]at h;exact h
 ·have h:=spare_d x s i3 i4 i5 i6 w (by rw[e];exact wants5_ok)
  have h2:=hb _ e;unfold wantsP at h2;simp only[Int.reduceEq,if_false,if_true,or_false,or_true]at h2;rw[h2]at h;exact h
 ·have h:=spare_d x s i3 i4 i5 i6 w (by rw[e];exact wants6_ok)
  have h2:=hb _ e;unfold wantsP at h2;simp only[Int.reduceEq,if_false,if_true,or_true]at h2;rw[h2]at h;exact h
 ·have h:=spare_e x s i3 i4 i5 i6 w (by rw[e];exact wants7_ok)
  have h2:=hb _ e;unfold wantsP at h2;simp only[Int.reduceEq,if_false,or_false]at h2;rw[h2]at h;exact h
 ·have h:=spare_f x s i3 i4 i5 i6 w (by rw[e];exact wants8_ok)
  have h2:=hb _ e;unfold wantsP at h2;simp only[Int.reduceEq,if_false,if_true,or_false]at h2;rw[h2]at h;exact h
 ·have h:=spare_g x s i3 i4 i5 i6 w (by rw[e];exact wants9_ok)
  have h2:=hb _ e;unfold wantsP at h2;simp only[Int.reduceEq,if_false,if_true,or_false]at h2;rw[h2]at h;exact h
 ·have h:=spare_e x s i3 i4 i5 i6 w (by rw[e];exact wants10_ok)
  have h2:=hb _ e;unfold wantsP at h2;simp only[Int.reduceEq,if_false,or_false]at h2;rw[h2]at h;exact h
theorem may_ok(hE:RecE w x s)(hm:x.mild):Calls Tryz.prog 68 #[.agg (x.rv s).cells.toArray] w (BoolP x.may w):=by
 have h:=may_walk x.kind x.tx x.prev x.next x.coord x.key x.od x.nd x.oh x.nh s.mem.1 s.loc.1 s.row.1 s.dir.1 s.dee.1 s.pas.1 s.mem.2.1 s.loc.2.1 s.row.2.1 s.dir.2.1 s.dee.2.1 s.pas.2.1 s.mem.2.2 s.loc.2.2 s.row.2.2 s.dir.2.2 s.dee.2.2 s.pas.2.2 w (kindP x.kind) x.spare x.check (keyP x.key) (valueP x.oh x.od) (valueP x.nh x.nd) (seqP x.tx 1) (seqP x.prev 0) (seqP x.next 0) (nodeP x.coord) (membersP x.mem) (locksP x.loc)
  (fun w' _=>kind_ok _ w') (fun hk w' hu=>spare_ok hk (hE.up hu) hm) (fun w' hu=>check_ok (hE.up hu) hm) (fun w' _=>reckey_ok2 _ w') (fun w' _=>recvalue_ok2 _ _ w') (fun w' _=>recvalue_ok2 _ _ w')
  (fun w' _=>seq_ok _ _ w') (fun w' _=>seq_ok _ _ w') (fun w' _=>seq_ok _ _ w') (fun w' _=>node_ok _ w') (fun w' hu=>members_ok (hE.mem.up hu) hm.ml) (fun w' hu=>reclocks_ok (hE.loc.up hu) hm.ll)
 exact h
end
theorem rises_may{α:Type}{may:α→Bool}{less:α→α→Bool}:∀{p:Option α} {l:List α},risesP may less p l=true→∀x∈l,may x=true:=by
 intro p l
 induction l generalizing p with
 | nil=>intro _ x hx;cases hx
 | cons a l ih=>
   intro h x hx;simp only[risesP,Bool.and_eq_true]at h
   rcases qmc.1 hx with rfl | hx
   ·exact h.1.1
   ·exact ih h.2 x hx
theorem rising_parts{α:Type}{most:Nat}{may:α→Bool}{less:α→α→Bool}{l:List α}(h:risingP most may less l=true):l.length≤most∧∀x∈l,may x=true:=by
 unfold risingP at h;rw[Bool.and_eq_true,decide_eq_true_eq]at h;exact⟨h.1,rises_may h.2⟩
theorem seqP_parts{n l:Int}(h:seqP n l=true):l≤n∧n≤1099511627776:=by
 unfold seqP at h
 rwa [Bool.and_eq_true,decide_eq_true_eq,decide_eq_true_eq]at h
theorem nodeP_parts{n:Int}(h:nodeP n=true):0≤n∧n<8:=by
 unfold nodeP at h
 rwa [Bool.and_eq_true,decide_eq_true_eq,decide_eq_true_eq]at h
theorem keyP_parts{s:Bs}(h:keyP s=true):s≠[]∧s.length≤16:=by
 unfold keyP at h
 rwa [Bool.and_eq_true,decide_eq_true_eq,decide_eq_true_eq]at h
theorem valueP_parts{b:Bool}{s:Bs}(h:valueP b s=true):s.length≤32∧(b=true∨s=[]):=by
 unfold valueP at h
 rwa [Bool.and_eq_true,decide_eq_true_eq,Bool.or_eq_true,decide_eq_true_eq]at h
theorem numZ_six{n:Int}(h:n≤1099511627776):(numZ n).length≤6:=shortB_len_le (k:=5) (by omega)
theorem numZ_one{n:Int}(h:n<128):(numZ n).length≤1:=shortB_len_le (k:=0) (by omega)
theorem numZ_two{n:Int}(h:n<16384):(numZ n).length≤2:=shortB_len_le (k:=1) (by omega)
theorem flat_bound{α:Type}(f:α→Bs)(c:Nat):∀(l:List α),(∀x∈l,(f x).length≤c)→(l.flatMap f).length≤l.length * c:=by
 intro l
 induction l with
 | nil=>intro _;simp
 | cons a l ih=>
   intro h;rw[List.flatMap_cons,qla,List.length_cons,Nat.succ_mul];have h1:=h a (List.mem_cons_self);have h2:=ih fun x hx=>h x (List.mem_cons_of_mem _ hx)
   omega
theorem listB_bound{α:Type}(f:α→Bs)(c k m:Nat)(l:List α)(hl:l.length≤m)(hk:∀n:Int,n≤m→(numZ n).length≤k)(h:∀x∈l,(f x).length≤c):(listB f l).length≤k+m * c:=by
 unfold listB;rw[qla];have h1:=hk l.length (by omega)
 have h2:=flat_bound f c l h;have h3:l.length * c≤m * c:=Nat.mul_le_mul_right _ hl;omega
theorem members_parts{l:List Int}(h:membersP l=true):l.length≤8∧(∀n∈l,Num63 n)∧(listB numZ l).length≤9:=by
 obtain⟨h1,h2⟩:=rising_parts h;refine⟨h1,fun n hn=> ?_,?_⟩
 ·have:=nodeP_parts (h2 n hn);exact⟨by omega,by omega⟩
 ·have:=listB_bound numZ 1 1 8 l h1 (fun n hn=>numZ_one (by omega)) (fun n hn=>numZ_one (by have:=nodeP_parts (h2 n hn);omega))
  omega
theorem locks_parts{l:List LockP}(h:locksP l=true):l.length≤64∧(∀x∈l,x.1.length≤16)∧(listB lockB l).length≤1153:=by
 obtain⟨h1,h2⟩:=rising_parts h;refine⟨h1,fun x hx=>(keyP_parts (h2 x hx)).2,?_⟩
 have:=listB_bound lockB 18 1 64 l h1 (fun n hn=>numZ_one (by omega)) (fun x hx=>by
  have h3:=(keyP_parts (h2 x hx)).2;unfold lockB textB flagB;have h4:(shortB x.1.length).length≤1:=shortB_len_le (k:=0) (by omega)
  simp only[qla,List.length_cons,List.length_nil];omega)
 omega
theorem row_parts{x:RowP}(h:x.may=true):x.good∧(rowB x).length≤1188:=by
 unfold RowP.may at h;simp only[Bool.and_eq_true,decide_eq_true_eq]at h;obtain⟨h0,h1,h2,h3,h4,h5,h6,h7,h8⟩:=h;have h0:=seqP_parts h0;have h3:=seqP_parts h3;have h4:=seqP_parts h4;have h5:=seqP_parts h5;have h6:=nodeP_parts h6;have h7:=members_parts h7;have h8:=locks_parts h8;refine⟨⟨⟨by omega,by omega⟩,⟨by omega,by omega⟩,⟨by omega,by omega⟩,⟨by omega,by omega⟩,⟨by omega,by omega⟩,⟨by omega,by omega⟩,by omega,h7.2.1,by omega,fun y hy=>by have:=h8.2.1 y hy;omega⟩,?_⟩
 unfold rowB;have b0:=numZ_six h0.2;have b1:=numZ_one (n:=x.state) (by omega)
 have b3:=numZ_six h3.2;have b4:=numZ_six h4.2;have b5:=numZ_six h5.2;have b6:=numZ_one (n:=x.coord) (by omega)
 have b7:=h7.2.2;have b8:=h8.2.2;simp only[qla];omega
theorem num63_zero:Num63 0:=⟨by omega,by omega⟩
theorem num63_seq{n l:Int}(hl:0≤l)(h:seqP n l=true):Num63 n:=by
 have:=seqP_parts h;exact⟨by omega,by omega⟩
theorem spare_none{x:RecP}(h:x.spare=false):((wantsP x.kind).prev=true→x.prev=0)∧((wantsP x.kind).next=true→x.next=0)∧((wantsP x.kind).key=true→x.key=[])∧((wantsP x.kind).old=true→x.oh=false∧x.od=[])∧((wantsP x.kind).new=true→x.nh=false∧x.nd=[])∧
 ((wantsP x.kind).coord=true→x.coord=0)∧((wantsP x.kind).mem=true→x.mem=[])∧((wantsP x.kind).loc=true→x.loc=[])∧((wantsP x.kind).lists=true→x.row=[]∧x.dir=[]∧x.dee=[]∧x.pas=[]):=by
 unfold RecP.spare at h;simp only[Bool.or_eq_false_iff,Bool.and_eq_false_iff,decide_eq_false_iff_not,Decidable.not_not]at h;obtain⟨h1,h2,h3,h4,h5,h6,h7,h8,h9⟩:=h;have g:∀{b:Bool} {p:Prop},(b=false∨p)→b=true→p:=fun h hb=>by rcases h with h | h;rw[h]at hb;cases hb;exact h
 exact⟨g h1,g h2,g h3,g h4,g h5,g h6,g h7,g h8,g h9⟩
theorem RecP.good_of_may{x:RecP}(h:x.may=true):x.good:=by
 unfold RecP.may at h;by_cases hks:kindP x.kind=false∨x.spare=true
 ·rw[if_pos hks]at h;cases h
 rw[if_neg hks]at h
 have hk:kindP x.kind=true:=by
  cases e:kindP x.kind
  ·exact absurd (.inl e) hks
  ·rfl
 have hs:x.spare=false:=by
  cases e:x.spare
  ·rfl
  ·exact absurd (.inr e) hks
 clear hks;obtain⟨s1,s2,s3,s4,s5,s6,s7,s8,s9⟩:=spare_none hs;unfold kindP at hk;rw[Bool.and_eq_true,decide_eq_true_eq,decide_eq_true_eq]at hk;have hkind:Num63 x.kind:=⟨by omega,by omega⟩
 have bk:(numZ x.kind).length≤1:=numZ_one (by omega)
 have nilL:∀{α:Type} {l:List α} {P:α→Prop},l=[]→∀y∈l,P y:=fun e y hy=>by rw[e]at hy;cases hy
 have len0:∀{α:Type} {l:List α},l=[]→l.length=0:=fun e=>by rw[e];rfl
 by_cases h8:x.kind=8
 ·rw[if_pos (.inr h8),Bool.and_eq_true,decide_eq_true_eq]at h;obtain⟨htx,hch⟩:=h;rw[h8]at s1 s2 s3 s4 s5 s6 s7 s8 s9;have w8:wantsP 8=⟨true,true,true,true,true,true,true,true,false⟩:=rfl;rw[w8]at s1 s2 s3 s4 s5 s6 s7 s8 s9
  replace s1:=s1 rfl
  replace s2:=s2 rfl
  replace s3:=s3 rfl
  replace s4:=s4 rfl
  replace s5:=s5 rfl
  replace s6:=s6 rfl
  replace s7:=s7 rfl
  replace s8:=s8 rfl
  unfold RecP.check at hch;simp only[Bool.and_eq_true]at hch;obtain⟨c1,c2,c3,c4⟩:=hch;obtain⟨c1,d1⟩:=rising_parts c1;obtain⟨c2,d2⟩:=rising_parts c2;obtain⟨c3,d3⟩:=rising_parts c3;obtain⟨c4,d4⟩:=rising_parts c4
  have d2':∀d∈x.dir,(0≤d.1∧d.1<64)∧1≤d.2∧d.2≤1099511627776:=fun d hd=>by
   have:=d2 d hd;unfold dirMay at this;simp only[Bool.and_eq_true,decide_eq_true_eq]at this;exact⟨⟨this.1,this.2.1⟩,seqP_parts this.2.2⟩
  have d3':∀d∈x.dee,(1≤d.1∧d.1≤1099511627776)∧d.2.length≤8∧(∀n∈d.2,Num63 n)∧(listB numZ d.2).length≤9:=fun d hd=>by
   have:=d3 d hd;unfold deeMay at this;simp only[Bool.and_eq_true]at this;exact⟨seqP_parts this.1,members_parts this.2⟩
  refine⟨hkind,by rw[htx];exact num63_zero,by rw[s1];exact num63_zero,by rw[s2];exact num63_zero,by rw[s6];exact num63_zero,by rw[s3];simp,by rw[s4.2];simp,by rw[s5.2];simp,by rw[s7];simp,nilL s7,by rw[s8];simp,nilL s8,by omega,fun r hr=>(row_parts (d1 r hr)).1,
   by omega,fun d hd=>by have:=d2' d hd;exact⟨⟨by omega,by omega⟩,⟨by omega,by omega⟩⟩,by omega,fun d hd=>by have:=d3' d hd;exact⟨⟨by omega,by omega⟩,by omega,this.2.2.1⟩,by omega,fun n hn=>num63_seq (by omega) (d4 n hn),?_⟩
  have e1:=listB_bound rowB 1188 1 64 x.row c1 (fun n hn=>numZ_one (by omega)) fun r hr=>(row_parts (d1 r hr)).2
  have e2:=listB_bound dirB 7 1 64 x.dir c2 (fun n hn=>numZ_one (by omega)) fun d hd=>by
   have:=d2' d hd;have b0:=numZ_one (n:=d.1) (by omega)
   have b1:=numZ_six (n:=d.2) (by omega)
   unfold dirB;rw[qla];omega
  have e3:=listB_bound deeB 15 1 64 x.dee c3 (fun n hn=>numZ_one (by omega)) fun d hd=>by
   have:=d3' d hd;have b0:=numZ_six (n:=d.1) (by omega)
   unfold deeB;rw[qla];omega
  have e4:=listB_bound numZ 6 2 256 x.pas c4 (fun n hn=>numZ_two (by omega)) fun n hn=>numZ_six (seqP_parts (d4 n hn)).2
  unfold RecP.bytes RecP.fieldsB;rw[h8]at bk ⊢;simp only[Int.reduceEq,if_false,if_true,or_false,qla];omega
 have s9':x.row=[]∧x.dir=[]∧x.dee=[]∧x.pas=[]:=s9 (by unfold wantsP;repeat' split
                                                      all_goals first | rfl | omega)
 obtain⟨r1,r2,r3,r4⟩:=s9';by_cases h7:x.kind=7
 ·rw[if_pos (.inl h7),Bool.and_eq_true,decide_eq_true_eq]at h;obtain⟨htx,hch⟩:=h;rw[h7]at s1 s2 s3 s4 s5 s6 s7 s8;have w7:wantsP 7=⟨true,true,true,true,true,true,true,true,true⟩:=rfl;rw[w7]at s1 s2 s3 s4 s5 s6 s7 s8
  replace s1:=s1 rfl
  replace s2:=s2 rfl
  replace s3:=s3 rfl
  replace s4:=s4 rfl
  replace s5:=s5 rfl
  replace s6:=s6 rfl
  replace s7:=s7 rfl
  replace s8:=s8 rfl
  refine⟨hkind,by rw[htx];exact num63_zero,by rw[s1];exact num63_zero,by rw[s2];exact num63_zero,by rw[s6];exact num63_zero,by rw[s3];simp,by rw[s4.2];simp,by rw[s5.2];simp,by rw[s7];simp,nilL s7,by rw[s8];simp,nilL s8,by rw[r1];simp,nilL r1,by rw[r2];simp,nilL r2,by rw[r3];simp,nilL r3,by rw[r4];simp,nilL r4,?_⟩
  unfold RecP.bytes RecP.fieldsB;rw[h7]at bk ⊢;simp only[Int.reduceEq,if_false,or_false,qla,List.length_nil];omega
 rw[if_neg (by omega)]at h
 by_cases h12:(x.kind=1∨x.kind=2)∧¬(keyP x.key=true∧valueP x.oh x.od=true∧valueP x.nh x.nd=true)
 ·rw[if_pos h12]at h;cases h
 rw[if_neg h12]at h;simp only[Bool.and_eq_true]at h;obtain⟨t1,t2,t3,t4,t5,t6⟩:=h;have u4:=nodeP_parts t4;have u5:=members_parts t5;have u6:=locks_parts t6;have ht1:=seqP_parts t1;have ht2:=seqP_parts t2;have ht3:=seqP_parts t3
 have hkv:x.key.length≤16∧x.od.length≤32∧x.nd.length≤32:=by
  by_cases hh:x.kind=1∨x.kind=2
  ·have:keyP x.key=true∧valueP x.oh x.od=true∧valueP x.nh x.nd=true:=Decidable.of_not_not fun hn=>h12 ⟨hh,hn⟩
   exact⟨(keyP_parts this.1).2,(valueP_parts this.2.1).1,(valueP_parts this.2.2).1⟩
  ·have hw:(wantsP x.kind).key=true∧(wantsP x.kind).old=true∧(wantsP x.kind).new=true:=by
    unfold wantsP
    repeat' split
    all_goals first | exact⟨rfl,rfl,rfl⟩ | omega
   rw[s3 hw.1,(s4 hw.2.1).2,(s5 hw.2.2).2];simp
 refine⟨hkind,num63_seq (by omega) t1,num63_seq (by omega) t2,num63_seq (by omega) t3,⟨by omega,by omega⟩,by omega,by omega,by omega,by omega,u5.2.1,by omega,fun y hy=>by have:=u6.2.1 y hy;omega,by rw[r1];simp,nilL r1,by rw[r2];simp,nilL r2,by rw[r3];simp,nilL r3,by rw[r4];simp,nilL r4,?_⟩
 have f1:=numZ_six ht1.2;have f2:=numZ_six ht2.2;have f3:=numZ_six ht3.2;have f4:=numZ_one (n:=x.coord) (by omega)
 have f5:=u5.2.2;have f6:=u6.2.2
 have f7:∀s:Bs,s.length≤32→(textB s).length≤33:=fun s hs=>by
  unfold textB;have:(shortB s.length).length≤1:=shortB_len_le (k:=0) (by omega)
  rw[qla];omega
 have f8:∀(b:Bool) (s:Bs),s.length≤32→(valB b s).length≤34:=fun b s hs=>by
  unfold valB flagB;have:=f7 s hs;rw[qla];split
  ·rw[qls];omega
  ·simp
 have g1:=f7 x.key (by omega)
 have g2:=f8 x.oh x.od hkv.2.1;have g3:=f8 x.nh x.nd hkv.2.2;unfold RecP.bytes RecP.fieldsB;rw[qla]
 repeat' split
 all_goals first | omega | (simp only[qla];omega)
theorem enc_ok{w:World}{x:RecP}{s:Sls}(hE:RecE w x s)(hm:x.mild):EncAt w (x.rv s) x.enc.1 x.enc.2:=by
 intro w' hu
 have he:encB x.may (if x.may=true then x.bytes else [])=x.enc:=by
  unfold encB RecP.enc
  cases x.may<;>simp
 have h:=encode_walk x.kind x.tx x.prev x.next x.coord x.key x.od x.nd x.oh x.nh s.mem.1 s.loc.1 s.row.1 s.dir.1 s.dee.1 s.pas.1 s.mem.2.1 s.loc.2.1 s.row.2.1 s.dir.2.1 s.dee.2.1 s.pas.2.1 s.mem.2.2 s.loc.2.2 s.row.2.2 s.dir.2.2 s.dee.2.2 s.pas.2.2 w' x.may (if x.may=true then x.bytes else []) (by
  cases hm:x.may with
  | false=>simp
  | true=>
    have:=(RecP.good_of_may hm).len;simp only[if_true];omega) (fun w2 hu2=>may_ok (hE.up (hu.same hu2)) hm) (fun hmay w2 hu2=>by
  have hg:=RecP.good_of_may hmay
  have hk:kindP x.kind=true:=by
   unfold RecP.may at hmay
   cases e:kindP x.kind
   ·rw[if_pos (.inl e)]at hmay;cases hmay
   ·rfl
  rw[if_pos hmay];exact bytes_ok x s hk (hE.up (hu.same hu2)) hg)
 rw[he]at h;exact h
end Go.Proofs.YtljmmkjdlcfkpaaGreatDoor
