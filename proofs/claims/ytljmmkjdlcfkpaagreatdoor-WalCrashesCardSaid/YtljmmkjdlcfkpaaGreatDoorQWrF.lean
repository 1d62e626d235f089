/-
  Layer 7: a record's bytes are read back.
-/
import Derived.Test.YtljmmkjdlcfkpaaGreatDoorQWrE
import Derived.Test.YtljmmkjdlcfkpaaGreatDoorQWqH
import Derived.Test.YtljmmkjdlcfkpaaGreatDoorQWm9
set_option maxRecDepth 100000
set_option maxHeartbeats 4000000
namespace Go.Proofs.YtljmmkjdlcfkpaaGreatDoor
open Go Go.RowKit
theorem RecN.far{B B':Nat}{w:World}{x:RecP}{s:Sls}(h:RecN B w x s)(hB:B'≤B):RecN B' w x s:=by
 have go:∀{TE sz:Nat} {α:Type} {cells:α→List Value} {v:Value} {L:List α},OwnR TE cells sz B w v L→OwnR TE cells sz B' w v L:=fun h=>h.far fun k hk=>Nat.le_trans hB (h.new k hk)
 obtain⟨rs,a1,a2,a3⟩:=h.row;obtain⟨ds,b1,b2,b3⟩:=h.dee;exact⟨go h.mem,go h.loc,⟨rs,go a1,a2,fun q hq=>⟨go (a3 q hq).1,go (a3 q hq).2⟩⟩,go h.dir,⟨ds,go b1,b2,fun q hq=>go (b3 q hq)⟩,go h.pas⟩
structure RecP.readable(x:RecP):Prop where
 htx:0≤x.tx∧x.tx≤1099511627776
 hprev:0≤x.prev∧x.prev≤1099511627776
 hnext:0≤x.next∧x.next≤1099511627776
 hcoord:0≤x.coord∧x.coord≤1099511627776
 hkey:x.key.length≤32
 hod:x.od.length≤32
 hoe:x.oh=false→x.od=[]
 hnd:x.nd.length≤32
 hne:x.nh=false→x.nd=[]
 hml:x.mem.length≤256
 hmb:∀n∈x.mem,0≤n∧n≤1099511627776
 hll:x.loc.length≤256
 hlb:∀y∈x.loc,y.1.length≤32
 hrl:x.row.length≤256
 hrowb:∀r∈x.row,r.readable
 hdl:x.dir.length≤256
 hdb:∀d∈x.dir,∀n∈([d.1,d.2]:List Int),0≤n∧n≤1099511627776
 hel:x.dee.length≤256
 heb:∀d∈x.dee,(0≤d.1∧d.1≤1099511627776)∧d.2.length≤256∧∀n∈d.2,0≤n∧n≤1099511627776
 hpl:x.pas.length≤256
 hpb:∀n∈x.pas,0≤n∧n≤1099511627776
theorem members_read{l:List Int}(h:membersP l=true):l.length≤256∧∀n∈l,0≤n∧n≤1099511627776:=by
 obtain⟨h1,h2⟩:=rising_parts h;exact⟨by omega,fun n hn=>by have:=nodeP_parts (h2 n hn);omega⟩
theorem locks_read{l:List LockP}(h:locksP l=true):l.length≤256∧∀x∈l,x.1.length≤32:=by
 have:=locks_parts h;exact⟨by omega,fun x hx=>by have:=this.2.1 x hx;omega⟩
theorem row_read{x:RowP}(h:x.may=true):x.readable:=by
 unfold RowP.may at h;simp only[Bool.and_eq_true,decide_eq_true_eq]at h;obtain⟨h0,h1,h2,h3,h4,h5,h6,h7,h8⟩:=h;have h0:=seqP_parts h0;have h3:=seqP_parts h3;have h4:=seqP_parts h4;have h5:=seqP_parts h5;have h6:=nodeP_parts h6;have h7:=members_read h7;have h8:=locks_read h8;refine⟨?_,h7.1,h7.2,h8.1,h8.2⟩;intro n hn;simp only[qmc,List.not_mem_nil,or_false]at hn
 rcases hn with rfl | rfl | rfl | rfl | rfl | rfl<;>omega
theorem RecP.kind_of_may{x:RecP}(h:x.may=true):kindP x.kind=true∧x.spare=false:=by
 unfold RecP.may at h;by_cases hks:kindP x.kind=false∨x.spare=true
 ·rw[if_pos hks]at h;cases h
 constructor
 ·cases e:kindP x.kind
  ·exact absurd (.inl e) hks
  ·rfl
 ·cases e:x.spare
  ·rfl
  ·exact absurd (.inr e) hks
theorem RecP.readable_of_may{x:RecP}(h:x.may=true):x.readable:=by
 obtain⟨hk,hs⟩:=RecP.kind_of_may h;unfold RecP.may at h;rw[if_neg (by rw[hk,hs];simp)]at h
 obtain⟨s1,s2,s3,s4,s5,s6,s7,s8,s9⟩:=spare_none hs;unfold kindP at hk;rw[Bool.and_eq_true,decide_eq_true_eq,decide_eq_true_eq]at hk;have nilL:∀{α:Type} {l:List α} {P:α→Prop},l=[]→∀y∈l,P y:=fun e y hy=>by rw[e]at hy;cases hy
 by_cases h8:x.kind=8
 ·rw[if_pos (.inr h8),Bool.and_eq_true,decide_eq_true_eq]at h;obtain⟨htx,hch⟩:=h;rw[h8]at s1 s2 s3 s4 s5 s6 s7 s8 s9;have w8:wantsP 8=⟨true,true,true,true,true,true,true,true,false⟩:=rfl;rw[w8]at s1 s2 s3 s4 s5 s6 s7 s8 s9
  replace s1:=s1 rfl
  replace s2:=s2 rfl
  replace s3:=s3 rfl
  replace s4:=s4 rfl
  replace s5:=s5 rfl
  replace s6:=s6 rfl
  replace s7:=s7 rfl
  replace s8:=s8 rfl
  unfold RecP.check at hch;simp only[Bool.and_eq_true]at hch;obtain⟨c1,c2,c3,c4⟩:=hch;obtain⟨c1,d1⟩:=rising_parts c1;obtain⟨c2,d2⟩:=rising_parts c2;obtain⟨c3,d3⟩:=rising_parts c3;obtain⟨c4,d4⟩:=rising_parts c4;refine⟨by omega,by omega,by omega,by omega,by rw[s3];simp,by rw[s4.2];simp,fun _=>s4.2,by rw[s5.2];simp,fun _=>s5.2,by rw[s7];simp,nilL s7,by rw[s8];simp,nilL s8,by omega,fun r hr=>row_read (d1 r hr),by omega,fun d hd n hn=> ?_,by omega,fun d hd=> ?_,by omega,fun n hn=>by have:=seqP_parts (d4 n hn);omega⟩
  ·have:=d2 d hd;unfold dirMay at this;simp only[Bool.and_eq_true,decide_eq_true_eq]at this;have h3:=seqP_parts this.2.2;simp only[qmc,List.not_mem_nil,or_false]at hn
   rcases hn with rfl | rfl<;>omega
  ·have:=d3 d hd;unfold deeMay at this;simp only[Bool.and_eq_true]at this;have h3:=seqP_parts this.1;have h4:=members_read this.2;exact⟨by omega,h4.1,h4.2⟩
 have s9':x.row=[]∧x.dir=[]∧x.dee=[]∧x.pas=[]:=s9 (by unfold wantsP;repeat' split
                                                      all_goals first | rfl | omega)
 obtain⟨r1,r2,r3,r4⟩:=s9';by_cases h7:x.kind=7
 ·rw[if_pos (.inl h7),Bool.and_eq_true,decide_eq_true_eq]at h;obtain⟨htx,hch⟩:=h;rw[h7]at s1 s2 s3 s4 s5 s6 s7 s8;have w7:wantsP 7=⟨true,true,true,true,true,true,true,true,true⟩:=rfl;rw[w7]at s1 s2 s3 s4 s5 s6 s7 s8
  replace s1:=s1 rfl
  replace s2:=s2 rfl
  replace s3:=s3 rfl
  replace s4:=s4 rfl
  replace s5:=s5 rfl
  replace s6:=s6 rfl
  replace s7:=s7 rfl
  replace s8:=s8 rfl
  exact⟨by omega,by omega,by omega,by omega,by rw[s3];simp,by rw[s4.2];simp,fun _=>s4.2,by rw[s5.2];simp,fun _=>s5.2,by rw[s7];simp,nilL s7,by rw[s8];simp,nilL s8,by rw[r1];simp,nilL r1,by rw[r2];simp,nilL r2,by rw[r3];simp,nilL r3,by rw[r4];simp,nilL r4⟩
 rw[if_neg (by omega)]at h
 by_cases h12:(x.kind=1∨x.kind=2)∧¬(keyP x.key=true∧valueP x.oh x.od=true∧valueP x.nh x.nd=true)
 ·rw[if_pos h12]at h;cases h
 rw[if_neg h12]at h;simp only[Bool.and_eq_true]at h;obtain⟨t1,t2,t3,t4,t5,t6⟩:=h;have u4:=nodeP_parts t4;have u5:=members_read t5;have u6:=locks_read t6;have ht1:=seqP_parts t1;have ht2:=seqP_parts t2;have ht3:=seqP_parts t3
 have hkv:(x.key.length≤32∧x.od.length≤32∧x.nd.length≤32)∧(x.oh=false→x.od=[])∧(x.nh=false→x.nd=[]):=by
  by_cases hh:x.kind=1∨x.kind=2
  ·have:keyP x.key=true∧valueP x.oh x.od=true∧valueP x.nh x.nd=true:=Decidable.of_not_not fun hn=>h12 ⟨hh,hn⟩
   have v0:=keyP_parts this.1;have v1:=valueP_parts this.2.1;have v2:=valueP_parts this.2.2;exact⟨⟨by omega,v1.1,v2.1⟩,fun e=>by rcases v1.2 with h | h;rw[e]at h;cases h;exact h,fun e=>by rcases v2.2 with h | h;rw[e]at h;cases h;exact h⟩
  ·have hw:(wantsP x.kind).key=true∧(wantsP x.kind).old=true∧(wantsP x.kind).new=true:=by
    unfold wantsP
    repeat' split
    all_goals first | exact⟨rfl,rfl,rfl⟩ | omega
   rw[s3 hw.1,(s4 hw.2.1).2,(s5 hw.2.2).2];simp
 exact⟨by omega,by omega,by omega,by omega,hkv.1.1,hkv.1.2.1,hkv.2.1,hkv.1.2.2,hkv.2.2,u5.1,u5.2,u6.1,u6.2,by rw[r1];simp,nilL r1,by rw[r2];simp,nilL r2,by rw[r3];simp,nilL r3,by rw[r4];simp,nilL r4⟩
theorem RecP.mild_of_good{x:RecP}(h:x.good):x.mild:=
 ⟨by have:=h.ml;omega,by have:=h.ll;omega,by have:=h.rl;omega,fun r hr=>by have:=h.rb r hr;exact⟨by have:=this.ml;omega,by have:=this.ll;omega⟩,by have:=h.dl;omega,by have:=h.el;omega,fun d hd=>by have:=h.eb d hd;omega,by have:=h.pl;omega⟩
theorem fields_r{R X B:Nat}{rest:Bs}{w:World}(x:RecP)(hmay:x.may=true)(hX:X≠R)(hB0:B≤w.heap.size)(hRB:R<B)(hb:Blk w X 38 #[.int .i64 x.kind,.int .i64 0,.int .i64 0,.int .i64 0,strV [],.bool false,strV [],.bool false,strV [],.int .i64 0,.slice none 0 0,.slice none 0 0,.slice none 0 0,.slice none 0 0,.slice none 0 0,.slice none 0 0])(h:RAt w R (x.fieldsB++rest,0))(hl:(x.fieldsB++rest).length≤1000000):
 Calls Tryz.prog 75 #[cR R,.pointer (some ⟨X,0,none⟩)] w (FldP R X B x rest w):=by
 obtain⟨hk,hs⟩:=RecP.kind_of_may hmay;have hr:=RecP.readable_of_may hmay;obtain⟨s1,s2,s3,s4,s5,s6,s7,s8,s9⟩:=spare_none hs
 have htx:x.kind=7∨x.kind=8→x.tx=0:=fun hh=>by
  unfold RecP.may at hmay;rw[if_neg (by rw[hk,hs];simp),if_pos hh,Bool.and_eq_true,decide_eq_true_eq]at hmay
  exact hmay.1
 unfold kindP at hk;rw[Bool.and_eq_true,decide_eq_true_eq,decide_eq_true_eq]at hk;clear hmay hs;obtain⟨htx',hprev,hnext,hcoord,hkey,hod,hoe,hnd,hne,hml,hmb,hll,hlb,hrl,hrowb,hdl,hdb,hel,heb,hpl,hpb⟩:=hr;obtain⟨kind,tx,prev,next,key,oh,od,nh,nd,coord,mem,loc,row,dir,dee,pas⟩:=x;simp only at*
 rcases(by omega:kind=1∨kind=2∨kind=3∨kind=4∨kind=5∨kind=6∨kind=7∨kind=8∨kind=9∨kind=10) with rfl | rfl | rfl | rfl | rfl | rfl | rfl | rfl | rfl | rfl
 ·have hw:wantsP 1=⟨false,true,false,false,false,true,true,true,true⟩:=rfl;rw[hw]at s1 s2 s3 s4 s5 s6 s7 s8 s9;obtain rfl:=s2 rfl;obtain rfl:=s6 rfl;obtain rfl:=s7 rfl;obtain rfl:=s8 rfl;obtain⟨rfl,rfl,rfl,rfl⟩:=s9 rfl;refine kfields1_r hX hB0 hRB hb htx' hprev hkey hod hoe hnd hne ?_ ?_
  ·have:=h;simp[RecP.fieldsB]at this ⊢;exact this
  ·have:=hl;simp[RecP.fieldsB]at this ⊢;omega
 ·have hw:wantsP 2=⟨false,false,false,true,false,true,true,true,true⟩:=rfl;rw[hw]at s1 s2 s3 s4 s5 s6 s7 s8 s9;obtain⟨rfl,rfl⟩:=s4 rfl;obtain rfl:=s6 rfl;obtain rfl:=s7 rfl;obtain rfl:=s8 rfl;obtain⟨rfl,rfl,rfl,rfl⟩:=s9 rfl;refine kfields2_r hX hB0 hRB hb htx' hprev hnext hkey hnd hne ?_ ?_
  ·have:=h;simp[RecP.fieldsB]at this ⊢;exact this
  ·have:=hl;simp[RecP.fieldsB]at this ⊢;omega
 ·have hw:wantsP 3=⟨false,true,true,true,true,false,false,false,true⟩:=rfl;rw[hw]at s1 s2 s3 s4 s5 s6 s7 s8 s9;obtain rfl:=s2 rfl;obtain rfl:=s3 rfl;obtain⟨rfl,rfl⟩:=s4 rfl;obtain⟨rfl,rfl⟩:=s5 rfl;obtain⟨rfl,rfl,rfl,rfl⟩:=s9 rfl;refine kfields3_r hX hB0 hRB hb htx' hprev hcoord hml hmb hll hlb ?_ ?_
  ·have:=h;simp[RecP.fieldsB]at this ⊢;exact this
  ·have:=hl;simp[RecP.fieldsB]at this ⊢;omega
 ·have hw:wantsP 4=⟨false,true,true,true,true,true,true,true,true⟩:=rfl;rw[hw]at s1 s2 s3 s4 s5 s6 s7 s8 s9;obtain rfl:=s2 rfl;obtain rfl:=s3 rfl;obtain⟨rfl,rfl⟩:=s4 rfl;obtain⟨rfl,rfl⟩:=s5 rfl;obtain rfl:=s6 rfl;obtain rfl:=s7 rfl;obtain rfl:=s8 rfl;obtain⟨rfl,rfl,rfl,rfl⟩:=s9 rfl;refine kfields4_r hX hB0 hRB hb htx' hprev ?_ ?_
  ·have:=h;simp[RecP.fieldsB]at this ⊢;exact this
  ·have:=hl;simp[RecP.fieldsB]at this ⊢;omega
 ·have hw:wantsP 5=⟨false,true,true,true,true,true,true,true,true⟩:=rfl;rw[hw]at s1 s2 s3 s4 s5 s6 s7 s8 s9;obtain rfl:=s2 rfl;obtain rfl:=s3 rfl;obtain⟨rfl,rfl⟩:=s4 rfl;obtain⟨rfl,rfl⟩:=s5 rfl;obtain rfl:=s6 rfl;obtain rfl:=s7 rfl;obtain rfl:=s8 rfl;obtain⟨rfl,rfl,rfl,rfl⟩:=s9 rfl;refine kfields5_r hX hB0 hRB hb htx' hprev ?_ ?_
  ·have:=h;simp[RecP.fieldsB]at this ⊢;exact this
  ·have:=hl;simp[RecP.fieldsB]at this ⊢;omega
 ·have hw:wantsP 6=⟨false,true,true,true,true,true,true,true,true⟩:=rfl;rw[hw]at s1 s2 s3 s4 s5 s6 s7 s8 s9;obtain rfl:=s2 rfl;obtain rfl:=s3 rfl;obtain⟨rfl,rfl⟩:=s4 rfl;obtain⟨rfl,rfl⟩:=s5 rfl;obtain rfl:=s6 rfl;obtain rfl:=s7 rfl;obtain rfl:=s8 rfl;obtain⟨rfl,rfl,rfl,rfl⟩:=s9 rfl;refine kfields6_r hX hB0 hRB hb htx' hprev ?_ ?_
  ·have:=h;simp[RecP.fieldsB]at this ⊢;exact this
  ·have:=hl;simp[RecP.fieldsB]at this ⊢;omega
 ·have hw:wantsP 7=⟨true,true,true,true,true,true,true,true,true⟩:=rfl;rw[hw]at s1 s2 s3 s4 s5 s6 s7 s8 s9;obtain rfl:=s1 rfl;obtain rfl:=s2 rfl;obtain rfl:=s3 rfl;obtain⟨rfl,rfl⟩:=s4 rfl;obtain⟨rfl,rfl⟩:=s5 rfl;obtain rfl:=s6 rfl;obtain rfl:=s7 rfl;obtain rfl:=s8 rfl;obtain⟨rfl,rfl,rfl,rfl⟩:=s9 rfl;obtain rfl:=htx (by omega)
  refine kfields7_r hX hB0 hRB hb  ?_ ?_
  ·have:=h;simp[RecP.fieldsB]at this ⊢;exact this
  ·have:=hl;simp[RecP.fieldsB]at this ⊢;omega
 ·have hw:wantsP 8=⟨true,true,true,true,true,true,true,true,false⟩:=rfl;rw[hw]at s1 s2 s3 s4 s5 s6 s7 s8 s9;obtain rfl:=s1 rfl;obtain rfl:=s2 rfl;obtain rfl:=s3 rfl;obtain⟨rfl,rfl⟩:=s4 rfl;obtain⟨rfl,rfl⟩:=s5 rfl;obtain rfl:=s6 rfl;obtain rfl:=s7 rfl;obtain rfl:=s8 rfl;obtain rfl:=htx (by omega)
  refine kfields8_r hX hB0 hRB hb hrl hrowb hdl hdb hel heb hpl hpb ?_ ?_
  ·have:=h;simp[RecP.fieldsB]at this ⊢;exact this
  ·have:=hl;simp[RecP.fieldsB]at this ⊢;omega
 ·have hw:wantsP 9=⟨true,true,true,true,true,true,false,true,true⟩:=rfl;rw[hw]at s1 s2 s3 s4 s5 s6 s7 s8 s9;obtain rfl:=s1 rfl;obtain rfl:=s2 rfl;obtain rfl:=s3 rfl;obtain⟨rfl,rfl⟩:=s4 rfl;obtain⟨rfl,rfl⟩:=s5 rfl;obtain rfl:=s6 rfl;obtain rfl:=s8 rfl;obtain⟨rfl,rfl,rfl,rfl⟩:=s9 rfl;refine kfields9_r hX hB0 hRB hb htx' hml hmb ?_ ?_
  ·have:=h;simp[RecP.fieldsB]at this ⊢;exact this
  ·have:=hl;simp[RecP.fieldsB]at this ⊢;omega
 ·have hw:wantsP 10=⟨true,true,true,true,true,true,true,true,true⟩:=rfl;rw[hw]at s1 s2 s3 s4 s5 s6 s7 s8 s9;obtain rfl:=s1 rfl;obtain rfl:=s2 rfl;obtain rfl:=s3 rfl;obtain⟨rfl,rfl⟩:=s4 rfl;obtain⟨rfl,rfl⟩:=s5 rfl;obtain rfl:=s6 rfl;obtain rfl:=s7 rfl;obtain rfl:=s8 rfl;obtain⟨rfl,rfl,rfl,rfl⟩:=s9 rfl;refine kfields10_r hX hB0 hRB hb htx' ?_ ?_
  ·have:=h;simp[RecP.fieldsB]at this ⊢;exact this
  ·have:=hl;simp[RecP.fieldsB]at this ⊢;omega
theorem zero_sets16(a0 a1 a2 a3 a4 a5 a6 a7 a8 a9 a10 a11 a12 a13 a14 a15:Value):((((((((((((((((zeroA.setIfInBounds 0 a0).setIfInBounds 1 a1).setIfInBounds 2 a2).setIfInBounds 3 a3).setIfInBounds 4 a4).setIfInBounds 5 a5).setIfInBounds 6 a6).setIfInBounds 7 a7).setIfInBounds 8 a8).setIfInBounds 9 a9).setIfInBounds 10 a10).setIfInBounds 11 a11).setIfInBounds 12 a12).setIfInBounds 13 a13).setIfInBounds 14 a14).setIfInBounds 15 a15)=#[a0,a1,a2,a3,a4,a5,a6,a7,a8,a9,a10,a11,a12,a13,a14,a15]:=by kernel_rfl
theorem zero_blk16{w:World}{g:Nat}(a0 a1 a2 a3 a4 a5 a6 a7 a8 a9 a10 a11 a12 a13 a14 a15:Value)(h:Blk w g 38 zeroA):Blk ((((((((((((((((w.setCell ⟨g,0,none⟩ a0).setCell ⟨g,1,none⟩ a1).setCell ⟨g,2,none⟩ a2).setCell ⟨g,3,none⟩ a3).setCell ⟨g,4,none⟩ a4).setCell ⟨g,5,none⟩ a5).setCell ⟨g,6,none⟩ a6).setCell ⟨g,7,none⟩ a7).setCell ⟨g,8,none⟩ a8).setCell ⟨g,9,none⟩ a9).setCell ⟨g,10,none⟩ a10).setCell ⟨g,11,none⟩ a11).setCell ⟨g,12,none⟩ a12).setCell ⟨g,13,none⟩ a13).setCell ⟨g,14,none⟩ a14).setCell ⟨g,15,none⟩ a15) g 38 #[a0,a1,a2,a3,a4,a5,a6,a7,a8,a9,a10,a11,a12,a13,a14,a15]:=by
 have:=((((((((((((((((h.set_ 0 a0).set_ 1 a1).set_ 2 a2).set_ 3 a3).set_ 4 a4).set_ 5 a5).set_ 6 a6).set_ 7 a7).set_ 8 a8).set_ 9 a9).set_ 10 a10).set_ 11 a11).set_ 12 a12).set_ 13 a13).set_ 14 a14).set_ 15 a15);rw[zero_sets16]at this;exact this
theorem dec_ok(x:RecP)(hmay:x.may=true)(hlen:x.bytes.length≤4096)(w:World)(v:Value)(hv:BytesE w v x.bytes):
 Calls Tryz.prog 43 #[v] w fun e w'=>∃s:Sls,e= .returned (.tuple #[.agg (x.rv s).cells.toArray,.int .i64 0])∧RecN w.heap.size w' x s∧Upd Nowhere w w':=by
 obtain⟨A0,c0,rfl,_⟩:=hv.val;have hk:=(RecP.kind_of_may hmay).1;have hkb:=hk;unfold kindP at hkb;rw[Bool.and_eq_true,decide_eq_true_eq,decide_eq_true_eq]at hkb;have hU0:=(Upd.refl Nowhere w).alloc (.cells zeroA 38);have hrd:=read_ok (hv.upd hU0 fun _ _=>id) (by omega)
 have hB0:=Blk.new w 38 zeroA
 have hnum:∀w' R,RAt w' R (x.bytes,0)→Calls Tryz.prog 72 #[.pointer (some ⟨R,0,none⟩),.int .i64 1099511627776] w' fun e w''=>e= .returned (.int .i64 x.kind)∧RAt w'' R (x.fieldsB++[],0)∧Upd (fun k=>k=R) w' w'':=fun w' R hR=>by
  have:=rnum_ok hR (by simp only;omega) 1099511627776 (by omega)
  obtain⟨n,hn⟩:=Int.eq_ofNat_of_zero_le (show 0≤x.kind by omega)
  have e:numR 1099511627776 (x.bytes,0)=(n,(x.fieldsB,0)):=by
   unfold RecP.bytes;rw[hn];exact numR_short (n:=n) (by omega) (by omega) _
  rw[e]at this;rw[List.append_nil,hn];exact this
 have hkk:∀w,Calls Tryz.prog 74 #[.int .i64 x.kind] w (BoolP true w):=fun w=>by
  have:=kind_ok x.kind w
  rwa [hk]at this
 have hfl:x.fieldsB.length≤4096:=by
  have:x.bytes.length=(numZ x.kind).length+x.fieldsB.length:=by unfold RecP.bytes;rw[qla]
  omega
 have hmild:=RecP.mild_of_good (RecP.good_of_may hmay);have hlI:((x.bytes.length:Nat):Int)≤4096:=by omega
 have hmm:∀s w',RecN (w.heap.size+1) w' x s→Calls Tryz.prog 68 #[.agg (x.rv s).cells.toArray] w' (BoolP true w'):=fun s w' hN=>by
  have:=may_ok hN.recE hmild
  rwa [hmay]at this
 have hff:∀(R X:Nat) (w':World),X≠R→R<X→w.heap.size+1≤R→X<w'.heap.size→Blk w' X 38 #[.int .i64 x.kind,.int .i64 0,.int .i64 0,.int .i64 0,strV [],.bool false,strV [],.bool false,strV [],.int .i64 0,.slice none 0 0,.slice none 0 0,.slice none 0 0,.slice none 0 0,.slice none 0 0,.slice none 0 0]→RAt w' R (x.fieldsB++[],0)→Calls Tryz.prog 75 #[cR R,.pointer (some ⟨X,0,none⟩)] w' (FldP R X (X+1) x [] w'):=fun R X w' h1 h2 h3 h4 hb hr=>fields_r x hmay h1 (by omega) (by omega) hb hr (by rw[List.append_nil];omega)
 have HRD:=qh hrd;have HNUM:=qh hnum;have HKK:=qh hkk;have HM:=qh hmm;have HFF:=qh hff;have HU0:=qh hU0;have HB0:=qh hB0;generalize x.bytes.length=nb at*;clear hrd hnum hkk hU0 hB0 hv hmay hlen hk hfl hmild hmm hff;obtain⟨kind,tx,prev,next,key,oh,od,nh,nd,coord,mem,loc,row,dir,dee,pas⟩:=x;simp only at HNUM HKK HFF hkb;unfold zeroA at*;go_enter Tryz.func43,Tryz.ntmps43
 go_wp2_with fail
 refine HRD.out.mono ?_;rintro e w2 ⟨R,rfl,hRl,hR2,hU2⟩;have HC:=qh (HNUM.out w2 R hR2);have HU2:=qh (HU0.out.same hU2);have HB2:=qh (HB0.out.upd hU2 id);have HRL:=qh hRl;clear hR2 hU2 hRl HRD HNUM;go_wp2_with fail
 refine HC.out.mono ?_;rintro e w3 ⟨rfl,hR3,hU3⟩;have HR3:=qh hR3;have HU3:=qh hU3;clear hR3 hU3 HC
 have hzR:w.heap.size<R:=by
  have:=HRL.out;have e:(w.alloc (.cells #[.int .i64 0,.int .i64 0,.int .i64 0,.int .i64 0,.string ⟨#[]⟩,.bool false,.string ⟨#[]⟩,.bool false,.string ⟨#[]⟩,.int .i64 0,.slice none 0 0,.slice none 0 0,.slice none 0 0,.slice none 0 0,.slice none 0 0,.slice none 0 0] 38)).heap.size=w.heap.size+1:=by simp
  omega
 have hX:=HRL.out;have hz2:=HB2.out.lt;have hs2:=HU2.out.size;have hs3:=HU3.out.size;have hRlt:=HR3.out.lt;have huA:=(Upd.refl Nowhere w3).alloc (.cells #[.int .i64 kind,.int .i64 0,.int .i64 0,.int .i64 0,.string ⟨#[]⟩,.bool false,.string ⟨#[]⟩,.bool false,.string ⟨#[]⟩,.int .i64 0,.slice none 0 0,.slice none 0 0,.slice none 0 0,.slice none 0 0,.slice none 0 0,.slice none 0 0] 38);have hBA:=Blk.new w3 38 #[.int .i64 kind,.int .i64 0,.int .i64 0,.int .i64 0,.string ⟨#[]⟩,.bool false,.string ⟨#[]⟩,.bool false,.string ⟨#[]⟩,.int .i64 0,.slice none 0 0,.slice none 0 0,.slice none 0 0,.slice none 0 0,.slice none 0 0,.slice none 0 0];have hRA:=HR3.out.upd huA id fun _ e=>absurd e id
 have HUA:=qh huA;have HBA:=qh hBA;have HRA:=qh hRA;have HE:=qh (rerr_ok hRA);have hXR:w3.heap.size≠R:=by omega
 clear hX huA hBA hRA;go_wp2_with fail
 refine HE.out.mono ?_;clear HE;rintro e w4 ⟨rfl,rfl⟩;have k0:=HBA.out.cell 0;simp only[qA,qZ]at k0;go_wp2_with fail
 refine(HKK.out _).mono ?_;rintro e w5 ⟨rfl,hU5⟩;have hb5:=HBA.out.upd hU5 id;have hf:=HFF.out R w3.heap.size w5 hXR (by omega) (by omega) hb5.lt hb5 (HRA.out.upd hU5 id fun _ e=>absurd e id)
 have HF:=qh hf;have HU5:=qh hU5;unfold cR at HF;clear hf hU5 k0 hb5 HFF;go_wp2_with fail
 refine HF.out.mono ?_;rintro e w6 ⟨rfl,s,hN6,hS6⟩;obtain⟨⟨a1,n1,c1⟩,⟨a2,n2,c2⟩,⟨a3,n3,c3⟩,⟨a4,n4,c4⟩,⟨a5,n5,c5⟩,⟨a6,n6,c6⟩⟩:=s;have hB6:Blk w6 w3.heap.size 38 #[.int .i64 kind,.int .i64 tx,.int .i64 prev,.int .i64 next,strV key,.bool oh,strV od,.bool nh,strV nd,.int .i64 coord,.slice a1 n1 c1,.slice a2 n2 c2,.slice a3 n3 c3,.slice a4 n4 c4,.slice a5 n5 c5,.slice a6 n6 c6]:=hS6.blk;have hend:=rend_ok hS6.rd;have he0:endR (([]:Bs),0)=([],0):=rfl;rw[he0]at hend;have HEND:=qh hend;have HB6:=qh hB6;have HU6:=qh hS6.upd;have HN6:=qh hN6;clear hend hB6 hS6 hN6 HF he0;go_wp2_with fail
 refine HEND.out.mono ?_;rintro e w7 ⟨rfl,_,hU7⟩;have hN7:=HN6.out.upd hU7 (fun k h1 _=>by omega)
 have hB7:=HB6.out.upd hU7 hXR;obtain⟨b0,b1,b2,b3,b4,b5,b6,b7,b8,b9,b10,b11,b12,b13,b14,b15⟩:=hB7.all16;have HB7:=qh hB7;have HU7:=qh hU7;have hN7':=hN7.far (B':=w.heap.size+1) (by omega)
 have hM:=HM.out _ w7 hN7';simp only[RecP.rv,RecV.cells,slV]at hM;have HM7:=qh hM;have HN7:=qh hN7';clear hB7 hU7 HEND hM hN7 hN7' HM;go_wp2_with fail
 refine HM7.out.mono ?_;rintro e w8 ⟨rfl,hU8⟩;have hB8:=HB7.out.upd hU8 id;have hUall:Upd (fun k=>k=R∨k=w3.heap.size) w2 w8:=((((HU3.out.mono fun k _ e=> .inl e).same HUA.out.any).same HU5.out.any).same ((HU6.out.mono fun k _ e=>e).same (HU7.out.mono fun k _ e=> .inl e))).same hU8.any
 have hZ8:=HB2.out.upd hUall (fun e=>by rcases e with e | e<;>omega)
 have hlt8:=hB8.lt;have hltz:=hZ8.lt;have hN8:=HN7.out.upd hU8 fun _ _ _=>id
 clear b0;clear b1;clear b2;clear b3;clear b4;clear b5;clear b6;clear b7;clear b8;clear b9;clear b10;clear b11;clear b12;clear b13;clear b14;clear b15;obtain⟨b0,b1,b2,b3,b4,b5,b6,b7,b8,b9,b10,b11,b12,b13,b14,b15⟩:=hB8.all16;obtain⟨z0,z1,z2,z3,z4,z5,z6,z7,z8,z9,z10,z11,z12,z13,z14,z15⟩:=hZ8.all16;have q0:=hZ8.frozen 0;have q1:=hZ8.frozen 1;have q2:=hZ8.frozen 2;have q3:=hZ8.frozen 3;have q4:=hZ8.frozen 4;have q5:=hZ8.frozen 5;have q6:=hZ8.frozen 6;have q7:=hZ8.frozen 7;have q8:=hZ8.frozen 8;have q9:=hZ8.frozen 9;have q10:=hZ8.frozen 10;have q11:=hZ8.frozen 11;have q12:=hZ8.frozen 12;have q13:=hZ8.frozen 13;have q14:=hZ8.frozen 14;have q15:=hZ8.frozen 15;have HZ8:=qh hZ8;have HUL:=qh hUall;have HN8:=qh hN8;clear hB8 hU8 hUall hZ8 HM7 hN8;go_wp2_with fail
 refine bodyPost_ret (res_rec2 (g:=w.heap.size) (cs:=#[.int .i64 kind,.int .i64 tx,.int .i64 prev,.int .i64 next,strV key,.bool oh,strV od,.bool nh,strV nd,.int .i64 coord,.slice a1 n1 c1,.slice a2 n2 c2,.slice a3 n3 c3,.slice a4 n4 c4,.slice a5 n5 c5,.slice a6 n6 c6]) rfl rfl (zero_blk16 _ _ _ _ _ _ _ _ _ _ _ _ _ _ _ _ HZ8.out) rfl) rfl ?_;have h28:Upd Nowhere w w8:=HU2.out.trans HUL.out fun k hk e=>by rcases e with e | e<;>omega
 have hu9:=(((((((((((((((((Upd.refl (fun k=>k=w.heap.size) w8).setCell (p:=⟨w.heap.size,0,none⟩) (fun _=>rfl) (.int .i64 kind)).setCell (p:=⟨w.heap.size,1,none⟩) (fun _=>rfl) (.int .i64 tx)).setCell (p:=⟨w.heap.size,2,none⟩) (fun _=>rfl) (.int .i64 prev)).setCell (p:=⟨w.heap.size,3,none⟩) (fun _=>rfl) (.int .i64 next)).setCell (p:=⟨w.heap.size,4,none⟩) (fun _=>rfl) (strV key)).setCell (p:=⟨w.heap.size,5,none⟩) (fun _=>rfl) (.bool oh)).setCell (p:=⟨w.heap.size,6,none⟩) (fun _=>rfl) (strV od)).setCell (p:=⟨w.heap.size,7,none⟩) (fun _=>rfl) (.bool nh)).setCell (p:=⟨w.heap.size,8,none⟩) (fun _=>rfl) (strV nd)).setCell (p:=⟨w.heap.size,9,none⟩) (fun _=>rfl) (.int .i64 coord)).setCell (p:=⟨w.heap.size,10,none⟩) (fun _=>rfl) (.slice a1 n1 c1)).setCell (p:=⟨w.heap.size,11,none⟩) (fun _=>rfl) (.slice a2 n2 c2)).setCell (p:=⟨w.heap.size,12,none⟩) (fun _=>rfl) (.slice a3 n3 c3)).setCell (p:=⟨w.heap.size,13,none⟩) (fun _=>rfl) (.slice a4 n4 c4)).setCell (p:=⟨w.heap.size,14,none⟩) (fun _=>rfl) (.slice a5 n5 c5)).setCell (p:=⟨w.heap.size,15,none⟩) (fun _=>rfl) (.slice a6 n6 c6))
 refine⟨⟨(a1,n1,c1),(a2,n2,c2),(a3,n3,c3),(a4,n4,c4),(a5,n5,c5),(a6,n6,c6)⟩,rfl,?_,h28.news (hu9.mono fun k _ e=>by rw[e];exact qlr _)⟩
 exact(HN8.out.upd hu9 fun k hk _=>by omega).far (by omega)
end Go.Proofs.YtljmmkjdlcfkpaaGreatDoor
