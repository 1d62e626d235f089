/-
  The document's pool: a frame is dropped. The document's pool: Flush, Evict. The document's pool: Evict.
-/
import Derived.Test.YtdfccegeihfdpaaGreatDoorARfF
set_option maxRecDepth 100000
set_option maxHeartbeats 4000000
namespace Go.Proofs.YtdfccegeihfdpaaGreatDoor
open Go Go.RowKit
section
variable {bz:Nat} {w w':World} {q most pages:Nat} {la fo ck:Nat}
theorem rdrop_ok{L:List FrP}{M:DkM}(h:RfAt bz w q most pages L M la fo ck)(hbz:bz≤w.heap.size){i:Nat}{x:FrP}(hx:L[i]? =some x)(hl:L.length≤1000):Calls Tryz.prog 140 #[.pointer (some ⟨q,0,none⟩),.int .i64 (i:Nat)] w fun e w'=>e= .returned (.tuple #[])∧RfAt bz w' q most pages (L.eraseIdx i) M la fo ck∧Upd (RfF bz w) w w':=by
 obtain⟨a,b,os,g,c,o,⟨h1,h2,h3,h4,h5,h6,h7⟩,ho,hor,hlo,hio,hfz,c1,_⟩:=h.at_ hx;obtain⟨ln,hln⟩:∃ln,os.length=ln:=⟨_,rfl⟩;obtain⟨cs,hg⟩:=h2.blk
 have hcap:os.length≤c:=by
  obtain⟨A',c',e,hc'⟩:=h2.own.cap;injection e with _ _ e
  omega
 have hcm:c≤maxLen:=h2.own.capLe;have hE:=h2.own.els;have hk1:=Els.part (c':=c) frD_len hE 0 i (by omega) (by omega) hg.lt
 rw[List.drop_zero]at hk1;have hl1:(os.take i).length=i:=by rw[qlt];omega
 obtain⟨A1,c1',w1,hr1,hO1,hu1⟩:=frameD_row.appU (OwnR.nil 166 frD 7 bz w) hbz 89 hk1 (by rw[hl1];simp;omega)
 rw[hl1]at hr1 hO1;simp only[List.length_nil,Nat.zero_add,List.nil_append,Nat.zero_mul,Nat.add_zero]at hr1 hO1;have hU1:Upd Nowhere w w1:=hu1.mono fun k _ e=>by cases e
 have hE1:Els 7 frD w1 (.slice (some ⟨g,0,none⟩) os.length c) os:=Els.upd hE hU1 fun _ _=>id
 have hg1:=hg.upd hU1 id;obtain⟨of2,hof2⟩:∃of2,(if c=i+1 then 0 else (i+1) * 7)=of2:=⟨_,rfl⟩
 have hk2:Els 7 frD w1 (.slice (some ⟨g,of2,none⟩) (os.length - (i+1)) (c - (i+1))) ((os.drop (i+1)).take (os.length - (i+1))):=by
  by_cases hc:c=i+1
  ·rw[if_pos hc]at hof2;have e0:os.length - (i+1)=0:=by omega
   have:=Els.part (c':=c - (i+1)) frD_len hE1 0 0 (by omega) (by omega) hg1.lt
   rw[←hof2,e0]
   simpa using this
  ·rw[if_neg hc]at hof2;have:=Els.part (c':=c - (i+1)) frD_len hE1 (i+1) (os.length - (i+1)) (by omega) (by omega) hg1.lt
   rw[Nat.zero_add,hof2]at this;exact this
 have hl2:((os.drop (i+1)).take (os.length - (i+1))).length=os.length - (i+1):=by rw[qlt,qld];omega
 have ht2:(os.drop (i+1)).take (os.length - (i+1))=os.drop (i+1):=List.take_of_length_le (by rw[qld];exact qlr _)
 rw[ht2]at hk2 hl2;obtain⟨A2,c2',w2,hr2,hO2,hu2⟩:=frameD_row.appU hO1 (Nat.le_trans hbz hU1.size) 89 hk2 (by rw[hl2,hl1];omega)
 rw[hl1,hl2]at hr2 hO2
 have hu2':Upd (RfF bz w1) w1 w2:=hu2.mono fun k _ e=>by
  obtain⟨cs',hcs⟩:=hO1.is_cells e;exact⟨hO1.new k e,_,hcs,rfl⟩
 have hnt:∀{k t:Nat} {cs':Array Value},Blk w1 k t cs'→166≠t→¬(Value.slice A1 i c1').ownBlock=some k:=fun hb ht e=>by
  obtain⟨cs',hcs⟩:=hO1.is_cells e;exact Blk.ne_of hcs hb ht rfl
 have hnC:=noC_own hO1 (by decide)
 have q1:=h1.upd hU1 id;have q2:=q1.upd hu2 (hnt q1 (by decide))
 obtain⟨pa,hpa,_⟩:=(h4.upd hU1 id (NoC.nowhere w)).ex;obtain⟨ta,hta,_⟩:=(h5.upd hU1 id).ex;have p2:=(h4.upd hU1 id (NoC.nowhere w)).upd hu2 (hnt hpa (by decide)) hnC
 have t2:=(h5.upd hU1 id).upd hu2 (hnt hta (by decide))
 obtain⟨n2,hn2⟩:∃n2,i+(os.length - (i+1))=n2:=⟨_,rfl⟩;rw[hn2]at hr2 hO2;have hv:=Upd.one w2 q 1 (.slice A2 n2 c2');have hvC:NoC (fun k=>k=q) w2:=noC_blk q2 (by decide)
 have hset:=q2.set_ 1 (.slice A2 n2 c2');have hos:os.take i++os.drop (i+1)=os.eraseIdx i:=(List.eraseIdx_eq_take_drop_succ ..).symm
 have HRES:Hid (RfAt bz (w2.setCell ⟨q,1,none⟩ (.slice A2 n2 c2')) q most pages (L.eraseIdx i) M la fo ck∧Upd (RfF bz w) w (w2.setCell ⟨q,1,none⟩ (.slice A2 n2 c2'))):=qh (by
  have hU12:Upd (RfF bz w) w w2:=hU1.any.rfs hu2';refine⟨⟨⟨_,a,b,os.eraseIdx i,hset,⟨?_,fun o2 ho2=> ?_⟩,by rw[←hos,←h3,List.eraseIdx_eq_take_drop_succ,List.map_append,List.map_take,List.map_drop],p2.upd hv (fun e=>p2.ne q2 (by decide) e) hvC,t2.upd hv (fun e=>t2.ne q2 (by decide) e),h6,h7⟩,h.hq⟩,hU12.rfs (hv.mono fun k _ e=>by subst e;exact q2.rfF h.hq rfl)⟩
  ·rw[←hos];refine hO2.upd hv fun k hk e=> ?_
   obtain⟨cs',hcs⟩:=hO2.is_cells hk;exact Blk.ne_of hcs q2 (by decide) e
  ·exact(((h2.cells o2 (List.mem_of_mem_eraseIdx ho2)).up hU1).upd hu2 hnC).upd hv hvC)
 have c1w:=q1.cell 1;have c2w:=q2.cell 1;have z2:=q2.frozen 1;unfold boxD at c1w c2w;simp only[qA,qZ,qS]at c1w c2w;rw[hln]at c1w c2w hr2 c1 hio hcap;obtain⟨j,hj⟩:∃j,i+1=j:=⟨_,rfl⟩;rw[hj]at hr2 hof2;have HR1:=qh hr1;have e1:(i:Int)+1=(j:Int):=by omega
 have hjI:(j:Int)≤(ln:Int):=by omega
 have HR2:=qh hr2;have hiI:(i:Int)<(ln:Int):=by omega
 have hcI:(ln:Int)≤(c:Int):=by omega
 have hlI:(ln:Int)≤1000:=by omega
 have hcmI:(c:Int)≤(maxLen:Int):=by omega
 clear h h1 h2 h3 h4 h5 h6 h7 ho hor hlo hfz hg hE hk1 hl1 hr1 hO1 hu1 hU1 hE1 hg1 hk2 hl2 ht2 hr2 hO2 hu2 hu2' hnt hnC q1 q2 p2 t2 hv hvC hset hos hpa hta hn2 hx hl hbz hln hj hcm;by_cases hc:c=j
 ·rw[if_pos hc]at hof2;subst hof2;have hlj:ln=j:=by omega
  subst hlj hc;rw[Nat.sub_self]at HR2;clear hcap;go_enter Tryz.func140,Tryz.ntmps140
  go_upto_region 2 with(at_builtin;refine wpList_append_run rfl _ _ _ rfl rfl rfl HR1.out ?_)
  clear HR1;go_wp2_with (at_builtin;refine wpList_append_run rfl _ _ _ rfl rfl rfl HR2.out ?_)
  go_end0;exact⟨rfl,HRES.out⟩
 ·rw[if_neg hc]at hof2;subst hof2;have hcI2:¬(c:Int)=(j:Int):=by omega
  have hcj:¬c - j=0:=by omega
  go_enter Tryz.func140,Tryz.ntmps140
  go_upto_region 2 with(at_builtin;refine wpList_append_run rfl _ _ _ rfl rfl rfl HR1.out ?_)
  clear HR1;go_wp2_with (at_builtin;refine wpList_append_run rfl _ _ _ rfl rfl rfl HR2.out ?_)
  go_end0;exact⟨rfl,HRES.out⟩
end
def hitF(T:PoS)(n:Int):Option FrB:=if inT T n then findF T.L n else none
def flushM(M:DkM):Option FrB→DkM
 | some r=>backM M r.1
 | none=>M
def flushF(la fo:Nat):Option FrB→Nat
 | some r=>if r.1.rc≠0∧fo<r.1.lsn then la else fo
 | none=>fo
def flushL(L:List FrB):Option FrB→List FrB
 | some r=>backL L r.1
 | none=>L
structure RfB(T:PoS):Prop where
 nos:(T.L.map (·.1.no)).Nodup
 len:T.L.length≤1000
 pgs:T.pages≤1000
 fr:∀r∈T.L,r.1.no<T.pages∧r.1.stamp≤100000∧r.1.cells.length≤1000∧r.1.pins≤1000
theorem back_set{K:List FrB}(hn:(K.map (·.1.no)).Nodup){i:Nat}{r:FrB}(hr:K[i]? =some r):(backL K r.1).map (·.1)=if r.1.rc=0 then K.map (·.1) else (K.map (·.1)).set i { r.1 with stamp:=r.1.stamp+1,rc:=0 }:=by
 unfold backL;split
 ·rfl
 ·exact upd_set hn hr _ rfl
theorem rem_erase:∀{K:List FrB} (_:(K.map (·.1.no)).Nodup) {i:Nat} {r:FrB} (_:K[i]? =some r),remF K r.1.no=K.eraseIdx i
 | [],_,i,r,hr=>by cases hr
 | a::K,hn,0,r,hr=>by
   cases hr;rw[List.map_cons,List.nodup_cons]at hn
   show remF (a::K) a.1.no=K
   unfold remF;rw[List.filter_cons_of_neg (by simp),List.filter_eq_self.2 fun s hs=> ?_]
   have:s.1.no≠a.1.no:=fun e=>hn.1 (List.mem_map.2 ⟨s,hs,e⟩)
   simpa using this
 | a::K,hn,i+1,r,hr=>by
   rw[List.map_cons,List.nodup_cons]at hn;have hr':K[i]? =some r:=hr;have h1:a.1.no≠r.1.no:=fun e=>hn.1 (List.mem_map.2 ⟨r,qmg hr',e.symm⟩)
   show remF (a::K) r.1.no=a::K.eraseIdx i
   rw[←rem_erase hn.2 hr'];unfold remF;rw[List.filter_cons_of_pos (by simpa using h1)]
theorem erase_map{K:List FrB}(i:Nat):(K.eraseIdx i).map (·.1)=(K.map (·.1)).eraseIdx i:=by
 rw[List.eraseIdx_eq_take_drop_succ,List.eraseIdx_eq_take_drop_succ,List.map_append,List.map_take,List.map_drop]
section
variable {bz:Nat} {w w':World} {q most:Nat} {T:PoS} {M:DkM} {la fo ck:Nat}
theorem hit_in{n:Int}(hi:inT T n):hitF T n=findF T.L n:=by unfold hitF;rw[if_pos hi]
theorem hit_out{n:Int}(hi:¬inT T n):hitF T n=none:=by unfold hitF;rw[if_neg hi]
theorem rflush_ok(h:RfAt bz w q most T.pages (frs T) M la fo ck)(hB:RfB T)(hbz:bz≤w.heap.size)(n:Int):Calls Tryz.prog 89 #[.pointer (some ⟨q,0,none⟩),.int .i64 n] w fun e w'=>e= .returned (.int .i64 (if inT T n then 0 else 1))∧RfAt bz w' q most T.pages ((flushL T.L (hitF T n)).map (·.1)) (flushM M (hitF T n)) la (flushF la fo (hitF T n)) ck∧Upd (RfF bz w) w w':=by
 have HIS:=qh (ris_ok h n);have HFD:=qh (rfind_ok h n (by unfold frs;rw[qlm];exact hB.len))
 have HH:=qh h;have HB:=qh hB;have HBZ:=qh hbz
 cases hin:inR T.pages n with
 | false=>
   rw[hin]at HIS
   have hni:¬inT T n:=fun e=>by
    have:inR T.pages n=true:=inR_iff.2 ⟨e.1,e.2⟩;rw[hin]at this
    cases this
   rw[if_neg hni,hit_out hni];clear hin hni h hB hbz HFD;go_enter Tryz.func89,Tryz.ntmps89
   go_wp2_with fail
   refine HIS.out.mono ?_;rintro e w9 ⟨rfl,hw9⟩;obtain rfl:=hw9.symm;go_wp2_with fail
   go_ret;exact⟨rfl,HH.out,Upd.refl _ _⟩
 | true=>
   rw[hin]at HIS;have hi:=inR_iff.1 hin;have hit:inT T n:=⟨hi.1,hi.2⟩;rw[if_pos hit,hit_in hit];clear hin hi hit h hB hbz;go_enter Tryz.func89,Tryz.ntmps89
   go_wp2_with fail
   refine HIS.out.mono ?_;rintro e w9 ⟨rfl,hw9⟩;obtain rfl:=hw9.symm;clear HIS;go_wp2_with fail
   refine HFD.out.mono ?_;rintro e w8 ⟨hf,hw8⟩;obtain rfl:=hw8.symm;clear HFD
   rcases hf with⟨i,x,rfl,hix,hxn⟩ | ⟨rfl,hno⟩
   ·obtain⟨r,hr,rfl,hfr⟩:=find_of_D HB.out.nos hix hxn;obtain⟨b1,b2,b3,b4⟩:=HB.out.fr r (qmg hr);have hbk:=rback_ok HH.out HBZ.out hix (by unfold frs;rw[qlm];exact HB.out.len) b1 HB.out.pgs b2 b3
    rw[←back_set HB.out.nos hr]at hbk;have HBK:=qh hbk;have HFR:=qh hfr;have hi0:decide ((0:Int)≤(i:Int))=true:=decide_eq_true (by omega)
    have hi1:(0:Int)≤(i:Int):=by omega
    clear hix hxn hr hfr b1 b2 b3 b4 hbk;go_wp2_with fail
    refine HBK.out.mono ?_;rintro e w7 ⟨rfl,hR,hu⟩;have HR:=qh hR;have HU:=qh hu;clear hR hu;go_wp2_with fail
    go_ret;rw[HFR.out];exact⟨rfl,HR.out,HU.out⟩
   ·have hfn:=find_none_D hno;have HFN:=qh hfn;clear hno hfn;go_wp2_with fail
    go_ret;rw[HFN.out];exact⟨rfl,HH.out,Upd.refl _ _⟩
def evictL(L:List FrB):Option FrB→List FrB
 | some r=>if r.1.pins=0 then remF (backL L r.1) r.1.no else L
 | none=>L
def evictM(M:DkM):Option FrB→DkM
 | some r=>if r.1.pins=0 then backM M r.1 else M
 | none=>M
def evictF(la fo:Nat):Option FrB→Nat
 | some r=>if r.1.pins=0 then (if r.1.rc≠0∧fo<r.1.lsn then la else fo) else fo
 | none=>fo
def evictE:Option FrB→Int
 | some r=>if r.1.pins=0 then 0 else 121
 | none=>0
theorem back_nos{K:List FrB}(x:FrP):(backL K x).map (·.1.no)=K.map (·.1.no):=by
 unfold backL;split
 ·rfl
 ·rw[updF_nos]
theorem back_get{K:List FrB}{i:Nat}{r:FrB}(hr:K[i]? =some r):∃r',(backL K r.1)[i]? =some r'∧r'.1.no=r.1.no:=by
 unfold backL;split
 ·exact⟨r,hr,rfl⟩
 ·unfold updF;rw[qgm,hr];exact⟨_,rfl,by simp⟩
theorem rbd_ok(h:RfAt bz w q most T.pages (frs T) M la fo ck)(hB:RfB T)(hbz:bz≤w.heap.size){i:Nat}{r:FrB}(hr:T.L[i]? =some r):Calls Tryz.prog 139 #[.pointer (some ⟨q,0,none⟩),.int .i64 (i:Nat)] w fun e w'=>e= .returned (.tuple #[])∧Upd (RfF bz w) w w'∧Calls Tryz.prog 140 #[.pointer (some ⟨q,0,none⟩),.int .i64 (i:Nat)] w' fun e w''=>e= .returned (.tuple #[])∧RfAt bz w'' q most T.pages ((remF (backL T.L r.1) r.1.no).map (·.1)) (backM M r.1) la (if r.1.rc≠0∧fo<r.1.lsn then la else fo) ck∧Upd (RfF bz w) w w'':=by
 obtain⟨b1,b2,b3,b4⟩:=hB.fr r (qmg hr);have hix:(frs T)[i]? =some r.1:=frs_get hr;have hbk:=rback_ok h hbz hix (by unfold frs;rw[qlm];exact hB.len) b1 hB.pgs b2 b3
 rw[←back_set hB.nos hr]at hbk;refine hbk.mono ?_;rintro e w' ⟨rfl,hR,hu⟩;obtain⟨r',hr',hno⟩:=back_get hr;refine⟨rfl,hu,?_⟩
 have hd:=rdrop_ok hR (Nat.le_trans hbz hu.size) (i:=i) (x:=r'.1) (by rw[qgm,hr'];rfl) (by
  have:=congrArg List.length (back_nos (K:=T.L) r.1);rw[qlm,qlm]at this;rw[qlm,this];exact hB.len)
 refine hd.mono ?_;rintro e w'' ⟨rfl,hR2,hu2⟩;refine⟨rfl,?_,hu.rfs hu2⟩;rw[←hno,rem_erase (by rw[back_nos];exact hB.nos) hr',erase_map]
 exact hR2
end
section
variable {bz:Nat} {w w':World} {q most:Nat} {T:PoS} {M:DkM} {la fo ck:Nat}
theorem revict_ok(h:RfAt bz w q most T.pages (frs T) M la fo ck)(hB:RfB T)(hbz:bz≤w.heap.size)(n:Int):Calls Tryz.prog 90 #[.pointer (some ⟨q,0,none⟩),.int .i64 n] w fun e w'=>e= .returned (.int .i64 (if inT T n then evictE (hitF T n) else 1))∧RfAt bz w' q most T.pages ((evictL T.L (hitF T n)).map (·.1)) (evictM M (hitF T n)) la (evictF la fo (hitF T n)) ck∧Upd (RfF bz w) w w':=by
 have HIS:=qh (ris_ok h n);have HFD:=qh (rfind_ok h n (by unfold frs;rw[qlm];exact hB.len))
 have HH:=qh h;have HB:=qh hB;have HBZ:=qh hbz
 cases hin:inR T.pages n with
 | false=>
   rw[hin]at HIS
   have hni:¬inT T n:=fun e=>by
    have:inR T.pages n=true:=inR_iff.2 ⟨e.1,e.2⟩;rw[hin]at this
    cases this
   rw[if_neg hni,hit_out hni];clear hin hni h hB hbz HFD;go_enter Tryz.func90,Tryz.ntmps90
   go_wp2_with fail
   refine HIS.out.mono ?_;rintro e w9 ⟨rfl,hw9⟩;obtain rfl:=hw9.symm;go_wp2_with fail
   go_ret;exact⟨rfl,HH.out,Upd.refl _ _⟩
 | true=>
   rw[hin]at HIS;have hi:=inR_iff.1 hin;have hit:inT T n:=⟨hi.1,hi.2⟩;rw[if_pos hit,hit_in hit];clear hin hi hit h hB hbz;go_enter Tryz.func90,Tryz.ntmps90
   go_wp2_with fail
   refine HIS.out.mono ?_;rintro e w9 ⟨rfl,hw9⟩;obtain rfl:=hw9.symm;clear HIS;go_wp2_with fail
   refine HFD.out.mono ?_;rintro e w8 ⟨hf,hw8⟩;obtain rfl:=hw8.symm;clear HFD
   rcases hf with⟨i,x,rfl,hix,hxn⟩ | ⟨rfl,hno⟩
   ·obtain⟨r,hr,rfl,hfr⟩:=find_of_D HB.out.nos hix hxn;obtain⟨a,b,os,g,c,o,_,ho,_,hlo,hio,_,c1,_,q1,_⟩:=HH.out.at_ hix;obtain⟨b1,b2,b3,b4⟩:=HB.out.fr r (qmg hr);have HBD:=qh (rbd_ok HH.out HB.out HBZ.out hr);have HFR:=qh hfr;obtain⟨ln,hln⟩:∃ln,os.length=ln:=⟨_,rfl⟩;rw[hln]at c1 hio;have hiI:(i:Int)<(ln:Int):=by omega
    have hl2:(ln:Int)≤1000:=by
     have:=HB.out.len;unfold frs at hlo;rw[qlm]at hlo;omega
    have hi0:decide ((i:Int)<0)=false:=decide_eq_false (by omega)
    have hi1:¬(i:Int)<0:=by omega
    obtain⟨pv,hpv⟩:∃pv,r.1.pins=pv:=⟨_,rfl⟩;rw[hpv]at q1 b4;have HPV:=qh hpv;have hpI:(pv:Int)≤1000:=by omega
    clear hix hxn hr hfr b1 b2 b3 b4 ho hlo hio hln hpv;by_cases h0:pv=0
    ·subst h0;rw[show((0:Nat):Int)=0 from rfl]at q1;go_wp2_with fail
     refine HBD.out.mono ?_;rintro e w7 ⟨rfl,hu,hC⟩;have HC:=qh hC;clear hC hu c1 q1;go_wp2_with fail
     refine HC.out.mono ?_;rintro e w6 ⟨rfl,hR,hu⟩;have HR:=qh hR;have HU:=qh hu;clear hR hu;go_wp2_with fail
     go_ret;rw[HFR.out];unfold evictE evictL evictM evictF;simp only;rw[if_pos HPV.out,if_pos HPV.out,if_pos HPV.out,if_pos HPV.out];exact⟨rfl,HR.out,HU.out⟩
    ·have h1:decide ((0:Int)<(pv:Int))=true:=decide_eq_true (by omega)
     have h2:(0:Int)<(pv:Int):=by omega
     have h3:0<pv:=by omega
     have HZ:Hid (¬r.1.pins=0):=qh (by rw[HPV.out];exact h0)
     clear h0;go_wp2_with fail
     go_ret;rw[HFR.out];unfold evictE evictL evictM evictF;simp only;rw[if_neg HZ.out,if_neg HZ.out,if_neg HZ.out,if_neg HZ.out];exact⟨rfl,HH.out,Upd.refl _ _⟩
   ·have hfn:=find_none_D hno;have HFN:=qh hfn;clear hno hfn;go_wp2_with fail
    go_ret;rw[HFN.out];exact⟨rfl,HH.out,Upd.refl _ _⟩
end
end Go.Proofs.YtdfccegeihfdpaaGreatDoor
