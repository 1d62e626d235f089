/-
  Layer 7: a coder that reads: lists of whatever items.
-/
import Derived.Test.YtljmmkjdlcfkpaaGreatDoorQWrA
set_option maxRecDepth 100000
set_option maxHeartbeats 2000000
namespace Go.Proofs.YtljmmkjdlcfkpaaGreatDoor
open Go Go.RowKit
theorem make_ok{TS TE:TypeId}{z:Value}{zl:List Value}{bytes:Nat}(hu:Tryz.prog.underlying TS=some (.slice TE))(hi:(Tryz.prog.info? TE).map (fun i=>(i.zero,i.size,i.bytes))=some (some z,zl.length,bytes))(hz:z.cells=zl.toArray)(hp:0<zl.length)(hby:bytes≤1000)(n:Nat)(hn:n≤100000)(w:World):
 (Instr.makeSlice TS (.int .i64 (n:Int)) (.int .i64 (n:Int))).run Tryz.prog w= .ok (.slice (some ⟨w.heap.size,0,none⟩) n n) (w.alloc (.cells (noughtL zl n).toArray TE)):=by
 obtain⟨i,h1,h2,h3,h4⟩:=info_parts hi
 have hb:(i.bytes:Int) * (n:Int)≤281474976710656:=by
  have h5:i.bytes * n≤1000 * 100000:=Nat.mul_le_mul (by omega) hn
  have h6:((i.bytes * n:Nat):Int)≤281474976710656:=by omega
  rwa [Int.natCast_mul]at h6
 have hr:=run_make (P:=Tryz.prog) w TS TE i z hu h1 h2 .i64 .i64 n n (by omega) (Int.le_refl _) hb (by omega)
 rw[Int.toNat_natCast,h3,hz,made_noughts zl hp]at hr;exact hr
def Still{β:Type}(R TE:Nat)(okk:World→β→Prop):Prop:=∀(wa wb:World) (V:Nat) (cs:Array Value) (q:β),okk wa q→Blk wa V TE cs→Upd (RdF R V) wa wb→okk wb q
def ItemR{α β:Type}(R g TE sz:Nat)(z:List Value)(w:World)(L:List α)(enc:α→Bs)(cells:β→List Value)(p:β→α)(okk:World→β→Prop)(fid:FuncId)(args:Value→Array Value):Prop:=
 ∀(i:Nat) (x:α) (V:Nat) (w':World) (cs':Array Value) (rest':Bs),L[i]? =some x→Upd (RdF R g) w w'→w.heap.size≤V→RAt w' R (enc x++rest',0)→(enc x++rest').length≤1000000→Blk w' V TE cs'→(∀j,j<sz→cs'[i * sz+j]? =z[j]?)→
  Calls Tryz.prog fid (args (.pointer (some ⟨V,i * sz,none⟩))) w' fun e w''=>e= .returned (.tuple #[])∧∃q,p q=x∧okk w'' q∧RdS R V TE rest' (putL cs' (i * sz) (cells q)) w' w''
structure EachS{α β:Type}(R g t V TE:Nat)(z:List Value)(cs1:Array Value)(enc:α→Bs)(cells:β→List Value)(p:β→α)(okk:World→β→Prop)(L:List α)(rest:Bs)(w:World)(k:Nat)(wr:World):Prop where
 rd:RAt wr R ((L.drop k).flatMap enc++rest,0)
 blk:Blk wr g t cs1
 upd:Upd (RdF R g) w wr
 qs:∃qs:List β,qs.map p=L.take k∧(∀q∈qs,okk wr q)∧Blk wr V TE (qs.flatMap cells++noughtL z (L.length - k)).toArray
def EachP{α β:Type}(R g t TE sz off:Nat)(cs:Array Value)(cells:β→List Value)(p:β→α)(okk:World→β→Prop)(L:List α)(rest:Bs)(w:World)(e:Ending)(w':World):Prop:=
 e= .returned (.tuple #[])∧∃(s:SlT) (qs:List β),qs.map p=L∧OwnR TE cells sz w.heap.size w' (slV s) qs∧(∀q∈qs,okk w' q)∧RdS R g t rest (cs.setIfInBounds off (slV s)) w w'
theorem EachS.next{α β:Type}{R g t V TE sz:Nat}{z:List Value}{cs1:Array Value}{enc:α→Bs}{cells:β→List Value}{p:β→α}{okk:World→β→Prop}{L:List α}{rest:Bs}{w wr w2:World}{k:Nat}{q:β}{x:α}(h:EachS R g t V TE z cs1 enc cells p okk L rest w k wr)(hx:L[k]? =some x)(hz:z.length=sz)(hc:∀q,(cells q).length=sz)(hst:Still R TE okk)(hg:g≠R)(hgV:g≠V)(hV:w.heap.size≤V)
 (hq:p q=x) (ho:okk w2 q) {qs:List β} (h1:qs.map p=L.take k) (h2:∀q∈qs,okk wr q) (h3:Blk wr V TE (qs.flatMap cells++noughtL z (L.length - k)).toArray) (hs:RdS R V TE ((L.drop (k+1)).flatMap enc++rest) (putL (qs.flatMap cells++noughtL z (L.length - k)).toArray (k * sz) (cells q)) wr w2):EachS R g t V TE z cs1 enc cells p okk L rest w (k+1) w2:=by
 obtain⟨hk,rfl⟩:=qei.1 hx
 have hlen:qs.length=k:=by
  have:=congrArg List.length h1;rw[qlm,qlt]at this;omega
 have hfl:(qs.flatMap cells).length=k * sz:=by rw[flatMap_len hc,hlen]
 have e1:L.length - k=(L.length - (k+1))+1:=by omega
 have hb:=hs.blk;rw[e1,noughtL_succ,←qaa,←hfl,putL_list _ _ _ _ (by rw[hz,hc])]at hb
 refine⟨hs.rd,h.blk.upd hs.upd (fun e=>by rcases e with e | e<;>omega),h.upd.trans hs.upd fun j hj e=> ?_,qs++[q],?_,fun y hy=> ?_,?_⟩
 ·rcases e with e | e
  ·exact .inl e
  ·omega
 ·rw[List.map_append,h1,List.map_singleton,hq];exact List.take_append_getElem hk
 ·rcases qma.1 hy with hy | hy
  ·exact hst _ _ _ _ _ (h2 y hy) h3 hs.upd
  ·rw[List.mem_singleton]at hy;rw[hy];exact ho
 ·rw[List.flatMap_append,List.flatMap_singleton];exact hb
theorem EachS.nought{α β:Type}{sz:Nat}{z:List Value}{cells:β→List Value}{p:β→α}{L:List α}{k:Nat}{qs:List β}(hz:z.length=sz)(hc:∀q,(cells q).length=sz)(h1:qs.map p=L.take k)(hk:k<L.length):∀j,j<sz→(qs.flatMap cells++noughtL z (L.length - k)).toArray[k * sz+j]? =z[j]? :=fun j hj=>by
 have hlen:qs.length=k:=by
  have:=congrArg List.length h1;rw[qlm,qlt]at this;omega
 have hfl:(qs.flatMap cells).length=k * sz:=by rw[flatMap_len hc,hlen]
 rw[qA,qar (by omega),hfl,show k * sz+j - k * sz=j by omega,show L.length - k=(L.length - (k+1))+1 by omega,noughtL_succ,qal (by omega)]
theorem EachS.done{α β:Type}{R g t V TE sz off B:Nat}{z:List Value}{cs:Array Value}{enc:α→Bs}{cells:β→List Value}{p:β→α}{okk:World→β→Prop}{L:List α}{rest:Bs}{w wr:World}{N:Nat}(hN:L.length=N)(hN2:N≤256)(hc:∀q,(cells q).length=sz)(hV:w.heap.size≤V)(hB:B=w.heap.size)
 (h:EachS R g t V TE z (cs.setIfInBounds off (.slice (some ⟨V,0,none⟩) N N)) enc cells p okk L rest w N wr):∃(s:SlT) (qs:List β),qs.map p=L∧OwnR TE cells sz B wr (slV s) qs∧(∀q∈qs,okk wr q)∧RdS R g t rest (cs.setIfInBounds off (slV s)) w wr:=by
 subst hB;obtain⟨qs,q1,q2,q3⟩:=h.qs;have hrd:=h.rd;rw[List.take_of_length_le (by omega)]at q1
 rw[List.drop_eq_nil_of_le (by omega),List.flatMap_nil,List.nil_append]at hrd
 rw[hN,Nat.sub_self]at q3
 have hlen:qs.length=N:=by
  have:=congrArg List.length q1;rw[qlm]at this;omega
 have hfl:(qs.flatMap cells).length=N * sz:=by rw[flatMap_len hc,hlen]
 have e0:noughtL z 0=[]:=rfl;rw[e0,List.append_nil]at q3;refine⟨(some ⟨V,0,none⟩,N,N),qs,q1,⟨⟨by rw[hfl,hlen],.inr ⟨V,N,_,by rw[hlen];rfl,Nat.zero_le _,q3,by omega,?_,by rw[List.size_toArray,hfl],by rw[hlen];exact List.take_of_length_le (by rw[hfl];exact qlr _)⟩⟩,fun k hk=> ?_⟩,q2,hrd,h.blk,h.upd⟩
 ·have:(256:Nat)≤maxLen:=by decide
  omega
 ·have:V=k:=by simpa [slV,Value.ownBlock] using hk
  omega
def zI:List Value:=[.int .i64 0]
theorem makeI_ok(n:Nat)(hn:n≤100000)(w:World):(Instr.makeSlice 32 (.int .i64 (n:Int)) (.int .i64 (n:Int))).run Tryz.prog w= .ok (.slice (some ⟨w.heap.size,0,none⟩) n n) (w.alloc (.cells (noughtL zI n).toArray 3)):=
 make_ok (z:= .int .i64 0) (zl:=zI) (bytes:=8) Tryz.underlying32 (by kernel_rfl) rfl (by decide) (by omega) n hn w
theorem eachI_r{α β:Type}{R g t off:Nat}{rest:Bs}{w:World}{cs:Array Value}{L:List α}{enc:α→Bs}{cells:β→List Value}{p:β→α}{okk:World→β→Prop}(h:RAt w R (listB enc L++rest,0))(hl:(listB enc L++rest).length≤1000000)(hb:Blk w g t cs)(ht:t≠5)(hg:g≠R){A0:Option Addr}{n0 c0:Nat}(hc:cs[off]? =some (.slice A0 n0 c0))(hn:L.length≤256)(hcl:∀q,(cells q).length=1)
 (hst:Still R 3 okk) (fid:FuncId) (bs caps:Array Value) (hcf:∀args w,(callFunc fid args).run Tryz.prog w= .ok (.enter fid args) w) (args:Value→Array Value) (hargs:∀x,bs++#[x]++caps=args x) (hitem:ItemR R g 3 1 zI w L enc cells p okk fid args):
 Calls Tryz.prog 161 #[cR R,.pointer (some ⟨g,off,none⟩),.func (.func fid) bs caps] w (EachP R g t 3 1 off cs cells p okk L rest w):=by
 have hU0:=(Upd.refl Nowhere w).alloc (.cells #[.pointer none,.pointer (some ⟨R,0,none⟩)] 136);have hB:=Blk.new w 136 #[.pointer none,.pointer (some ⟨R,0,none⟩)];have hlb:listB enc L++rest=numZ (L.length:Nat)++(L.flatMap enc++rest):=by unfold listB;rw[qaa]
 rw[hlb]at h hl;have hR1:=h.upd hU0 id fun _ e=>absurd e id
 have hb1:=hb.upd hU0 id;have hbR:w.heap.size≠R:=by have:=h.lt;omega
 have hbg:w.heap.size≠g:=by have:=hb.lt;omega
 have hglt:g<w.heap.size:=hb.lt;have hRlt:R<w.heap.size:=h.lt;have hnum:=rnum_ok hR1 hl 256 (by omega)
 have hrd:numR 256 (numZ (L.length:Nat)++(L.flatMap enc++rest),0)=(L.length,(L.flatMap enc++rest,0)):=numR_short hn (by omega) _
 rw[hrd]at hnum;have c1:=hb1.cell off;rw[hc]at c1;have hbox:=hB.upd (Upd.refl Nowhere _) id;have HNUM:=qh hnum;have HU0:=qh hU0;have HB:=qh hB;have HB1:=qh hb1;have HC:=qh hc;have HL:=qh hl;have HCL:=qh hcl;have HST:=qh hst;have HIT:=qh hitem;have b0:=hB.cell 0;have b1:=hB.cell 1;simp only[qA,qZ,qS]at b0 b1;obtain⟨N,hN⟩:∃N,L.length=N:=⟨_,rfl⟩;have HNN:=qh hN;rw[hN]at HNUM hn;have HN:=qh hn;have hnI:((N:Nat):Int)≤256:=by omega
 clear h hl hb hc hcl hU0 hB hlb hR1 hb1 hnum hrd hst hitem hN hbox hn;unfold cR at*;go_enter Tryz.func161,Tryz.ntmps161
 go_wp2_with fail
 have hsz:(w.alloc (.cells #[.pointer none,.pointer (some ⟨R,0,none⟩)] 136)).heap.size=w.heap.size+1:=by simp
 generalize w.alloc (.cells #[.pointer none,.pointer (some ⟨R,0,none⟩)] 136)=w1 at*;refine HNUM.out.mono ?_;rintro e w2 ⟨rfl,hR2,hU2⟩;have hb2:=HB1.out.upd hU2 hg;have c2:=hb2.cell off;rw[HC.out]at c2;have f2:=hb2.frozen off;have HB2:=qh hb2;have HR2:=qh hR2;have HU2:=qh hU2;have hs2:w1.heap.size≤w2.heap.size:=hU2.size;have HS2:=qh hs2;have HSZ:=qh hsz;clear hb2 hR2 hU2 HNUM c1 b0 b1 hs2 hsz
 rcases Nat.eq_zero_or_pos N with hN0 | hN0
 ·subst hN0;go_wp2_with fail
  go_loopw [31] (fun s31 wr=>s31= .int .i64 0∧wr=w2.setCell ⟨g,off,none⟩ (.slice none 0 0)) (fun _ _=>1)
  case atStart=>exact⟨rfl,rfl⟩
  case round=>
   obtain⟨rfl,rfl⟩:=hrel;go_wp2_with fail
   go_end0;have hL:L=[]:=List.length_eq_zero_iff.1 HNN.out;subst hL;have hu3:=Upd.one w2 g off (.slice none 0 0);have hr3:=HR2.out.upd hu3 (fun e=>hg e.symm) (noU8_blk HB2.out ht)
   exact⟨rfl,(none,0,0),[],rfl,OwnR.nil _ _ _ _ _,fun q hq=>absurd hq (by simp),hr3,HB2.out.set_ off _,(HU0.out.any.same (HU2.out.mono fun k _ e=> .inl e)).same (hu3.mono fun k _ e=> .inr e)⟩
 ·have hN0I:(0:Int)<((N:Nat):Int):=by omega
  have hmk:=fun w=>makeI_ok N (by omega) w
  have HMK:=qh hmk;clear hmk;have hgl2:g<w2.heap.size:=by have:=HB2.out.lt;omega
  go_wp2_with (at_make;refine wpList_make_run rfl _ _ _ rfl rfl rfl (HMK.out _) ?_)
  obtain⟨V,hV⟩:∃V,w2.heap.size=V:=⟨_,rfl⟩;have hgV:g≠V:=by omega
  have hVw:w.heap.size≤V:=by have:=HS2.out;have:=HSZ.out;omega
  have hVR:V≠R:=by omega
  rw[hV];go_loopw [31] (fun s31 wr=>∃k:Nat,s31= .int .i64 (k:Int)∧k≤N∧EachS R g t V 3 zI (cs.setIfInBounds off (.slice (some ⟨V,0,none⟩) N N)) enc cells p okk L rest w k wr) (fun s31 _=>N - (intOf s31).toNat)
  case atStart=>
   have hs3:=(HB2.out.set_ off (.slice none 0 0)).set_ off (.slice (some ⟨V,0,none⟩) N N);rw[Array.setIfInBounds_setIfInBounds]at hs3;have hu3:=((Upd.one w2 g off (.slice none 0 0)).setCell (p:=⟨g,off,none⟩) (fun _=>rfl) (.slice (some ⟨V,0,none⟩) N N)).alloc (.cells (noughtL zI N).toArray 3)
   have hr3:=HR2.out.upd hu3 (fun e=>hg e.symm) (noU8_blk HB2.out ht)
   refine⟨0,rfl,by omega,?_,hs3.alloc _,(HU0.out.any.same (HU2.out.mono fun k _ e=> .inl e)).same (hu3.mono fun k _ e=> .inr e),[],rfl,fun q hq=>absurd hq (by simp),?_⟩
   ·rw[List.drop_zero];exact hr3
   ·rw[HNN.out,Nat.sub_zero,List.flatMap_nil,List.nil_append];exact Blk.new' _ _ _ (by simpa [World.setCell] using hV.symm)
  case round=>
   obtain⟨k,rfl,hk,hE⟩:=hrel;by_cases hkN:k<N
   ·obtain⟨x,hx⟩:∃x,L[k]? =some x:=⟨_,qeg (by rw[HNN.out];exact hkN)⟩
    have hdr:L.drop k=x::L.drop (k+1):=by
     obtain⟨h1,rfl⟩:=qei.1 hx;exact List.drop_eq_getElem_cons h1
    obtain⟨qs,q1,q2,q3⟩:=hE.qs;have hrd:=hE.rd;rw[hdr,List.flatMap_cons,qaa]at hrd
    have hdl:(enc x++((L.drop (k+1)).flatMap enc++rest)).length≤1000000:=by
     have h1:=HL.out
     have e:(L.flatMap enc).length=((L.take k).flatMap enc).length+((L.drop k).flatMap enc).length:=by
      conv=>lhs;rw[←List.take_append_drop k L,List.flatMap_append,qla]
     rw[hdr,List.flatMap_cons,qla]at e;simp only[qla]at h1 ⊢;omega
    have hit:=HIT.out k x V wr _ _ hx hE.upd hVw hrd hdl q3 (EachS.nought (sz:=1) rfl HCL.out q1 (by rw[HNN.out];exact hkN))
    simp only[←hargs]at hit;have hnx:=fun w3 q (hq:p q=x) (ho:okk w3 q) hs=>hE.next (w2:=w3) (sz:=1) hx rfl HCL.out HST.out hg hgV hVw hq ho q1 q2 q3 hs
    have cg:=hE.blk.cell off;rw[set_get HC.out]at cg;have hkI:(k:Int)<(N:Int):=by omega
    have HI:=qh hit;have HNX:=qh hnx;have HKN:=qh hkN;clear hE hx hdr q1 q2 q3 hrd hdl hit hnx hk hkN;rw[Nat.mul_one]at HI;go_wp2_with fail
    refine HI.out.mono ?_;rintro e w3 ⟨rfl,q,hq,ho,hS⟩;have HE3:=qh (HNX.out w3 q hq ho (by first | exact hS | (rw[Nat.mul_one];exact hS)))
    clear hq ho hS HNX;go_wp2_with fail
    go_roundw
    case rel=>exact⟨k+1,by go_num,HKN.out,HE3.out⟩
    case measure=>
     have:=HKN.out;simp only[intOf];omega
   ·obtain rfl:k=N:=by omega
    have HE:=qh hE;have cg:=hE.blk.cell off;rw[set_get HC.out]at cg;clear hE hk;go_wp2_with fail
    go_end0;exact⟨rfl,HE.out.done HNN.out HN.out HCL.out hVw rfl⟩
def zL:List Value:=[strV [],.bool false]
theorem makeL_ok(n:Nat)(hn:n≤100000)(w:World):(Instr.makeSlice 33 (.int .i64 (n:Int)) (.int .i64 (n:Int))).run Tryz.prog w= .ok (.slice (some ⟨w.heap.size,0,none⟩) n n) (w.alloc (.cells (noughtL zL n).toArray 103)):=
 make_ok (z:= .agg #[strV [],.bool false]) (zl:=zL) (bytes:=24) Tryz.underlying33 (by kernel_rfl) rfl (by decide) (by omega) n hn w
theorem eachL_r{α β:Type}{R g t off:Nat}{rest:Bs}{w:World}{cs:Array Value}{L:List α}{enc:α→Bs}{cells:β→List Value}{p:β→α}{okk:World→β→Prop}(h:RAt w R (listB enc L++rest,0))(hl:(listB enc L++rest).length≤1000000)(hb:Blk w g t cs)(ht:t≠5)(hg:g≠R){A0:Option Addr}{n0 c0:Nat}(hc:cs[off]? =some (.slice A0 n0 c0))(hn:L.length≤256)(hcl:∀q,(cells q).length=2)
 (hst:Still R 103 okk) (fid:FuncId) (bs caps:Array Value) (hcf:∀args w,(callFunc fid args).run Tryz.prog w= .ok (.enter fid args) w) (args:Value→Array Value) (hargs:∀x,bs++#[x]++caps=args x) (hitem:ItemR R g 103 2 zL w L enc cells p okk fid args):
 Calls Tryz.prog 162 #[cR R,.pointer (some ⟨g,off,none⟩),.func (.func fid) bs caps] w (EachP R g t 103 2 off cs cells p okk L rest w):=by
 have hU0:=(Upd.refl Nowhere w).alloc (.cells #[.pointer none,.pointer (some ⟨R,0,none⟩)] 136);have hB:=Blk.new w 136 #[.pointer none,.pointer (some ⟨R,0,none⟩)];have hlb:listB enc L++rest=numZ (L.length:Nat)++(L.flatMap enc++rest):=by unfold listB;rw[qaa]
 rw[hlb]at h hl;have hR1:=h.upd hU0 id fun _ e=>absurd e id
 have hb1:=hb.upd hU0 id;have hbR:w.heap.size≠R:=by have:=h.lt;omega
 have hbg:w.heap.size≠g:=by have:=hb.lt;omega
 have hglt:g<w.heap.size:=hb.lt;have hRlt:R<w.heap.size:=h.lt;have hnum:=rnum_ok hR1 hl 256 (by omega)
 have hrd:numR 256 (numZ (L.length:Nat)++(L.flatMap enc++rest),0)=(L.length,(L.flatMap enc++rest,0)):=numR_short hn (by omega) _
 rw[hrd]at hnum;have c1:=hb1.cell off;rw[hc]at c1;have hbox:=hB.upd (Upd.refl Nowhere _) id;have HNUM:=qh hnum;have HU0:=qh hU0;have HB:=qh hB;have HB1:=qh hb1;have HC:=qh hc;have HL:=qh hl;have HCL:=qh hcl;have HST:=qh hst;have HIT:=qh hitem;have b0:=hB.cell 0;have b1:=hB.cell 1;simp only[qA,qZ,qS]at b0 b1;obtain⟨N,hN⟩:∃N,L.length=N:=⟨_,rfl⟩;have HNN:=qh hN;rw[hN]at HNUM hn;have HN:=qh hn;have hnI:((N:Nat):Int)≤256:=by omega
 clear h hl hb hc hcl hU0 hB hlb hR1 hb1 hnum hrd hst hitem hN hbox hn;unfold cR at*;go_enter Tryz.func162,Tryz.ntmps162
 go_wp2_with fail
 have hsz:(w.alloc (.cells #[.pointer none,.pointer (some ⟨R,0,none⟩)] 136)).heap.size=w.heap.size+1:=by simp
 generalize w.alloc (.cells #[.pointer none,.pointer (some ⟨R,0,none⟩)] 136)=w1 at*;refine HNUM.out.mono ?_;rintro e w2 ⟨rfl,hR2,hU2⟩;have hb2:=HB1.out.upd hU2 hg;have c2:=hb2.cell off;rw[HC.out]at c2;have f2:=hb2.frozen off;have HB2:=qh hb2;have HR2:=qh hR2;have HU2:=qh hU2;have hs2:w1.heap.size≤w2.heap.size:=hU2.size;have HS2:=qh hs2;have HSZ:=qh hsz;clear hb2 hR2 hU2 HNUM c1 b0 b1 hs2 hsz
 rcases Nat.eq_zero_or_pos N with hN0 | hN0
 ·subst hN0;go_wp2_with fail
  go_loopw [31] (fun s31 wr=>s31= .int .i64 0∧wr=w2.setCell ⟨g,off,none⟩ (.slice none 0 0)) (fun _ _=>1)
  case atStart=>exact⟨rfl,rfl⟩
  case round=>
   obtain⟨rfl,rfl⟩:=hrel;go_wp2_with fail
   go_end0;have hL:L=[]:=List.length_eq_zero_iff.1 HNN.out;subst hL;have hu3:=Upd.one w2 g off (.slice none 0 0);have hr3:=HR2.out.upd hu3 (fun e=>hg e.symm) (noU8_blk HB2.out ht)
   exact⟨rfl,(none,0,0),[],rfl,OwnR.nil _ _ _ _ _,fun q hq=>absurd hq (by simp),hr3,HB2.out.set_ off _,(HU0.out.any.same (HU2.out.mono fun k _ e=> .inl e)).same (hu3.mono fun k _ e=> .inr e)⟩
 ·have hN0I:(0:Int)<((N:Nat):Int):=by omega
  have hmk:=fun w=>makeL_ok N (by omega) w
  have HMK:=qh hmk;clear hmk;have hgl2:g<w2.heap.size:=by have:=HB2.out.lt;omega
  go_wp2_with (at_make;refine wpList_make_run rfl _ _ _ rfl rfl rfl (HMK.out _) ?_)
  obtain⟨V,hV⟩:∃V,w2.heap.size=V:=⟨_,rfl⟩;have hgV:g≠V:=by omega
  have hVw:w.heap.size≤V:=by have:=HS2.out;have:=HSZ.out;omega
  have hVR:V≠R:=by omega
  rw[hV];go_loopw [31] (fun s31 wr=>∃k:Nat,s31= .int .i64 (k:Int)∧k≤N∧EachS R g t V 103 zL (cs.setIfInBounds off (.slice (some ⟨V,0,none⟩) N N)) enc cells p okk L rest w k wr) (fun s31 _=>N - (intOf s31).toNat)
  case atStart=>
   have hs3:=(HB2.out.set_ off (.slice none 0 0)).set_ off (.slice (some ⟨V,0,none⟩) N N);rw[Array.setIfInBounds_setIfInBounds]at hs3;have hu3:=((Upd.one w2 g off (.slice none 0 0)).setCell (p:=⟨g,off,none⟩) (fun _=>rfl) (.slice (some ⟨V,0,none⟩) N N)).alloc (.cells (noughtL zL N).toArray 103)
   have hr3:=HR2.out.upd hu3 (fun e=>hg e.symm) (noU8_blk HB2.out ht)
   refine⟨0,rfl,by omega,?_,hs3.alloc _,(HU0.out.any.same (HU2.out.mono fun k _ e=> .inl e)).same (hu3.mono fun k _ e=> .inr e),[],rfl,fun q hq=>absurd hq (by simp),?_⟩
   ·rw[List.drop_zero];exact hr3
   ·rw[HNN.out,Nat.sub_zero,List.flatMap_nil,List.nil_append];exact Blk.new' _ _ _ (by simpa [World.setCell] using hV.symm)
  case round=>
   obtain⟨k,rfl,hk,hE⟩:=hrel;by_cases hkN:k<N
   ·obtain⟨x,hx⟩:∃x,L[k]? =some x:=⟨_,qeg (by rw[HNN.out];exact hkN)⟩
    have hdr:L.drop k=x::L.drop (k+1):=by
     obtain⟨h1,rfl⟩:=qei.1 hx;exact List.drop_eq_getElem_cons h1
    obtain⟨qs,q1,q2,q3⟩:=hE.qs;have hrd:=hE.rd;rw[hdr,List.flatMap_cons,qaa]at hrd
    have hdl:(enc x++((L.drop (k+1)).flatMap enc++rest)).length≤1000000:=by
     have h1:=HL.out
     have e:(L.flatMap enc).length=((L.take k).flatMap enc).length+((L.drop k).flatMap enc).length:=by
      conv=>lhs;rw[←List.take_append_drop k L,List.flatMap_append,qla]
     rw[hdr,List.flatMap_cons,qla]at e;simp only[qla]at h1 ⊢;omega
    have hit:=HIT.out k x V wr _ _ hx hE.upd hVw hrd hdl q3 (EachS.nought (sz:=2) rfl HCL.out q1 (by rw[HNN.out];exact hkN))
    simp only[←hargs]at hit;have hnx:=fun w3 q (hq:p q=x) (ho:okk w3 q) hs=>hE.next (w2:=w3) (sz:=2) hx rfl HCL.out HST.out hg hgV hVw hq ho q1 q2 q3 hs
    have cg:=hE.blk.cell off;rw[set_get HC.out]at cg;have hkI:(k:Int)<(N:Int):=by omega
    have HI:=qh hit;have HNX:=qh hnx;have HKN:=qh hkN;clear hE hx hdr q1 q2 q3 hrd hdl hit hnx hk hkN;go_wp2_with fail
    refine HI.out.mono ?_;rintro e w3 ⟨rfl,q,hq,ho,hS⟩;have HE3:=qh (HNX.out w3 q hq ho (by first | exact hS | (rw[Nat.mul_one];exact hS)))
    clear hq ho hS HNX;go_wp2_with fail
    go_roundw
    case rel=>exact⟨k+1,by go_num,HKN.out,HE3.out⟩
    case measure=>
     have:=HKN.out;simp only[intOf];omega
   ·obtain rfl:k=N:=by omega
    have HE:=qh hE;have cg:=hE.blk.cell off;rw[set_get HC.out]at cg;clear hE hk;go_wp2_with fail
    go_end0;exact⟨rfl,HE.out.done HNN.out HN.out HCL.out hVw rfl⟩
def zR:List Value:=[.int .i64 0,.int .i64 0,.int .i64 0,.int .i64 0,.int .i64 0,.int .i64 0,.slice none 0 0,.slice none 0 0]
theorem makeR_ok(n:Nat)(hn:n≤100000)(w:World):(Instr.makeSlice 34 (.int .i64 (n:Int)) (.int .i64 (n:Int))).run Tryz.prog w= .ok (.slice (some ⟨w.heap.size,0,none⟩) n n) (w.alloc (.cells (noughtL zR n).toArray 105)):=
 make_ok (z:= .agg #[.int .i64 0,.int .i64 0,.int .i64 0,.int .i64 0,.int .i64 0,.int .i64 0,.slice none 0 0,.slice none 0 0]) (zl:=zR) (bytes:=96) Tryz.underlying34 (by kernel_rfl) rfl (by decide) (by omega) n hn w
theorem eachR_r{α β:Type}{R g t off:Nat}{rest:Bs}{w:World}{cs:Array Value}{L:List α}{enc:α→Bs}{cells:β→List Value}{p:β→α}{okk:World→β→Prop}(h:RAt w R (listB enc L++rest,0))(hl:(listB enc L++rest).length≤1000000)(hb:Blk w g t cs)(ht:t≠5)(hg:g≠R){A0:Option Addr}{n0 c0:Nat}(hc:cs[off]? =some (.slice A0 n0 c0))(hn:L.length≤256)(hcl:∀q,(cells q).length=8)
 (hst:Still R 105 okk) (fid:FuncId) (bs caps:Array Value) (hcf:∀args w,(callFunc fid args).run Tryz.prog w= .ok (.enter fid args) w) (args:Value→Array Value) (hargs:∀x,bs++#[x]++caps=args x) (hitem:ItemR R g 105 8 zR w L enc cells p okk fid args):
 Calls Tryz.prog 119 #[cR R,.pointer (some ⟨g,off,none⟩),.func (.func fid) bs caps] w (EachP R g t 105 8 off cs cells p okk L rest w):=by
 have hU0:=(Upd.refl Nowhere w).alloc (.cells #[.pointer none,.pointer (some ⟨R,0,none⟩)] 136);have hB:=Blk.new w 136 #[.pointer none,.pointer (some ⟨R,0,none⟩)];have hlb:listB enc L++rest=numZ (L.length:Nat)++(L.flatMap enc++rest):=by unfold listB;rw[qaa]
 rw[hlb]at h hl;have hR1:=h.upd hU0 id fun _ e=>absurd e id
 have hb1:=hb.upd hU0 id;have hbR:w.heap.size≠R:=by have:=h.lt;omega
 have hbg:w.heap.size≠g:=by have:=hb.lt;omega
 have hglt:g<w.heap.size:=hb.lt;have hRlt:R<w.heap.size:=h.lt;have hnum:=rnum_ok hR1 hl 256 (by omega)
 have hrd:numR 256 (numZ (L.length:Nat)++(L.flatMap enc++rest),0)=(L.length,(L.flatMap enc++rest,0)):=numR_short hn (by omega) _
 rw[hrd]at hnum;have c1:=hb1.cell off;rw[hc]at c1;have hbox:=hB.upd (Upd.refl Nowhere _) id;have HNUM:=qh hnum;have HU0:=qh hU0;have HB:=qh hB;have HB1:=qh hb1;have HC:=qh hc;have HL:=qh hl;have HCL:=qh hcl;have HST:=qh hst;have HIT:=qh hitem;have b0:=hB.cell 0;have b1:=hB.cell 1;simp only[qA,qZ,qS]at b0 b1;obtain⟨N,hN⟩:∃N,L.length=N:=⟨_,rfl⟩;have HNN:=qh hN;rw[hN]at HNUM hn;have HN:=qh hn;have hnI:((N:Nat):Int)≤256:=by omega
 clear h hl hb hc hcl hU0 hB hlb hR1 hb1 hnum hrd hst hitem hN hbox hn;unfold cR at*;go_enter Tryz.func119,Tryz.ntmps119
 go_wp2_with fail
 have hsz:(w.alloc (.cells #[.pointer none,.pointer (some ⟨R,0,none⟩)] 136)).heap.size=w.heap.size+1:=by simp
 generalize w.alloc (.cells #[.pointer none,.pointer (some ⟨R,0,none⟩)] 136)=w1 at*;refine HNUM.out.mono ?_;rintro e w2 ⟨rfl,hR2,hU2⟩;have hb2:=HB1.out.upd hU2 hg;have c2:=hb2.cell off;rw[HC.out]at c2;have f2:=hb2.frozen off;have HB2:=qh hb2;have HR2:=qh hR2;have HU2:=qh hU2;have hs2:w1.heap.size≤w2.heap.size:=hU2.size;have HS2:=qh hs2;have HSZ:=qh hsz;clear hb2 hR2 hU2 HNUM c1 b0 b1 hs2 hsz
 rcases Nat.eq_zero_or_pos N with hN0 | hN0
 ·subst hN0;go_wp2_with fail
  go_loopw [31] (fun s31 wr=>s31= .int .i64 0∧wr=w2.setCell ⟨g,off,none⟩ (.slice none 0 0)) (fun _ _=>1)
  case atStart=>exact⟨rfl,rfl⟩
  case round=>
   obtain⟨rfl,rfl⟩:=hrel;go_wp2_with fail
   go_end0;have hL:L=[]:=List.length_eq_zero_iff.1 HNN.out;subst hL;have hu3:=Upd.one w2 g off (.slice none 0 0);have hr3:=HR2.out.upd hu3 (fun e=>hg e.symm) (noU8_blk HB2.out ht)
   exact⟨rfl,(none,0,0),[],rfl,OwnR.nil _ _ _ _ _,fun q hq=>absurd hq (by simp),hr3,HB2.out.set_ off _,(HU0.out.any.same (HU2.out.mono fun k _ e=> .inl e)).same (hu3.mono fun k _ e=> .inr e)⟩
 ·have hN0I:(0:Int)<((N:Nat):Int):=by omega
  have hmk:=fun w=>makeR_ok N (by omega) w
  have HMK:=qh hmk;clear hmk;have hgl2:g<w2.heap.size:=by have:=HB2.out.lt;omega
  go_wp2_with (at_make;refine wpList_make_run rfl _ _ _ rfl rfl rfl (HMK.out _) ?_)
  obtain⟨V,hV⟩:∃V,w2.heap.size=V:=⟨_,rfl⟩;have hgV:g≠V:=by omega
  have hVw:w.heap.size≤V:=by have:=HS2.out;have:=HSZ.out;omega
  have hVR:V≠R:=by omega
  rw[hV];go_loopw [31] (fun s31 wr=>∃k:Nat,s31= .int .i64 (k:Int)∧k≤N∧EachS R g t V 105 zR (cs.setIfInBounds off (.slice (some ⟨V,0,none⟩) N N)) enc cells p okk L rest w k wr) (fun s31 _=>N - (intOf s31).toNat)
  case atStart=>
   have hs3:=(HB2.out.set_ off (.slice none 0 0)).set_ off (.slice (some ⟨V,0,none⟩) N N);rw[Array.setIfInBounds_setIfInBounds]at hs3;have hu3:=((Upd.one w2 g off (.slice none 0 0)).setCell (p:=⟨g,off,none⟩) (fun _=>rfl) (.slice (some ⟨V,0,none⟩) N N)).alloc (.cells (noughtL zR N).toArray 105)
   have hr3:=HR2.out.upd hu3 (fun e=>hg e.symm) (noU8_blk HB2.out ht)
   refine⟨0,rfl,by omega,?_,hs3.alloc _,(HU0.out.any.same (HU2.out.mono fun k _ e=> .inl e)).same (hu3.mono fun k _ e=> .inr e),[],rfl,fun q hq=>absurd hq (by simp),?_⟩
   ·rw[List.drop_zero];exact hr3
   ·rw[HNN.out,Nat.sub_zero,List.flatMap_nil,List.nil_append];exact Blk.new' _ _ _ (by simpa [World.setCell] using hV.symm)
  case round=>
   obtain⟨k,rfl,hk,hE⟩:=hrel;by_cases hkN:k<N
   ·obtain⟨x,hx⟩:∃x,L[k]? =some x:=⟨_,qeg (by rw[HNN.out];exact hkN)⟩
    have hdr:L.drop k=x::L.drop (k+1):=by
     obtain⟨h1,rfl⟩:=qei.1 hx;exact List.drop_eq_getElem_cons h1
    obtain⟨qs,q1,q2,q3⟩:=hE.qs;have hrd:=hE.rd;rw[hdr,List.flatMap_cons,qaa]at hrd
    have hdl:(enc x++((L.drop (k+1)).flatMap enc++rest)).length≤1000000:=by
     have h1:=HL.out
     have e:(L.flatMap enc).length=((L.take k).flatMap enc).length+((L.drop k).flatMap enc).length:=by
      conv=>lhs;rw[←List.take_append_drop k L,List.flatMap_append,qla]
     rw[hdr,List.flatMap_cons,qla]at e;simp only[qla]at h1 ⊢;omega
    have hit:=HIT.out k x V wr _ _ hx hE.upd hVw hrd hdl q3 (EachS.nought (sz:=8) rfl HCL.out q1 (by rw[HNN.out];exact hkN))
    simp only[←hargs]at hit;have hnx:=fun w3 q (hq:p q=x) (ho:okk w3 q) hs=>hE.next (w2:=w3) (sz:=8) hx rfl HCL.out HST.out hg hgV hVw hq ho q1 q2 q3 hs
    have cg:=hE.blk.cell off;rw[set_get HC.out]at cg;have hkI:(k:Int)<(N:Int):=by omega
    have HI:=qh hit;have HNX:=qh hnx;have HKN:=qh hkN;clear hE hx hdr q1 q2 q3 hrd hdl hit hnx hk hkN;go_wp2_with fail
    refine HI.out.mono ?_;rintro e w3 ⟨rfl,q,hq,ho,hS⟩;have HE3:=qh (HNX.out w3 q hq ho (by first | exact hS | (rw[Nat.mul_one];exact hS)))
    clear hq ho hS HNX;go_wp2_with fail
    go_roundw
    case rel=>exact⟨k+1,by go_num,HKN.out,HE3.out⟩
    case measure=>
     have:=HKN.out;simp only[intOf];omega
   ·obtain rfl:k=N:=by omega
    have HE:=qh hE;have cg:=hE.blk.cell off;rw[set_get HC.out]at cg;clear hE hk;go_wp2_with fail
    go_end0;exact⟨rfl,HE.out.done HNN.out HN.out HCL.out hVw rfl⟩
def zD:List Value:=[.int .i64 0,.int .i64 0]
theorem makeD_ok(n:Nat)(hn:n≤100000)(w:World):(Instr.makeSlice 35 (.int .i64 (n:Int)) (.int .i64 (n:Int))).run Tryz.prog w= .ok (.slice (some ⟨w.heap.size,0,none⟩) n n) (w.alloc (.cells (noughtL zD n).toArray 154)):=
 make_ok (z:= .agg #[.int .i64 0,.int .i64 0]) (zl:=zD) (bytes:=16) Tryz.underlying35 (by kernel_rfl) rfl (by decide) (by omega) n hn w
theorem eachD_r{α β:Type}{R g t off:Nat}{rest:Bs}{w:World}{cs:Array Value}{L:List α}{enc:α→Bs}{cells:β→List Value}{p:β→α}{okk:World→β→Prop}(h:RAt w R (listB enc L++rest,0))(hl:(listB enc L++rest).length≤1000000)(hb:Blk w g t cs)(ht:t≠5)(hg:g≠R){A0:Option Addr}{n0 c0:Nat}(hc:cs[off]? =some (.slice A0 n0 c0))(hn:L.length≤256)(hcl:∀q,(cells q).length=2)
 (hst:Still R 154 okk) (fid:FuncId) (bs caps:Array Value) (hcf:∀args w,(callFunc fid args).run Tryz.prog w= .ok (.enter fid args) w) (args:Value→Array Value) (hargs:∀x,bs++#[x]++caps=args x) (hitem:ItemR R g 154 2 zD w L enc cells p okk fid args):
 Calls Tryz.prog 121 #[cR R,.pointer (some ⟨g,off,none⟩),.func (.func fid) bs caps] w (EachP R g t 154 2 off cs cells p okk L rest w):=by
 have hU0:=(Upd.refl Nowhere w).alloc (.cells #[.pointer none,.pointer (some ⟨R,0,none⟩)] 136);have hB:=Blk.new w 136 #[.pointer none,.pointer (some ⟨R,0,none⟩)];have hlb:listB enc L++rest=numZ (L.length:Nat)++(L.flatMap enc++rest):=by unfold listB;rw[qaa]
 rw[hlb]at h hl;have hR1:=h.upd hU0 id fun _ e=>absurd e id
 have hb1:=hb.upd hU0 id;have hbR:w.heap.size≠R:=by have:=h.lt;omega
 have hbg:w.heap.size≠g:=by have:=hb.lt;omega
 have hglt:g<w.heap.size:=hb.lt;have hRlt:R<w.heap.size:=h.lt;have hnum:=rnum_ok hR1 hl 256 (by omega)
 have hrd:numR 256 (numZ (L.length:Nat)++(L.flatMap enc++rest),0)=(L.length,(L.flatMap enc++rest,0)):=numR_short hn (by omega) _
 rw[hrd]at hnum;have c1:=hb1.cell off;rw[hc]at c1;have hbox:=hB.upd (Upd.refl Nowhere _) id;have HNUM:=qh hnum;have HU0:=qh hU0;have HB:=qh hB;have HB1:=qh hb1;have HC:=qh hc;have HL:=qh hl;have HCL:=qh hcl;have HST:=qh hst;have HIT:=qh hitem;have b0:=hB.cell 0;have b1:=hB.cell 1;simp only[qA,qZ,qS]at b0 b1;obtain⟨N,hN⟩:∃N,L.length=N:=⟨_,rfl⟩;have HNN:=qh hN;rw[hN]at HNUM hn;have HN:=qh hn;have hnI:((N:Nat):Int)≤256:=by omega
 clear h hl hb hc hcl hU0 hB hlb hR1 hb1 hnum hrd hst hitem hN hbox hn;unfold cR at*;go_enter Tryz.func121,Tryz.ntmps121
 go_wp2_with fail
 have hsz:(w.alloc (.cells #[.pointer none,.pointer (some ⟨R,0,none⟩)] 136)).heap.size=w.heap.size+1:=by simp
 generalize w.alloc (.cells #[.pointer none,.pointer (some ⟨R,0,none⟩)] 136)=w1 at*;refine HNUM.out.mono ?_;rintro e w2 ⟨rfl,hR2,hU2⟩;have hb2:=HB1.out.upd hU2 hg;have c2:=hb2.cell off;rw[HC.out]at c2;have f2:=hb2.frozen off;have HB2:=qh hb2;have HR2:=qh hR2;have HU2:=qh hU2;have hs2:w1.heap.size≤w2.heap.size:=hU2.size;have HS2:=qh hs2;have HSZ:=qh hsz;clear hb2 hR2 hU2 HNUM c1 b0 b1 hs2 hsz
 rcases Nat.eq_zero_or_pos N with hN0 | hN0
 ·subst hN0;go_wp2_with fail
  go_loopw [31] (fun s31 wr=>s31= .int .i64 0∧wr=w2.setCell ⟨g,off,none⟩ (.slice none 0 0)) (fun _ _=>1)
  case atStart=>exact⟨rfl,rfl⟩
  case round=>
   obtain⟨rfl,rfl⟩:=hrel;go_wp2_with fail
   go_end0;have hL:L=[]:=List.length_eq_zero_iff.1 HNN.out;subst hL;have hu3:=Upd.one w2 g off (.slice none 0 0);have hr3:=HR2.out.upd hu3 (fun e=>hg e.symm) (noU8_blk HB2.out ht)
   exact⟨rfl,(none,0,0),[],rfl,OwnR.nil _ _ _ _ _,fun q hq=>absurd hq (by simp),hr3,HB2.out.set_ off _,(HU0.out.any.same (HU2.out.mono fun k _ e=> .inl e)).same (hu3.mono fun k _ e=> .inr e)⟩
 ·have hN0I:(0:Int)<((N:Nat):Int):=by omega
  have hmk:=fun w=>makeD_ok N (by omega) w
  have HMK:=qh hmk;clear hmk;have hgl2:g<w2.heap.size:=by have:=HB2.out.lt;omega
  go_wp2_with (at_make;refine wpList_make_run rfl _ _ _ rfl rfl rfl (HMK.out _) ?_)
  obtain⟨V,hV⟩:∃V,w2.heap.size=V:=⟨_,rfl⟩;have hgV:g≠V:=by omega
  have hVw:w.heap.size≤V:=by have:=HS2.out;have:=HSZ.out;omega
  have hVR:V≠R:=by omega
  rw[hV];go_loopw [31] (fun s31 wr=>∃k:Nat,s31= .int .i64 (k:Int)∧k≤N∧EachS R g t V 154 zD (cs.setIfInBounds off (.slice (some ⟨V,0,none⟩) N N)) enc cells p okk L rest w k wr) (fun s31 _=>N - (intOf s31).toNat)
  case atStart=>
   have hs3:=(HB2.out.set_ off (.slice none 0 0)).set_ off (.slice (some ⟨V,0,none⟩) N N);rw[Array.setIfInBounds_setIfInBounds]at hs3;have hu3:=((Upd.one w2 g off (.slice none 0 0)).setCell (p:=⟨g,off,none⟩) (fun _=>rfl) (.slice (some ⟨V,0,none⟩) N N)).alloc (.cells (noughtL zD N).toArray 154)
   have hr3:=HR2.out.upd hu3 (fun e=>hg e.symm) (noU8_blk HB2.out ht)
   refine⟨0,rfl,by omega,?_,hs3.alloc _,(HU0.out.any.same (HU2.out.mono fun k _ e=> .inl e)).same (hu3.mono fun k _ e=> .inr e),[],rfl,fun q hq=>absurd hq (by simp),?_⟩
   ·rw[List.drop_zero];exact hr3
   ·rw[HNN.out,Nat.sub_zero,List.flatMap_nil,List.nil_append];exact Blk.new' _ _ _ (by simpa [World.setCell] using hV.symm)
  case round=>
   obtain⟨k,rfl,hk,hE⟩:=hrel;by_cases hkN:k<N
   ·obtain⟨x,hx⟩:∃x,L[k]? =some x:=⟨_,qeg (by rw[HNN.out];exact hkN)⟩
    have hdr:L.drop k=x::L.drop (k+1):=by
     obtain⟨h1,rfl⟩:=qei.1 hx;exact List.drop_eq_getElem_cons h1
    obtain⟨qs,q1,q2,q3⟩:=hE.qs;have hrd:=hE.rd;rw[hdr,List.flatMap_cons,qaa]at hrd
    have hdl:(enc x++((L.drop (k+1)).flatMap enc++rest)).length≤1000000:=by
     have h1:=HL.out
     have e:(L.flatMap enc).length=((L.take k).flatMap enc).length+((L.drop k).flatMap enc).length:=by
      conv=>lhs;rw[←List.take_append_drop k L,List.flatMap_append,qla]
     rw[hdr,List.flatMap_cons,qla]at e;simp only[qla]at h1 ⊢;omega
    have hit:=HIT.out k x V wr _ _ hx hE.upd hVw hrd hdl q3 (EachS.nought (sz:=2) rfl HCL.out q1 (by rw[HNN.out];exact hkN))
    simp only[←hargs]at hit;have hnx:=fun w3 q (hq:p q=x) (ho:okk w3 q) hs=>hE.next (w2:=w3) (sz:=2) hx rfl HCL.out HST.out hg hgV hVw hq ho q1 q2 q3 hs
    have cg:=hE.blk.cell off;rw[set_get HC.out]at cg;have hkI:(k:Int)<(N:Int):=by omega
    have HI:=qh hit;have HNX:=qh hnx;have HKN:=qh hkN;clear hE hx hdr q1 q2 q3 hrd hdl hit hnx hk hkN;go_wp2_with fail
    refine HI.out.mono ?_;rintro e w3 ⟨rfl,q,hq,ho,hS⟩;have HE3:=qh (HNX.out w3 q hq ho (by first | exact hS | (rw[Nat.mul_one];exact hS)))
    clear hq ho hS HNX;go_wp2_with fail
    go_roundw
    case rel=>exact⟨k+1,by go_num,HKN.out,HE3.out⟩
    case measure=>
     have:=HKN.out;simp only[intOf];omega
   ·obtain rfl:k=N:=by omega
    have HE:=qh hE;have cg:=hE.blk.cell off;rw[set_get HC.out]at cg;clear hE hk;go_wp2_with fail
    go_end0;exact⟨rfl,HE.out.done HNN.out HN.out HCL.out hVw rfl⟩
def zE:List Value:=[.int .i64 0,.slice none 0 0]
theorem makeE_ok(n:Nat)(hn:n≤100000)(w:World):(Instr.makeSlice 36 (.int .i64 (n:Int)) (.int .i64 (n:Int))).run Tryz.prog w= .ok (.slice (some ⟨w.heap.size,0,none⟩) n n) (w.alloc (.cells (noughtL zE n).toArray 107)):=
 make_ok (z:= .agg #[.int .i64 0,.slice none 0 0]) (zl:=zE) (bytes:=32) Tryz.underlying36 (by kernel_rfl) rfl (by decide) (by omega) n hn w
theorem eachE_r{α β:Type}{R g t off:Nat}{rest:Bs}{w:World}{cs:Array Value}{L:List α}{enc:α→Bs}{cells:β→List Value}{p:β→α}{okk:World→β→Prop}(h:RAt w R (listB enc L++rest,0))(hl:(listB enc L++rest).length≤1000000)(hb:Blk w g t cs)(ht:t≠5)(hg:g≠R){A0:Option Addr}{n0 c0:Nat}(hc:cs[off]? =some (.slice A0 n0 c0))(hn:L.length≤256)(hcl:∀q,(cells q).length=2)
 (hst:Still R 107 okk) (fid:FuncId) (bs caps:Array Value) (hcf:∀args w,(callFunc fid args).run Tryz.prog w= .ok (.enter fid args) w) (args:Value→Array Value) (hargs:∀x,bs++#[x]++caps=args x) (hitem:ItemR R g 107 2 zE w L enc cells p okk fid args):
 Calls Tryz.prog 123 #[cR R,.pointer (some ⟨g,off,none⟩),.func (.func fid) bs caps] w (EachP R g t 107 2 off cs cells p okk L rest w):=by
 have hU0:=(Upd.refl Nowhere w).alloc (.cells #[.pointer none,.pointer (some ⟨R,0,none⟩)] 136);have hB:=Blk.new w 136 #[.pointer none,.pointer (some ⟨R,0,none⟩)];have hlb:listB enc L++rest=numZ (L.length:Nat)++(L.flatMap enc++rest):=by unfold listB;rw[qaa]
 rw[hlb]at h hl;have hR1:=h.upd hU0 id fun _ e=>absurd e id
 have hb1:=hb.upd hU0 id;have hbR:w.heap.size≠R:=by have:=h.lt;omega
 have hbg:w.heap.size≠g:=by have:=hb.lt;omega
 have hglt:g<w.heap.size:=hb.lt;have hRlt:R<w.heap.size:=h.lt;have hnum:=rnum_ok hR1 hl 256 (by omega)
 have hrd:numR 256 (numZ (L.length:Nat)++(L.flatMap enc++rest),0)=(L.length,(L.flatMap enc++rest,0)):=numR_short hn (by omega) _
 rw[hrd]at hnum;have c1:=hb1.cell off;rw[hc]at c1;have hbox:=hB.upd (Upd.refl Nowhere _) id;have HNUM:=qh hnum;have HU0:=qh hU0;have HB:=qh hB;have HB1:=qh hb1;have HC:=qh hc;have HL:=qh hl;have HCL:=qh hcl;have HST:=qh hst;have HIT:=qh hitem;have b0:=hB.cell 0;have b1:=hB.cell 1;simp only[qA,qZ,qS]at b0 b1;obtain⟨N,hN⟩:∃N,L.length=N:=⟨_,rfl⟩;have HNN:=qh hN;rw[hN]at HNUM hn;have HN:=qh hn;have hnI:((N:Nat):Int)≤256:=by omega
 clear h hl hb hc hcl hU0 hB hlb hR1 hb1 hnum hrd hst hitem hN hbox hn;unfold cR at*;go_enter Tryz.func123,Tryz.ntmps123
 go_wp2_with fail
 have hsz:(w.alloc (.cells #[.pointer none,.pointer (some ⟨R,0,none⟩)] 136)).heap.size=w.heap.size+1:=by simp
 generalize w.alloc (.cells #[.pointer none,.pointer (some ⟨R,0,none⟩)] 136)=w1 at*;refine HNUM.out.mono ?_;rintro e w2 ⟨rfl,hR2,hU2⟩;have hb2:=HB1.out.upd hU2 hg;have c2:=hb2.cell off;rw[HC.out]at c2;have f2:=hb2.frozen off;have HB2:=qh hb2;have HR2:=qh hR2;have HU2:=qh hU2;have hs2:w1.heap.size≤w2.heap.size:=hU2.size;have HS2:=qh hs2;have HSZ:=qh hsz;clear hb2 hR2 hU2 HNUM c1 b0 b1 hs2 hsz
 rcases Nat.eq_zero_or_pos N with hN0 | hN0
 ·subst hN0;go_wp2_with fail
  go_loopw [31] (fun s31 wr=>s31= .int .i64 0∧wr=w2.setCell ⟨g,off,none⟩ (.slice none 0 0)) (fun _ _=>1)
  case atStart=>exact⟨rfl,rfl⟩
  case round=>
   obtain⟨rfl,rfl⟩:=hrel;go_wp2_with fail
   go_end0;have hL:L=[]:=List.length_eq_zero_iff.1 HNN.out;subst hL;have hu3:=Upd.one w2 g off (.slice none 0 0);have hr3:=HR2.out.upd hu3 (fun e=>hg e.symm) (noU8_blk HB2.out ht)
   exact⟨rfl,(none,0,0),[],rfl,OwnR.nil _ _ _ _ _,fun q hq=>absurd hq (by simp),hr3,HB2.out.set_ off _,(HU0.out.any.same (HU2.out.mono fun k _ e=> .inl e)).same (hu3.mono fun k _ e=> .inr e)⟩
 ·have hN0I:(0:Int)<((N:Nat):Int):=by omega
  have hmk:=fun w=>makeE_ok N (by omega) w
  have HMK:=qh hmk;clear hmk;have hgl2:g<w2.heap.size:=by have:=HB2.out.lt;omega
  go_wp2_with (at_make;refine wpList_make_run rfl _ _ _ rfl rfl rfl (HMK.out _) ?_)
  obtain⟨V,hV⟩:∃V,w2.heap.size=V:=⟨_,rfl⟩;have hgV:g≠V:=by omega
  have hVw:w.heap.size≤V:=by have:=HS2.out;have:=HSZ.out;omega
  have hVR:V≠R:=by omega
  rw[hV];go_loopw [31] (fun s31 wr=>∃k:Nat,s31= .int .i64 (k:Int)∧k≤N∧EachS R g t V 107 zE (cs.setIfInBounds off (.slice (some ⟨V,0,none⟩) N N)) enc cells p okk L rest w k wr) (fun s31 _=>N - (intOf s31).toNat)
  case atStart=>
   have hs3:=(HB2.out.set_ off (.slice none 0 0)).set_ off (.slice (some ⟨V,0,none⟩) N N);rw[Array.setIfInBounds_setIfInBounds]at hs3;have hu3:=((Upd.one w2 g off (.slice none 0 0)).setCell (p:=⟨g,off,none⟩) (fun _=>rfl) (.slice (some ⟨V,0,none⟩) N N)).alloc (.cells (noughtL zE N).toArray 107)
   have hr3:=HR2.out.upd hu3 (fun e=>hg e.symm) (noU8_blk HB2.out ht)
   refine⟨0,rfl,by omega,?_,hs3.alloc _,(HU0.out.any.same (HU2.out.mono fun k _ e=> .inl e)).same (hu3.mono fun k _ e=> .inr e),[],rfl,fun q hq=>absurd hq (by simp),?_⟩
   ·rw[List.drop_zero];exact hr3
   ·rw[HNN.out,Nat.sub_zero,List.flatMap_nil,List.nil_append];exact Blk.new' _ _ _ (by simpa [World.setCell] using hV.symm)
  case round=>
   obtain⟨k,rfl,hk,hE⟩:=hrel;by_cases hkN:k<N
   ·obtain⟨x,hx⟩:∃x,L[k]? =some x:=⟨_,qeg (by rw[HNN.out];exact hkN)⟩
    have hdr:L.drop k=x::L.drop (k+1):=by
     obtain⟨h1,rfl⟩:=qei.1 hx;exact List.drop_eq_getElem_cons h1
    obtain⟨qs,q1,q2,q3⟩:=hE.qs;have hrd:=hE.rd;rw[hdr,List.flatMap_cons,qaa]at hrd
    have hdl:(enc x++((L.drop (k+1)).flatMap enc++rest)).length≤1000000:=by
     have h1:=HL.out
     have e:(L.flatMap enc).length=((L.take k).flatMap enc).length+((L.drop k).flatMap enc).length:=by
      conv=>lhs;rw[←List.take_append_drop k L,List.flatMap_append,qla]
     rw[hdr,List.flatMap_cons,qla]at e;simp only[qla]at h1 ⊢;omega
    have hit:=HIT.out k x V wr _ _ hx hE.upd hVw hrd hdl q3 (EachS.nought (sz:=2) rfl HCL.out q1 (by rw[HNN.out];exact hkN))
    simp only[←hargs]at hit;have hnx:=fun w3 q (hq:p q=x) (ho:okk w3 q) hs=>hE.next (w2:=w3) (sz:=2) hx rfl HCL.out HST.out hg hgV hVw hq ho q1 q2 q3 hs
    have cg:=hE.blk.cell off;rw[set_get HC.out]at cg;have hkI:(k:Int)<(N:Int):=by omega
    have HI:=qh hit;have HNX:=qh hnx;have HKN:=qh hkN;clear hE hx hdr q1 q2 q3 hrd hdl hit hnx hk hkN;go_wp2_with fail
    refine HI.out.mono ?_;rintro e w3 ⟨rfl,q,hq,ho,hS⟩;have HE3:=qh (HNX.out w3 q hq ho (by first | exact hS | (rw[Nat.mul_one];exact hS)))
    clear hq ho hS HNX;go_wp2_with fail
    go_roundw
    case rel=>exact⟨k+1,by go_num,HKN.out,HE3.out⟩
    case measure=>
     have:=HKN.out;simp only[intOf];omega
   ·obtain rfl:k=N:=by omega
    have HE:=qh hE;have cg:=hE.blk.cell off;rw[set_get HC.out]at cg;clear hE hk;go_wp2_with fail
    go_end0;exact⟨rfl,HE.out.done HNN.out HN.out HCL.out hVw rfl⟩
end Go.Proofs.YtljmmkjdlcfkpaaGreatDoor
