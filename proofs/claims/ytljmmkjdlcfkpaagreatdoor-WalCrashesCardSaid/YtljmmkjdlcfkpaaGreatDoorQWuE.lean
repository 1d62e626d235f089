/-
  trothlaw09.firsts: a log's records are the first ones of a list. Plain law for WalCrashes: what one call leaves, and what is found behind the crash that ends it. WalCrashes: a call of the law's in memory; long, own.
-/
import Derived.Test.YtljmmkjdlcfkpaaGreatDoorQWsE
import Derived.Test.YtljmmkjdlcfkpaaGreatDoorQWxA
set_option maxRecDepth 100000
set_option maxHeartbeats 8000000
namespace Go.Proofs.YtljmmkjdlcfkpaaGreatDoor
open Go Go.RowKit
structure RcW where
 p:RecP
 s:Sls
def RcW.cells(r:RcW):List Value:=(r.p.rv r.s).cells
def RcW.old(w:World)(r:RcW):Prop:=RecE w r.p r.s
theorem RcW.len(r:RcW):r.cells.length=16:=rfl
theorem rkRec:RowK Tryz.prog 51 38 RcW.cells 16:=⟨Tryz.underlying51,⟨.agg #[.int .i64 0,.int .i64 0,.int .i64 0,.int .i64 0,.string ⟨#[]⟩,.bool false,.string ⟨#[]⟩,.bool false,.string ⟨#[]⟩,.int .i64 0,.slice none 0 0,.slice none 0 0,.slice none 0 0,.slice none 0 0,.slice none 0 0,.slice none 0 0],248,by kernel_rfl,rfl,by omega⟩,fun _=>rfl,fun a u hu=>(a.p.rv a.s).cells_one u hu,by omega⟩
theorem firsts_ok{bz:Nat}{w:World}{l k:Nat}{p:DkP}{S:LogS}(h:LogAt bz w l p S)(hB:LogB k S)(hk:k≤80)(hd:S.down=false){all:List RcW}{A:Option Addr}{n c:Nat}(hA:Els 16 RcW.cells w (.slice A n c) all)(hn:all.length=n)(hnb:n≤100000)(hold:∀r∈all,r.old w)(hmild:∀r∈all,r.p.mild){first forced:Int}(hf1:first=S.m.lsn)(hf2:forced≤S.m.lsn+(S.items.length:Nat) - 1)(hla:S.m.lsn+(S.items.length:Nat) - 1≤(n:Nat))
 (hrec:∀(i:Nat) (b:Bs) (q:Nat),S.items[i]? =some (b,q)→∃(a:Nat) (r:RcW),S.m.lsn+(i:Nat) - 1=(a:Nat)∧all[a]? =some r∧DecTo b r.p):
 Calls Tryz.prog 29 #[.pointer (some ⟨l,0,none⟩),.slice A n c,.int .i64 first,.int .i64 forced] w fun e w'=>e= .returned (.bool true)∧Upd Nowhere w w':=by
 have hfi:=wfirst_ok h hd;have hls:∀w',Upd Nowhere w w'→_:=fun w' hu=>wlast_ok (h.up hu) hB hk hd
 have hlb:=hB.lsn;have hlen:=hB.len;subst hf1;obtain⟨lsn,hlsn⟩:=Int.eq_ofNat_of_zero_le (show 0≤S.m.lsn by omega)
 obtain⟨M,hM⟩:∃M,S.items.length=M:=⟨_,rfl⟩;rw[hlsn,hM]at hls hf2 hla;rw[hlsn]at hfi ⊢;obtain⟨la,hlaq⟩:∃la:Int,(lsn:Int)+(M:Int) - 1=la:=⟨_,rfl⟩;rw[hlaq]at hls hf2 hla;have g1:(lsn:Int)≤100000:=by omega
 have g2:1≤(lsn:Int):=by omega
 have g3:(n:Int)≤100000:=by omega
 have g4:¬la<forced:=by omega
 have g5:¬(n:Int)<la:=by omega
 have HFI:=qh hfi;have HLS:=qh hls;have HH:=qh h;have HB:=qh hB;have HA:=qh hA;have HN:=qh hn;have HOLD:=qh hold;have HMILD:=qh hmild;have HREC:=qh hrec;have HLSN:=qh hlsn;have HM:=qh hM;have HLA:=qh hlaq;have HMB:Hid (M≤100000):=qh (by omega)
 clear hfi hls h hB hA hn hold hmild hrec hlsn hM hlaq hlb hlen hf2 hla hnb;go_enter Tryz.func29,Tryz.ntmps29
 go_wp2_with fail
 refine HFI.out.mono ?_;rintro e w1 ⟨rfl,hU1⟩;have HC:=qh (HLS.out w1 hU1);have HU1:=qh hU1;clear hU1 HFI;go_wp2_with fail
 refine HC.out.mono ?_;rintro e w2 ⟨rfl,hU2⟩;have HU2:=qh (HU1.out.same hU2);have HC:=qh (HLS.out w2 HU2.out);clear hU2 HU1;go_wp2_with fail
 refine HC.out.mono ?_;rintro e w3 ⟨rfl,hU3⟩;have HU3:=qh (HU2.out.same hU3);clear hU3 HU2 HC;go_wp2_with fail
 go_loopw [9] (fun s9 wr=>∃j:Nat,s9= .int .i64 ((lsn:Int)+(j:Int))∧j≤M∧Upd Nowhere w wr) (fun s9 _=>M - (intOf s9 - (lsn:Int)).toNat)
 case atStart=>exact⟨0,by simp,Nat.zero_le _,HU3.out⟩
 case round=>
  obtain⟨j,rfl,hj,hU⟩:=hrel;have HC:=qh (HLS.out wr hU);have HU:=qh hU;have HJ:=qh hj;clear hU hj;go_wp2_with fail
  refine HC.out.mono ?_;rintro e w4 ⟨rfl,hU4⟩;have HU4:=qh (HU.out.same hU4);clear hU4 HU HC;by_cases hjM:j<M
  ·have hle:(lsn:Int)+(j:Int)≤la:=by have:=HLA.out;omega
   obtain⟨x,hx⟩:∃x,S.items[j]? =some x:=⟨_,qeg (by rw[HM.out];exact hjM)⟩
   obtain⟨b,q⟩:=x;obtain⟨a,r,ha,hr,hdt⟩:=HREC.out j b q hx;rw[HLSN.out]at ha;have hget:=wget_ok (HH.out.up HU4.out) HB.out hk hd hx hdt (lsn:=(lsn:Int)+(j:Int)) (by rw[HLSN.out])
   have HGT:=qh hget;have HR:=qh hr;have HAQ:=qh ha;have HJM:=qh hjM;clear hget hx hr ha hjM hdt;go_wp2_with fail
   refine HGT.out.mono ?_;rintro e w5 ⟨t,rfl,hN5,hU5⟩;obtain⟨d,hde⟩:∃d:List Value,(r.p.rv t).cells=d:=⟨_,rfl⟩;have HDS:=qh hde;have HONE:Hid (∀v∈d,v.oneCell'=true):=qh (by rw[←hde];exact(r.p.rv t).cells_one)
   have hl16:d.length=16:=by rw[←hde];rfl
   have HIS:Hid ((Tryz.prog.info? 38).map (·.size)=some d.length):=qh (by rw[hl16];exact rec_size)
   have hz16:zeroA.size=d.length:=by rw[hl16];rfl
   unfold zeroA at hz16;have HZS:=qh hz16;rw[hde];have HN5:=qh hN5;have HU5:=qh hU5;clear hde hl16 hz16 hN5 hU5 HGT;go_upto_region 7 with(first | (refine wpList_store_new rfl 38 _ _ rfl rfl rfl HIS.out HZS.out HONE.out ?_))
   have hB7:Blk (w5.alloc (.cells d.toArray 38)) w5.heap.size 38 d.toArray:=Blk.new w5 _ _;have hU57:Upd Nowhere w5 (w5.alloc (.cells d.toArray 38)):=(Upd.refl _ w5).alloc _;generalize w5.alloc (.cells d.toArray 38)=w7 at*;generalize w5.heap.size=g7 at*;have hU7:Upd Nowhere w w7:=HU4.out.same (HU5.out.same hU57);have HGX:Hid (∀W,Upd Nowhere w7 W→(Instr.loadAt 38 (.pointer (some ⟨g7,0,none⟩))).run Tryz.prog W= .ok (.agg d.toArray) W):=qh fun W hW=>run_loadAt_mid _ _ _ _ _ _ (hB7.upd hW id).rng Tryz.underlying38 rfl HIS.out
   have hal:=HA.out;obtain⟨g,off,c',hsl,hg,_⟩:=hal.get RcW.len HR.out;injection hsl with hsl1 hsl2 hsl3
   subst hsl1;obtain⟨y,hy⟩:∃y:List Value,r.cells=y:=⟨_,rfl⟩;have HISy:Hid ((Tryz.prog.info? 38).map (·.size)=some y.length):=qh (by rw[←hy,RcW.len];exact rec_size)
   have HGY:Hid (∀W,Upd Nowhere w7 W→(Instr.loadAt 38 (.pointer (some ⟨g,off+a * 16,none⟩))).run Tryz.prog W= .ok (.agg y.toArray) W):=qh fun W hW=>by
    have hr:=(hal.upd (hU7.same hW) fun _ _=>id).range RcW.len HR.out
    rw[hy]at hr;exact run_loadAt_mid _ _ _ _ _ _ hr Tryz.underlying38 rfl HISy.out
   have HSE:Hid (∀W,Upd Nowhere w7 W→Calls Tryz.prog 19 #[.agg d.toArray,.agg y.toArray] W fun e w''=>e= .returned (.bool true)∧Upd Nowhere w7 w''):=qh fun W hW=>by
    have hrm:=qmg HR.out;have hs:=same_eq ((HN5.out.upd (hU57.same hW) fun _ _ _=>id).recE) ((HOLD.out r hrm).up (hU7.same hW)) (HMILD.out r hrm)
    rw[HDS.out]at hs;rw[show(r.p.rv r.s).cells=y from hy]at hs;exact hs.mono fun e w' hh=>⟨hh.1,hW.same hh.2⟩
   have hidx:IntKind.i64.wrap ((lsn:Int)+(j:Int) - 1)=(a:Int):=by
    have:=HMB.out;have:=HJM.out;rw[IntWalk.i64_in _ (by omega)]
    exact HAQ.out
   have han:a<n:=by
    have:=(qei.1 HR.out).1;rw[HN.out]at this;exact this
   have hanI:(a:Int)<(n:Int):=by omega
   have HU7:=qh hU7;clear hB7 hU57 hal hsl2 hsl3 hy hU7 han;refine wp_region_grown (w0:=w7) (by kernel_rfl) (by kernel_rfl) (Upd.refl _ _) ?_
   go_big_quiet_want
   refine BigFrame.quiet_move (.tmp 11) rfl ?_;go_simp
   go_big_quiet_on
   go_big_quiet_want
   refine quiet_val (v:= .bool false) (fun w' hw'=>by go_simp) ?_
   go_simp
   go_big_quiet_on
   go_big_quiet_want
   refine BigFrame.quiet_move (.tmp 43) rfl ?_;go_simp
   go_big_quiet_on
   go_big_quiet_want
   refine quiet_load 38 (.tmp 10) rfl rfl HGX.out ?_;go_simp
   go_big_quiet_on
   go_big_quiet_want
   refine BigFrame.quiet_move (.tmp 1) rfl ?_;go_simp
   go_big_quiet_on
   go_big_quiet_want
   refine BigFrame.quiet_move (.tmp 9) rfl ?_;go_simp
   go_big_quiet_on
   go_big_quiet_want
   refine quiet_val (v:= .int .i64 (a:Int)) (fun w' hw'=>by go_simp) ?_
   go_simp
   go_big_quiet_on
   go_big_quiet_want
   refine quiet_val (v:= .pointer (some ⟨g,off+a * 16,none⟩)) (fun w' hw'=>by go_simp) ?_
   go_simp
   go_big_quiet_on
   go_big_quiet_want
   refine quiet_load 38 (.tmp 49) rfl rfl HGY.out ?_;go_simp
   go_big_quiet_on
   go_big_quiet_want
   refine quiet_call (f:=19) (args:=#[.agg d.toArray,.agg y.toArray]) (v:= .bool true) (fun w' hw'=>by go_simp) HSE.out ?_
   go_simp
   go_big_quiet_on
   go_big_quiet_want
   refine quiet_val (v:= .bool false) (fun w' hw'=>by go_simp) ?_
   go_simp
   go_big_quiet_on
   go_big_quiet_want
   refine quiet_val (v:= .bool false) (fun w' hw'=>by go_simp) ?_
   go_simp
   go_big_quiet_on
   refine wpQuiet_nil ?_;intro w9 hw9;have HU9:=qh (HU7.out.same hw9);clear hw9;go_wp2_with fail
   have hjm:=HJM.out;refine⟨⟨j+1,?_,hjm,HU9.out⟩,?_⟩
   ·rw[show(lsn:Int)+((j+1:Nat):Int)=(lsn:Int)+(j:Int)+1 by omega]
   ·simp only[intOf];omega
  ·have hje:j=M:=by have:=HJ.out;omega
   subst hje;have hle:¬(lsn:Int)+(j:Int)≤la:=by have:=HLA.out;omega
   go_wp2_with fail
   go_ret;exact⟨rfl,HU4.out⟩
open Go
def HoldsC(S:LogS)(X:List RcW):Prop:=∀(a:Nat) (b:Bs) (q:Nat),S.items[a]? =some (b,q)→∃(e:Nat) (r:RcW),S.m.lsn+(a:Nat) - 1=(e:Nat)∧X[e]? =some r∧DecTo b r.p
theorem HoldsC.nil{S:LogS}{X:List RcW}(h:S.items=[]):HoldsC S X:=fun a b q h1=>by rw[h]at h1;cases h1
theorem HoldsC.add{S:LogS}{X:List RcW}(h:HoldsC S X)(hl:S.m.lsn - 1+(S.items.length:Nat)=(X.length:Nat)){y:Bs}{r:RcW}(hd:DecTo y r.p):HoldsC (S.add y) (X++[r]):=fun a b q ha=>by
 have ha:(S.items++[(y,0)])[a]? =some (b,q):=ha;by_cases hlt:a<S.items.length
 ·rw[qal hlt]at ha;obtain⟨e,r',h1,h2,h3⟩:=h a b q ha;exact⟨e,r',h1,by rw[qal (qei.1 h2).1];exact h2,h3⟩
 ·have hlt2:=(qei.1 ha).1;rw[qla,qls]at hlt2;have hae:a=S.items.length:=by omega
  subst hae;rw[qar (qlr _),Nat.sub_self]at ha;simp only[qZ,Option.some.injEq,Prod.mk.injEq]at ha;refine⟨X.length,r,?_,?_,?_⟩
  ·show S.m.lsn+_ - 1=_
   omega
  ·rw[qar (qlr _),Nat.sub_self];rfl
  ·rw[←ha.1];exact hd
theorem HoldsC.sub{S S':LogS}{X:List RcW}(h:HoldsC S X)(n:Nat)(hm:S'.m.lsn=S.m.lsn+(n:Nat))(hi:∀(a:Nat) (b:Bs),(S'.items.map (·.1))[a]? =some b→(S.items.map (·.1))[n+a]? =some b):HoldsC S' X:=fun a b q ha=>by
 have h1:=hi a b (by rw[qgm,ha];rfl)
 rw[qgm]at h1
 cases hs:S.items[n+a]? with
 | none=>rw[hs]at h1;cases h1
 | some y=>
   rw[hs]at h1;simp only[Option.map_some,Option.some.injEq]at h1;obtain⟨e,r,e1,e2,e3⟩:=h (n+a) b y.2 (by rw[hs,←h1])
   exact⟨e,r,by omega,e2,e3⟩
theorem HoldsC.same{S S':LogS}{X:List RcW}(h:HoldsC S X)(hm:S'.m=S.m)(hi:S'.items.map (·.1)=S.items.map (·.1)):HoldsC S' X:=
 h.sub 0 (by rw[hm];simp) fun a b ha=>by rw[Nat.zero_add,←hi];exact ha
theorem HoldsC.take{S:LogS}{X:List RcW}(h:HoldsC S X){m:Nat}(hm:S.m.lsn - 1+(S.items.length:Nat)≤(m:Nat)):HoldsC S (X.take m):=fun a b q ha=>by
 have hlt:=(qei.1 ha).1;obtain⟨e,r,h1,h2,h3⟩:=h a b q ha;exact⟨e,r,h1,by rw[List.getElem?_take_of_lt (by omega)];exact h2,h3⟩
def OncR(S:LogS)(kind A:Int)(body:Bs)(ec:Int)(n e:Int)(S':LogS):Prop:=
 (kind=0∧((ec≠0∧e=ec∧S'=S)∨(ec=0∧S.roomy body A=false∧e=90∧S'=S)∨(ec=0∧S.roomy body A=true∧n=S.m.lsn+(S.items.length:Nat)∧e=0∧S'=S.add body)))∨
 (kind=1∧(S',e)=S.forceS)∨
 (kind=2∧((S.kept A=false∧e=91∧S'=S)∨(S.kept A=true∧(S',e)=S.markS 0 A)))
structure Aft(count k:Nat)(b:Bool)(kind e first forced:Int)(S':LogS)(X':List RcW)(first' forced':Int):Prop where
 dn:S'.down=S'.dk.down
 up:S'.dk.down=false→∃f Z F,CrI count k b S' f Z F∧HoldsC S' X'∧S'.m.lsn - 1+(S'.items.length:Nat)=(X'.length:Nat)∧first'=S'.m.lsn∧forced'=S'.m.lsn+(S'.forced:Nat) - 1
 down:S'.dk.down=true→b=false∧first'=first∧forced'=forced
 crash:∀(keep:List Int) (torn:Bool) (cut:Int),∃S1 b1 f1 Z1 F1,CrI count k b1 S1 f1 Z1 F1∧Lands count S1 (S'.dk.crash keep torn cut)∧S1.m.lsn+(S1.forced:Nat) - 1=forced'∧HoldsC S1 X'∧S1.m.lsn - 1+(S1.items.length:Nat)=(X'.length:Nat)∧(S1.m.lsn=first'∨kind=2∧e=40∧first'≤S1.m.lsn∧S1.m.lsn≤forced')
 pl:S'.dk.pend.length≤1000
 pd:∀x∈S'.dk.pend,x.2.length=256
 sy:∀n s,S'.dk.syn n=some s→s.length=256
section
variable {count k:Nat} {b:Bool} {S:LogS} {f:Nat} {Z:List SheetS} {F:List (Bs×Nat)} {X:List RcW}
theorem CrI.syn(h:CrI count k b S f Z F):∀n s,S.dk.syn n=some s→s.length=256:=fun n s hs=>by
 have:=h.drd n;unfold DiskS.read at this;rw[h.st.now,hs]at this;exact this
theorem CrI.aft(h:CrI count k b S f Z F)(hx:HoldsC S X)(hl:S.m.lsn - 1+(S.items.length:Nat)=(X.length:Nat))(kind e first forced:Int):Aft count k b kind e first forced S X S.m.lsn (S.m.lsn+(S.forced:Nat) - 1):=
 ⟨by rw[h.dwn,h.ddn],fun _=>⟨f,Z,F,h,hx,hl,rfl,rfl⟩,(fun hd=>by rw[h.ddn]at hd;cases hd),fun keep torn cut=>⟨S,b,f,Z,F,h,h.crash keep torn cut,rfl,hx,hl,.inl rfl⟩,by rw[h.st.pend];exact Nat.zero_le _,(fun x hx=>by rw[h.st.pend]at hx;cases hx),h.syn⟩
theorem Half.small{D0 D:DiskS}{W:List (Int×Bs)}(h:Half D0 D W)(hW:W.length≤1000)(hs:∀n s,D0.syn n=some s→s.length=256):D.pend.length≤1000∧(∀x∈D.pend,x.2.length=256)∧∀n s,D.syn n=some s→s.length=256:=by
 rw[h.pend,h.syn];refine⟨hW,fun x hx=> ?_,hs⟩
 obtain⟨p,hp,e⟩:=h.bys x hx;rw[e];exact wrapB_len _ hp
theorem wrGo_len(D0:DiskS)(count:Nat):∀(Z:List SheetS) (q:Nat),(wrGo D0 count q Z).length=Z.length:=by
 intro Z
 induction Z with
 | nil=>intro q;rfl
 | cons s l ih=>intro q;rw[wrGo,List.length_cons,List.length_cons,ih]
theorem CrI.once(h:CrI count k b S f Z F)(h1:8≤count)(h2:count≤40)(hk:k≤130)(hx:HoldsC S X)(hl:S.m.lsn - 1+(S.items.length:Nat)=(X.length:Nat)){r:RcW}{body:Bs}{ec:Int}(hdec:ec=0→DecTo body r.p)(hb:body.length≤4096){kind A n e:Int}{S':LogS}(ho:OncR S kind A body ec n e S'):
 (kind=0∧e=0→n=(X.length:Nat)+1)∧∃first' forced',Aft count (k+1) b kind e S.m.lsn (S.m.lsn+(S.forced:Nat) - 1) S' (if kind=0∧e=0 then X++[r] else X) first' forced':=by
 have hm:=h.more (show k≤k+1 by omega)
 have hlsn:=h.lsn;have hfl:=h.st.frc
 rcases ho with⟨rfl,⟨g1,rfl,rfl⟩ | ⟨g1,g2,rfl,rfl⟩ | ⟨g1,g2,rfl,rfl,rfl⟩⟩ | ⟨rfl,ho⟩ | ⟨rfl,⟨g1,rfl,rfl⟩ | ⟨g1,ho⟩⟩
 ·refine⟨fun hh=>absurd hh.2 g1,?_⟩
  rw[if_neg (fun hh=>g1 hh.2)];exact⟨_,_,hm.aft hx hl _ _ _ _⟩
 ·refine⟨fun hh=>absurd hh.2 (by decide),?_⟩
  rw[if_neg (fun hh=>absurd hh.2 (by decide))]
  exact⟨_,_,hm.aft hx hl _ _ _ _⟩
 ·refine⟨fun _=>by omega,?_⟩
  rw[if_pos ⟨rfl,rfl⟩];refine⟨_,_,(h.add g2 hb).aft (hx.add hl (hdec g1)) ?_ _ _ _ _⟩
  show S.m.lsn - 1+(((S.items++[(body,0)]).length:Nat):Int)=(((X++[r]).length:Nat):Int)
  rw[qla,qla,qls,qls];omega
 ·refine⟨fun hh=>absurd hh.1 (by decide),?_⟩
  rw[if_neg (fun hh=>absurd hh.1 (by decide))]
  rcases h.force h1 h2 hk with⟨S2,Z',F',e0,e1,e2,e3,e4⟩ | ⟨rfl,D,j,e0,e1,e2⟩
  ·rw[e0]at ho;obtain⟨rfl,rfl⟩:=Prod.mk.inj ho;refine⟨_,_,e1.aft (hx.same e4 e2) ?_ _ _ _ _⟩;have:=congrArg List.length e2;rw[qlm,qlm]at this;rw[e4,this];exact hl
  ·rw[e0]at ho;obtain⟨rfl,rfl⟩:=Prod.mk.inj ho;have hle:=h.st.le;have hc:=h.cnt;obtain⟨q1,q2,q3⟩:=e2.small (by rw[qlt,wrGo_len,S.sheets_pages];omega) h.syn
   exact⟨S.m.lsn,S.m.lsn+(S.forced:Nat) - 1,e1.symm,(fun hd=>by rw[show D.down=false from hd]at e1;cases e1),fun _=>⟨rfl,rfl,rfl⟩,fun keep torn cut=>⟨S,false,f,Z,F,hm,h.crash_force h1 h2 hk e2 keep torn cut,rfl,hx,hl,.inl rfl⟩,q1,q2,q3⟩
 ·refine⟨fun hh=>absurd hh.1 (by decide),?_⟩
  rw[if_neg (fun hh=>absurd hh.1 (by decide))]
  exact⟨_,_,hm.aft hx hl _ _ _ _⟩
 ·refine⟨fun hh=>absurd hh.1 (by decide),?_⟩
  rw[if_neg (fun hh=>absurd hh.1 (by decide))]
  unfold LogS.kept at g1;rw[Bool.and_eq_true,decide_eq_true_eq,decide_eq_true_eq]at g1;obtain⟨i,hi⟩:=Int.eq_ofNat_of_zero_le (show 0≤A - S.m.lsn by omega)
  have hif:i<S.forced:=by omega
  have hA:A=S.m.lsn+(i:Nat):=by omega
  have hsub:∀(T:LogS) (n:Nat),T.m.lsn=S.m.lsn+(n:Nat)→T.items=S.items.drop n→n≤i→HoldsC T X∧T.m.lsn - 1+(T.items.length:Nat)=(X.length:Nat):=fun T n t1 t2 t3=>by
   refine⟨hx.sub n t1 fun a b ha=> ?_,?_⟩
   ·rw[t2,List.map_drop,List.getElem?_drop]at ha;exact ha
   ·rw[t1,t2,qld];omega
  obtain⟨hmay,hgen,hmk⟩:=h.mark h1 h2 hk hif hA
  rcases hmk with⟨S2,f',Z',F',n2,e0,e1,e2,e3,e4,e5⟩ | ⟨rfl,D,W,e0,e1,e2,e3,e4⟩
  ·rw[e0]at ho;obtain⟨rfl,rfl⟩:=Prod.mk.inj ho;obtain⟨q1,q2⟩:=hsub _ n2 e3 e4 e2;exact⟨_,_,e1.aft q1 q2 _ _ _ _⟩
  ·rw[e0]at ho;obtain⟨rfl,rfl⟩:=Prod.mk.inj ho;obtain⟨q1,q2,q3⟩:=e3.small (by rcases e2 with rfl | rfl<;>simp) h.syn
   refine⟨S.m.lsn,S.m.lsn+(S.forced:Nat) - 1,e1.symm,(fun hd=>by rw[show D.down=false from hd]at e1;cases e1),fun _=>⟨rfl,rfl,rfl⟩,fun keep torn cut=> ?_,q1,q2,q3⟩
   obtain⟨S1,b1,f1,Z1,F1,n2,p1,p2,p3,p4,p5,p6⟩:=h.crash_mark h1 h2 hk hif hA e2 e3 e4 keep torn cut;obtain⟨r1,r2⟩:=hsub S1 n2 p4 p5 p3;refine⟨S1,b1,f1,Z1,F1,p1,p2,by rw[p4,p6];omega,r1,r2,.inr ⟨rfl,rfl,by rw[p4];omega,by rw[p4];omega⟩⟩
theorem Back.next{D:DiskS}{S1 S2:LogS}{f1:Nat}{Z2:List SheetS}{F2:List (Bs×Nat)}{u:Nat}(h:Back count k S1 f1 D S2 Z2 F2 u)(hf:S1.forced≤S1.items.length)(hlsn:1≤S1.m.lsn)(hx:HoldsC S1 X)(hl:S1.m.lsn - 1+(S1.items.length:Nat)=(X.length:Nat)):
 HoldsC S2 X∧S1.m.lsn+(S1.forced:Nat) - 1≤S2.m.lsn+(S2.items.length:Nat) - 1∧∃m:Nat,m≤X.length∧S2.m.lsn+(S2.items.length:Nat) - 1=(m:Nat)∧HoldsC S2 (X.take m)∧S2.m.lsn - 1+(S2.items.length:Nat)=((X.take m).length:Nat):=by
 have hlen:=congrArg List.length h.its;rw[qlm,qlt,qlm]at hlen;have hu:=h.le;rw[LogS.pend_len]at hu;have hls:=h.lsn
 have hh:HoldsC S2 X:=hx.sub 0 (by rw[hls];simp) fun a b ha=>by
  rw[h.its,Nat.zero_add]at*;have hlt:=(qei.1 ha).1;rw[qlt]at hlt
  rwa [List.getElem?_take_of_lt (by omega)]at ha
 obtain⟨m,hm⟩:=Int.eq_ofNat_of_zero_le (show 0≤S2.m.lsn+(S2.items.length:Nat) - 1 by omega)
 refine⟨hh,by omega,m,by omega,hm,hh.take (by omega),?_⟩
 rw[qlt,Nat.min_eq_left (by omega)]
 omega
theorem CrI.may_mark(h:CrI count k b S f Z F)(h1:8≤count)(h2:count≤40)(hk:k≤130){a:Int}(ha:S.kept a=true):(S.markM 0 a).may=true:=by
 unfold LogS.kept at ha;rw[Bool.and_eq_true,decide_eq_true_eq,decide_eq_true_eq]at ha;obtain⟨i,hi⟩:=Int.eq_ofNat_of_zero_le (show 0≤a - S.m.lsn by omega)
 exact(h.mark h1 h2 hk (i:=i) (by omega) (by omega)).1
end
structure CallW where
 kind:Int
 a:Int
 b:Int
 r:RcW
 fuse:Int
 keep:List Int
 kt:SlT
 torn:Bool
 cut:Int
def CallW.tail(c:CallW):List Value:=[.slice c.kt.1 c.kt.2.1 c.kt.2.2,.bool c.torn,.int .i64 c.cut]
def CallW.cells(c:CallW):List Value:= .int .i64 c.kind:: .int .i64 c.a:: .int .i64 c.b::(c.r.cells++(.int .i64 c.fuse::c.tail))
structure CallW.old(w:World)(c:CallW):Prop where
 r:c.r.old w
 keep:Els 1 intC w (.slice c.kt.1 c.kt.2.1 c.kt.2.2) c.keep
 a: -9223372036854775808≤c.a∧c.a≤9223372036854775807
 fuse:c.fuse≤9223372036854775807
theorem CallW.len(c:CallW):c.cells.length=23:=rfl
theorem CallW.rec_get(c:CallW)(j:Nat)(v:Value)(h:c.r.cells[j]? =some v):c.cells[3+j]? =some v:=by
 have hl:=(qei.1 h).1;rw[show 3+j=j+1+1+1 by omega]
 unfold CallW.cells;rw[qS,qS,qS,qal hl];exact h
theorem CallW.tail_get(c:CallW)(j:Nat)(v:Value)(h:c.tail[j]? =some v):c.cells[20+j]? =some v:=by
 have hl:=(qei.1 h).1;have hl:j<3:=hl;rw[←h]
 match j,hl with
 | 0,_=>rfl
 | 1,_=>rfl
 | 2,_=>rfl
theorem CallW.old.up{w w':World}{c:CallW}(h:c.old w)(hu:Upd Nowhere w w'):c.old w':=⟨RecE.up h.r hu,h.keep.up hu,h.a,h.fuse⟩
structure CallAt(w:World)(g o:Nat)(c:CallW):Prop where
 rng:w.rangeAt g o c.cells
section
variable {w w':World} {g o:Nat} {c:CallW}
theorem CallAt.kind(h:CallAt w g o c):w.cell? ⟨g,o,none⟩=some (.int .i64 c.kind):=h.rng 0 _ rfl
theorem CallAt.ca(h:CallAt w g o c):w.cell? ⟨g,o+1,none⟩=some (.int .i64 c.a):=h.rng 1 _ rfl
theorem CallAt.fuse(h:CallAt w g o c):w.cell? ⟨g,o+19,none⟩=some (.int .i64 c.fuse):=h.rng 19 _ rfl
theorem CallAt.keep(h:CallAt w g o c):w.cell? ⟨g,o+20,none⟩=some (.slice c.kt.1 c.kt.2.1 c.kt.2.2):=h.rng 20 _ rfl
theorem CallAt.recd(h:CallAt w g o c):w.rangeAt g (o+3) c.r.cells:=fun j v hv=>by
 have:=h.rng (3+j) v (c.rec_get j v hv)
 rwa [←Nat.add_assoc]at this
theorem CallAt.crsh(h:CallAt w g o c):w.rangeAt g (o+20) c.tail:=fun j v hv=>by
 have:=h.rng (20+j) v (c.tail_get j v hv)
 rwa [←Nat.add_assoc]at this
theorem Blk.call(h:Blk w g 55 c.cells.toArray):CallAt w g 0 c:=⟨fun j v hv=>by rw[Nat.zero_add,h.cell j,qA];exact hv⟩
end
theorem call_size:(Tryz.prog.info? 55).map (·.size)=some 23:=by kernel_rfl
theorem crash_size:(Tryz.prog.info? 53).map (·.size)=some 3:=by kernel_rfl
theorem kt_len{w:World}{c:CallW}(h:c.old w):c.kt.2.1=c.keep.length:=by
 obtain⟨A,cc,e,_⟩:=h.keep;injection e
def LongP(N:Nat)(Ls:List CallW)(w:World)(e:Ending)(w':World):Prop:=∃b,e= .returned (.bool b)∧(b=false→N≤60∧∀c∈Ls,c.r.p.tame∧c.keep.length≤40)∧Upd Nowhere w w'
theorem long_ok{Ls:List CallW}{A0:Option Addr}{N c0:Nat}{w:World}(hL:Els 23 CallW.cells w (.slice A0 N c0) Ls)(hN:Ls.length=N)(hold:∀c∈Ls,c.old w):
 Calls Tryz.prog 20 #[.slice A0 N c0] w (LongP N Ls w):=by
 have HL:=qh hL;have HN:=qh hN;have HOLD:=qh hold;clear hL hN hold;by_cases h60:(60:Int)<(N:Int)
 ·go_enter Tryz.func20,Tryz.ntmps20
  go_wp2_with fail
  go_ret;exact⟨true,rfl,(fun h=>by cases h),Upd.refl _ _⟩
 ·have hNb:(N:Int)≤60:=by omega
  go_enter Tryz.func20,Tryz.ntmps20
  go_wp2_with fail
  go_loopw [3] (fun s3 wr=>∃j:Nat,s3= .int .i64 (j:Int)∧j≤N∧(∀c∈Ls.take j,c.r.p.tame∧c.keep.length≤40)∧Upd Nowhere w wr) (fun s3 _=>N - (intOf s3).toNat)
  case atStart=>exact⟨0,rfl,Nat.zero_le _,(fun c hc=>by simp at hc),Upd.refl _ _⟩
  case round=>
   obtain⟨j,rfl,hj,hP,hU⟩:=hrel;by_cases hjN:j<N
   ·have hjI:(j:Int)<(N:Int):=by omega
    have hjI2:(j:Int)≤60:=by omega
    obtain⟨c,hc⟩:∃c,Ls[j]? =some c:=⟨_,qeg (by rw[HN.out];exact hjN)⟩
    obtain⟨g,off,cc,hsl,hg,_⟩:=HL.out.get CallW.len hc;injection hsl with hsl1 hsl2 hsl3
    subst hsl1;have hco:=(HOLD.out c (qmg hc)).up hU;have hat:CallAt wr g (off+j * 23) c:=⟨(HL.out.upd hU fun _ _=>id).range CallW.len hc⟩
    obtain⟨y,hy⟩:∃y:List Value,c.r.cells=y:=⟨_,rfl⟩;have hrg:=hat.recd;rw[hy]at hrg;have HIS:Hid ((Tryz.prog.info? 38).map (·.size)=some y.length):=qh (by rw[←hy,RcW.len];exact rec_size)
    have hgr:=great_ok c.r.p c.r.s wr hco.r;rw[show(c.r.p.rv c.r.s).cells=y from hy]at hgr;have hkl:((c.kt.2.1:Nat):Int)=((c.keep.length:Nat):Int):=by rw[kt_len hco]
    have HGR:=qh hgr;have HRG:=qh hrg;have HAT:=qh hat;have HP:=qh hP;have HU:=qh hU;have HC:=qh hc;have HJ:=qh hjN;have HKL:=qh hkl;have hgw:g<wr.heap.size:=by have:=hU.size;omega
    clear hgr hrg hat hP hU hc hjN hco hy hsl2 hsl3 hkl hj;go_wp2_with (first | (refine wpList_load_mid rfl 38 _ rfl g (off+j * 23+3) rfl y _ HRG.out Tryz.underlying38 rfl HIS.out ?_))
    refine HGR.out.mono ?_;rintro e w2 ⟨b,rfl,hb,hU2⟩;have k20:=((hU2.cell (p:=⟨g,off+j * 23+20,none⟩) hgw id).trans HAT.out.keep);have HU2:=qh (HU.out.same hU2);have HB:=qh hb;clear hU2 hb HGR HRG HU
    cases b with
    | true=>
      go_wp2_with fail
      go_ret;exact⟨true,rfl,(fun h=>by cases h),HU2.out⟩
    | false=>
      obtain⟨kn,hkn⟩:∃kn,c.kt.2.1=kn:=⟨_,rfl⟩;rw[hkn]at k20 HKL;have HBF:=qh (HB.out rfl);clear hkn HB;by_cases h40:(40:Int)<(kn:Int)
      ·go_wp2_with fail
       go_ret;exact⟨true,rfl,(fun h=>by cases h),HU2.out⟩
      ·go_wp2_with fail
       go_roundw
       case rel=>
        refine⟨j+1,by go_num,HJ.out,fun x hx=> ?_,HU2.out⟩
        rw[List.take_add_one,HC.out]at hx
        rcases qma.1 hx with hx | hx
        ·exact HP.out x hx
        ·have:x=c:=by simpa using hx
         subst this;have:=HKL.out;exact⟨HBF.out,by omega⟩
       case measure=>
        have:=HJ.out;simp only[intOf];omega
   ·have hje:j=N:=by omega
    subst hje;have hji:¬(j:Int)<(j:Int):=by omega
    have HP:=qh hP;have HU:=qh hU;clear hP hU hj hjN;go_wp2_with fail
    go_ret;refine⟨false,rfl,fun _=>⟨by omega,fun c hc=>HP.out c ?_⟩,HU.out⟩
    rw[List.take_of_length_le (by rw[HN.out];exact qlr _)]
    exact hc
theorem own_ok{w:World}{A:Option Addr}{n c:Nat}{L:List Int}(hL:Els 1 intC w (.slice A n c) L)(hn:L.length≤90000)(torn:Bool)(cut:Int):
 Calls Tryz.prog 27 #[.agg #[.slice A n c,.bool torn,.int .i64 cut]] w fun e w'=>∃A' c',e= .returned (.agg #[.slice A' n c',.bool torn,.int .i64 cut])∧Els 1 intC w' (.slice A' n c') L∧Upd Nowhere w w':=by
 have hnl:n=L.length:=Els.len (t:=(A,n,c)) hL;have hU1:=((Upd.refl Nowhere w).alloc (.cells #[.slice A n c,.bool torn,.int .i64 cut] 53)).alloc (.cells #[.slice none 0 0,.bool false,.int .i64 0] 53);have hB1:=(Blk.new w 53 #[.slice A n c,.bool torn,.int .i64 cut]).alloc (.cells #[.slice none 0 0,.bool false,.int .i64 0] 53);have hZ1:=Blk.new' (w.alloc (.cells #[.slice A n c,.bool torn,.int .i64 cut] 53)) (g:=w.heap.size+1) 53 #[.slice none 0 0,.bool false,.int .i64 0] (by simp)
 have HL:=qh hL;have HNL:=qh hnl;have HNB:=qh hn;clear hL hnl hn;go_enter Tryz.func27,Tryz.ntmps27
 go_upto_region 1 with(fail)
 generalize (w.alloc (.cells #[.slice A n c,.bool torn,.int .i64 cut] 53)).alloc (.cells #[.slice none 0 0,.bool false,.int .i64 0] 53)=w1 at*;have hEl:=(HL.out.up hU1).up (Upd.refl Nowhere w1).drew;obtain⟨A0,C0,u0,hrun0,hO0,hu0⟩:=app_new rkInt w1.drew hEl HNB.out;rw[←HNL.out]at hrun0 hO0;have hlt1:=hB1.lt;have hltz:=hZ1.lt;have hUd:Upd Nowhere w1 u0:=(Upd.refl Nowhere w1).drew.trans hu0 fun _ _=>id
 have hBd:=hB1.drew;have hBa:=(hBd.alloc (.cells #[] 3));have hBu:=hB1.upd hUd id;have hZu:=hZ1.upd hUd id;have k0:w1.drew.cell? ⟨w.heap.size,0,none⟩=some (.slice A n c)∧w1.drew.cell? ⟨w.heap.size,1,none⟩=some (.bool torn)∧w1.drew.cell? ⟨w.heap.size,2,none⟩=some (.int .i64 cut):=⟨hBd.cell 0,hBd.cell 1,hBd.cell 2⟩;have k1:(w1.alloc (.cells #[] 3)).drew.cell? ⟨w.heap.size,0,none⟩=some (.slice A n c)∧(w1.alloc (.cells #[] 3)).drew.cell? ⟨w.heap.size,1,none⟩=some (.bool torn)∧(w1.alloc (.cells #[] 3)).drew.cell? ⟨w.heap.size,2,none⟩=some (.int .i64 cut):=⟨hBa.cell 0,hBa.cell 1,hBa.cell 2⟩;have k2:u0.cell? ⟨w.heap.size,0,none⟩=some (.slice A n c)∧u0.cell? ⟨w.heap.size,1,none⟩=some (.bool torn)∧u0.cell? ⟨w.heap.size,2,none⟩=some (.int .i64 cut):=⟨hBu.cell 0,hBu.cell 1,hBu.cell 2⟩;have hrunA:(Builtin.append_ #[32,32] 32 #[.slice (some ⟨w1.heap.size,0,none⟩) 0 0,.slice A n c]).run Tryz.prog (w1.alloc (.cells #[] 3)).drew= .ok (.slice A0 n C0) u0:=hrun0;have hUw:Upd Nowhere w u0:=hU1.same hUd;have z0:=hZu.cell 0;have z1:=hZu.cell 1;have z2:=hZu.cell 2;have y0:=hZu.frozen 0;have y1:=hZu.frozen 1;have y2:=hZu.frozen 2;simp only[qA,qZ,qS]at z0 z1 z2;have hltu:=hZu.lt;have hu3:=(((Upd.refl (fun k=>k=w.heap.size+1) u0).setCell (p:=⟨w.heap.size+1,0,none⟩) (fun _=>rfl) (.slice A0 n C0)).setCell (p:=⟨w.heap.size+1,1,none⟩) (fun _=>rfl) (.bool torn)).setCell (p:=⟨w.heap.size+1,2,none⟩) (fun _=>rfl) (.int .i64 cut)
 have hB3:=hBu.upd hu3 (by omega)
 have k3:((((u0.setCell ⟨w.heap.size+1,0,none⟩ (.slice A0 n C0)).setCell ⟨w.heap.size+1,1,none⟩ (.bool torn)).setCell ⟨w.heap.size+1,2,none⟩ (.int .i64 cut))).cell? ⟨w.heap.size,0,none⟩=some (.slice A n c)∧((((u0.setCell ⟨w.heap.size+1,0,none⟩ (.slice A0 n C0)).setCell ⟨w.heap.size+1,1,none⟩ (.bool torn)).setCell ⟨w.heap.size+1,2,none⟩ (.int .i64 cut))).cell? ⟨w.heap.size,1,none⟩=some (.bool torn)∧((((u0.setCell ⟨w.heap.size+1,0,none⟩ (.slice A0 n C0)).setCell ⟨w.heap.size+1,1,none⟩ (.bool torn)).setCell ⟨w.heap.size+1,2,none⟩ (.int .i64 cut))).cell? ⟨w.heap.size,2,none⟩=some (.int .i64 cut):=⟨hB3.cell 0,hB3.cell 1,hB3.cell 2⟩;have HU3:=qh hu3;have HZU:=qh hZu;have HUW:=qh hUw;have HO0:=qh hO0;have HRA:=qh hrunA;clear hEl hrun0 hO0 hu0 hUd hBd hBa hBu hZu hrunA hUw hB1 hZ1 hU1 hu3 hB3
 go_region_held3 (fun W=>W.cell? ⟨w.heap.size,0,none⟩=some (.slice A n c)∧W.cell? ⟨w.heap.size,1,none⟩=some (.bool torn)∧W.cell? ⟨w.heap.size,2,none⟩=some (.int .i64 cut)) (first | with_reducible exact k0 | with_reducible exact k1 | with_reducible exact k2 | with_reducible exact k3)
  (refine step_append_run rfl _ _ _ rfl rfl rfl HRA.out ?_)
 all_goals
  go_wp2_with fail
  refine bodyPost_ret (results_cell_row rfl _ _ (w.heap.size+1) 53 #[.slice A0 n C0,.bool torn,.int .i64 cut] _ _ rfl (((HZU.out.set_ 0 (.slice A0 n C0)).set_ 1 (.bool torn)).set_ 2 (.int .i64 cut)) Tryz.underlying53 rfl (by kernel_rfl)) rfl ?_
  have hu3:=HU3.out;exact⟨A0,C0,rfl,HO0.out.els.upd hu3 (fun k hk e=>by have:=HO0.out.new k hk;have h2:w1.drew.heap.size=w1.heap.size:=rfl;omega),HUW.out.trans hu3 fun k hk e=>by omega⟩
end Go.Proofs.YtljmmkjdlcfkpaaGreatDoor
