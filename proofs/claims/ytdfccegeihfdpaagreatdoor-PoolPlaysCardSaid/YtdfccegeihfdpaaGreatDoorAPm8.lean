/-
  The log and all below it: part 8 of 10 (merged by mergew.py).
-/
import Derived.Test.YtdfccegeihfdpaaGreatDoorAPm7
set_option maxRecDepth 100000
set_option maxHeartbeats 2000000
namespace Go.Proofs.YtdfccegeihfdpaaGreatDoor
open Go Go.RowKit
def BoolP(b:Bool)(w:World)(e:Ending)(w':World):Prop:=e= .returned (.bool b)∧Upd Nowhere w w'
def prevO{α:Type}(L:List α)(k:Nat):Option α:=if k=0 then none else L[k - 1]?
theorem rises_step{α:Type}(may:α→Bool)(less:α→α→Bool){L:List α}{k:Nat}{x:α}(hx:L[k]? =some x):
 risesP may less (prevO L k) (L.drop k)=(may x && (match prevO L k with | none=>true | some y=>less y x) && risesP may less (prevO L (k+1)) (L.drop (k+1))):=by
 obtain⟨hk,rfl⟩:=qei.1 hx;have e:prevO L (k+1)=some L[k]:=by simp[prevO]
 rw[List.drop_eq_getElem_cons hk,e];simp only[risesP]
 cases prevO L k<;>rfl
def elemI(x:Int):Value:= .int .i64 x
theorem risingI_ok{w:World}{v:Value}{L:List Int}(hE:Els 1 intC w v L)(hn:L.length≤90000)(most:Nat)(hm:most≤1000)(may:Int→Bool)(less:Int→Int→Bool)(f1 f2:FuncId)
 (hcf1:∀args w,(callFunc f1 args).run Tryz.prog w= .ok (.enter f1 args) w) (hcf2:∀args w,(callFunc f2 args).run Tryz.prog w= .ok (.enter f2 args) w)
 (hmay:∀x∈L,∀w',Upd Nowhere w w'→Calls Tryz.prog f1 #[elemI x] w' (BoolP (may x) w')) (hless:∀x∈L,∀y∈L,∀w',Upd Nowhere w w'→Calls Tryz.prog f2 #[elemI x,elemI y] w' (BoolP (less x y) w')):
 Calls Tryz.prog 233 #[v,.int .i64 (most:Int),.func (.func f1) #[] #[],.func (.func f2) #[] #[]] w (BoolP (risingP most may less L) w):=by
 obtain⟨A,cc,rfl,hcc⟩:=hE.val;have hmI:(most:Int)≤1000:=by omega
 have hnI:((L.length:Nat):Int)≤90000:=by omega
 obtain⟨N,hN⟩:∃N,L.length=N:=⟨_,rfl⟩;have HNN:=qh hN;by_cases hlm:L.length≤most
 ·have hR:risingP most may less L=risesP may less (prevO L 0) (L.drop 0):=by unfold risingP;simp[hlm,prevO]
  rw[hR];have hlI:((N:Nat):Int)≤(most:Int):=by omega
  have hlN:¬most<N:=by omega
  have hlD:decide (most<N)=false:=by simpa using hlN
  have HE:=qh hE;have HMAY:=qh hmay;have HLESS:=qh hless;rw[hN]at hnI HE ⊢;clear hE hmay hless hn hm hcc hN hlm hR;go_enter Tryz.func233,Tryz.ntmps233
  go_wp2_with fail
  go_loopw [17] (fun s17 wr=>∃k:Nat,s17= .int .i64 (k:Int)∧k≤N∧risesP may less (prevO L 0) (L.drop 0)=risesP may less (prevO L k) (L.drop k)∧Upd Nowhere w wr) (fun s17 _=>N - (intOf s17).toNat)
  case atStart=>exact⟨0,rfl,by omega,rfl,Upd.refl _ _⟩
  case round=>
   obtain⟨k,rfl,hk,hr,hu⟩:=hrel;by_cases hkN:k<N
   ·obtain⟨x,hx⟩:∃x,L[k]? =some x:=⟨_,qeg (by rw[HNN.out];exact hkN)⟩
    have hst:=rises_step may less hx;obtain⟨bb,oo,ccc,he,hbb,hq⟩:=(HE.out.upd hu fun _ _=>id).get (fun _=>rfl) hx
    injection he with he1 he2 he3
    subst he1;have hm1:=HMAY.out x (qmg hx) wr hu;have a0:=hq 0 (by omega)
    simp only[intC,qZ,Nat.add_zero,Nat.mul_one]at a0;have HM1:=qh hm1;have HST:=qh hst;have HU:=qh hu;have HRR:=qh hr;have hkI:(k:Int)<(N:Int):=by omega
    have HKN:=qh hkN;have hxm:=qmg hx;have HXM:=qh hxm;unfold elemI at HM1
    rcases k with _ | j
    ·simp only[Nat.add_zero]at a0;clear hk hr hu hx hst he2 he3 hq hm1 hkN hxm hbb;go_wp2_with fail
     refine HM1.out.mono ?_;rintro e w2 ⟨rfl,hU2⟩
     cases hb:may x with
     | false=>
       have HB:=qh hb;have HU2:=qh (HU.out.same hU2);clear hb hU2;go_wp2_with fail
       go_ret;refine⟨?_,HU2.out⟩;rw[HST.out,HB.out];rfl
     | true=>
       have HB:=qh hb;have HU2:=qh (HU.out.same hU2);clear hb hU2;go_wp2_with fail
       go_roundw
       case rel=>exact⟨1,by go_num,HKN.out,by rw[HST.out,HB.out];simp[prevO],HU2.out⟩
       case measure=>
        have:=HKN.out;simp only[intOf];omega
    ·obtain⟨y,hy⟩:∃y,L[j]? =some y:=⟨_,qeg (by rw[HNN.out];omega)⟩
     obtain⟨bb',oo',ccc',he',_,hq'⟩:=(HE.out.upd hu fun _ _=>id).get (fun _=>rfl) hy
     injection he' with he1' he2' he3'
     injection he1' with he1'
     injection he1' with e1' e2' _
     subst e1' e2';have b0:=hq' 0 (by omega)
     simp only[intC,qZ,Nat.add_zero,Nat.mul_one]at b0;have hpv:prevO L (j+1)=some y:=by unfold prevO;simpa using hy
     have HPV:=qh hpv;have HYM:=qh (qmg hy);have hw1:IntKind.i64.wrap (((j+1:Nat):Int) - 1)=(j:Int):=by rw[IntWalk.i64_in _ (by omega)];omega
     have hjI:(j:Int)<(N:Int):=by omega
     have hj0:(0:Int)<((j+1:Nat):Int):=by omega
     obtain⟨k,hkj⟩:∃k,j+1=k:=⟨_,rfl⟩;have HKJ:=qh hkj;rw[hkj]at a0  hkI hw1 hj0 HST HRR HKN HPV ⊢;have hbl:=hbb;clear hk hr hu hx hst he2 he3 hq hm1 hkN hxm hbb hy hq' he2' he3' hpv hkj;go_wp2_with fail
     refine HM1.out.mono ?_;rintro e w2 ⟨rfl,hU2⟩
     cases hb:may x with
     | false=>
       have HB:=qh hb;have HU2:=qh (HU.out.same hU2);clear hb hU2;go_wp2_with fail
       go_ret;refine⟨?_,HU2.out⟩;rw[HRR.out,HST.out,HB.out];rfl
     | true=>
       have HB:=qh hb;have HU2:=qh (HU.out.same hU2);have b0:=(hU2.cell (p:=⟨bb,oo+j,none⟩) hbl id).trans b0;have hl2:=HLESS.out y HYM.out x HXM.out w2 (HU.out.same hU2);have HL2:=qh hl2;unfold elemI at HL2;clear hb hU2 hl2;go_wp2_with fail
       refine HL2.out.mono ?_;rintro e w3 ⟨rfl,hU3⟩
       cases hb3:less y x with
       | false=>
         have HB3:=qh hb3;have HU3:=qh (HU2.out.same hU3);clear hb3 hU3;go_wp2_with fail
         go_ret;refine⟨?_,HU3.out⟩;rw[HRR.out,HST.out,HB.out,HPV.out];simp only[HB3.out];rfl
       | true=>
         have HB3:=qh hb3;have HU3:=qh (HU2.out.same hU3);clear hb3 hU3;go_wp2_with fail
         go_roundw
         case rel=>exact⟨k+1,by go_num,HKN.out,by rw[HRR.out,HST.out,HB.out,HPV.out];simp[HB3.out],HU3.out⟩
         case measure=>
          have:=HKN.out;simp only[intOf];omega
   ·obtain rfl:k=N:=by omega
    have HU:=qh hu;have HRR:=qh hr;clear hu hr hk;go_wp2_with fail
    go_ret;refine⟨?_,HU.out⟩;rw[HRR.out,List.drop_eq_nil_of_le (by rw[HNN.out];exact qlr _)]
    rfl
 ·have hR:risingP most may less L=false:=by unfold risingP;simp[hlm]
  rw[hR];have hlI:(most:Int)<((N:Nat):Int):=by omega
  rw[hN]at hnI ⊢;clear hE hmay hless hn hm hcc hN hlm hR;go_enter Tryz.func233,Tryz.ntmps233
  go_wp2_with fail
  go_ret;exact⟨rfl,Upd.refl _ _⟩
theorem seq_ok(n least:Int)(w:World):Calls Tryz.prog 175 #[.int .i64 n,.int .i64 least] w (BoolP (seqP n least) w):=by
 by_cases h0:least≤n<;>by_cases h1:n≤1099511627776<;>
  (go_enter Tryz.func175,Tryz.ntmps175
   go_wp2_with fail
   go_ret;exact⟨by simp[seqP,h0,h1],Upd.refl _ _⟩)
theorem node_ok(n:Int)(w:World):Calls Tryz.prog 176 #[.int .i64 n] w (BoolP (nodeP n) w):=by
 by_cases h0:0≤n<;>by_cases h1:n<8<;>
  (go_enter Tryz.func176,Tryz.ntmps176
   go_wp2_with fail
   go_ret;exact⟨by simp[nodeP,h0,h1],Upd.refl _ _⟩)
theorem kind_ok(n:Int)(w:World):Calls Tryz.prog 127 #[.int .i64 n] w (BoolP (kindP n) w):=by
 by_cases h0:1≤n<;>by_cases h1:n≤10<;>
  (go_enter Tryz.func127,Tryz.ntmps127
   go_wp2_with fail
   go_ret;exact⟨by simp[kindP,h0,h1],Upd.refl _ _⟩)
theorem reckey_ok(s:Bs)(hs:s.length≤1000000)(w:World):Calls Tryz.prog 173 #[strV s] w (BoolP (keyP s) w):=by
 have hl:((s.length:Nat):Int)≤1000000:=by omega
 by_cases h0:s=[]
 ·subst h0;go_enter Tryz.func173,Tryz.ntmps173
  go_wp2_with fail
  go_ret;exact⟨by simp[keyP],Upd.refl _ _⟩
 ·have hb:(s == [])=false:=by
   rw[beq_eq_false_iff_ne];exact h0
  by_cases h1:s.length≤16
  ·have h2:((s.length:Nat):Int)≤16:=by omega
   go_enter Tryz.func173,Tryz.ntmps173
   go_wp2_with fail
   go_ret;exact⟨by simp[keyP,h0,h1],Upd.refl _ _⟩
  ·have h2:(16:Int)<((s.length:Nat):Int):=by omega
   go_enter Tryz.func173,Tryz.ntmps173
   go_wp2_with fail
   go_ret;exact⟨by simp[keyP,h0,h1,h2],Upd.refl _ _⟩
theorem recvalue_ok(h:Bool)(d:Bs)(hd:d.length≤1000000)(w:World):Calls Tryz.prog 174 #[.agg #[.bool h,strV d]] w (BoolP (valueP h d) w):=by
 have hl:((d.length:Nat):Int)≤1000000:=by omega
 have hu:=(Upd.refl Nowhere w).alloc (.cells #[.bool h,strV d] 32);have HU:=qh hu;clear hu;by_cases h1:d.length≤32
 ·have h2:((d.length:Nat):Int)≤32:=by omega
  cases h with
  | true=>
    go_enter Tryz.func174,Tryz.ntmps174
    go_wp2_with fail
    go_ret;exact⟨by simp[valueP,h1],HU.out⟩
  | false=>
    by_cases h0:d=[]
    ·subst h0;go_enter Tryz.func174,Tryz.ntmps174
     go_wp2_with fail
     go_ret;exact⟨by simp[valueP],HU.out⟩
    ·have hb:(d == [])=false:=by
      rw[beq_eq_false_iff_ne];exact h0
     go_enter Tryz.func174,Tryz.ntmps174
     go_wp2_with fail
     go_ret;exact⟨by simp[valueP,h0,h1],HU.out⟩
 ·have h2:(32:Int)<((d.length:Nat):Int):=by omega
  go_enter Tryz.func174,Tryz.ntmps174
  go_wp2_with fail
  go_ret;exact⟨by simp[valueP,h1],HU.out⟩
def nilS:Sls:=⟨(none,0,0),(none,0,0),(none,0,0),(none,0,0),(none,0,0),(none,0,0)⟩
theorem locks_nil(w:World):Calls Tryz.prog 178 #[.slice none 0 0] w (BoolP true w):=by
 have hr:Calls Tryz.prog 236 #[.slice none 0 0,.int .i64 64,.func (.func 237) #[] #[],.func (.func 238) #[] #[]] w (BoolP true w):=by
  go_enter Tryz.func236,Tryz.ntmps236
  go_wp2_with fail
  go_loopw [17] (fun s17 wr=>s17= .int .i64 0∧wr=w) (fun _ _=>1)
  case atStart=>exact⟨rfl,rfl⟩
  case round=>
   obtain⟨rfl,rfl⟩:=hrel;go_wp2_with fail
   go_ret;exact⟨rfl,Upd.refl _ _⟩
 have HR:=qh hr;clear hr;go_enter Tryz.func178,Tryz.ntmps178
 go_wp2_with fail
 refine HR.out.mono ?_;rintro e w2 ⟨rfl,hU2⟩;have HU2:=qh hU2;clear hU2;go_wp2_with fail
 go_ret;exact⟨rfl,HU2.out⟩
theorem members_nil(w:World):Calls Tryz.prog 177 #[.slice none 0 0] w (BoolP true w):=by
 have hr:Calls Tryz.prog 233 #[.slice none 0 0,.int .i64 8,.func (.func 176) #[] #[],.func (.func 235) #[] #[]] w (BoolP true w):=by
  go_enter Tryz.func233,Tryz.ntmps233
  go_wp2_with fail
  go_loopw [17] (fun s17 wr=>s17= .int .i64 0∧wr=w) (fun _ _=>1)
  case atStart=>exact⟨rfl,rfl⟩
  case round=>
   obtain⟨rfl,rfl⟩:=hrel;go_wp2_with fail
   go_ret;exact⟨rfl,Upd.refl _ _⟩
 have HR:=qh hr;clear hr;go_enter Tryz.func177,Tryz.ntmps177
 go_wp2_with fail
 refine HR.out.mono ?_;rintro e w2 ⟨rfl,hU2⟩;have HU2:=qh hU2;clear hU2;go_wp2_with fail
 go_ret;exact⟨rfl,HU2.out⟩
def RdF(R g:Nat)(k:Nat):Prop:=k=R∨k=g
def RdP(R g t:Nat)(rest:Bs)(cs:Array Value)(w:World)(e:Ending)(w':World):Prop:=e= .returned (.tuple #[])∧RAt w' R (rest,0)∧Blk w' g t cs∧Upd (RdF R g) w w'
theorem cnum_r{R g t off:Nat}{n:Int}{rest:Bs}{w:World}{cs:Array Value}(h:RAt w R (numZ n++rest,0))(hn:0≤n∧n≤1099511627776)(hl:(numZ n++rest).length≤1000000)(hb:Blk w g t cs)(ht:t≠5)(hg:g≠R){n0:Int}(hc:cs[off]? =some (.int .i64 n0)):
 Calls Tryz.prog 193 #[cR R,.pointer (some ⟨g,off,none⟩)] w (RdP R g t rest (cs.setIfInBounds off (.int .i64 n)) w):=by
 have hU0:=(Upd.refl Nowhere w).alloc (.cells #[.pointer none,.pointer (some ⟨R,0,none⟩)] 214);have hR1:=h.upd hU0 id fun _ e=>absurd e id
 have hb1:=hb.upd hU0 id;have hnum:=rnum_ok hR1 hl 1099511627776 (by omega)
 have hrd:numR 1099511627776 (numZ n++rest,0)=(n.toNat,(rest,0)):=numR_short (by omega) (by omega) rest
 rw[hrd]at hnum;obtain⟨m,rfl⟩:=Int.eq_ofNat_of_zero_le hn.1;have HU0:=qh hU0;have HB1:=qh hb1;have HC:=qh hc;clear h hn hl hb hc hU0 hR1 hb1 hrd;unfold cR;go_enter Tryz.func193,Tryz.ntmps193
 go_wp2_with fail
 refine hnum.mono ?_;clear hnum;rintro e w2 ⟨rfl,hR2,hU2⟩;have hb2:=HB1.out.upd hU2 hg;have c2:=hb2.cell off;rw[HC.out]at c2;have f2:=hb2.frozen off;have HB2:=qh hb2;have HR2:=qh hR2;have HU2:=qh hU2;clear hb2 hR2 hU2;simp only[Int.toNat_natCast];go_wp2_with fail
 go_end0;have hu3:=Upd.one w2 g off (.int .i64 (m:Nat));refine⟨rfl,HR2.out.upd hu3 (fun e=>hg e.symm) (noU8_blk HB2.out ht),HB2.out.set_ off _,?_⟩
 exact(HU0.out.any.same (HU2.out.mono fun k _ e=> .inl e)).same (hu3.mono fun k _ e=> .inr e)
theorem RdP.upd{R g t:Nat}{rest:Bs}{cs:Array Value}{w0 w:World}{e:Ending}{w':World}(hu:Upd (RdF R g) w0 w)(h:RdP R g t rest cs w e w'):RdP R g t rest cs w0 e w':=⟨h.1,h.2.1,h.2.2.1,hu.same h.2.2.2⟩
def setAll:Array Value→List Nat→List Int→Array Value
 | cs,o::os,n::ns=>setAll (cs.setIfInBounds o (.int .i64 n)) os ns
 | cs,_,_=>cs
def allInts(cs:Array Value)(os:List Nat):Prop:=∀o∈os,∃n0:Int,cs[o]? =some (.int .i64 n0)
theorem allInts.set{cs:Array Value}{os:List Nat}(h:allInts cs os)(o:Nat)(n:Int):allInts (cs.setIfInBounds o (.int .i64 n)) os:=fun x hx=>by
 obtain⟨n0,h0⟩:=h x hx;rw[Array.getElem?_setIfInBounds];by_cases hxo:o=x
 ·subst hxo;have hlt:o<cs.size:=(Array.getElem?_eq_some_iff.1 h0).1;exact⟨n,by simp[hlt]⟩
 ·exact⟨n0,by rw[if_neg hxo];exact h0⟩
theorem setAll_take:∀(os:List Nat) (ns:List Int) (cs:Array Value) (k:Nat) (o:Nat) (n:Int),os[k]? =some o→ns[k]? =some n→setAll cs (os.take (k+1)) (ns.take (k+1))=(setAll cs (os.take k) (ns.take k)).setIfInBounds o (.int .i64 n):=by
 intro os
 induction os with
 | nil=>intro ns cs k o n h;simp at h
 | cons a os ih=>
   intro ns cs k o n h1 h2
   cases ns with
   | nil=>simp at h2
   | cons b ns=>
     cases k with
     | zero=>
       simp only[qZ,Option.some.injEq]at h1 h2;subst h1 h2;simp[setAll]
     | succ k=>
       simp only[qS]at h1 h2;rw[List.take_succ_cons,List.take_succ_cons,List.take_succ_cons,List.take_succ_cons,setAll,setAll,ih ns _ k o n h1 h2]
theorem allInts.setAll{cs:Array Value}{os:List Nat}(h:allInts cs os):∀(os':List Nat) (ns:List Int),allInts (setAll cs os' ns) os:=by
 intro os'
 induction os' generalizing cs with
 | nil=>intro ns;exact h
 | cons a os' ih=>
   intro ns
   cases ns with
   | nil=>exact h
   | cons n ns=>exact ih (h.set a n) ns
theorem nums_r{R g t vb:Nat}{rest:Bs}{w:World}{cs:Array Value}{os:List Nat}{ns:List Int}(h:RAt w R (ns.flatMap numZ++rest,0))(hn:∀n∈ns,0≤n∧n≤1099511627776)(hl:(ns.flatMap numZ++rest).length≤1000000)(hb:Blk w g t cs)(ht:t≠5)(hg:g≠R)(hc:allInts cs os)(hlen:os.length=ns.length)(h10:os.length≤10)
 (hv:Blk w vb 194 (os.map fun o=>(Value.pointer (some ⟨g,o,none⟩))).toArray) (hvR:vb≠R) (hvg:vb≠g):
 Calls Tryz.prog 182 #[cR R,.slice (some ⟨vb,0,none⟩) os.length os.length] w (RdP R g t rest (setAll cs os ns) w):=by
 have hU0:=(Upd.refl Nowhere w).alloc (.cells #[.pointer none,.pointer (some ⟨R,0,none⟩)] 214);have hB:=Blk.new w 214 #[.pointer none,.pointer (some ⟨R,0,none⟩)];have hR1:=h.upd hU0 id fun _ e=>absurd e id
 have hb1:=hb.upd hU0 id;have hv1:=hv.upd hU0 id;have hbR:w.heap.size≠R:=by have:=h.lt;omega
 have hbg:w.heap.size≠g:=by have:=hb.lt;omega
 have HU0:=qh hU0;have HB:=qh hB;have HR1:=qh hR1;have HB1:=qh hb1;have HV1:=qh hv1;have HN:=qh hn;have HL:=qh hl;have HC:=qh hc;have HLEN:=qh hlen;obtain⟨N,hNN⟩:∃N,os.length=N:=⟨_,rfl⟩;have HNN:=qh hNN;have hN:(N:Int)≤10:=by omega
 rw[hNN];clear h hn hl hb hc hlen h10 hv hU0 hB hR1 hb1 hv1 hNN;unfold cR at*;go_enter Tryz.func182,Tryz.ntmps182
 go_wp2_with fail
 generalize w.alloc (.cells #[.pointer none,.pointer (some ⟨R,0,none⟩)] 214)=w1 at*;generalize w.heap.size=bx at*;go_loopw [8] (fun s8 wr=>∃k:Nat,s8= .int .i64 (k:Int)∧k≤N∧RAt wr R ((ns.drop k).flatMap numZ++rest,0)∧Blk wr g t (setAll cs (os.take k) (ns.take k))∧Upd (RdF R g) w1 wr) (fun s8 _=>N - (intOf s8).toNat)
 case atStart=>exact⟨0,rfl,by omega,HR1.out,HB1.out,Upd.refl _ _⟩
 case round=>
  obtain⟨k,rfl,hk,hR,hb,hu⟩:=hrel;by_cases hkN:k<N
  ·obtain⟨o,ho⟩:∃o,os[k]? =some o:=⟨_,qeg (by rw[HNN.out];exact hkN)⟩
   obtain⟨n,hn⟩:∃n,ns[k]? =some n:=⟨_,qeg (by rw[←HLEN.out,HNN.out];exact hkN)⟩
   have hdr:ns.drop k=n::ns.drop (k+1):=by
    obtain⟨h1,rfl⟩:=qei.1 hn;exact List.drop_eq_getElem_cons h1
   have hst:=setAll_take os ns cs k o n ho hn
   have hdl:((ns.drop k).flatMap numZ++rest).length≤1000000:=by
    have:=HL.out
    have e:(ns.flatMap numZ).length=((ns.take k).flatMap numZ).length+((ns.drop k).flatMap numZ).length:=by
     conv=>lhs;rw[←List.take_append_drop k ns,List.flatMap_append,qla]
    rw[qla]at this ⊢;omega
   rw[hdr,List.flatMap_cons,qaa]at hR hdl;obtain⟨n0,hn0⟩:=(HC.out.setAll (os.take k) (ns.take k)) o (qmg ho);have hBr:=HB.out.upd hu (fun e=>by rcases e with e | e<;>omega)
   have hVr:=HV1.out.upd hu (fun e=>by rcases e with e | e<;>omega)
   have cv:=hVr.cell k;rw[qA,qgm,ho]at cv;simp only[Option.map_some]at cv;have hnum:=cnum_r hR (HN.out n (qmg hn)) hdl hb ht hg hn0;have b0:=hBr.cell 0;have b1:=hBr.cell 1;simp only[qA,qZ,qS]at b0 b1;have HNU:=qh hnum;have HST:=qh hst;have HU:=qh hu;have hkI:(k:Int)<(N:Int):=by omega
   have HKN:=qh hkN;unfold cR at HNU;clear hR hb hu ho hn hdr hst hdl hn0 hBr hVr hnum hk hkN;go_wp2_with fail
   refine HNU.out.mono ?_;rintro e w2 ⟨rfl,hR2,hb2,hU2⟩;have HR2:=qh hR2;have HB2:=qh hb2;have HU2:=qh hU2;clear hR2 hb2 hU2;go_wp2_with fail
   go_roundw
   case rel=>exact⟨k+1,by go_num,HKN.out,HR2.out,by rw[HST.out];exact HB2.out,HU.out.same HU2.out⟩
   case measure=>
    have:=HKN.out;simp only[intOf];omega
  ·obtain rfl:k=N:=by omega
   have HR:=qh hR;have HBB:=qh hb;have HU:=qh hu;clear hR hb hu hk;go_wp2_with fail
   go_end0;have h1:=HR.out;have h2:=HBB.out;rw[List.drop_eq_nil_of_le (by rw[←HLEN.out,HNN.out];exact qlr _)]at h1
   rw[List.take_of_length_le (by rw[HNN.out];exact qlr _),List.take_of_length_le (by rw[←HLEN.out,HNN.out];exact qlr _)]at h2
   exact⟨rfl,h1,h2,HU0.out.any.same HU.out⟩
end Go.Proofs.YtdfccegeihfdpaaGreatDoor
