/-
  The log and all below it: part 3 of 10 (merged by mergew.py).
-/
import Derived.Test.YtdfccegeihfdpaaGreatDoorAWm2
set_option maxRecDepth 1000000
set_option maxHeartbeats 4000000
namespace Go.Proofs.YtdfccegeihfdpaaGreatDoor
open Go Go.RowKit
def SheetS.arr(s:SheetS):Array Value:=#[.int .i64 s.inc,.int .i64 s.pos,.int .i64 s.first,strV s.data]
theorem ix2_0(a b:Value)(w:World):(Instr.index 300 (.agg #[a,b]) (.int .i64 0)).run Tryz.prog w= .ok a w:=by kernel_rfl
theorem ix2_1(a b:Value)(w:World):(Instr.index 300 (.agg #[a,b]) (.int .i64 1)).run Tryz.prog w= .ok b w:=by kernel_rfl
def SheetS.fits(s:SheetS):Bool:=decide (s.first=255) || decide (s.first≤(s.data.length:Nat))
theorem smay_ok(s:SheetS)(h1:0≤s.inc∧s.inc≤1099511627776)(h2:0≤s.pos∧s.pos≤1099511627776)(h3:s.data.length≤242)(h4:0≤s.first)(w:World):Calls Tryz.prog 151 #[.agg s.arr] w fun e w'=>e= .returned (.bool s.fits)∧Upd Nowhere w w':=by
 obtain⟨inc,pos,first,data⟩:=s;simp only at h1 h2 h3 h4;unfold SheetS.arr;simp only;have a1:¬inc<0:=by omega
 have a2:¬(1099511627776:Int)<inc:=by omega
 have a3:¬pos<0:=by omega
 have a4:¬(1099511627776:Int)<pos:=by omega
 have a5:((data.length:Nat):Int)≤242:=by omega
 have hB:=Blk.new w 176 #[.int .i64 inc,.int .i64 pos,.int .i64 first,strV data];have c2:=hB.cell 2;have c3:=hB.cell 3;simp only[qA,qZ,qS]at c2 c3;have HU:=qh ((Upd.refl Nowhere w).alloc (.cells #[.int .i64 inc,.int .i64 pos,.int .i64 first,strV data] 176));have hcases:(first=255)∨(first≠255∧first≤(data.length:Nat))∨(first≠255∧¬first≤(data.length:Nat)):=by omega
 have HF:Hid (SheetS.fits ⟨inc,pos,first,data⟩=(decide (first=255) || decide (first≤(data.length:Nat)))):=qh rfl;clear h1 h2 h3 hB;go_enter Tryz.func151,Tryz.ntmps151
 go_wp2_with fail
 generalize w.alloc (.cells #[.int .i64 inc,.int .i64 pos,.int .i64 first,strV data] 176)=w1 at*;go_loopw [10] (fun s10 wr=>∃k:Nat,s10= .int .i64 (k:Int)∧k≤2∧wr=w1) (fun s10 _=>2 - (intOf s10).toNat)
 case atStart=>exact⟨0,rfl,by omega,rfl⟩
 case round=>
  obtain⟨k,rfl,hk,rfl⟩:=hrel
  rcases(by omega:k=2∨k=0∨k=1) with rfl | rfl | rfl
  ·rcases hcases with rfl | ⟨hne,hle⟩ | ⟨hne,hle⟩
   ·go_wp2_with fail
    go_ret;exact⟨by rw[HF.out];rfl,HU.out⟩
   ·have hne':(first == 255)=false:=by simpa using hne
    have HNE:=qh hne;have HLE:=qh hle;clear hne;go_wp2_with fail
    go_ret;exact⟨by rw[HF.out];simp[HNE.out,HLE.out],HU.out⟩
   ·have hne':(first == 255)=false:=by simpa using hne
    have HNE:=qh hne;have HLE:=qh hle;clear hne;go_wp2_with fail
    go_ret;exact⟨by rw[HF.out];simp[HNE.out],HU.out⟩
  ·have hix:=ix2_0;go_wp2_with fail
   go_roundw
   case rel=>exact⟨1,by go_num,by omega,by trivial⟩
   case measure=>simp[intOf]
  ·have hix:=ix2_1;go_wp2_with fail
   go_roundw
   case rel=>exact⟨2,by go_num,by omega,by trivial⟩
   case measure=>simp[intOf]
def SdecP(p:Bs)(w:World)(e:Ending)(w':World):Prop:=∃(s:SheetS) (x:Int),e= .returned (.tuple #[.agg s.arr,.int .i64 x])∧(x=0∧sheetOf p=some s∨x≠0∧sheetOf p=none)∧Upd Nowhere w w'
theorem take5_lt(b:Bs):takeN 0 (b.take 5)<1099511627776:=by
 have:=takeN_lt (k:=0) (b:=b.take 5) (n:=0) (by decide)
 have h2:(b.take 5).length≤5:=List.length_take_le _ _;exact Nat.lt_of_lt_of_le this (by rw[Nat.zero_add,show 1099511627776=256 ^ 5 by decide];exact Nat.pow_le_pow_right (by omega) h2)
theorem sdec_ok{w:World}{v:Value}{p:Bs}(h:BytesE w v p)(hp:p.length=254):Calls Tryz.prog 109 #[v] w (SdecP p w):=by
 have hH:=h;obtain⟨bb,off,c,rfl,hbl,h10⟩:=byte_at h (getD_get (b:=p) (i:=10) (by omega))
 obtain⟨bb',off',c',he,_,h11⟩:=byte_at h (getD_get (b:=p) (i:=11) (by omega))
 injection he with he1 he2 he3
 injection he1 with he1
 injection he1 with e1 e2
 subst e1 e2
 have hc:p.length≤c:=by
  obtain⟨_,_,e,hc,_⟩:=hH;injection e with _ _ e3
  omega
 have h256:=UInt8.toNat_lt (p.getD 11 0);have h255:=UInt8.toNat_lt (p.getD 10 0);have hT1:=fun (w1:World) (h1:BytesE w1 (.slice (some ⟨bb,off,none⟩) p.length c) p)=>takeWide5_ok h1 (by omega) (by omega)
 have hSO:sheetOf p=if p.length<12+(p.getD 11 0).toNat then none else if (decS p).first=255∨(decS p).first≤(decS p).data.length then some (decS p) else none:=rfl
 have hDS:decS p=⟨takeN 0 (p.take 5),takeN 0 ((p.drop 5).take 5),(p.getD 10 0).toNat,(p.drop 12).take (p.getD 11 0).toNat⟩:=rfl;have hp':((p.length:Nat):Int)=254:=by omega
 generalize p.getD 10 0=x10 at*;generalize p.getD 11 0=x11 at*;generalize x11.toNat=n11 at*;generalize x10.toNat=n10 at*;have H:=qh h;have HSO:=qh hSO;have HDS:=qh hDS;have HP:=qh hp;have b11:(n11:Int)≤255:=by omega
 have b10:(n10:Int)≤255:=by omega
 by_cases hs:242<n11
 ·have hs':(254:Int)<12+(n11:Int):=by omega
  have HS:=qh hs;have hB:=Blk.new w 176 #[.int .i64 0,.int .i64 0,.int .i64 0,strV []];have e0:=hB.cell 0;have e1:=hB.cell 1;have e2:=hB.cell 2;have e3:=hB.cell 3;simp only[qA,qZ,qS]at e0 e1 e2 e3;clear hT1 h hSO hDS he2 he3 hH hp hs h256 h255 hB;go_enter Tryz.func109,Tryz.ntmps109
  go_wp2_with fail
  refine bodyPost_ret (v:= .tuple #[.agg (SheetS.arr ⟨0,0,0,[]⟩),.int .i64 10]) (by simp[results,Tryz.results109,go_sem,e0,e1,e2,e3,SheetS.arr]) rfl ⟨_,_,rfl,.inr ⟨by omega,?_⟩,(Upd.refl _ w).alloc _⟩
  rw[HSO.out,if_pos (by have:=HP.out;have:=HS.out;omega)]
 ·have hs':¬(254:Int)<12+(n11:Int):=by omega
  have HS:=qh hs;obtain⟨m,hm⟩:∃m,m=12+n11:=⟨_,rfl⟩;have HMM:=qh hm;have hB:=Blk.new w 176 #[.int .i64 0,.int .i64 0,.int .i64 0,strV []];have hE1:=H.out.alloc (.cells #[.int .i64 0,.int .i64 0,.int .i64 0,strV []] 176);have hc5:¬c=5:=by omega
  have hc5':(5:Int)≤(c:Int):=by omega
  have hT5:=Els.part byteC_len hE1 5 249 (by omega) (by omega:249≤c - 5) (by simp;omega)
  rw[Nat.mul_one,List.take_of_length_le (by simp;omega),show 249=p.length - 5 by omega]at hT5
  have hD:=Els.part byteC_len hE1 12 n11 (by omega) (by omega:n11≤c - 12) (by simp;omega)
  rw[Nat.mul_one]at hD;have h10a:(w.alloc (.cells #[.int .i64 0,.int .i64 0,.int .i64 0,strV []] 176)).cell? ⟨bb,off+10,none⟩=some (.int .u8 (n10:Int)):=((Upd.refl Nowhere w).alloc (.cells #[.int .i64 0,.int .i64 0,.int .i64 0,strV []] 176)).cell (p:=⟨bb,off+10,none⟩) hbl id |>.trans h10;have t1lt:=take5_lt p;have t2lt:=take5_lt (p.drop 5);have hdl:(p.drop 5).length=249:=by simp;omega
  have HT1:=qh (takeWide5_ok hE1 (by omega) (by omega))
  have HT5:=qh (takeWide5_ok hT5 (by omega) (by omega))
  have hDl:((p.drop 12).take n11).length=n11:=by simp;omega
  obtain⟨dat,hdat⟩:∃dat,(p.drop 12).take n11=dat:=⟨_,rfl⟩;rw[hdat]at hD hDl;have HDAT:=qh hdat;have HDL:=qh hDl;have HB:=qh hB;have HD:=qh hD;obtain⟨t1,ht1⟩:∃t1,takeN 0 (p.take 5)=t1:=⟨_,rfl⟩;obtain⟨t2,ht2⟩:∃t2,takeN 0 ((p.drop 5).take 5)=t2:=⟨_,rfl⟩;rw[ht1]at t1lt;rw[ht2]at t2lt;have hTT1:=HT1.out;rw[ht1]at hTT1;have hTT5:=HT5.out;rw[ht2]at hTT5;have HT1:=qh hTT1;have HT5:=qh hTT5;have T1:=qh ht1;have T2:=qh ht2;have t1i:(t1:Int)<1099511627776:=by omega
  have t2i:(t2:Int)<1099511627776:=by omega
  clear hT1 h hSO hDS he2 he3 hH hp hs h256 h255 hB hE1 hT5 hD hdl hTT1 hTT5 ht1 ht2 t1lt t2lt hDl hdat hm;go_enter Tryz.func109,Tryz.ntmps109
  go_wp2_with fail
  refine HT1.out.mono ?_;rintro e w1 ⟨rfl,rfl⟩;go_wp2_with fail
  refine HT5.out.mono ?_;rintro e w2 ⟨rfl,rfl⟩;go_wp2_with fail
  generalize hw1:w.alloc (.cells #[.int .i64 0,.int .i64 0,.int .i64 0,strV []] 176)=w1 at*;have HW1:Hid (Upd Nowhere w w1):=qh (by rw[←hw1];exact(Upd.refl _ w).alloc _)
  have hmm:=HMM.out;have em:(12:Int)+(n11:Int)=(m:Int):=by omega
  have em2:m - 12=n11:=by omega
  have hv1:(convert 143 9 (.slice (some ⟨bb,off+12,none⟩) (m - 12) (c - 12))).run Tryz.prog w1.drew= .ok (strV dat) w1.drew:=by rw[em2];exact conv_back (by have h1:=HD.out;have h2:=HDL.out;exact h1.upd ((Upd.refl Nowhere w1).drew) fun _ _=>id)
  have hv2:(convert 143 9 (.slice (some ⟨bb,off+12,none⟩) (m - 12) (c - 12))).run Tryz.prog ((w1.alloc (.cells #[.int .i64 0,.int .i64 0,.int .i64 0,strV []] 176)).drew)= .ok (strV dat) ((w1.alloc (.cells #[.int .i64 0,.int .i64 0,.int .i64 0,strV []] 176)).drew):=by
   rw[em2];exact conv_back (HD.out.upd (((Upd.refl Nowhere w1).alloc _).drew) fun _ _=>id)
  have hbl1:bb<w1.heap.size:=by have:=HW1.out.size;omega
  have hA:(12:Int)≤(m:Int):=by omega
  have hA':12≤m:=by omega
  have hBc:(m:Int)≤(c:Int):=by omega
  have hBc':m≤c:=by omega
  have hne12:¬c=12:=by omega
  have hlt10:(10:Int)<((p.length:Nat):Int):=by omega
  rw[em];clear em em2 hmm hw1 hp' hs' hc5 hc5';go_region
  all_goals
   go_wp2_with fail
   refine(smay_ok ⟨t1,t2,n10,dat⟩ (by simp only;omega) (by simp only;omega) (by have:=HDL.out;have:=HS.out;simp only;omega) (by simp only;omega) _).mono ?_
   rintro e w5 ⟨rfl,hU5⟩;have hsz:w.heap.size<w1.heap.size:=HB.out.lt;have hB9:=(Blk.new w1 176 #[.int .i64 (t1:Int),.int .i64 (t2:Int),.int .i64 (n10:Int),strV dat]).drew.upd hU5 id;have hB2:=((HB.out.alloc (.cells #[.int .i64 (t1:Int),.int .i64 (t2:Int),.int .i64 (n10:Int),strV dat] 176)).drew).upd hU5 id;have hu5:Upd Nowhere w w5:=(HW1.out.same (((Upd.refl Nowhere w1).alloc _).drew)).same hU5;have x0:=hB9.cell 0;have x1:=hB9.cell 1;have x2:=hB9.cell 2;have x3:=hB9.cell 3;have y0:=hB2.cell 0;have y1:=hB2.cell 1;have y2:=hB2.cell 2;have y3:=hB2.cell 3;have z0:=hB2.frozen 0;have z1:=hB2.frozen 1;have z2:=hB2.frozen 2;have z3:=hB2.frozen 3;simp only[qA,qZ,qS]at x0 x1 x2 x3 y0 y1 y2 y3;have HB2:=qh hB2;have HU5:=qh hu5;have hSO:=HSO.out;rw[if_neg (by have:=HP.out;have:=HS.out;omega)]at hSO
   have hDS:decS p=⟨t1,t2,n10,dat⟩:=by rw[HDS.out,T1.out,T2.out,HDAT.out]
   rw[hDS]at hSO;have hfit:SheetS.fits ⟨t1,t2,n10,dat⟩=(decide ((n10:Int)=255) || decide ((n10:Int)≤(dat.length:Nat))):=rfl;have HSO2:=qh hSO;have HFIT:=qh hfit;clear hB9 hB2 hu5 hU5 hSO hDS hfit hv1 hv2
   cases hf:SheetS.fits ⟨t1,t2,n10,dat⟩ with
   | true=>
     have HF:=qh hf;clear hf;go_wp2_with fail
     have hF:=(((HB2.out.set_ 0 (.int .i64 (t1:Int))).set_ 1 (.int .i64 (t2:Int))).set_ 2 (.int .i64 (n10:Int))).set_ 3 (strV dat);have e0:=hF.cell 0;have e1:=hF.cell 1;have e2:=hF.cell 2;have e3:=hF.cell 3;simp only[qA,qZ,qS,qsA,qsS,qsZ]at e0 e1 e2 e3;have hu6:=((((HU5.out.any (F:=fun x=>w.heap.size≤x)).setCell (p:=⟨w.heap.size,0,none⟩) (fun _=>qlr _) (.int .i64 (t1:Int))).setCell (p:=⟨w.heap.size,1,none⟩) (fun _=>qlr _) (.int .i64 (t2:Int))).setCell (p:=⟨w.heap.size,2,none⟩) (fun _=>qlr _) (.int .i64 (n10:Int))).setCell (p:=⟨w.heap.size,3,none⟩) (fun _=>qlr _) (strV dat)
     refine bodyPost_ret (v:= .tuple #[.agg (SheetS.arr ⟨t1,t2,n10,dat⟩),.int .i64 0]) (by simp[results,Tryz.results109,go_sem,e0,e1,e2,e3,SheetS.arr]) rfl ⟨_,_,rfl,.inl ⟨rfl,?_⟩,hu6.mono fun k hk h=>absurd h (by omega)⟩
     have hf:=HF.out;rw[HFIT.out]at hf;rw[HSO2.out,if_pos (by simpa using hf)]
   | false=>
     have HF:=qh hf;clear hf;go_wp2_with fail
     have hF:=(((HB2.out.set_ 0 (.int .i64 0)).set_ 1 (.int .i64 0)).set_ 2 (.int .i64 0)).set_ 3 (strV []);have e0:=hF.cell 0;have e1:=hF.cell 1;have e2:=hF.cell 2;have e3:=hF.cell 3;simp only[qA,qZ,qS,qsA,qsS,qsZ]at e0 e1 e2 e3;have hu6:=((((HU5.out.any (F:=fun x=>w.heap.size≤x)).setCell (p:=⟨w.heap.size,0,none⟩) (fun _=>qlr _) (.int .i64 0)).setCell (p:=⟨w.heap.size,1,none⟩) (fun _=>qlr _) (.int .i64 0)).setCell (p:=⟨w.heap.size,2,none⟩) (fun _=>qlr _) (.int .i64 0)).setCell (p:=⟨w.heap.size,3,none⟩) (fun _=>qlr _) (strV [])
     refine bodyPost_ret (v:= .tuple #[.agg (SheetS.arr ⟨0,0,0,[]⟩),.int .i64 11]) (by simp[results,Tryz.results109,go_sem,e0,e1,e2,e3,SheetS.arr]) rfl ⟨_,_,rfl,.inr ⟨by omega,?_⟩,hu6.mono fun k hk h=>absurd h (by omega)⟩
     have hf:=HF.out;rw[HFIT.out]at hf;rw[HSO2.out,if_neg (by simpa using hf)]
theorem wideB5(n:Nat):wideB 5 n=wide5 n:=by simp[wideB,wide5,List.range,List.range.loop]
theorem byte_lit2(w:World)(c d:UInt8):BytesE (w.alloc (.cells #[.int .u8 c.toNat,.int .u8 d.toNat] 5)) (.slice (some ⟨w.heap.size,0,none⟩) 2 2) [c,d]:=
 ⟨_,_,rfl,qlr _,rfl,fun _=>⟨_,rfl,by simp,rfl,fun j u hj=>by
  have e2:(⟨w.heap.size,0,none⟩:Addr).add j=⟨w.heap.size,j,none⟩:=by unfold Addr.add;split<;>simp_all
  rw[e2,(Blk.new w 5 _).cell,qA];exact hj⟩⟩
theorem strCells_of(s:Bs):Lib.strCells ⟨s.toArray⟩=s.flatMap byteC:=by
 rw[flat_byteC];simp[Lib.strCells,bytesV,byteV]
theorem app_str{B:Nat}{w:World}{v:Value}{L:Bs}(h:OwnB B w v L)(hB:B≤w.heap.size)(ty:TypeId)(s:Bs)(hn:L.length+s.length≤100000):
 ∃A c w',(Builtin.append_ #[143,9] ty #[v,strV s]).run Tryz.prog w= .ok (.slice A (L.length+s.length) c) w'∧OwnB B w' (.slice A (L.length+s.length) c) (L++s)∧Upd (fun k=>v.ownBlock=some k) w w':=by
 obtain⟨z,bytes,hinfo,hzs,hby⟩:=byte_row.info;obtain⟨i,hi,hz,hs,hb⟩:=info_parts hinfo;have hi2:(Tryz.prog.info? 5).map (fun i=>(i.zero,i.size,i.bytes))=some (some (.int .u8 0),1,1):=by kernel_rfl
 obtain⟨i',hi',hz',hs',hb'⟩:=info_parts hi2
 have hrow:w.ownsRow B 5 1 v L.length (L.flatMap byteC):=by
  refine⟨h.row.1,?_⟩
  rcases h.row.2 with h0 | ⟨g,cap,cur,rfl,_,h2⟩
  ·exact .inl h0
  ·exact .inr ⟨g,cap,cur,rfl,h.new g rfl,h2⟩
 have hsz:(⟨s.toArray⟩:ByteArray).size=s.length:=by simp[ByteArray.size]
 obtain⟨v',w',h1,h2,h3,_⟩:=Lib.run_append_own_string (P:=Tryz.prog) w B 143 9 ty 5 i' Tryz.underlying143 Tryz.underlying9 hi' hz' hs' hb' v L.length (L.flatMap byteC) hrow ⟨s.toArray⟩ (by rw[hsz];simp only[maxLen];omega) (by rw[hsz];omega) hB
 rw[hsz,strCells_of,←List.flatMap_append,←qla]at h2
 have ho:OwnB B w' v' (L++s):=by
  refine⟨⟨h2.1,?_⟩,fun k hk=> ?_⟩
  ·rcases h2.2 with h0 | ⟨g,cap,cur,rfl,_,h2⟩
   ·exact .inl h0
   ·exact .inr ⟨g,cap,cur,rfl,Nat.zero_le _,h2⟩
  ·rcases h2.2 with⟨rfl,_⟩ | ⟨g,cap,cur,rfl,hb,_⟩
   ·cases hk
   ·obtain rfl:g=k:=by simpa [Value.ownBlock] using hk
    exact hb
 obtain⟨A,c,rfl,hc⟩:=ho.cap;rw[qla]at h1 ho;exact⟨A,c,w',h1,ho,(Upd.refl _ w).grown h3 fun k hk _=>hk⟩
theorem wpList_appstr_run{P:Program}{ops:Array Oper}{Q:Exit→Act→World→Prop}{a:Act}{w:World}{rest:List Oper}{o:Oper}(hg:o.guard=none)(s x:Operand)(t u:TypeId)(ho:o.op= .call { callee:= .builtin .append,args:=#[s,x],argTypes:=#[t,u] }){v1 v2 v':Value}{w':World}
 (hs:a.eval s=v1) (hx:a.eval x=v2) (hrun:(Builtin.append_ #[t,u] o.type #[v1,v2]).run P w= .ok v' w') (h:wpList P ops Q rest (a.put o.dst v') w'):wpList P ops Q (o::rest) a w:=by
 refine wpList_plain hg fun K hK=> ?_
 unfold Oper.wp execOp;simp only[ho,resolve,invoke,builtin,Sem.run_bind,Sem.run_pure,Result.andThen_ok,List.map_toArray,List.map_cons,List.map_nil,hs,hx,hrun];exact hK _ _ h
theorem senc_ok(s:SheetS)(h1:0≤s.inc∧s.inc<1099511627776)(h2:0≤s.pos∧s.pos<1099511627776)(h3:s.data.length≤242)(h4:s.first=255∨0≤s.first∧s.first≤(s.data.length:Nat))(w:World):
 Calls Tryz.prog 98 #[.agg s.arr] w fun e w'=>∃A c,e= .returned (.tuple #[.slice A s.enc.length c,.int .i64 0])∧OwnB w.heap.size w' (.slice A s.enc.length c) s.enc∧Upd Nowhere w w':=by
 obtain⟨inc,pos,first,data⟩:=s;simp only at h1 h2 h3 h4;obtain⟨ni,rfl⟩:∃n:Nat,inc=(n:Int):=⟨inc.toNat,by omega⟩
 obtain⟨np,rfl⟩:∃n:Nat,pos=(n:Int):=⟨pos.toNat,by omega⟩
 obtain⟨nf,rfl⟩:∃n:Nat,first=(n:Int):=⟨first.toNat,by omega⟩
 have hfit:SheetS.fits ⟨ni,np,nf,data⟩=true:=by
  have:SheetS.fits ⟨ni,np,nf,data⟩=(decide ((nf:Int)=255) || decide ((nf:Int)≤(data.length:Nat))):=rfl;rw[this]
  rcases h4 with h | ⟨_,h⟩<;>simp[h]
 have hM:=fun w=>smay_ok ⟨ni,np,nf,data⟩ (by simp only;omega) (by simp only;omega) (by simpa using h3) (by simp only;omega) w
 rw[hfit]at hM
 have hEnc:SheetS.enc ⟨ni,np,nf,data⟩=(wideB 5 ni++wideB 5 np)++[UInt8.ofNat nf,UInt8.ofNat data.length]++data:=by
  simp only[SheetS.enc,Int.toNat_natCast,wideB5,qaa,List.cons_append,List.nil_append]
 have hW1:=fun w=>wide5_ok ni (by omega) w
 have hW2:=fun w=>wide5_ok np (by omega) w
 unfold SheetS.arr at hM ⊢;simp only at hM ⊢;have hB:=Blk.new w 176 #[.int .i64 ni,.int .i64 np,.int .i64 nf,strV data];have HU0:=qh ((Upd.refl Nowhere w).alloc (.cells #[.int .i64 ni,.int .i64 np,.int .i64 nf,strV data] 176));have c0:=hB.cell 0;have c1:=hB.cell 1;have c2:=hB.cell 2;have c3:=hB.cell 3;simp only[qA,qZ,qS]at c0 c1 c2 c3;have i1:(ni:Int)<1099511627776:=h1.2;have i2:(np:Int)<1099511627776:=h2.2;have hnf:nf≤255:=by omega
 have HNF:=qh hnf;have HD:=qh h3;have HEnc:=qh hEnc;have HB:=qh hB;have HM:=qh hM;have HW1:=qh hW1;have HW2:=qh hW2;have lw1:Hid ((wideB 5 ni).length=5):=qh (wideB_len 5 ni);have lw2:Hid ((wideB 5 np).length=5):=qh (wideB_len 5 np);clear hB hM hW1 hW2 hEnc h1 h2 h3 h4 hfit hnf;go_enter Tryz.func98,Tryz.ntmps98
 go_wp2_with fail
 refine(HW1.out _).mono ?_;rintro e w1 ⟨A1,k1,rfl,hO1,hU1⟩;have hB1:=HB.out.upd hU1 id;have d1:=hB1.cell 1;simp only[qA,qZ,qS]at d1;have HO1:=qh hO1;have HU1:=qh (HU0.out.same hU1);have HB1:=qh hB1;clear hO1 hU1 hB1;go_wp2_with fail
 refine(HW2.out _).mono ?_;rintro e w2 ⟨A2,k2,rfl,hO2,hU2⟩;have hB2:=HB1.out.upd hU2 id;have x0:=hB2.cell 0;have x1:=hB2.cell 1;have x2:=hB2.cell 2;have x3:=hB2.cell 3;simp only[qA,qZ,qS]at x0 x1 x2 x3;have HO1:=qh (HO1.out.upd hU2 fun _ _=>id)
 have HO2:=qh hO2;have HU2:=qh (HU1.out.same hU2);have HB2:=qh hB2;clear hO2 hU2 hB2;go_wp2_with fail
 refine(HM.out _).mono ?_;rintro e w3 ⟨rfl,hU3⟩;have hB3:=HB2.out.upd hU3 id;have y0:=hB3.cell 2;have y3:=hB3.cell 3;simp only[qA,qZ,qS]at y0 y3;have HO1:=qh (HO1.out.upd hU3 fun _ _=>id)
 have HO2:=qh (HO2.out.upd hU3 fun _ _=>id)
 have HU3:=qh (HU2.out.same hU3);have HB3:=qh hB3;clear hU3 hB3;go_wp2_with fail
 have hsz3:w.heap.size≤w3.heap.size:=HU3.out.size;have nfi:(nf:Int)≤255:=by have:=HNF.out;omega
 have ndi:((data.length:Nat):Int)≤242:=by have:=HD.out;omega
 have q0:(UInt8.ofNat nf).toNat=nf:=u8_toNat (by have:=HNF.out;omega)
 have q1:(UInt8.ofNat data.length).toNat=data.length:=u8_toNat (by have:=HD.out;omega)
 obtain⟨A4,c4,w4,hr4,hO4,hu4⟩:=byte_row.appU (w:=w3.drew) (HO1.out.drew.far fun k hk=>Nat.le_trans HU0.out.size (HO1.out.new k hk)) (B:=w.heap.size) hsz3 143 (v2:= .slice A2 5 k2) (K:=wideB 5 np) HO2.out.els (by rw[lw1.out,lw2.out];omega)
 rw[lw1.out,lw2.out]at hr4 hO4;simp only[Nat.reduceAdd]at hr4 hO4;have hl4:=byte_lit2 w4 (UInt8.ofNat nf) (UInt8.ofNat data.length);have hll:(wideB 5 ni++wideB 5 np).length=10:=by rw[qla,lw1.out,lw2.out]
 have hw4:w.heap.size≤w4.heap.size:=Nat.le_trans hsz3 hu4.size;obtain⟨A5,c5,w5,hr5,hO5,hu5⟩:=byte_row.appU (w:=w4.alloc (.cells #[.int .u8 (UInt8.ofNat nf).toNat,.int .u8 (UInt8.ofNat data.length).toNat] 5)) (hO4.alloc _) (by simp;omega) 143 hl4 (by rw[hll];simp)
 have hl6:=(byte_lit2 w3 (UInt8.ofNat nf) (UInt8.ofNat data.length));obtain⟨A6,c6,w6,hr6,hO6,hu6⟩:=byte_row.appU (w:=(w3.alloc (.cells #[.int .u8 (UInt8.ofNat nf).toNat,.int .u8 (UInt8.ofNat data.length).toNat] 5)).drew) ((HO1.out.far fun k hk=>Nat.le_trans HU0.out.size (HO1.out.new k hk)).alloc _).drew (B:=w.heap.size) (by simp[World.drew];omega) 143 (v2:= .slice A2 5 k2) (K:=wideB 5 np) (HO2.out.els.alloc _) (by rw[lw1.out,lw2.out];omega)
 rw[lw1.out,lw2.out]at hr6 hO6;simp only[Nat.reduceAdd]at hr6 hO6
 have hl6':BytesE w6 (.slice (some ⟨w3.heap.size,0,none⟩) 2 2) [UInt8.ofNat nf,UInt8.ofNat data.length]:=Els.upd (w:=(w3.alloc (.cells #[.int .u8 (UInt8.ofNat nf).toNat,.int .u8 (UInt8.ofNat data.length).toNat] 5)).drew) hl6 hu6 fun k hk e=>by
  have h1:=HO1.out.lt e;have:w3.heap.size=k:=by simpa [Value.ownBlock] using hk
  omega
 have hw6:w.heap.size≤w6.heap.size:=Nat.le_trans (Nat.le_trans hsz3 (by simp[World.drew])) hu6.size
 obtain⟨A7,c7,w7,hr7,hO7,hu7⟩:=byte_row.appU hO6 hw6 143 hl6' (by rw[hll];simp)
 have hnew:∀k,Value.ownBlock (.slice A1 5 k1)=some k→w.heap.size<k:=fun k hk=>by have:=HO1.out.new k hk;simp at this;omega
 have hne:5≠176:=by decide
 have hB4:=HB3.out.drew.upd hu4 (fun e=>absurd (hnew _ e) (by omega))
 have hB6:=(((HB3.out.alloc (.cells #[.int .u8 (UInt8.ofNat nf).toNat,.int .u8 (UInt8.ofNat data.length).toNat] 5)).drew).upd hu6 (fun e=>absurd (hnew _ e) (by omega)))
 have hB5:=(hB4.alloc (.cells #[.int .u8 (UInt8.ofNat nf).toNat,.int .u8 (UInt8.ofNat data.length).toNat] 5)).upd hu5 (fun e=>hO4.blk_ne hB4 hne e)
 have hB7:=hB6.upd hu7 (fun e=>hO6.blk_ne hB6 hne e)
 have z4:=hB4.cell 2;have z43:=hB4.cell 3;have z6:=hB6.cell 2;have z63:=hB6.cell 3;have z53:=hB5.cell 3;have z52:=hB5.cell 2;have z72:=hB7.cell 2;have z73:=hB7.cell 3;simp only[qA,qZ,qS]at z4 z43 z6 z63 z53 z73 z52 z72;rw[hll]at hr5 hO5 hr7 hO7;simp only[List.length_cons,List.length_nil,Nat.reduceAdd,q0,q1]at hr5 hO5 hr7 hO7 hr6 hr4 hl4 hu5 hu6;have wr1:IntKind.u8.wrap (nf:Int)=(nf:Int):=by simp[IntKind.wrap,IntKind.bits,IntKind.signed];omega
 have wr2:IntKind.u8.wrap ((data.length:Nat):Int)=((data.length:Nat):Int):=by simp[IntKind.wrap,IntKind.bits,IntKind.signed];omega
 have hl12:((wideB 5 ni++wideB 5 np)++[UInt8.ofNat nf,UInt8.ofNat data.length]).length=12:=by rw[qla,hll];rfl
 have hw5:w.heap.size≤w5.heap.size:=Nat.le_trans (Nat.le_trans hw4 (by simp)) hu5.size
 have hw7:w.heap.size≤w7.heap.size:=Nat.le_trans hw6 hu7.size;obtain⟨A8,c8,w8,hr8,hO8,hu8⟩:=app_str hO5 hw5 143 data (by have:=HD.out;rw[hl12];omega)
 obtain⟨A9,c9,w9,hr9,hO9,hu9⟩:=app_str hO7 hw7 143 data (by have:=HD.out;rw[hl12];omega)
 have hLE:(SheetS.enc ⟨ni,np,nf,data⟩).length=12+data.length:=by rw[HEnc.out,qla,hl12]
 rw[hl12]at hr8 hO8 hr9 hO9;have hO8':OwnB w.heap.size w8 (.slice A8 (SheetS.enc ⟨ni,np,nf,data⟩).length c8) (SheetS.enc ⟨ni,np,nf,data⟩):=by rw[hLE,HEnc.out];exact hO8
 have hO9':OwnB w.heap.size w9 (.slice A9 (SheetS.enc ⟨ni,np,nf,data⟩).length c9) (SheetS.enc ⟨ni,np,nf,data⟩):=by rw[hLE,HEnc.out];exact hO9
 have hF8:Upd Nowhere w w8:=(((HU3.out.drew.trans hu4 fun k hk e=>absurd (hnew _ e) (by omega)).alloc _).trans hu5 fun k hk e=>absurd (hO4.new _ e) (by omega)).trans hu8 fun k hk e=>absurd (hO5.new _ e) (by omega)
 have hF9:Upd Nowhere w w9:=((((HU3.out.alloc _).drew).trans hu6 fun k hk e=>absurd (hnew _ e) (by omega)).trans hu7 fun k hk e=>absurd (hO6.new _ e) (by omega)).trans hu9 fun k hk e=>absurd (hO7.new _ e) (by omega)
 have HLE:=qh hLE;have HR8:=qh hr8;have HR9:=qh hr9;have HO8:=qh hO8';have HO9:=qh hO9';have HF8:=qh hF8;have HF9:=qh hF9;clear hl12 hw5 hw7 hr8 hO8 hr9 hO9 hO8' hO9' hF8 hF9 hLE hu8 hu9;have HR4:=qh hr4;have HR5:=qh hr5;have HR6:=qh hr6;have HR7:=qh hr7;have HO5:=qh hO5;have HO7:=qh hO7;have HU4:=qh hu4;have HU5:=qh hu5;have HU6:=qh hu6;have HU7:=qh hu7;have HO4:=qh hO4;have HO6:=qh hO6;have hlt3:=HB3.out.lt;have hlt4:=hB4.lt;have HB4:=qh hB4;clear hB4 hB5 hB6 hB7 hne hnew;clear hr4 hr5 hr6 hr7 hO4 hO5 hO6 hO7 hu4 hu5 hu6 hu7 hl4 hl6 hl6' hll q0 q1 hw4 hw6 hsz3 c0 c1 c2 c3 d1 x0 x1 x2 x3
 go_region_held3 (fun w'=>w'.cell? ⟨w.heap.size,2,none⟩=some (.int .i64 nf)∧w'.cell? ⟨w.heap.size,3,none⟩=some (strV data)) (first | exact⟨y0,y3⟩ | exact⟨z4,z43⟩ | exact⟨z6,z63⟩ | exact⟨z52,z53⟩ | exact⟨z72,z73⟩ | exact⟨(((Upd.refl Nowhere w4).alloc _).cell hlt4 id).trans z4,(((Upd.refl Nowhere w4).alloc _).cell hlt4 id).trans z43⟩ | exact⟨(((Upd.refl Nowhere w3.drew).alloc _).cell hlt3 id).trans y0,(((Upd.refl Nowhere w3.drew).alloc _).cell hlt3 id).trans y3⟩)
  (first
    | (refine step_append_run rfl _ _ _ rfl rfl rfl HR4.out ?_)
    | (refine step_append_run rfl _ _ _ rfl rfl rfl HR5.out ?_)
    | (refine step_append_run rfl _ _ _ rfl rfl rfl HR6.out ?_)
    | (refine step_append_run rfl _ _ _ rfl rfl rfl HR7.out ?_))
 all_goals
  clear wr1 wr2 y0 y3 z4 z43 z6 z63 z52 z72;go_wp2_with (first | (refine wpList_appstr_run rfl _ _ _ _ rfl rfl rfl HR8.out ?_) | (refine wpList_appstr_run rfl _ _ _ _ rfl rfl rfl HR9.out ?_))
  go_ret2
  first
   | exact⟨A8,c8,by rw[HLE.out];rfl,HO8.out,HF8.out⟩
   | exact⟨A9,c9,by rw[HLE.out];rfl,HO9.out,HF9.out⟩
abbrev SlT:=Option Addr×Nat×Nat
def slV(t:SlT):Value:= .slice t.1 t.2.1 t.2.2
def slC(t:SlT):List Value:=[slV t]
theorem slC_len(t:SlT):(slC t).length=1:=rfl
def BodiesE(w:World)(v:Value)(bs:List Bs):Prop:=
 ∃vs:List SlT,vs.length=bs.length∧Els 1 slC w v vs∧∀(i:Nat) (t:SlT) (b:Bs),vs[i]? =some t→bs[i]? =some b→BytesE w (slV t) b
theorem BodiesE.newer{F:Nat→Prop}{w w':World}{v:Value}{bs:List Bs}(h:BodiesE w v bs)(hu:Upd F w w')(hF:∀k,k<w.heap.size→¬F k):BodiesE w' v bs:=by
 obtain⟨vs,h1,h2,h3⟩:=h;exact⟨vs,h1,h2.newer hu hF,fun i t b ht hb=>(h3 i t b ht hb).newer hu hF⟩
theorem BodiesE.val{w:World}{v:Value}{bs:List Bs}(h:BodiesE w v bs):∃A c,v= .slice A bs.length c∧bs.length≤c:=by
 obtain⟨vs,h1,h2,h3⟩:=h;obtain⟨A,c,rfl,hc⟩:=h2.val;rw[h1]at hc;exact⟨A,c,by rw[h1],hc⟩
theorem BodiesE.get{w:World}{v:Value}{bs:List Bs}(h:BodiesE w v bs){i:Nat}{b:Bs}(hb:bs[i]? =some b):
 ∃g off c A n cc,v= .slice (some ⟨g,off,none⟩) bs.length c∧g<w.heap.size∧w.cell? ⟨g,off+i,none⟩=some (.slice A n cc)∧BytesE w (.slice A n cc) b:=by
 obtain⟨vs,h1,h2,h3⟩:=h;have hi:=(qei.1 hb).1;obtain⟨t,ht⟩:∃t,vs[i]? =some t:=⟨_,qeg (by omega)⟩
 obtain⟨g,off,c,rfl,hg,hc⟩:=h2.get slC_len ht;have hc0:=hc 0 (by omega)
 rw[Nat.mul_one]at hc0;exact⟨g,off,c,t.1,t.2.1,t.2.2,by rw[h1],hg,hc0,h3 i t b ht hb⟩
@[irreducible] def sealO (b:Bs):Bs:=sealB sumB b
theorem sealO_eq(b:Bs):sealB sumB b=sealO b:=by unfold sealO;rfl
def layStep(st:Bs×(Int→Option Nat))(b:Bs):Bs×(Int→Option Nat):=
 (st.1++sealO b,if (st.2 ((st.1.length / 242:Nat):Int)).isNone then putF st.2 ((st.1.length / 242:Nat):Int) (some (st.1.length % 242)) else st.2)
def layAll(bs:List Bs):Bs×(Int→Option Nat):=bs.foldl layStep ([],fun _=>none)
def pageAt(inc pos:Nat)(st:Bs×(Int→Option Nat))(j:Nat):SheetS:=⟨inc,((pos+j:Nat):Int),match st.2 (j:Int) with | some o=>(o:Int) | none=>255,(st.1.drop (242 * j)).take 242⟩
def pagesN(n:Nat):Nat:=(n+241) / 242
def layB(inc pos:Nat)(bs:List Bs):List SheetS:=(List.range (pagesN (layAll bs).1.length)).map (pageAt inc pos (layAll bs))
def encO(f:Int→Option Nat):Int→Option Value:=fun k=>(f k).map fun n=> .int .i64 (1+(n:Int))
theorem encO_put(f:Int→Option Nat)(n:Int)(b:Nat):encO (putF f n (some b))=putF (encO f) n (some (.int .i64 (1+(b:Int)))):=by
 funext k
 unfold encO putF;by_cases h:k=n<;>simp[h]
theorem layAll_snoc(bs:List Bs){k:Nat}{b:Bs}(h:bs[k]? =some b):layAll (bs.take (k+1))=layStep (layAll (bs.take k)) b:=by
 unfold layAll;obtain⟨hk,rfl⟩:=qei.1 h;rw[show bs.take (k+1)=bs.take k++[bs[k]] from(List.take_append_getElem hk).symm,List.foldl_append];rfl
theorem layAll_len(bs:List Bs)(k:Nat):(layAll (bs.take k)).1.length≤(layAll bs).1.length:=by
 have:∀(l:List Bs) (st:Bs×(Int→Option Nat)),st.1.length≤(l.foldl layStep st).1.length:=by
  intro l
  induction l with
  | nil=>intro st;exact qlr _
  | cons a l ih=>intro st;rw[List.foldl_cons];exact Nat.le_trans (by simp[layStep]) (ih _)
 unfold layAll
 conv=>rhs;rw[←List.take_append_drop k bs,List.foldl_append]
 exact this _ _
theorem layStep_lt{st:Bs×(Int→Option Nat)}(h:∀k o,st.2 k=some o→o<242)(b:Bs):∀k o,(layStep st b).2 k=some o→o<242:=by
 intro k o;unfold layStep;simp only;by_cases hs:(st.2 ((st.1.length / 242:Nat):Int)).isNone=true
 ·rw[if_pos hs];unfold putF;by_cases hk:k=((st.1.length / 242:Nat):Int)
  ·rw[if_pos hk];intro e;injection e with e
   omega
  ·rw[if_neg hk];exact h k o
 ·rw[if_neg hs];exact h k o
theorem layAll_lt(bs:List Bs):∀k o,(layAll bs).2 k=some o→o<242:=by
 have:∀(l:List Bs) (st:Bs×(Int→Option Nat)),(∀k o,st.2 k=some o→o<242)→∀k o,(l.foldl layStep st).2 k=some o→o<242:=by
  intro l
  induction l with
  | nil=>exact fun st h=>h
  | cons a l ih=>exact fun st h=>ih _ (layStep_lt h a)
 exact this bs _ fun k o e=>by cases e
theorem BytesE.rest{w:World}{g off L c m:Nat}{l:Bs}(h:BytesE w (.slice (some ⟨g,off,none⟩) L c) l)(hl:l.length=L)(hm:m≤L)(hc:L≤c)(hg:g<w.heap.size):
 BytesE w (.slice (if c=m then some ⟨g,off,none⟩ else some ⟨g,off+m,none⟩) (L - m) (c - m)) (l.drop m):=by
 by_cases hcm:c=m
 ·have h0:L - m=0:=by omega
  have hd:l.drop m=[]:=List.drop_eq_nil_of_le (by omega)
  rw[if_pos hcm,h0,hd];exact⟨_,_,rfl,Nat.zero_le _,rfl,fun h=>absurd h (by simp)⟩
 ·rw[if_neg hcm];have:=Els.part (c':=c - m) byteC_len h m (L - m) (by omega) (by omega) hg
  rw[Nat.mul_one]at this;rw[show(l.drop m).take (L - m)=l.drop m from List.take_of_length_le (by rw[qld];omega)]at this
  exact this
theorem page_none{inc pos j:Nat}{sb:Bs}{sf:Int→Option Nat}{d:Bs}{L m:Nat}(hs:sf (j:Int)=none)(hL:(sb.drop (242 * j)).length=L)(hm:min L 242=m)(hd:(sb.drop (242 * j)).take m=d):pageAt inc pos (sb,sf) j=⟨inc,(pos:Int)+(j:Int),255,d⟩:=by
 unfold pageAt;simp only[hs];rw[show((pos+j:Nat):Int)=(pos:Int)+(j:Int) by omega,←hd,←hm,←hL]
 congr 1
 rw[Nat.min_comm,←List.take_take,List.take_length]
theorem page_some{inc pos j o:Nat}{sb:Bs}{sf:Int→Option Nat}{d:Bs}{L m:Nat}(hs:sf (j:Int)=some o)(hL:(sb.drop (242 * j)).length=L)(hm:min L 242=m)(hd:(sb.drop (242 * j)).take m=d):pageAt inc pos (sb,sf) j=⟨inc,(pos:Int)+(j:Int),(o:Int),d⟩:=by
 unfold pageAt;simp only[hs];rw[show((pos+j:Nat):Int)=(pos:Int)+(j:Int) by omega,←hd,←hm,←hL]
 congr 1
 rw[Nat.min_comm,←List.take_take,List.take_length]
theorem range_snoc{α:Type}(f:Nat→α)(j:Nat):(List.range (j+1)).map f=(List.range j).map f++[f j]:=by rw[List.range_succ,List.map_append];rfl
def sheetC(s:SheetS):List Value:=s.arr.toList
theorem sheetC_len(s:SheetS):(sheetC s).length=4:=rfl
theorem sheet_row:RowK Tryz.prog 130 176 sheetC 4:=
 ⟨Tryz.underlying130,⟨.agg #[.int .i64 0,.int .i64 0,.int .i64 0,.string ⟨#[]⟩],40,by kernel_rfl,rfl,by omega⟩,fun _=>rfl,fun a u hu=>by
  simp only[sheetC,SheetS.arr,qmc,List.not_mem_nil,or_false]at hu
  rcases hu with rfl | rfl | rfl | rfl<;>rfl,by omega⟩
theorem lay_ok{w:World}{v:Value}{bs:List Bs}(inc pos:Nat)(h:BodiesE w v bs)(hb:∀b∈bs,b.length≤4096)(hn:(layAll bs).1.length≤90000)(hbs:bs.length≤90000)(h1:inc<1099511627776)(h2:pos+1000<1099511627776)(hW:HalfW w):
 Calls Tryz.prog 121 #[.int .i64 inc,.int .i64 pos,v] w fun e w'=>∃A c,e= .returned (.tuple #[.slice A (layB inc pos bs).length c,.int .i64 0])∧OwnR 176 sheetC 4 w.heap.size w' (.slice A (layB inc pos bs).length c) (layB inc pos bs)∧Upd Nowhere w w':=by
 obtain⟨A0,c0,rfl,hc0⟩:=h.val;have H:=qh h;have HW:=qh hW;have HLT:=qh hW.lt;have HBL:=qh hb;have HN:=qh hn;have HBS:=qh hbs;have a1:¬(inc:Int)<0:=by omega
 have a2:¬(1099511627776:Int)≤(inc:Int):=by omega
 have a3:¬(pos:Int)<0:=by omega
 have a4:¬(1099511627776:Int)≤(pos:Int):=by omega
 have H2:=qh h2;have hmm:=@run_makeMap Tryz.prog;have HM0:=qh (MapIs.new w intK);have HU0:=qh ((Upd.refl (fun k=>w.heap.size≤k) w).alloc (.map #[] 0))
 clear h hW hb hn h1 h2;have hbI:((bs.length:Nat):Int)≤90000:=by omega
 clear hbs;go_enter Tryz.func121,Tryz.ntmps121
 go_wp2_with fail
 generalize hw1:w.alloc (.map #[] 0)=w1 at*;clear hw1;go_loopw [8,37] (fun s8 s37 wr=>∃(k:Nat) (A:Option Addr) (c:Nat) (sb:Bs) (sf:Int→Option Nat),s37= .int .i64 (k:Int)∧k≤bs.length∧layAll (bs.take k)=(sb,sf)∧s8= .slice A sb.length c∧OwnB w.heap.size wr s8 sb∧MapIs intK wr w.heap.size (encO sf)∧Upd (fun k=>w.heap.size≤k) w wr) (fun _ s37 _=>bs.length - (intOf s37).toNat)
 case atStart=>
  exact⟨0,none,0,[],fun _=>none,rfl,by omega,rfl,rfl,OwnR.nil _ _ _ _ _,HM0.out.congr fun _=>rfl,HU0.out⟩
 case round=>
  obtain⟨k,A,c,sb,sf,rfl,hk,hst,rfl,hO,hM,hU⟩:=hrel;have HO:=qh hO;have HM:=qh hM;have HU:=qh hU;have HST:=qh hst;clear hO hM hU hst;by_cases hlt:k<bs.length
  ·obtain⟨b,hkb⟩:∃b,bs[k]? =some b:=⟨_,qeg hlt⟩;have hE:=H.out.newer HU.out (fun k hk h=>by omega)
   obtain⟨g,off,cc,A1,n1,c1,he,hg,hcell,hE1⟩:=hE.get hkb;injection he with he1 he2 he3
   subst he1;have HLT2:=qh hlt;have hltI:(k:Int)<((bs.length:Nat):Int):=by omega
   have HSN:Hid (layAll (bs.take (k+1))=layStep (sb,sf) b):=qh (by rw[←HST.out];exact layAll_snoc bs hkb)
   have hll:=layAll_len bs (k+1);rw[HSN.out]at hll;have HLL:=qh (Nat.le_trans hll HN.out);have hS:=seal_ok hE1 (HBL.out b (qmg hkb)) (HW.out.upd HU.out (by have:=HLT.out;omega))
   simp only[sealO_eq]at hS;have HS:=qh hS;clear hE hE1 hkb hll he2 he3 hS;go_wp2_with fail
   refine HS.out.mono ?_;rintro e w2 ⟨A2,c2,rfl,hO2,hU2⟩;have HO2:=qh hO2;have HO:=qh (HO.out.upd hU2 fun _ _=>id)
   have HM:=qh (HM.out.upd hU2 id);have HU2:=qh (HU.out.same hU2.any);obtain⟨q,hq⟩:∃q:Nat,sb.length / 242=q:=⟨_,rfl⟩;have hqI:((sb.length:Nat):Int) / 242=(q:Int):=by omega
   have hll2:sb.length+(sealO b).length≤100000:=by have:=HLL.out;simp only[layStep,qla]at this;omega
   obtain⟨m,hm⟩:∃m:Nat,sb.length % 242=m:=⟨_,rfl⟩;have hmI:((sb.length:Nat):Int) % 242=(m:Int):=by omega
   have hml:m<242:=by omega
   have hqb:(q:Int)≤1000:=by omega
   have hmb:(m:Int)<242:=by omega
   have hbl:w.heap.size≤w2.heap.size:=HU2.out.size;have hlk:=HM.out.look (P:=Tryz.prog) (keyInt .i64) Tryz.underlying252 Tryz.underlying3 (z:= .int .i64 0) (by kernel_rfl) (q:Int) false
   have HQ:=qh hq;have HMM:=qh hm;clear hml;clear hO2 hU2 hq hm;have hstep:layStep (sb,sf) b=(sb++sealO b,if (sf (q:Int)).isNone then putF sf (q:Int) (some m) else sf):=by unfold layStep;rw[HQ.out,HMM.out]
   cases hsf:sf (q:Int) with
   | some o=>
     rw[show encO sf (q:Int)=some (.int .i64 (1+(o:Int))) by unfold encO;rw[hsf];rfl]at hlk
     rw[hsf]at hstep;obtain⟨x,hx⟩:∃x:Int,1+(o:Int)=x:=⟨_,rfl⟩;have hne:¬x=0:=by omega
     have hne':(x == 0)=false:=by simpa using hne
     rw[hx]at hlk;have hlk':(Instr.lookup 252 (.map (some w.heap.size)) (.int .i64 (q:Int)) false).run Tryz.prog w2= .ok (.int .i64 x) w2:=hlk;have HLK:=qh hlk';clear hlk' hx;have HSTEP:=qh hstep;obtain⟨A3,c3,w3,hr3,hO3,hu3⟩:=byte_row.appU HO.out hbl 143 HO2.out.els hll2;have HR3:=qh hr3;have HO3:=qh hO3;have HU3:=qh hu3;clear hlk hstep hsf hr3 hO3 hu3;go_wp2_with (first | (refine wpList_lookup_run rfl _ _ _ _ rfl rfl rfl HLK.out ?_) | (refine wpList_append_run rfl _ _ _ rfl rfl rfl HR3.out ?_))
     go_roundw
     case rel=>
      refine⟨k+1,A3,c3,sb++sealO b,sf,by go_num,HLT2.out,by rw[HSN.out,HSTEP.out];rfl,by rw[qla],HO3.out,HM.out.upd HU3.out (fun e=> ?_),HU2.out.trans HU3.out fun k hk e=>HO.out.new k e⟩
      obtain⟨cs,hcs⟩:=HO.out.is_cells e;exact HM.out.not_cells hcs
     case measure=>
      have h1:=HLT2.out;have h2:=HBS.out;simp only[intOf];omega
   | none=>
     rw[show encO sf (q:Int)=none by unfold encO;rw[hsf];rfl]at hlk
     rw[hsf]at hstep;have hlk':(Instr.lookup 252 (.map (some w.heap.size)) (.int .i64 (q:Int)) false).run Tryz.prog w2= .ok (.int .i64 0) w2:=hlk;have HLK:=qh hlk';clear hlk';have HSTEP:=qh hstep;obtain⟨w3,hrun3,hM3,hg3,hsz3⟩:=HM.out.store (keyInt .i64) (P:=Tryz.prog) Tryz.underlying252 Tryz.underlying3 (q:Int) (.int .i64 (1+(m:Int)));have hu3:Upd (fun k=>k=w.heap.size) w2 w3:=⟨hg3.os,hg3.tape,hg3.output,hg3.size,fun k hk hn=>hg3.block k hk fun e=>hn (Option.some.inj e)⟩
     have hvn:∀k,Value.ownBlock (.slice A sb.length c)=some k→¬k=w.heap.size:=fun k e he=>by
      obtain⟨cs,hcs⟩:=HO.out.is_cells e;rw[he]at hcs;exact HM.out.not_cells hcs
     have hO3:=HO.out.upd hu3 hvn
     have hlt2:∀k,(Value.slice A2 (sealO b).length c2).ownBlock=some k→¬k=w.heap.size:=fun k e he=>by
      obtain⟨cs,hcs⟩:=HO2.out.is_cells e;rw[he]at hcs;exact HM.out.not_cells hcs
     have hO23:=HO2.out.upd hu3 hlt2;obtain⟨A4,c4,w4,hr4,hO4,hu4⟩:=byte_row.appU hO3 (Nat.le_trans hbl hu3.size) 143 hO23.els hll2;have HR4:=qh hr4;have HO4:=qh hO4;have HU3:=qh hu3;have HU4:=qh hu4;have HM3:=qh hM3;have HRUN3:=qh hrun3;have HVN:=qh hvn;clear hlk hstep hsf hr4 hO4 hu3 hu4 hO3 hO23 hlt2 hrun3 hM3 hg3 hsz3 hvn;go_wp2_with (first | (refine wpList_lookup_run rfl _ _ _ _ rfl rfl rfl HLK.out ?_) | (refine wpList_update_run rfl _ _ _ _ rfl rfl rfl rfl HRUN3.out ?_) | (refine wpList_append_run rfl _ _ _ rfl rfl rfl HR4.out ?_))
     go_roundw
     case rel=>
      refine⟨k+1,A4,c4,sb++sealO b,putF sf (q:Int) (some m),by go_num,HLT2.out,by rw[HSN.out,HSTEP.out];rfl,by rw[qla],HO4.out,by rw[encO_put];exact HM3.out.upd HU4.out (fun e=>HVN.out _ e rfl),(HU2.out.trans HU3.out fun k hk e=>by omega).trans HU4.out fun k hk e=>HO.out.new k e⟩
     case measure=>
      have h1:=HLT2.out;have h2:=HBS.out;simp only[intOf];omega
  ·have hkk:k=bs.length:=by omega
   subst hkk;rw[List.take_of_length_le (qlr _)]at HST;obtain⟨n,hn⟩:∃n,sb.length=n:=⟨_,rfl⟩;have hn9:n≤90000:=by have:=HN.out;rw[HST.out,hn]at this;exact this
   obtain⟨N,hN⟩:∃N,pagesN n=N:=⟨_,rfl⟩;have hN':N=(n+241) / 242:=hN.symm;have HPG:Hid (layB inc pos bs=(List.range N).map (pageAt inc pos (sb,sf))):=qh (by unfold layB;rw[HST.out,hn,hN])
   have hO:=HO.out;rw[hn]at hO;have hE0:BytesE wr (.slice A (n - 242 * 0) c) (sb.drop (242 * 0)):=hO.els;have HE0:=qh hE0;have HSB:=qh hn;have HO:=qh hO;clear hO hE0 hN;rw[hn];clear hn;go_wp2_with fail
   go_loopw [8,15,16] (fun s8 s15 s16 w2=>∃(j:Nat) (A1:Option Addr) (c1:Nat) (B2:Option Addr) (c2:Nat),s16= .int .i64 (j:Int)∧j≤N∧s8= .slice A1 (n - 242 * j) c1∧BytesE w2 s8 (sb.drop (242 * j))∧s15= .slice B2 j c2∧OwnR 176 sheetC 4 w.heap.size w2 s15 ((List.range j).map (pageAt inc pos (sb,sf)))∧MapIs intK w2 w.heap.size (encO sf)∧Upd (fun k=>w.heap.size≤k) w w2∧∀k,s8.ownBlock=some k→∃cs fz,w2.heap[k]? =some (.cells cs 5 fz)) (fun _ _ s16 _=>N - (intOf s16).toNat)
   case atStart=>
    refine⟨0,A,c,none,0,rfl,by omega,rfl,HE0.out,rfl,OwnR.nil _ _ _ _ _,HM.out,HU.out,fun k hk=> ?_⟩
    obtain⟨cs,hcs⟩:=HO.out.is_cells hk;exact⟨cs,_,hcs⟩
   case round=>
    obtain⟨j,A1,c1,B2,c2,rfl,hj,rfl,hE1,rfl,hO2,hM2,hU2,hF2⟩:=hrel;have HE1:=qh hE1;have HO2:=qh hO2;have HM2:=qh hM2;have HU2:=qh hU2;have HF2:=qh hF2;clear hE1 hO2 hM2 hU2 hF2;by_cases hjn:242 * j<n
    ·have hdl:(sb.drop (242 * j)).length=n - 242 * j:=by rw[qld,HSB.out]
     obtain⟨g,off,cc,he,hg,hcells⟩:=Reads.addr HE1.out (by rw[hdl];omega)
     injection he with he1 he2 he3
     subst he1;clear hcells he2 he3;obtain⟨L,hL⟩:∃L,n - 242 * j=L:=⟨_,rfl⟩;have hE:=HE1.out;rw[hL]at hE hdl;have HDL:=qh hdl;have HG0:=qh hg;have HE:=qh hE;obtain⟨_,cb,hcb,hcc⟩:=hE.val;injection hcb with e1 e2 hcb
     clear e1 e2;subst hcb;rw[hdl]at hcc;obtain⟨m,hm⟩:∃m,min L 242=m:=⟨_,rfl⟩;have hmL:m≤L:=by omega
     have hm1:0<m:=by omega
     have hm0:¬m=0:=by omega
     have hm0I:(0:Int)≤(m:Int):=by omega
     have hm2:m≤242:=by omega
     have hLb:(L:Int)≤90000:=by omega
     have hL0:(0:Int)<(L:Int):=by omega
     have hjb:(j:Int)≤400:=by omega
     have hpj:¬(1099511627776:Int) - (j:Int)≤(pos:Int):=by have:=H2.out;omega
     have hmn:∀(ts:Array TypeId) (t:TypeId) (W:World),(Builtin.min_ ts t #[.int .i64 (L:Int),.int .i64 242]).run Tryz.prog W= .ok (.int .i64 (m:Int)) W:=fun ts t W=>by
      have e:(if (242:Int)<(L:Int) then (242:Int) else (L:Int))=(m:Int):=by split<;>omega
      simp[Builtin.min_,Builtin.min2,e]
     have hmLI:(m:Int)≤(L:Int):=by omega
     have hmc:(m:Int)≤(c1:Int):=by omega
     have hmc':m≤c1:=by omega
     have hmb:(m:Int)≤242:=by omega
     have hP:=Els.part (c':=m) byteC_len hE 0 m (by rw[hdl];omega) (qlr m) hg
     simp only[Nat.zero_mul,Nat.add_zero,List.drop_zero]at hP;obtain⟨d,hd⟩:∃d,(sb.drop (242 * j)).take m=d:=⟨_,rfl⟩;rw[hd]at hP;have HDD:=qh hd;have HCV:=qh (conv_back hP);have hM3:=HM2.out.alloc (.cells #[.int .i64 inc,.int .i64 ((pos:Int)+(j:Int)),.int .i64 255,strV d] 176);have hB3:=Blk.new wr 176 #[.int .i64 inc,.int .i64 ((pos:Int)+(j:Int)),.int .i64 255,strV d];have hO3:=HO2.out.alloc (.cells #[.int .i64 inc,.int .i64 ((pos:Int)+(j:Int)),.int .i64 255,strV d] 176);have hpb:(pos:Int)≤1099511626776:=by have:=H2.out;omega
     have hlk:=hM3.look (P:=Tryz.prog) (keyInt .i64) Tryz.underlying252 Tryz.underlying3 (z:= .int .i64 0) (by kernel_rfl) (j:Int) false
     have HM3:=qh hM3;have HB3:=qh hB3;have HO3:=qh hO3;have HP:=qh hP;have HL:=qh hL;have HM:=qh hm;have HCC:=qh hcc;rw[hL];have HJN:=qh hjn;have HJ:=qh hj;have HN9:=qh hn9;have HNN:=qh hN';clear hE hdl hP hL hm hcc hd hM3 hO3 hB3 hjn hj hn9 hN' hmm a1 a2 a3 a4 hbI
     cases hsf:sf (j:Int) with
     | none=>
       rw[show encO sf (j:Int)=none by unfold encO;rw[hsf];rfl]at hlk
       have HLK:=qh (hlk:(Instr.lookup 252 (.map (some w.heap.size)) (.int .i64 (j:Int)) false).run Tryz.prog (wr.alloc (.cells #[.int .i64 inc,.int .i64 ((pos:Int)+(j:Int)),.int .i64 255,strV d] 176))= .ok (.int .i64 0) (wr.alloc (.cells #[.int .i64 inc,.int .i64 ((pos:Int)+(j:Int)),.int .i64 255,strV d] 176)));have HSF:=qh hsf;have hsz4:(wr.alloc (.cells #[.int .i64 inc,.int .i64 ((pos:Int)+(j:Int)),.int .i64 255,strV d] 176)).heap.size=wr.heap.size+1:=by simp
       obtain⟨v5,w5,hr5,hO5,hg5,hn5⟩:=sheet_row.app1 HO3.out (by rw[hsz4];exact Nat.le_succ_of_le HU2.out.size) 130 ⟨inc,(pos:Int)+(j:Int),255,d⟩ #[.int .i64 inc,.int .i64 ((pos:Int)+(j:Int)),.int .i64 255,strV d] rfl (by simp;omega)
       obtain⟨A5,c5,rfl,hc5⟩:=hO5.cap;rw[hsz4]at hr5;have hlj:((List.range j).map (pageAt inc pos (sb,sf))++[(⟨inc,(pos:Int)+(j:Int),255,d⟩:SheetS)]).length=j+1:=by simp
       rw[hlj]at hr5 hO5 hc5;have HR5:=qh hr5;have HO5:=qh hO5;have HG5:=qh hg5;have b0:=HB3.out.cell 0;have b1:=HB3.out.cell 1;have b2:=HB3.out.cell 2;have b3:=HB3.out.cell 3;simp only[qA,qZ,qS]at b0 b1 b2 b3;clear hlk hsf hr5 hO5 hg5 hn5 hsz4 hlj hc5;go_wp2_with (first | (refine wpList_conv_run rfl 143 9 _ rfl rfl HCV.out ?_) | (refine wpList_lookup_run rfl _ _ _ _ rfl rfl rfl HLK.out ?_) | (refine wpList_append_run rfl _ _ _ rfl rfl rfl HR5.out ?_))
       have hu5:Upd (fun k=>(Value.slice B2 j c2).ownBlock=some k) wr w5:=((Upd.refl _ wr).alloc _).grown HG5.out fun k hk _=>hk
       have hne:∀k,(Value.slice (some (⟨g,off,none⟩:Addr)) L c1).ownBlock=some k→¬(Value.slice B2 j c2).ownBlock=some k:=fun k e1 e2=>by
        obtain⟨x1,fz,h1⟩:=HF2.out k e1;obtain⟨x2,h2⟩:=HO2.out.is_cells e2;rw[h1]at h2;injection h2 with h2
        injection h2 with _ h2 _
        exact absurd h2 (by decide)
       have hjN:j+1≤N:=by have:=HJN.out;have:=HNN.out;omega
       have hLm:L - m=n - 242 * (j+1):=by have:=HL.out;have:=HM.out;omega
       have hdr:sb.drop (242 * (j+1))=(sb.drop (242 * j)).drop m:=by
        rw[List.drop_drop];by_cases h:m=242
        ·rw[h];rfl
        ·have h1:=HL.out;have h2:=HM.out;have h3:=HSB.out;rw[List.drop_eq_nil_of_le (by omega),List.drop_eq_nil_of_le (by omega)]
       go_roundw
       case rel=>
        refine⟨j+1,_,_,A5,c5,by go_num,hjN,by rw[←hLm],?_,rfl,?_,?_,?_,?_⟩
        ·rw[hdr];refine(HE.out.rest HDL.out (by have:=HM.out;omega) HCC.out HG0.out).upd hu5 ?_
         intro k e1;refine hne k ?_
         revert e1
         split<;>exact id
        ·rw[range_snoc,page_none HSF.out HDL.out HM.out HDD.out];exact HO5.out
        ·exact HM2.out.upd hu5 fun e=>by obtain⟨cs,hcs⟩:=HO2.out.is_cells e;exact HM2.out.not_cells hcs
        ·exact HU2.out.trans hu5 fun k hk e=>HO2.out.new k e
        ·intro k e1
         have e2:(Value.slice (some (⟨g,off,none⟩:Addr)) L c1).ownBlock=some k:=by
          revert e1
          split<;>exact id
         obtain⟨x1,fz,h1⟩:=HF2.out k e2;exact⟨x1,fz,(hu5.block k (lt_of_heap h1) (hne k e2)).trans h1⟩
       case measure=>
        simp only[intOf];have:=hjN;omega
     | some o=>
       have ho242:o<242:=by
        have:=layAll_lt bs (j:Int) o;rw[HST.out]at this;exact this hsf
       obtain⟨x,hx⟩:∃x:Int,1+(o:Int)=x:=⟨_,rfl⟩;have hx0:(0:Int)<x:=by omega
       have hx1:x - 1=(o:Int):=by omega
       have hx2:x≤1000:=by omega
       rw[show encO sf (j:Int)=some (.int .i64 x) by unfold encO;rw[hsf,←hx];rfl]at hlk
       have HLK:=qh (hlk:(Instr.lookup 252 (.map (some w.heap.size)) (.int .i64 (j:Int)) false).run Tryz.prog (wr.alloc (.cells #[.int .i64 inc,.int .i64 ((pos:Int)+(j:Int)),.int .i64 255,strV d] 176))= .ok (.int .i64 x) (wr.alloc (.cells #[.int .i64 inc,.int .i64 ((pos:Int)+(j:Int)),.int .i64 255,strV d] 176)));have HSF:=qh hsf;obtain⟨v5,w5,hr5,hO5,hg5,hn5⟩:=sheet_row.app1 (HO2.out.alloc (.cells #[.int .i64 inc,.int .i64 ((pos:Int)+(j:Int)),.int .i64 (o:Int),strV d] 176)) (by simp;exact Nat.le_succ_of_le HU2.out.size) 130 ⟨inc,(pos:Int)+(j:Int),(o:Int),d⟩ #[.int .i64 inc,.int .i64 ((pos:Int)+(j:Int)),.int .i64 (o:Int),strV d] rfl (by simp;omega)
       obtain⟨A5,c5,rfl,hc5⟩:=hO5.cap;have hsz4:(wr.alloc (.cells #[.int .i64 inc,.int .i64 ((pos:Int)+(j:Int)),.int .i64 (o:Int),strV d] 176)).heap.size=wr.heap.size+1:=by simp
       rw[hsz4]at hr5;have hlj:((List.range j).map (pageAt inc pos (sb,sf))++[(⟨inc,(pos:Int)+(j:Int),(o:Int),d⟩:SheetS)]).length=j+1:=by simp
       rw[hlj]at hr5 hO5 hc5;have HR5:=qh hr5;have HO5:=qh hO5;have HG5:=qh hg5;have b0:=HB3.out.cell 0;have b1:=HB3.out.cell 1;have b2:=HB3.out.cell 2;have b3:=HB3.out.cell 3;simp only[qA,qZ,qS]at b0 b1 b2 b3;clear hlk hsf hr5 hO5 hg5 hn5 hsz4 hlj hc5 hx ho242;go_wp2_with (first | (refine wpList_conv_run rfl 143 9 _ rfl rfl HCV.out ?_) | (refine wpList_lookup_run rfl _ _ _ _ rfl rfl rfl HLK.out ?_) | (refine wpList_append_run rfl _ _ _ rfl rfl rfl HR5.out ?_))
       have hu5:Upd (fun k=>(Value.slice B2 j c2).ownBlock=some k) wr w5:=((Upd.refl _ wr).alloc _).grown HG5.out fun k hk _=>hk
       have hne:∀k,(Value.slice (some (⟨g,off,none⟩:Addr)) L c1).ownBlock=some k→¬(Value.slice B2 j c2).ownBlock=some k:=fun k e1 e2=>by
        obtain⟨x1,fz,h1⟩:=HF2.out k e1;obtain⟨x2,h2⟩:=HO2.out.is_cells e2;rw[h1]at h2;injection h2 with h2
        injection h2 with _ h2 _
        exact absurd h2 (by decide)
       have hjN:j+1≤N:=by have:=HJN.out;have:=HNN.out;omega
       have hLm:L - m=n - 242 * (j+1):=by have:=HL.out;have:=HM.out;omega
       have hdr:sb.drop (242 * (j+1))=(sb.drop (242 * j)).drop m:=by
        rw[List.drop_drop];by_cases h:m=242
        ·rw[h];rfl
        ·have h1:=HL.out;have h2:=HM.out;have h3:=HSB.out;rw[List.drop_eq_nil_of_le (by omega),List.drop_eq_nil_of_le (by omega)]
       go_roundw
       case rel=>
        refine⟨j+1,_,_,A5,c5,by go_num,hjN,by rw[←hLm],?_,rfl,?_,?_,?_,?_⟩
        ·rw[hdr];refine(HE.out.rest HDL.out (by have:=HM.out;omega) HCC.out HG0.out).upd hu5 ?_
         intro k e1;refine hne k ?_
         revert e1
         split<;>exact id
        ·rw[range_snoc,page_some HSF.out HDL.out HM.out HDD.out];exact HO5.out
        ·exact HM2.out.upd hu5 fun e=>by obtain⟨cs,hcs⟩:=HO2.out.is_cells e;exact HM2.out.not_cells hcs
        ·exact HU2.out.trans hu5 fun k hk e=>HO2.out.new k e
        ·intro k e1
         have e2:(Value.slice (some (⟨g,off,none⟩:Addr)) L c1).ownBlock=some k:=by
          revert e1
          split<;>exact id
         obtain⟨x1,fz,h1⟩:=HF2.out k e2;exact⟨x1,fz,(hu5.block k (lt_of_heap h1) (hne k e2)).trans h1⟩
       case measure=>
        simp only[intOf];have:=hjN;omega
    ·have hz:n - 242 * j=0:=by omega
     have hjN:j=N:=by omega
     subst hjN;rw[hz];go_wp2_with fail
     go_ret2;have hlen:(layB inc pos bs).length=j:=by rw[HPG.out];simp
     exact⟨B2,c2,by rw[hlen];rfl,by rw[hlen,HPG.out];exact HO2.out,HU2.out.mono fun k hk h=>absurd h (by omega)⟩
open Go
structure FinS where
 out:List (Bs×Nat)
 way:Bs
 frm:Nat
 under:Bool
@[irreducible] def openO (b:Bs):Bs×Nat×Int:=openB sumB b
theorem openO_eq(b:Bs):openB sumB b=openO b:=by unfold openO;rfl
def goesF(s:FinS)(head:Bs):Bool×FinS:=
 if s.under=false then (true,s)
 else if (openO (s.way++head)).2.2=10 then (true,{ s with way:=s.way++head })
 else if (openO (s.way++head)).2.2≠0∨(openO (s.way++head)).2.1≠(s.way++head).length then (false,{ s with way:=s.way++head })
 else (true,⟨s.out++[((openO (s.way++head)).1,s.frm)],s.way++head,s.frm,false⟩)
def begGo(i:Nat):Nat→Bs→FinS→Bool×FinS
 | 0,_,s=>(true,s)
 | k+1,r,s=>if r=[] then (true,s)
   else if (openO r).2.2=0 then begGo i k (r.drop (openO r).2.1) { s with out:=s.out++[((openO r).1,i)] }
   else if (openO r).2.2=10 then (true,⟨s.out,r,i,true⟩)
   else (false,s)
def begF(s:FinS)(r:Bs)(i:Nat):Bool×FinS:=begGo i r.length r { s with under:=false }
theorem textR_part(most:Nat)(b:Bs):(textR most (b,0)).2.2=0→(textR most (b,0)).2.1.length≤b.length∧(textR most (b,0)).1.length+(textR most (b,0)).2.1.length≤b.length:=by
 unfold textR;simp only[ne_eq,not_true_eq_false,if_false];have hle:=numberB_ok (b:=b) (most:=most) (n:=(numberB b most).1) (k:=(numberB b most).2.1) (e:=(numberB b most).2.2) rfl;generalize numberB b most=T at hle;obtain⟨n,k,e⟩:=T;obtain⟨h1,h2,h3⟩:=hle;simp only at h1 h2 h3;by_cases he:e=0
 ·subst he;simp only[not_true_eq_false,if_false];by_cases hs:b.length - k<n
  ·simp[hs]
  ·simp only[if_neg hs,qld,qlt];intro _;omega
 ·simp[he]
theorem openO_cut(b:Bs)(h:(openO b).2.2=0):4≤(openO b).2.1∧(openO b).2.1≤b.length∧(openO b).1.length≤b.length:=by
 unfold openO openB at*;have hp:=textR_part 4096 b;generalize textR 4096 (b,0)=T at*;obtain⟨body,l,e⟩:=T;simp only at*;by_cases he:e=0
 ·subst he;simp only[ne_eq,not_true_eq_false,if_false]at*;by_cases h4:l.length<4
  ·simp[h4]at h
  ·have h5:4≤l.length:=by omega
   simp only[h4,if_false]at*;by_cases hs:sumB (b.take (b.length - l.length))=l.take 4
   ·simp only[hs,not_true_eq_false,if_false]at*;have:=hp trivial;omega
   ·simp[hs]at h
 ·simp[he]at h
theorem openO_not{b:Bs}(h:(openO b).2.2≠0):(openO b).1=[]∧(openO b).2.1=0:=by
 unfold openO openB at*;generalize textR 4096 (b,0)=T at*;obtain⟨body,l,e⟩:=T;simp only at*;by_cases he:e=0
 ·subst he;simp only[ne_eq,not_true_eq_false,if_false]at*;by_cases h4:l.length<4
  ·simp[h4]
  ·simp only[h4,if_false]at*;by_cases hs:sumB (b.take (b.length - l.length))=l.take 4
   ·simp[hs]at h
   ·simp[hs]
 ·simp[he]
theorem begGo_enough(i:Nat):∀(k m:Nat) (r:Bs) (s:FinS),r.length≤k→r.length≤m→begGo i k r s=begGo i m r s:=by
 intro k
 induction k with
 | zero=>
   intro m r s hk hm;have:r=[]:=List.eq_nil_of_length_eq_zero (by omega)
   subst this
   cases m<;>simp[begGo]
 | succ k ih=>
   intro m r s hk hm
   cases m with
   | zero=>
     have:r=[]:=List.eq_nil_of_length_eq_zero (by omega)
     subst this;simp[begGo]
   | succ m=>
     simp only[begGo];by_cases hr:r=[]
     ·simp[hr]
     ·simp only[hr,if_false];by_cases h0:(openO r).2.2=0
      ·simp only[h0,if_true];have h4:=openO_cut r h0;exact ih _ _ _ (by rw[qld];omega) (by rw[qld];omega)
      ·simp[h0]
def findGo:List SheetS→Nat→FinS→FinS
 | [],_,s=>s
 | p::l,i,s=>
   let is:=decide (0≤p.first) && decide (p.first≤(p.data.length:Nat))
   let o:=if is then p.first.toNat else p.data.length
   let g:=goesF s (p.data.take o)
   if g.1=false then g.2
   else if is=false then findGo l (i+1) g.2
   else
    let b:=begF g.2 (p.data.drop o) i
    if b.1=false then b.2 else findGo l (i+1) b.2
def findB(l:List SheetS):List (Bs×Nat):=(findGo l 0 ⟨[],[],0,false⟩).out
def foundC(x:Bs×Nat):List Value:=[strV x.1,.int .i64 (x.2:Nat)]
theorem foundC_len(x:Bs×Nat):(foundC x).length=2:=rfl
theorem found_row:RowK Tryz.prog 180 183 foundC 2:=
 ⟨Tryz.underlying180,⟨.agg #[.string ⟨#[]⟩,.int .i64 0],24,by kernel_rfl,rfl,by omega⟩,fun _=>rfl,fun a u hu=>by
  simp only[foundC,qmc,List.not_mem_nil,or_false]at hu
  rcases hu with rfl | rfl<;>rfl,by omega⟩
structure FinAt(B:Nat)(w:World)(F:Nat)(S:FinS):Prop where
 ex:∃A1 c1 A2 c2,Blk w F 240 #[.slice A1 S.out.length c1,.slice A2 S.way.length c2,.int .i64 (S.frm:Nat),.bool S.under]∧OwnR 183 foundC 2 B w (.slice A1 S.out.length c1) S.out∧OwnB B w (.slice A2 S.way.length c2) S.way
 ge:B≤F
theorem FinAt.lt{B F:Nat}{w:World}{S:FinS}(h:FinAt B w F S):F<w.heap.size:=by obtain⟨_,_,_,_,hb,_⟩:=h.ex;exact hb.lt
theorem FinAt.upd{B F:Nat}{w w':World}{S:FinS}{G:Nat→Prop}(h:FinAt B w F S)(hu:Upd G w w')(hF:∀k,B≤k→k<w.heap.size→¬G k):FinAt B w' F S:=by
 obtain⟨A1,c1,A2,c2,hb,ho,hy⟩:=h.ex;exact⟨⟨A1,c1,A2,c2,hb.upd hu (hF _ h.ge hb.lt),ho.upd hu fun k hk=>hF k (ho.new k hk) (ho.lt hk),hy.upd hu fun k hk=>hF k (hy.new k hk) (hy.lt hk)⟩,h.ge⟩
def FinF(B:Nat)(w:World)(k:Nat):Prop:=B≤k∧∀cs fz,w.heap[k]? ≠some (.cells cs 176 fz)
theorem FinF.of{B k:Nat}{w:World}{cs:Array Value}{t:TypeId}{fz:Nat×Nat}(h:B≤k)(hk:w.heap[k]? =some (.cells cs t fz))(ht:t≠176):FinF B w k:=⟨h,fun cs' fz' e=>by
 rw[hk]at e;injection e with e
 injection e with _ e _
 exact ht e⟩
theorem FinF.back{B k:Nat}{w w':World}{cs:Array Value}{t:TypeId}{fz:Nat×Nat}(hu:Upd (FinF B w) w w')(hk:k<w.heap.size)(h:B≤k)(hc:w'.heap[k]? =some (.cells cs t fz))(ht:t≠176):FinF B w k:=
 Classical.byContradiction fun hn=>hn (FinF.of h ((hu.block k hk hn)▸hc) ht)
theorem FinF.own{B k:Nat}{w w':World}{TE:TypeId}{α:Type}{cells:α→List Value}{sz:Nat}{v:Value}{L:List α}(hu:Upd (FinF B w) w w')(h:OwnR TE cells sz B w' v L)(ht:TE≠176)(hk:k<w.heap.size)(e:v.ownBlock=some k):FinF B w k:=by
 obtain⟨cs,hcs⟩:=h.is_cells e;exact FinF.back hu hk (h.new k e) hcs ht
theorem Upd.sheet{B g:Nat}{w w':World}{cs:Array Value}(hu:Upd (FinF B w) w w')(hb:Blk w g 176 cs):Blk w' g 176 cs:=hb.upd hu fun h=>h.2 _ _ hb
theorem goes_ok{B F:Nat}{w:World}{S:FinS}(h:FinAt B w F S)(head:Bs)(hn:S.way.length+head.length≤90000)(ho:S.out.length≤90000)(hW:HalfW w)(hB:0<B):
 Calls Tryz.prog 157 #[.pointer (some ⟨F,0,none⟩),strV head] w fun e w'=>e= .returned (.bool (goesF S head).1)∧FinAt B w' F (goesF S head).2∧Upd (FinF B w) w w':=by
 obtain⟨A1,c1,A2,c2,hb,hO,hY⟩:=h.ex;have hge:=h.ge;have hfF:FinF B w F:=FinF.of hge hb (by decide)
 have hFl:=hb.lt;obtain⟨out,way,frm,und⟩:=S;simp only at hb hO hY hn ho;have b3:=hb.cell 3;have b1:=hb.cell 1;simp only[qA,qZ,qS]at b3 b1
 cases und with
 | false=>
   have H:=qh h;clear h hn ho hW hB hb hO hY hge hFl b1 hfF;go_enter Tryz.func157,Tryz.ntmps157
   go_wp2_with fail
   go_ret;exact⟨rfl,H.out,Upd.refl _ _⟩
 | true=>
   obtain⟨A3,c3,w3,hr3,hO3,hu3⟩:=app_str hY (by omega) 143 head (by omega)
   have hnw:(Value.slice A2 way.length c2).ownBlock≠some F:=own_blk_ne hY.row hb (by decide)
   have hb3:=hb.upd hu3 hnw
   have hnv:∀k,(Value.slice A1 out.length c1).ownBlock=some k→¬(Value.slice A2 way.length c2).ownBlock=some k:=fun k e1 e2=>by
    obtain⟨x1,h1⟩:=hO.is_cells e1;obtain⟨x2,h2⟩:=hY.is_cells e2;rw[h1]at h2;injection h2 with h2
    injection h2 with _ h2 _
    exact absurd h2 (by decide)
   have hOu3:=hO.upd hu3 hnv;have hn3:(Value.slice A3 (way.length+head.length) c3).ownBlock≠some F:=own_blk_ne hO3.row hb3 (by decide)
   have hno3:(Value.slice A1 out.length c1).ownBlock≠some F:=own_blk_ne hOu3.row hb3 (by decide)
   obtain⟨W,hWd⟩:∃W,way++head=W:=⟨_,rfl⟩;have hWl:way.length+head.length=W.length:=by rw[←hWd,qla]
   rw[hWl]at hr3 hO3 hn3 hn;rw[hWd]at hO3
   have hgoes:goesF ⟨out,way,frm,true⟩ head=(if (openO W).2.2=10 then (true,⟨out,W,frm,true⟩) else if (openO W).2.2≠0∨(openO W).2.1≠W.length then (false,⟨out,W,frm,true⟩) else (true,⟨out++[((openO W).1,frm)],W,frm,false⟩)):=by
    unfold goesF;simp only[hWd,Bool.true_eq_false,if_false]
   generalize goesF ⟨out,way,frm,true⟩ head=T at hgoes ⊢;have hUF:=(hu3.mono fun k hk e=>FinF.own (Upd.refl _ w) hY (by decide) hk e:Upd (FinF B w) w w3).setCell (p:=⟨F,1,none⟩) (fun _=>hfF) (.slice A3 W.length c3)
   have hB4:Blk (w3.setCell ⟨F,1,none⟩ (.slice A3 W.length c3)) F 240 #[.slice A1 out.length c1,.slice A3 W.length c3,.int .i64 (frm:Nat),.bool true]:=hb3.set_ 1 _;have hO4:=hOu3.upd (Upd.one w3 F 1 (.slice A3 W.length c3)) fun k hk e=>hno3 (e▸hk)
   have hY4:=hO3.upd (Upd.one w3 F 1 (.slice A3 W.length c3)) fun k hk e=>hn3 (e▸hk)
   have hop:=open_ok hY4.els hn (hW.upd hUF fun e=>by have:=e.1;omega)
   rw[openO_eq]at hop;have b31:=hb3.cell 1;have f31:=hb3.frozen 1;have b41:=hB4.cell 1;simp only[qA,qZ,qS]at b31 b41;have HR3:=qh hr3;have HB4:=qh hB4;have HO4:=qh hO4;have HY4:=qh hY4;have HUF:=qh hUF;have HOP:=qh hop;have HG:=qh hgoes;have HGE:=qh hge;have HFF:=qh hfF;have HOL:=qh ho;have HN:=qh hn;clear h hn ho hW hB hb hO hY hge hfF hr3 hO3 hu3 hnw hb3 hnv hOu3 hn3 hno3 hWd hWl hgoes hUF hB4 hO4 hY4 hop;go_enter Tryz.func157,Tryz.ntmps157
   go_wp2_with (refine wpList_appstr_run rfl _ _ _ _ rfl rfl rfl HR3.out ?_)
   refine HOP.out.mono ?_;rintro e w5 ⟨v5,rfl,hE5,hU5⟩;have hUF5:=HUF.out.same hU5.any;have hB5:=HB4.out.upd hU5 id;have hO5:=HO4.out.upd hU5 fun _ _=>id
   have hY5:=HY4.out.upd hU5 fun _ _=>id
   have hcut:=openO_cut W;have hnot:=openO_not (b:=W);obtain⟨⟨body,n,x⟩,hop⟩:∃t,openO W=t:=⟨_,rfl⟩;rw[hop]at hE5 hcut hnot ⊢;have hg1:=HG.out;clear HG;rw[hop]at hg1;clear hop;simp only at hcut hnot hg1 hE5 ⊢;have c51:=hB5.cell 1;have c53:=hB5.cell 3;have c50:=hB5.cell 0;have c52:=hB5.cell 2;have f50:=hB5.frozen 0;have f53:=hB5.frozen 3;simp only[qA,qZ,qS]at c51 c53 c50 c52;have HFA:=qh (⟨⟨A1,c1,A3,c3,hB5,hO5,hY5⟩,HGE.out⟩:FinAt B w5 F ⟨out,W,frm,true⟩);have HUF5:=qh hUF5;have HB5:=qh hB5;have HO5:=qh hO5;have HY5:=qh hY5;have HE5:=qh hE5;clear hUF5 hB5 hO5 hY5 hE5 hU5;by_cases hx10:x=10
   ·subst hx10;simp only[if_true]at hg1;have HG:=qh hg1;clear hcut hnot hg1;go_wp2_with fail
    go_ret;rw[HG.out];exact⟨rfl,HFA.out,HUF5.out⟩
   ·have hx10':(x == 10)=false:=by simpa using hx10
    by_cases hbad:x≠0∨n≠W.length
    ·rw[if_neg hx10,if_pos hbad]at hg1;have HG:=qh hg1;clear hg1;by_cases hx0:x=0
     ·subst hx0;have hn1:¬n=W.length:=by simpa using hbad
      have hn2:((n:Int) != ((W.length:Nat):Int))=true:=by simp;omega
      have hn3:¬(n:Int)=((W.length:Nat):Int):=by omega
      clear hcut hnot hbad;go_wp2_with fail
      go_ret;rw[HG.out];exact⟨rfl,HFA.out,HUF5.out⟩
     ·have hx0':(x != 0)=true:=by simpa using hx0
      clear hcut hnot hbad;go_wp2_with fail
      go_ret;rw[HG.out];exact⟨rfl,HFA.out,HUF5.out⟩
    ·rw[if_neg hx10,if_neg hbad]at hg1;obtain⟨rfl,rfl⟩:x=0∧n=W.length:=by constructor<;>(by_cases h:x=0<;>simp_all)
     have HG:=qh hg1;clear hg1;have hbl:=(hcut rfl).2.2;have HBL:=qh hbl;clear hcut hnot hbad hx10 hx10' hbl;obtain⟨A5,c5,rfl,_⟩:=HE5.out.val;have hcv1:=conv_back HE5.out;have hcv2:=conv_back (w:=w5.drew) HE5.out;obtain⟨v6,w6,hr6,hO6,hg6,_⟩:=found_row.app1 (w:=w5.drew) HO5.out.drew (Nat.le_of_lt (Nat.lt_of_le_of_lt HGE.out HFA.out.lt)) 180 (body,frm) #[strV body,.int .i64 (frm:Nat)] rfl (by have:=HOL.out;omega)
     obtain⟨A6,c6,rfl,_⟩:=hO6.cap;have hu6:Upd (fun k=>(Value.slice A1 out.length c1).ownBlock=some k) w5.drew w6:=(Upd.refl _ _).grown hg6 fun k hk _=>hk
     have hne5:(Value.slice A1 out.length c1).ownBlock≠some F:=HO5.out.blk_ne HB5.out (by decide)
     have hB6:=HB5.out.drew.upd hu6 hne5
     have hnv:∀k,(Value.slice A3 W.length c3).ownBlock=some k→¬(Value.slice A1 out.length c1).ownBlock=some k:=fun k e1 e2=>by
      obtain⟨x1,h1⟩:=HO5.out.is_cells e2;obtain⟨x2,h2⟩:=HY5.out.is_cells e1;rw[h1]at h2;injection h2 with h2
      injection h2 with _ h2 _
      exact absurd h2 (by decide)
     have hY6:=HY5.out.drew.upd hu6 hnv;have hne6:(Value.slice A6 (out++[(body,frm)]).length c6).ownBlock≠some F:=hO6.blk_ne hB6 (by decide)
     have d60:=hB6.cell 0;have d62:=hB6.cell 2;have g60:=hB6.frozen 0;have hS1:=hB6.set_ 0 (.slice A6 (out++[(body,frm)]).length c6);have hS2:=hS1.set_ 3 (.bool false);have d63:=hS1.cell 3;have g63:=hS1.frozen 3;have hUF7:=((HUF5.out.drew.trans hu6 fun k hk e=>FinF.own HUF5.out HO5.out (by decide) hk e).setCell (p:=⟨F,0,none⟩) (fun _=>HFF.out) (.slice A6 (out++[(body,frm)]).length c6)).setCell (p:=⟨F,3,none⟩) (fun _=>HFF.out) (.bool false)
     have hu7:Upd (fun k=>k=F) w6 ((w6.setCell ⟨F,0,none⟩ (.slice A6 (out++[(body,frm)]).length c6)).setCell ⟨F,3,none⟩ (.bool false)):=((Upd.refl (fun k=>k=F) w6).setCell (p:=⟨F,0,none⟩) (fun _=>rfl) _).setCell (p:=⟨F,3,none⟩) (fun _=>rfl) _
     have hne63:(Value.slice A3 W.length c3).ownBlock≠some F:=hY6.blk_ne hB6 (by decide)
     have hFA7:FinAt B ((w6.setCell ⟨F,0,none⟩ (.slice A6 (out++[(body,frm)]).length c6)).setCell ⟨F,3,none⟩ (.bool false)) F ⟨out++[(body,frm)],W,frm,false⟩:=
      ⟨⟨A6,c6,A3,c3,hS2,hO6.upd hu7 fun k hk e=>hne6 (e▸hk),hY6.upd hu7 fun k hk e=>hne63 (e▸hk)⟩,HGE.out⟩
     rw[qla,qls]at hr6 d63 g63 hUF7 hFA7;simp only[qA,qZ,qS,qsA,qsZ]at d60 d62 d63;have HFA7:=qh hFA7;have HUF7:=qh hUF7;have HR6:=qh hr6;have hBa:=HB5.out.alloc (.cells #[strV body,.int .i64 (frm:Nat)] 183);have a50:=hBa.cell 0;have a52:=hBa.cell 2;simp only[qA,qZ,qS]at a50 a52;clear hBa;clear hr6 hO6 hg6 hu6 hne5 hB6 hnv hY6 hne6 hS1 hS2 hUF7 hu7 hne63 hFA7;go_upto_region 9 with fail
     go_region_law (first
      | (refine step_append_run rfl _ _ _ rfl rfl rfl HR6.out ?_))
     all_goals
      go_wp2_with fail
      go_ret;rw[HG.out];exact⟨rfl,HFA7.out,HUF7.out⟩
theorem begins_ok{B F:Nat}{w:World}{S:FinS}{v:Value}{r:Bs}(h:FinAt B w F S)(hr:BytesE w v r)(h8:∀k,v.ownBlock=some k→U8 w k)(hn:S.out.length+r.length≤90000)(i:Nat)(hW:HalfW w)(hB:0<B):
 Calls Tryz.prog 158 #[.pointer (some ⟨F,0,none⟩),v,.int .i64 (i:Nat)] w fun e w'=>e= .returned (.bool (begF S r i).1)∧FinAt B w' F (begF S r i).2∧Upd (FinF B w) w w':=by
 obtain⟨A1,c1,A2,c2,hb,hO,hY⟩:=h.ex;have hge:=h.ge;obtain⟨out,way,frm,und⟩:=S;simp only at hb hO hY hn;obtain⟨A0,c0,rfl,_⟩:=hr.val;have hBG:begF ⟨out,way,frm,und⟩ r i=begGo i r.length r ⟨out,way,frm,false⟩:=rfl;generalize begF ⟨out,way,frm,und⟩ r i=T at hBG ⊢;have b3:=hb.cell 3;have f3:=hb.frozen 3;simp only[qA,qZ,qS]at b3;have hb0:Blk (w.setCell ⟨F,3,none⟩ (.bool false)) F 240 #[.slice A1 out.length c1,.slice A2 way.length c2,.int .i64 (frm:Nat),.bool false]:=hb.set_ 3 (.bool false);have hfF:FinF B w F:=FinF.of hge hb (by decide)
 have HFF:=qh hfF;have hu0:=(Upd.refl (FinF B w) w).setCell (p:=⟨F,3,none⟩) (fun _=>hfF) (.bool false)
 have hu1:=Upd.one w F 3 (.bool false);have hneR:∀k,(Value.slice A0 r.length c0).ownBlock=some k→¬k=F:=fun k e=>(h8 k e).ne hb (by decide)
 have HE0:=qh (hr.upd hu1 hneR);have HF0:=qh fun k e=>(h8 k e).upd hu1 (hneR k e)
 have HFA0:=qh (⟨⟨A1,c1,A2,c2,hb0,hO.upd hu1 fun k hk e=>hO.blk_ne hb (by decide) (e▸hk),hY.upd hu1 fun k hk e=>hY.blk_ne hb (by decide) (e▸hk)⟩,hge⟩:FinAt B (w.setCell ⟨F,3,none⟩ (.bool false)) F ⟨out,way,frm,false⟩)
 have HU0:=qh hu0;have HBG:=qh hBG;have HGE:=qh hge;have HW:=qh hW;have HB:=qh hB;have HN:=qh hn;clear h hr h8 hn hW hB hb hO hY hge hBG hb0 hu0 hu1 hneR hfF;go_enter Tryz.func158,Tryz.ntmps158
 go_wp2_with fail
 go_step3
 go_wp2_with fail
 generalize w.setCell ⟨F,3,none⟩ (.bool false)=w0 at*;go_step3
 go_wp2_with fail
 go_loopw [1] (fun s1 wr=>∃(r':Bs) (A:Option Addr) (c:Nat) (s:FinS),s1= .slice A r'.length c∧BytesE wr s1 r'∧(∀k,s1.ownBlock=some k→U8 wr k)∧FinAt B wr F s∧s.under=false∧s.out.length+r'.length≤90000∧T=begGo i r'.length r' s∧Upd (FinF B w) w wr) (fun s1 _=>match s1 with | .slice _ n _=>n | _=>0)
 case atStart=>
  exact⟨r,A0,c0,_,rfl,HE0.out,HF0.out,HFA0.out,rfl,HN.out,HBG.out,HU0.out⟩
 case round=>
  obtain⟨r',A,c,⟨out',way',frm',und'⟩,rfl,hE,hF,hFA,hund,hn',hT,hU⟩:=hrel;simp only at hund hn';subst hund;obtain⟨L,hL⟩:∃L,r'.length=L:=⟨_,rfl⟩;by_cases hr0:r'=[]
  ·subst hr0;simp only[List.length_nil]at hL;subst hL;have HT:=qh (show T=(true,⟨out',way',frm',false⟩) from hT)
   have HFA:=qh hFA;have HU:=qh hU;clear hE hF hFA hn' hT hU b3 f3;go_wp2_with fail
   rw[Exit.noGoto_ret];go_ret;rw[HT.out];exact⟨rfl,HFA.out,HU.out⟩
  ·have hL0:0<L:=by rw[←hL];exact List.length_pos_iff.2 hr0
   have hL0I:(0:Int)<(L:Int):=by omega
   have hLb:(L:Int)≤90000:=by omega
   have hT':T=(if (openO r').2.2=0 then begGo i (L - 1) (r'.drop (openO r').2.1) ⟨out'++[((openO r').1,i)],way',frm',false⟩ else if (openO r').2.2=10 then (true,⟨out',r',i,true⟩) else (false,⟨out',way',frm',false⟩)):=by
    rw[hT,hL];obtain⟨l,rfl⟩:∃l,L=l+1:=⟨L - 1,by omega⟩
    simp only[begGo,if_neg hr0,Nat.add_sub_cancel]
   obtain⟨g,off,cc,he,hg,_⟩:=Reads.addr hE (by rw[hL];omega)
   injection he with he1 he2 he3
   subst he1
   have hLc:L≤c:=by
    obtain⟨_,cb,hcb,hcc⟩:=hE.val;injection hcb with e1 e2 hcb
    omega
   rw[hL]at hE hF hn' ⊢;have hop:=open_ok hE (by omega) (HW.out.upd hU fun e=>by have:=HB.out;have:=e.1;omega)
   rw[openO_eq]at hop;have HOP:=qh hop;have HE:=qh hE;have HF:=qh hF;have HFA:=qh hFA;have HU:=qh hU;have HT:=qh hT';have HL:=qh hL;have HG:=qh hg;have HLC:=qh hLc;have HN':=qh hn';clear he2 he3 hop hE hF hFA hU hT hT' hg hr0 hn' b3 f3;go_wp2_with fail
   refine HOP.out.mono ?_;rintro e w5 ⟨v5,rfl,hE5,hU5⟩;clear HOP;obtain⟨A5,c5,rfl,_⟩:=hE5.val;have hcut:=openO_cut r';have ht:=HT.out;clear HT;obtain⟨⟨body,n,x⟩,hop⟩:∃t,openO r'=t:=⟨_,rfl⟩;rw[hop]at hE5 hcut ht ⊢;clear hop;simp only at hE5 hcut ht ⊢;obtain⟨A3,c3,A4,c4,hb,hO,hY⟩:=(HFA.out.upd hU5 fun _ _ _=>id).ex
   simp only at hb hO hY;have HE5:=qh hE5;have hE':=HE.out.upd hU5 fun _ _=>id
   have hF':=fun k e=>(HF.out k e).upd hU5 id
   have hU':=HU.out.same hU5.any;have HE:=qh hE';have HF:=qh hF';have HU:=qh hU';clear hE5 hE' hF' hU';have c50:=hb.cell 0;have c51:=hb.cell 1;have c52:=hb.cell 2;have c53:=hb.cell 3;have f50:=hb.frozen 0;have f51:=hb.frozen 1;have f52:=hb.frozen 2;have f53:=hb.frozen 3;simp only[qA,qZ,qS]at c50 c51 c52 c53;have hbl:B≤w5.heap.size:=Nat.le_of_lt (Nat.lt_of_le_of_lt HGE.out hb.lt);have HBL:=qh hb;have HO:=qh hO;have HY:=qh hY;have HSZ:=qh hbl;have HLb:=qh hLb;have HFA:=qh (HFA.out.upd hU5 fun _ _ _=>id)
   clear hb hO hY hbl hU5;by_cases hx0:x=0
   ·subst hx0;obtain⟨h4,hnL,hbL⟩:=hcut rfl;rw[if_pos rfl]at ht;have HT:=qh ht;have HBODY:=qh hbL;have H4:=qh h4;have hnLI:(n:Int)≤(L:Int):=by omega
    have hnL':n≤L:=by omega
    have hnc:(n:Int)≤(c:Int):=by have:=HLC.out;omega
    have hn0:(0:Int)≤(n:Int):=by omega
    have HNL:=qh hnL';clear ht hbL h4 hnL hnL' hcut;have hcv1:=conv_back HE5.out;have hcv2:=conv_back (w:=w5.drew) HE5.out;have hol:out'.length+1≤90000:=by have:=HN'.out;omega
    obtain⟨v6,w6,hr6,hO6,hg6,_⟩:=found_row.app1 (w:=w5.drew) HO.out.drew HSZ.out 180 (body,i) #[strV body,.int .i64 (i:Nat)] rfl (by omega)
    clear hol;obtain⟨A6,c6,rfl,_⟩:=hO6.cap;have hu6:Upd (fun k=>(Value.slice A3 out'.length c3).ownBlock=some k) w5.drew w6:=(Upd.refl _ _).grown hg6 fun k hk _=>hk
    have hne5:(Value.slice A3 out'.length c3).ownBlock≠some F:=HO.out.blk_ne HBL.out (by decide)
    have hB6:=HBL.out.drew.upd hu6 hne5
    have hnv:∀k,U8 w5 k→¬(Value.slice A3 out'.length c3).ownBlock=some k:=fun k e1 e2=>by
     obtain⟨x1,_,h1⟩:=e1;obtain⟨x2,h2⟩:=HO.out.is_cells e2;rw[h1]at h2;injection h2 with h2
     injection h2 with _ h2 _
     exact absurd h2 (by decide)
    have hY6:=HY.out.drew.upd hu6 fun k e=>hnv k (by obtain⟨x2,h2⟩:=HY.out.is_cells e;exact⟨x2,_,h2⟩)
    have hE6:=Els.upd (w:=w5.drew) HE.out hu6 fun k e=>hnv k (HF.out k e)
    have hF6:=fun k e=>(show U8 w5.drew k from HF.out k e).upd hu6 (hnv k (HF.out k e))
    have hne6:(Value.slice A6 (out'++[(body,i)]).length c6).ownBlock≠some F:=hO6.blk_ne hB6 (by decide)
    have hneY:(Value.slice A4 way'.length c4).ownBlock≠some F:=hY6.blk_ne hB6 (by decide)
    have d60:=hB6.cell 0;have g60:=hB6.frozen 0;have hS1:=hB6.set_ 0 (.slice A6 (out'++[(body,i)]).length c6);have hu7:=Upd.one w6 F 0 (.slice A6 (out'++[(body,i)]).length c6);have hUF7:=((HU.out.drew.trans hu6 fun k hk e=>FinF.own HU.out HO.out (by decide) hk e).setCell (p:=⟨F,0,none⟩) (fun _=>HFF.out) (.slice A6 (out'++[(body,i)]).length c6))
    have hFA7:FinAt B (w6.setCell ⟨F,0,none⟩ (.slice A6 (out'++[(body,i)]).length c6)) F ⟨out'++[(body,i)],way',frm',false⟩:=
     ⟨⟨A6,c6,A4,c4,hS1,hO6.upd hu7 fun k hk e=>hne6 (e▸hk),hY6.upd hu7 fun k hk e=>hneY (e▸hk)⟩,HGE.out⟩
    have hE7:=hE6.upd hu7 fun k e=>(hF6 k e).ne hB6 (by decide)
    have hF7:=fun k e=>(hF6 k e).upd hu7 ((hF6 k e).ne hB6 (by decide))
    have hg7:g<(w6.setCell ⟨F,0,none⟩ (.slice A6 (out'++[(body,i)]).length c6)).heap.size:=by
     have h1:g<w5.heap.size:=by obtain⟨_,_,e⟩:=HF.out g rfl;exact lt_of_heap e
     exact Nat.lt_of_lt_of_le h1 (Nat.le_trans hu6.size hu7.size)
    have hR7:=BytesE.rest hE7 HL.out HNL.out HLC.out hg7;rw[qla,qls]at hr6;have HFA7:=qh hFA7;have HUF7:=qh hUF7;have HR6:=qh hr6;have HR7:=qh hR7;have HF7:=qh hF7;have hlen7:(out'++[(body,i)]).length=out'.length+1:=by simp
    rw[hlen7]at HFA7 HUF7 HR7 HF7;simp only[qA,qZ]at d60;clear hlen7 hr6 hO6 hg6 hu6 hne5 hB6 hnv hY6 hE6 hF6 hne6 hneY hS1 hu7 hUF7 hFA7 hE7 hF7 hg7 hR7;have hBa:=HBL.out.alloc (.cells #[strV body,.int .i64 (i:Nat)] 183);have a50:=hBa.cell 0;simp only[qA,qZ]at a50;clear hBa
    have HBG2:Hid (T=begGo i (r'.drop n).length (r'.drop n) ⟨out'++[(body,i)],way',frm',false⟩):=qh (by
     rw[HT.out];refine begGo_enough i _ _ _ _ ?_ (qlr _);rw[qld,HL.out];have:=H4.out;omega)
    have HDL:Hid ((r'.drop n).length=L - n):=qh (by rw[qld,HL.out])
    go_upto_region 7 with fail
    go_region_law (first
     | (refine step_append_run rfl _ _ _ rfl rfl rfl HR6.out ?_))
    all_goals
     go_wp2_with fail
     go_roundw
     case rel=>
      refine⟨r'.drop n,_,_,⟨out'++[(body,i)],way',frm',false⟩,by rw[HDL.out],HR7.out,?_,HFA7.out,rfl,?_,HBG2.out,HUF7.out⟩
      ·intro k e;refine HF7.out k ?_
       revert e
       split<;>exact id
      ·rw[HDL.out];have h1:=HN'.out;have h2:=H4.out;have h3:=HNL.out;simp only[qla,qls];omega
     case measure=>
      have h2:=H4.out;have h3:=HNL.out;simp only;omega
   ·have hnz:=openO_not (b:=r');by_cases hx10:x=10
    ·subst hx10;rw[if_neg (by decide),if_pos rfl]at ht
     have HT:=qh ht;obtain⟨g6,c6,w6,hr6,hO6,hu6,hg6⟩:=copy_bytes HE.out (by have:=HL.out;have:=HLb.out;omega)
     rw[HL.out]at hr6 hO6;have hB6:=HBL.out.upd hu6 id;have hO36:=HO.out.upd hu6 fun _ _=>id
     have hO6':=hO6.far (B':=B) fun k hk=>Nat.le_trans HSZ.out (hO6.new k hk)
     have hS1:=hB6.set_ 1 (.slice (some ⟨g6,0,none⟩) L c6);have hS2:=hS1.set_ 2 (.int .i64 (i:Nat));have hS3:=hS2.set_ 3 (.bool true);have d61:=hB6.cell 1;have d62:=hS1.cell 2;have d63:=hS2.cell 3;have g61:=hB6.frozen 1;have g62:=hS1.frozen 2;have g63:=hS2.frozen 3
     have hu7:Upd (fun k=>k=F) w6 (((w6.setCell ⟨F,1,none⟩ (.slice (some ⟨g6,0,none⟩) L c6)).setCell ⟨F,2,none⟩ (.int .i64 (i:Nat))).setCell ⟨F,3,none⟩ (.bool true)):=
      (((Upd.refl (fun k=>k=F) w6).setCell (p:=⟨F,1,none⟩) (fun _=>rfl) _).setCell (p:=⟨F,2,none⟩) (fun _=>rfl) _).setCell (p:=⟨F,3,none⟩) (fun _=>rfl) _
     have hneO:(Value.slice A3 out'.length c3).ownBlock≠some F:=hO36.blk_ne hB6 (by decide)
     have hneY:(Value.slice (some ⟨g6,0,none⟩) L c6).ownBlock≠some F:=hO6.blk_ne hB6 (by decide)
     have HFA7:Hid (FinAt B (((w6.setCell ⟨F,1,none⟩ (.slice (some ⟨g6,0,none⟩) L c6)).setCell ⟨F,2,none⟩ (.int .i64 (i:Nat))).setCell ⟨F,3,none⟩ (.bool true)) F ⟨out',r',i,true⟩):=
      qh ⟨⟨A3,c3,some ⟨g6,0,none⟩,c6,by rw[HL.out];exact hS3,hO36.upd hu7 fun k hk e=>hneO (e▸hk),by rw[HL.out];exact hO6'.upd hu7 fun k hk e=>hneY (e▸hk)⟩,HGE.out⟩
     have HUF7:=qh ((HU.out.same hu6.any).trans hu7 fun k _ e=>by rw[e];exact HFF.out)
     have HR6:=qh hr6;simp only[qA,qZ,qS,qsA,qsZ,qsS]at d61 d62 d63;clear hcut ht hr6 hO6 hu6 hg6 hB6 hO36 hO6' hS1 hS2 hS3 hu7 hneO hneY hx0 hnz c50 c51 c52 c53 f50 f51 f52 f53;go_wp2_with (at_builtin;refine wpList_append_run rfl _ _ _ rfl rfl rfl HR6.out ?_)
     rw[Exit.noGoto_ret];go_ret;rw[HT.out];exact⟨rfl,HFA7.out,HUF7.out⟩
    ·rw[if_neg hx0,if_neg hx10]at ht;have HT:=qh ht;have hx0':(x == 0)=false:=by simpa using hx0
     have hx10':(x == 10)=false:=by simpa using hx10
     clear hcut ht hnz c50 c51 c52 c53 f50 f51 f52 f53;go_wp2_with fail
     rw[Exit.noGoto_ret];go_ret;rw[HT.out];exact⟨rfl,HFA.out,HU.out⟩
theorem goesF_len(s:FinS)(h:Bs):(goesF s h).2.way.length≤s.way.length+h.length∧(goesF s h).2.out.length≤s.out.length+1:=by
 unfold goesF;split
 ·exact⟨Nat.le_add_right _ _,Nat.le_add_right _ _⟩
 ·split
  ·simp
  ·split<;>simp
theorem begGo_len(i:Nat):∀(k:Nat) (r:Bs) (s:FinS),(begGo i k r s).2.way.length≤s.way.length+r.length∧(begGo i k r s).2.out.length≤s.out.length+r.length:=by
 intro k
 induction k with
 | zero=>intro r s;exact⟨Nat.le_add_right _ _,Nat.le_add_right _ _⟩
 | succ k ih=>
   intro r s;simp only[begGo];split
   ·exact⟨Nat.le_add_right _ _,Nat.le_add_right _ _⟩
   ·split
    ·rename_i h0
     have h4:=openO_cut r h0;have hi:=ih (r.drop (openO r).2.1) { s with out:=s.out++[((openO r).1,i)] }
     simp only[qld,qla,qls]at hi;omega
    ·split<;>simp
theorem begF_len(i:Nat)(r:Bs)(s:FinS):(begF s r i).2.way.length≤s.way.length+r.length∧(begF s r i).2.out.length≤s.out.length+r.length:=begGo_len i r.length r { s with under:=false }
theorem ext_take(d:Bs)(o:Nat)(_h:o≤d.length):(⟨d.toArray⟩:ByteArray).extract 0 o=⟨(d.take o).toArray⟩:=by
 apply ByteArray.ext;simp[ByteArray.data_extract]
theorem ext_drop(d:Bs)(o:Nat)(_h:o≤d.length):(⟨d.toArray⟩:ByteArray).extract o d.length=⟨(d.drop o).toArray⟩:=by
 apply ByteArray.ext;simp[ByteArray.data_extract];exact List.take_of_length_le (by simp)
theorem find_ok{w:World}{v:Value}{l:List SheetS}(h:Els 4 sheetC w v l)(hl:l.length≤300)(hd:∀s∈l,s.data.length≤242)(hW:HalfW w):
 Calls Tryz.prog 103 #[v] w fun e w'=>∃A c,e= .returned (.slice A (findB l).length c)∧OwnR 183 foundC 2 w.heap.size w' (.slice A (findB l).length c) (findB l)∧Upd Nowhere w w':=by
 obtain⟨A0,c0,rfl,_⟩:=h.val;obtain⟨F,hF⟩:∃F,w.heap.size=F:=⟨_,rfl⟩;have hB0:=Blk.new w 240 #[.slice none 0 0,.slice none 0 0,.int .i64 0,.bool false]
 have HFA0:Hid (FinAt F (w.alloc (.cells #[.slice none 0 0,.slice none 0 0,.int .i64 0,.bool false] 240)) F ⟨[],[],0,false⟩):=
  qh (by rw[←hF];exact⟨⟨none,0,none,0,hB0,OwnR.nil _ _ _ _ _,OwnR.nil _ _ _ _ _⟩,qlr _⟩)
 have HU0:=qh ((Upd.refl Nowhere w).alloc (.cells #[.slice none 0 0,.slice none 0 0,.int .i64 0,.bool false] 240));have hT:findGo l 0 ⟨[],[],0,false⟩=findGo (l.drop 0) 0 ⟨[],[],0,false⟩:=rfl;unfold findB;generalize findGo l 0 ⟨[],[],0,false⟩=T at hT ⊢;have H:=qh h;have HF:=qh hF;have HT:=qh hT;have HD:=qh hd;have HW:=qh hW;have HB:Hid (0<F):=qh (by rw[←hF];exact hW.lt)
 have hlI:((l.length:Nat):Int)≤300:=by omega
 clear h hd hW hB0 hT;go_enter Tryz.func103,Tryz.ntmps103
 go_wp2_with fail
 generalize w.alloc (.cells #[.slice none 0 0,.slice none 0 0,.int .i64 0,.bool false] 240)=w0 at*;clear hF;go_loopw [10] (fun s10 wr=>∃(k:Nat) (s:FinS),s10= .int .i64 (k:Int)∧k≤l.length∧FinAt F wr F s∧s.way.length≤242 * k∧s.out.length≤243 * k∧T=findGo (l.drop k) k s∧Upd Nowhere w wr) (fun s10 _=>l.length - (intOf s10).toNat)
 case atStart=>exact⟨0,_,rfl,by omega,HFA0.out,by simp,by simp,HT.out,HU0.out⟩
 case round=>
  obtain⟨k,s,rfl,hk,hFA,hway,hout,hT,hU⟩:=hrel;have HU:=qh hU;by_cases hlt:k<l.length
  ·obtain⟨p,hp⟩:∃p,l[k]? =some p:=⟨_,qeg hlt⟩;have hE:=H.out.newer hU fun k _ h=>absurd h id
   obtain⟨b,off,c,he,hb,hq⟩:=hE.get sheetC_len hp;injection he with he1 he2 he3
   subst he1 he3;clear he2
   have hdr:l.drop k=p::l.drop (k+1):=by
    obtain⟨hk',rfl⟩:=qei.1 hp;exact List.drop_eq_getElem_cons hk'
   have hdl:=HD.out p (qmg hp);obtain⟨inc,pos,first,data⟩:=p;have q0:=hq 0 (by omega)
   have q1:=hq 1 (by omega)
   have q2:=hq 2 (by omega)
   have q3:=hq 3 (by omega)
   simp only[sheetC,SheetS.arr,qZ,qS,Nat.add_zero]at q0 q1 q2 q3;simp only at hdl;have hltI:(k:Int)<((l.length:Nat):Int):=by omega
   have hBx:=Blk.new wr 176 #[.int .i64 inc,.int .i64 pos,.int .i64 first,strV data];have x2:=hBx.cell 2;have x3:=hBx.cell 3;have hux:=(Upd.refl Nowhere wr).alloc (.cells #[.int .i64 inc,.int .i64 pos,.int .i64 first,strV data] 176);simp only[qA,qZ,qS]at x2 x3
   obtain⟨is,o,hio,hoD,hcase⟩:∃(is:Bool) (o:Nat),(decide (0≤first) && decide (first≤(data.length:Nat)))=is∧o≤data.length∧(is=true∧first=(o:Int)∨is=false∧o=data.length∧¬(0≤first∧first≤(data.length:Nat))):=by
    by_cases h1:0≤first∧first≤(data.length:Nat)
    ·exact⟨true,first.toNat,by simp[h1],by omega,.inl ⟨rfl,by omega⟩⟩
    ·exact⟨false,data.length,by simpa using h1,qlr _,.inr ⟨rfl,rfl,h1⟩⟩
   have hT2:T=(if (goesF s (data.take o)).1=false then (goesF s (data.take o)).2 else if is=false then findGo (l.drop (k+1)) (k+1) (goesF s (data.take o)).2 else if (begF (goesF s (data.take o)).2 (data.drop o) k).1=false then (begF (goesF s (data.take o)).2 (data.drop o) k).2 else findGo (l.drop (k+1)) (k+1) (begF (goesF s (data.take o)).2 (data.drop o) k).2):=by
    rw[hT,hdr]
    have ho:(if is=true then first.toNat else data.length)=o:=by
     rcases hcase with⟨rfl,rfl⟩ | ⟨rfl,rfl,_⟩<;>simp
    simp only[findGo,hio,ho]
   have HT:=qh hT2;have hg:=goes_ok (hFA.upd hux fun _ _ _=>id) (data.take o) (by simp;omega) (by omega) (HW.out.upd (hU.same hux.any) id) HB.out
   have hgl:=goesF_len s (data.take o);rw[qlt,Nat.min_eq_left hoD]at hgl;have hbl:=begF_len k (data.drop o) (goesF s (data.take o)).2;rw[qld]at hbl;have het:=ext_take data o hoD;have hed:=ext_drop data o hoD;have hoI:((o:Nat):Int)≤((data.length:Nat):Int):=by omega
   have hdI:((data.length:Nat):Int)≤242:=by omega
   have HG:=qh hg;have HGL:=qh hgl;have HBLN:=qh hbl;have HWAY:=qh hway;have HOUT:=qh hout;have HLT:=qh hlt;have HDL:=qh hdl;have HOD:=qh hoD;have HUX:=qh hux;have HBX:=qh hBx;clear hU hT hT2 hE hq hdr hp hb hio hoD hg hgl hbl hway hout hlt hdl hux hFA hk hBx
   rcases hcase with⟨rfl,rfl⟩ | ⟨rfl,rfl,hno⟩
   ·go_upto_region 9 with fail
    go_wp2_with fail
    refine HG.out.mono ?_;rintro e w5 ⟨rfl,hFA5,hU5⟩;have hBx5:=hU5.sheet HBX.out;have y3:=hBx5.cell 3;simp only[qA,qZ,qS]at y3;have hU5':Upd Nowhere w w5:=(HU.out.same HUX.out.any).trans hU5 fun k hk e=>by have:=e.1;have:=HF.out;omega
    clear HG;have ht:=HT.out;have hgl:=HGL.out;have hbl:=HBLN.out;clear HT HGL HBLN;generalize goesF s (data.take o)=G at hFA5 ht hgl hbl ⊢;obtain⟨g1,s1⟩:=G;simp only at hFA5 ht hgl hbl ⊢;have HU5:=qh hU5';have HU15:=qh hU5;have HGL:=qh hgl;have HBLN:=qh hbl
    cases g1 with
    | false=>
      have HT:Hid (T=s1):=qh (by simpa using ht)
      obtain⟨A1,c1,A2,c2,hb5,hO5,_⟩:=hFA5.ex;have c50:=hb5.cell 0;simp only[qA,qZ]at c50;have HO:=qh hO5;clear hFA5 ht hgl hbl hU5 hU5' hBx5 hb5 hO5;go_wp2_with fail
      go_ret;rw[HT.out];exact⟨_,_,rfl,by rw[HF.out];exact HO.out,HU5.out⟩
    | true=>
      obtain⟨c6,w6,hr6,hE6,hu6,_,hu8⟩:=conv_bytes w5 (data.drop o);have hHW:=HW.out.upd (hU5'.same hu6.any) id
      have hbg:=begins_ok (hFA5.upd hu6 fun _ _ _=>id) hE6 (fun k e=>by
       have:w5.heap.size=k:=by simpa [Value.ownBlock] using e
       subst this;exact hu8) (by rw[qld];have:=HOUT.out;have:=HLT.out;have:=HDL.out;omega) k hHW HB.out
      rw[qld]at hr6 hbg;have HBG:=qh hbg;have HU6:=qh hu6;have HT:=qh ht;clear hFA5 ht hgl hbl hU5 hU5' hBx5 hE6 hu6 hu8 hHW hbg;go_wp2_with fail
      refine HBG.out.mono ?_;rintro e w7 ⟨rfl,hFA7,hU7⟩;have hU7':Upd Nowhere w w7:=(HU5.out.same HU6.out.any).trans hU7 fun k hk e=>by have:=e.1;have:=HF.out;omega
      clear HBG;have ht:=HT.out;have hbl:=HBLN.out;clear HT HBLN;generalize begF s1 (data.drop o) k=G at hFA7 ht hbl ⊢;obtain⟨g2,s2⟩:=G;simp only at hFA7 ht hbl ⊢;have HU7:=qh hU7';have HBLN:=qh hbl
      cases g2 with
      | false=>
        have HT:Hid (T=s2):=qh (by simpa using ht)
        obtain⟨A1,c1,A2,c2,hb5,hO5,_⟩:=hFA7.ex;have c50:=hb5.cell 0;simp only[qA,qZ]at c50;have HO:=qh hO5;clear hFA7 ht hbl hU7 hU7' hb5 hO5;go_wp2_with fail
        go_ret;rw[HT.out];exact⟨_,_,rfl,by rw[HF.out];exact HO.out,HU7.out⟩
      | true=>
        have HT:Hid (T=findGo (l.drop (k+1)) (k+1) s2):=qh (by simpa using ht)
        have HFA:=qh hFA7;clear hFA7 ht hbl hU7 hU7';go_wp2_with fail
        go_roundw
        case rel=>
         refine⟨k+1,s2,by go_num,HLT.out,HFA.out,?_,?_,HT.out,HU7.out⟩
         ·have:=HWAY.out;have:=HGL.out;have:=HBLN.out;have:=HDL.out;have:=HOD.out;omega
         ·have:=HOUT.out;have:=HGL.out;have:=HBLN.out;have:=HDL.out;have:=HOD.out;omega
        case measure=>
         have h1:=HLT.out;simp only[intOf];omega
   ·rcases(by omega:first<0∨(0≤first∧((data.length:Nat):Int)<first)) with hf | ⟨hf0,hf⟩
    all_goals
     (try have hf':¬first≤((data.length:Nat):Int):=by omega)
     (try have hf'':¬first<0:=by omega)
     clear hno hed;simp only[List.take_length]at HG HT HGL het;go_upto_region 9 with fail
     go_wp2_with fail
     refine HG.out.mono ?_;rintro e w5 ⟨rfl,hFA5,hU5⟩;have hU5':Upd Nowhere w w5:=(HU.out.same HUX.out.any).trans hU5 fun k hk e=>by have:=e.1;have:=HF.out;omega
     clear HG;have ht:=HT.out;have hgl:=HGL.out;clear HT HGL HBLN;generalize goesF s data=G at hFA5 ht hgl ⊢;obtain⟨g1,s1⟩:=G;simp only at hFA5 ht hgl ⊢;have HU5:=qh hU5';have HGL:=qh hgl
     cases g1 with
     | false=>
       have HT:Hid (T=s1):=qh (by simpa using ht)
       obtain⟨A1,c1,A2,c2,hb5,hO5,_⟩:=hFA5.ex;have c50:=hb5.cell 0;simp only[qA,qZ]at c50;have HO:=qh hO5;clear hFA5 ht hgl hU5 hU5' hb5 hO5;go_wp2_with fail
       go_ret;rw[HT.out];exact⟨_,_,rfl,by rw[HF.out];exact HO.out,HU5.out⟩
     | true=>
       have HT:Hid (T=findGo (l.drop (k+1)) (k+1) s1):=qh (by simpa using ht)
       have HFA:=qh hFA5;clear hFA5 ht hgl hU5 hU5';go_wp2_with fail
       go_roundw
       case rel=>
        refine⟨k+1,s1,by go_num,HLT.out,HFA.out,?_,?_,HT.out,HU5.out⟩
        ·have:=HWAY.out;have:=HGL.out;have:=HDL.out;omega
        ·have:=HOUT.out;have:=HGL.out;have:=HDL.out;omega
       case measure=>
        have h1:=HLT.out;simp only[intOf];omega
  ·have hkl:k=l.length:=by omega
   subst hkl;rw[List.drop_eq_nil_of_le (qlr _)]at hT;have HT:Hid (T=s):=qh hT;obtain⟨A1,c1,A2,c2,hb,hO,_⟩:=hFA.ex;have c50:=hb.cell 0;simp only[qA,qZ]at c50;have HO:=qh hO;clear hT hFA hb hO hway hout hU;go_wp2_with fail
   go_ret;rw[HT.out];exact⟨A1,c1,rfl,by rw[HF.out];exact HO.out,HU.out⟩
end Go.Proofs.YtdfccegeihfdpaaGreatDoor
