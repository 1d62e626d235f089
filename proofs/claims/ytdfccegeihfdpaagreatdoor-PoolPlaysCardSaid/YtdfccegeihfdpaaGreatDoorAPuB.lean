/-
  Layer 7: the pool's record is read again.
-/
import Derived.Test.YtdfccegeihfdpaaGreatDoorAPuA
set_option maxRecDepth 100000
set_option maxHeartbeats 4000000
namespace Go.Proofs.YtdfccegeihfdpaaGreatDoor
open Go Go.RowKit
theorem nums_at{R g t:Nat}{rest:Bs}{w:World}{cs vs:Array Value}{os:List Nat}{ns:List Int}(h:RAt w R (ns.flatMap numZ++rest,0))(hn:∀n∈ns,0≤n∧n≤1099511627776)(hl:(ns.flatMap numZ++rest).length≤1000000)(hb:Blk w g t cs)(ht:t≠5)(hg:g≠R)(hc:allInts cs os)(hlen:os.length=ns.length)(h10:os.length≤10)(hvs:vs=(os.map fun o=>(Value.pointer (some ⟨g,o,none⟩))).toArray):
 Calls Tryz.prog 182 #[cR R,.slice (some ⟨w.heap.size,0,none⟩) os.length os.length] (w.alloc (.cells vs 194)) (RdP R g t rest (setAll cs os ns) (w.alloc (.cells vs 194))):=by
 subst hvs;have hU:=(Upd.refl Nowhere w).alloc (.cells (os.map fun o=>(Value.pointer (some ⟨g,o,none⟩))).toArray 194)
 exact nums_r (h.upd hU id fun _ e=>absurd e id) hn hl (hb.upd hU id) ht hg hc hlen h10 (Blk.new w _ _) (by have:=h.lt;omega) (by have:=hb.lt;omega)
theorem ufields_r{R X:Nat}{rest:Bs}{w:World}{tx:Int}{prev:Int}{key:Bs}{oh:Bool}{od:Bs}{nh:Bool}{nd:Bs}(hX:X≠R)(hb:Blk w X 39 #[.int .i64 1,.int .i64 0,.int .i64 0,.int .i64 0,strV [],.bool false,strV [],.bool false,strV [],.int .i64 0,.slice none 0 0,.slice none 0 0,.slice none 0 0,.slice none 0 0,.slice none 0 0,.slice none 0 0])(htx:0≤tx∧tx≤1099511627776)(hprev:0≤prev∧prev≤1099511627776)(hkey:key.length≤32)(hod:od.length≤32)(hoe:oh=false→od=[])(hnd:nd.length≤32)(hne:nh=false→nd=[])(h:RAt w R (([tx,prev]:List Int).flatMap numZ++(textB key++(valB oh od++(valB nh nd++rest))),0))(hl:(([tx,prev]:List Int).flatMap numZ++(textB key++(valB oh od++(valB nh nd++rest)))).length≤1000000):
 Calls Tryz.prog 128 #[cR R,.pointer (some ⟨X,0,none⟩)] w (RdP R X 39 rest #[.int .i64 1,.int .i64 tx,.int .i64 prev,.int .i64 0,strV key,.bool oh,strV od,.bool nh,strV nd,.int .i64 0,.slice none 0 0,.slice none 0 0,.slice none 0 0,.slice none 0 0,.slice none 0 0,.slice none 0 0] w):=by
 have hU0:=(Upd.refl Nowhere w).alloc (.cells #[.pointer none,.pointer (some ⟨R,0,none⟩)] 214);have hB:=Blk.new w 214 #[.pointer none,.pointer (some ⟨R,0,none⟩)];have hbR:w.heap.size≠R:=by have:=h.lt;omega
 have hbg:w.heap.size≠X:=by have:=hb.lt;omega
 have hR1:=h.upd hU0 id fun _ e=>absurd e id
 have hb1:=hb.upd hU0 id;have cK:=hb1.cell 0;simp only[qA,qZ]at cK;have b0:=hB.cell 0;have b1:=hB.cell 1;simp only[qA,qZ,qS]at b0 b1;have hS0:RdS R X 39 (([tx,prev]:List Int).flatMap numZ++(textB key++(valB oh od++(valB nh nd++rest)))) #[.int .i64 1,.int .i64 0,.int .i64 0,.int .i64 0,strV [],.bool false,strV [],.bool false,strV [],.int .i64 0,.slice none 0 0,.slice none 0 0,.slice none 0 0,.slice none 0 0,.slice none 0 0,.slice none 0 0] (w.alloc (.cells #[.pointer none,.pointer (some ⟨R,0,none⟩)] 214)) (w.alloc (.cells #[.pointer none,.pointer (some ⟨R,0,none⟩)] 214)):=⟨hR1,hb1,Upd.refl _ _⟩;have HS0:=qh hS0;have HK:=qh (coder_keepR (g:=X) hbR hbg);have HU0:=qh hU0;have HB:=qh hB;have HL:=qh hl;have HTX:=qh htx;have HPREV:=qh hprev;have HKEY:=qh hkey;have HOD:=qh hod;have HOE:=qh hoe;have HND:=qh hnd;have HNE:=qh hne
 have e_oh:valSet #[.int .i64 1,.int .i64 tx,.int .i64 prev,.int .i64 0,strV key,.bool false,strV [],.bool false,strV [],.int .i64 0,.slice none 0 0,.slice none 0 0,.slice none 0 0,.slice none 0 0,.slice none 0 0,.slice none 0 0] 5 oh od=#[.int .i64 1,.int .i64 tx,.int .i64 prev,.int .i64 0,strV key,.bool oh,strV od,.bool false,strV [],.int .i64 0,.slice none 0 0,.slice none 0 0,.slice none 0 0,.slice none 0 0,.slice none 0 0,.slice none 0 0]:=by
  cases oh with
  | true=>rfl
  | false=>
    obtain rfl:=hoe rfl;rfl
 have E_OH:=qh e_oh
 have e_nh:valSet #[.int .i64 1,.int .i64 tx,.int .i64 prev,.int .i64 0,strV key,.bool oh,strV od,.bool false,strV [],.int .i64 0,.slice none 0 0,.slice none 0 0,.slice none 0 0,.slice none 0 0,.slice none 0 0,.slice none 0 0] 7 nh nd=#[.int .i64 1,.int .i64 tx,.int .i64 prev,.int .i64 0,strV key,.bool oh,strV od,.bool nh,strV nd,.int .i64 0,.slice none 0 0,.slice none 0 0,.slice none 0 0,.slice none 0 0,.slice none 0 0,.slice none 0 0]:=by
  cases nh with
  | true=>rfl
  | false=>
    obtain rfl:=hne rfl;rfl
 have E_NH:=qh e_nh;clear h hl hb hU0 hB hR1 hb1 hS0 htx hprev hkey hod hoe hnd hne e_oh e_nh;unfold cR at*;go_enter Tryz.func128,Tryz.ntmps128
 go_wp2_with fail
 have hsw:w.heap.size≤(w.alloc (.cells #[.pointer none,.pointer (some ⟨R,0,none⟩)] 214)).heap.size:=HU0.out.size;generalize w.alloc (.cells #[.pointer none,.pointer (some ⟨R,0,none⟩)] 214)=w1 at*;generalize hbx:w.heap.size=bx at*;have hS:=HS0.out;clear b0 b1;have hBx:=HB.out.upd hS.upd (fun e=>by rcases e with e | e<;>omega)
 have b0:=hBx.cell 0;have b1:=hBx.cell 1;simp only[qA,qZ,qS]at b0 b1;have hRd:=hS.rd.upd (Upd.refl Nowhere _).drew id fun _ e=>absurd e id
 have hbd:=hS.blk.upd (Upd.refl Nowhere _).drew id;have hsz:=hS.upd.size;have hcal:=nums_at (os:=[1,2]) (ns:=[tx,prev]) (rest:=(textB key++(valB oh od++(valB nh nd++rest)))) hRd (by simp only[qmc,List.not_mem_nil,or_false];rintro n (rfl | rfl)<;>first | exact HTX.out | exact HPREV.out) (by exact HL.out) hbd (by decide) hX (by intro o ho;simp only[qmc,List.not_mem_nil,or_false]at ho;rcases ho with rfl | rfl<;>exact⟨0,rfl⟩) rfl (by simp) rfl
 have HC1:=qh hcal;have HBx1:=qh hBx;have HS1:=qh hS;clear hcal hBx hS hRd hbd hsz
 try unfold cR at HC1
 go_wp2_with fail
 go_cut [33] (fun _ wz=>RdS R X 39 (textB key++(valB oh od++(valB nh nd++rest))) #[.int .i64 1,.int .i64 tx,.int .i64 prev,.int .i64 0,strV [],.bool false,strV [],.bool false,strV [],.int .i64 0,.slice none 0 0,.slice none 0 0,.slice none 0 0,.slice none 0 0,.slice none 0 0,.slice none 0 0] w1 wz)
 case first=>
  go_region_held3 (fun w'=>w'.cell? ⟨bx,0,none⟩=some (.pointer none)∧w'.cell? ⟨bx,1,none⟩=some (.pointer (some ⟨R,0,none⟩))) (first | exact⟨b0,b1⟩ | exact k2 | go_keep)
   (first
     | (go_at_call 182
        refine HC1.out.mono ?_;rintro e w2 ⟨rfl,hR2,hb2,hU⟩;have k2:=HK.out _ _ (HBx1.out.drew.alloc _) hU;have hd:Upd (RdF R X) w1 w2:=HS1.out.upd.same (Upd.same ((Upd.refl Nowhere _).drew.alloc _).any hU);have HN:=qh ((⟨hR2,hb2,hd⟩:RdS R X 39 (textB key++(valB oh od++(valB nh nd++rest))) #[.int .i64 1,.int .i64 tx,.int .i64 prev,.int .i64 0,strV [],.bool false,strV [],.bool false,strV [],.int .i64 0,.slice none 0 0,.slice none 0 0,.slice none 0 0,.slice none 0 0,.slice none 0 0,.slice none 0 0] w1 w2));clear hd hR2 hb2 hU))
  all_goals
   go_wp2_with fail
   go_meet;exact HN.out
 case rest=>
  have hS:=hcut;have hBx:=HB.out.upd hS.upd (fun e=>by rcases e with e | e<;>omega)
  have b0:=hBx.cell 0;have b1:=hBx.cell 1;simp only[qA,qZ,qS]at b0 b1;have hRd:=hS.rd.upd (Upd.refl Nowhere _).drew id fun _ e=>absurd e id
  have hbd:=hS.blk.upd (Upd.refl Nowhere _).drew id;have hsz:=hS.upd.size;have hcal:=ctext_r (off:=4) hRd HKEY.out (by have:=HL.out;simp only[qla]at this ⊢;omega) hbd (by decide) hX rfl
  have HC2:=qh hcal;have HBx2:=qh hBx;have HS2:=qh hS;clear hcal hBx hS hRd hbd hsz
  try unfold cR at HC2
  go_wp2_with fail
  go_cut [38] (fun _ wz=>RdS R X 39 (valB oh od++(valB nh nd++rest)) #[.int .i64 1,.int .i64 tx,.int .i64 prev,.int .i64 0,strV key,.bool false,strV [],.bool false,strV [],.int .i64 0,.slice none 0 0,.slice none 0 0,.slice none 0 0,.slice none 0 0,.slice none 0 0,.slice none 0 0] w1 wz)
  case first=>
   go_region_held3 (fun w'=>w'.cell? ⟨bx,0,none⟩=some (.pointer none)∧w'.cell? ⟨bx,1,none⟩=some (.pointer (some ⟨R,0,none⟩))) (first | exact⟨b0,b1⟩ | exact k2 | go_keep)
    (first
      | (go_at_call 183
         refine HC2.out.mono ?_;rintro e w2 ⟨rfl,hR2,hb2,hU⟩;have k2:=HK.out _ _ (HBx2.out.drew) hU;have hd:Upd (RdF R X) w1 w2:=HS2.out.upd.same (Upd.same ((Upd.refl Nowhere _).drew).any hU);have HN:=qh ((⟨hR2,hb2,hd⟩:RdS R X 39 (valB oh od++(valB nh nd++rest)) #[.int .i64 1,.int .i64 tx,.int .i64 prev,.int .i64 0,strV key,.bool false,strV [],.bool false,strV [],.int .i64 0,.slice none 0 0,.slice none 0 0,.slice none 0 0,.slice none 0 0,.slice none 0 0,.slice none 0 0] w1 w2));clear hd hR2 hb2 hU))
   all_goals
    go_wp2_with fail
    go_meet;exact HN.out
  case rest=>
   have hS:=hcut;have hBx:=HB.out.upd hS.upd (fun e=>by rcases e with e | e<;>omega)
   have b0:=hBx.cell 0;have b1:=hBx.cell 1;simp only[qA,qZ,qS]at b0 b1;have hRd:=hS.rd.upd (Upd.refl Nowhere _).drew id fun _ e=>absurd e id
   have hbd:=hS.blk.upd (Upd.refl Nowhere _).drew id;have hsz:=hS.upd.size;have hcal:=cval_r (off:=5) hRd HOD.out (by have:=HL.out;simp only[qla]at this ⊢;omega) hbd (by decide) hX rfl rfl
   have HC3:=qh hcal;have HBx3:=qh hBx;have HS3:=qh hS;clear hcal hBx hS hRd hbd hsz
   try unfold cR at HC3
   go_wp2_with fail
   go_cut [43] (fun _ wz=>RdS R X 39 (valB nh nd++rest) #[.int .i64 1,.int .i64 tx,.int .i64 prev,.int .i64 0,strV key,.bool oh,strV od,.bool false,strV [],.int .i64 0,.slice none 0 0,.slice none 0 0,.slice none 0 0,.slice none 0 0,.slice none 0 0,.slice none 0 0] w1 wz)
   case first=>
    go_region_held3 (fun w'=>w'.cell? ⟨bx,0,none⟩=some (.pointer none)∧w'.cell? ⟨bx,1,none⟩=some (.pointer (some ⟨R,0,none⟩))) (first | exact⟨b0,b1⟩ | exact k2 | go_keep)
     (first
       | (go_at_call 184
          refine HC3.out.mono ?_;rintro e w2 ⟨rfl,hR2,hb2,hU⟩;have k2:=HK.out _ _ (HBx3.out.drew) hU;have hd:Upd (RdF R X) w1 w2:=HS3.out.upd.same (Upd.same ((Upd.refl Nowhere _).drew).any hU);have HN:=qh ((⟨hR2,by rw[E_OH.out]at hb2;exact hb2,hd⟩:RdS R X 39 (valB nh nd++rest) #[.int .i64 1,.int .i64 tx,.int .i64 prev,.int .i64 0,strV key,.bool oh,strV od,.bool false,strV [],.int .i64 0,.slice none 0 0,.slice none 0 0,.slice none 0 0,.slice none 0 0,.slice none 0 0,.slice none 0 0] w1 w2))
          clear hd hR2 hb2 hU))
    all_goals
     go_wp2_with fail
     go_meet;exact HN.out
   case rest=>
    have hS:=hcut;have hBx:=HB.out.upd hS.upd (fun e=>by rcases e with e | e<;>omega)
    have b0:=hBx.cell 0;have b1:=hBx.cell 1;simp only[qA,qZ,qS]at b0 b1;have hRd:=hS.rd.upd (Upd.refl Nowhere _).drew id fun _ e=>absurd e id
    have hbd:=hS.blk.upd (Upd.refl Nowhere _).drew id;have hsz:=hS.upd.size;have hcal:=cval_r (off:=7) hRd HND.out (by have:=HL.out;simp only[qla]at this ⊢;omega) hbd (by decide) hX rfl rfl
    have HC4:=qh hcal;have HBx4:=qh hBx;have HS4:=qh hS;clear hcal hBx hS hRd hbd hsz
    try unfold cR at HC4
    go_wp2_with fail
    go_region_held3 (fun w'=>w'.cell? ⟨bx,0,none⟩=some (.pointer none)∧w'.cell? ⟨bx,1,none⟩=some (.pointer (some ⟨R,0,none⟩))) (first | exact⟨b0,b1⟩ | exact k2 | go_keep)
     (first
       | (go_at_call 184
          refine HC4.out.mono ?_;rintro e w2 ⟨rfl,hR2,hb2,hU⟩;have k2:=HK.out _ _ (HBx4.out.drew) hU;have hd:Upd (RdF R X) w1 w2:=HS4.out.upd.same (Upd.same ((Upd.refl Nowhere _).drew).any hU);have HN:=qh ((⟨hR2,by rw[E_NH.out]at hb2;exact hb2,hd⟩:RdS R X 39 rest #[.int .i64 1,.int .i64 tx,.int .i64 prev,.int .i64 0,strV key,.bool oh,strV od,.bool nh,strV nd,.int .i64 0,.slice none 0 0,.slice none 0 0,.slice none 0 0,.slice none 0 0,.slice none 0 0,.slice none 0 0] w1 w2))
          clear hd hR2 hb2 hU))
    all_goals
     go_wp2_with fail
     go_end0;exact⟨rfl,HN.out.rd,HN.out.blk,HU0.out.any.same HN.out.upd⟩
theorem uzero_sets(key:Bs)(vh:Bool)(vd:Bs):((((((((((((((((zeroA.setIfInBounds 0 (.int .i64 1)).setIfInBounds 1 (.int .i64 1)).setIfInBounds 2 (.int .i64 0)).setIfInBounds 3 (.int .i64 0)).setIfInBounds 4 (strV key)).setIfInBounds 5 (.bool false)).setIfInBounds 6 (.string ⟨#[]⟩)).setIfInBounds 7 (.bool vh)).setIfInBounds 8 (strV vd)).setIfInBounds 9 (.int .i64 0)).setIfInBounds 10 (.slice none 0 0)).setIfInBounds 11 (.slice none 0 0)).setIfInBounds 12 (.slice none 0 0)).setIfInBounds 13 (.slice none 0 0)).setIfInBounds 14 (.slice none 0 0)).setIfInBounds 15 (.slice none 0 0))=updA key vh vd:=by kernel_rfl
theorem uzero_blk{w:World}{g:Nat}(key:Bs)(vh:Bool)(vd:Bs)(h:Blk w g 39 zeroA):Blk ((((((((((((((((w.setCell ⟨g,0,none⟩ (.int .i64 1)).setCell ⟨g,1,none⟩ (.int .i64 1)).setCell ⟨g,2,none⟩ (.int .i64 0)).setCell ⟨g,3,none⟩ (.int .i64 0)).setCell ⟨g,4,none⟩ (strV key)).setCell ⟨g,5,none⟩ (.bool false)).setCell ⟨g,6,none⟩ (.string ⟨#[]⟩)).setCell ⟨g,7,none⟩ (.bool vh)).setCell ⟨g,8,none⟩ (strV vd)).setCell ⟨g,9,none⟩ (.int .i64 0)).setCell ⟨g,10,none⟩ (.slice none 0 0)).setCell ⟨g,11,none⟩ (.slice none 0 0)).setCell ⟨g,12,none⟩ (.slice none 0 0)).setCell ⟨g,13,none⟩ (.slice none 0 0)).setCell ⟨g,14,none⟩ (.slice none 0 0)).setCell ⟨g,15,none⟩ (.slice none 0 0)) g 39 (updA key vh vd):=by
 have:=((((((((((((((((h.set_ 0 (.int .i64 1)).set_ 1 (.int .i64 1)).set_ 2 (.int .i64 0)).set_ 3 (.int .i64 0)).set_ 4 (strV key)).set_ 5 (.bool false)).set_ 6 (.string ⟨#[]⟩)).set_ 7 (.bool vh)).set_ 8 (strV vd)).set_ 9 (.int .i64 0)).set_ 10 (.slice none 0 0)).set_ 11 (.slice none 0 0)).set_ 12 (.slice none 0 0)).set_ 13 (.slice none 0 0)).set_ 14 (.slice none 0 0)).set_ 15 (.slice none 0 0));rw[uzero_sets]at this;exact this
theorem dec_upd{key:Bs}{vh:Bool}{vd:Bs}(hc:CellOK (key,(vh,vd)))(w:World)(v:Value)(hv:BytesE w v (updP key vh vd).bytes):
 Calls Tryz.prog 79 #[v] w fun e w'=>e= .returned (.tuple #[.agg (updA key vh vd),.int .i64 0])∧Upd Nowhere w w':=by
 have hlen:=updP_len hc;have hbs:=updP_bytes key vh vd;obtain⟨A0,c0,rfl,_⟩:=hv.val;have hU0:=(Upd.refl Nowhere w).alloc (.cells zeroA 39);have hrd:=read_ok (hv.upd hU0 fun _ _=>id) (by omega)
 have hB0:=Blk.new w 39 zeroA
 have hnum:∀w' R,RAt w' R ((updP key vh vd).bytes,0)→Calls Tryz.prog 125 #[.pointer (some ⟨R,0,none⟩),.int .i64 1099511627776] w' fun e w''=>e= .returned (.int .i64 1)∧RAt w'' R (([1,0]:List Int).flatMap numZ++(textB key++(valB false []++(valB vh vd++[]))),0)∧Upd (fun k=>k=R) w' w'':=fun w' R hR=>by
  have:=rnum_ok hR (by simp only;omega) 1099511627776 (by omega)
  rw[hbs]at this;have e:numR 1099511627776 (numZ 1++(numZ 1++(numZ 0++(textB key++(valB false []++valB vh vd)))),0)=(1,(numZ 1++(numZ 0++(textB key++(valB false []++valB vh vd))),0)):=numR_short (n:=1) (by omega) (by omega) _
  rw[e]at this;have e2:([1,0]:List Int).flatMap numZ++(textB key++(valB false []++(valB vh vd++[])))=numZ 1++(numZ 0++(textB key++(valB false []++valB vh vd))):=by simp
  rw[e2];exact this
 have hk6:∀w,Calls Tryz.prog 127 #[.int .i64 1] w (BoolP true w):=fun w=>by
  have:=kind_ok 1 w
  rwa [show kindP 1=true from by decide]at this
 have hlI:(((updP key vh vd).bytes.length:Nat):Int)≤100:=by omega
 have HRD:=qh hrd;have HNUM:=qh hnum;have HK6:=qh hk6;have HM:=qh (may_upd hc);have HT:=qh hc
 have HLB:Hid ((([1,0]:List Int).flatMap numZ++(textB key++(valB false []++(valB vh vd++[])))).length≤1000000):=qh (by
  have e2:([1,0]:List Int).flatMap numZ++(textB key++(valB false []++(valB vh vd++[])))=numZ 1++(numZ 0++(textB key++(valB false []++valB vh vd))):=by simp
  rw[e2];rw[hbs,qla]at hlen;omega)
 have HU0:=qh hU0;have HB0:=qh hB0;generalize (updP key vh vd).bytes.length=nb at*;clear hrd hnum hk6 hU0 hB0 hbs hv hc hlen;unfold zeroA at*;go_enter Tryz.func79,Tryz.ntmps79
 go_wp2_with fail
 refine HRD.out.mono ?_;rintro e w2 ⟨R,rfl,hRl,hR2,hU2⟩;have HC:=qh (HNUM.out w2 R hR2);have HU2:=qh (HU0.out.same hU2);have HB2:=qh (HB0.out.upd hU2 id);have HRL:=qh hRl;clear hR2 hU2 hRl HRD HNUM;go_wp2_with fail
 refine HC.out.mono ?_;rintro e w3 ⟨rfl,hR3,hU3⟩;have HR3:=qh hR3;have HU3:=qh hU3;clear hR3 hU3 HC
 have hzR:w.heap.size<R:=by
  have:=HRL.out;have e:(w.alloc (.cells #[.int .i64 0,.int .i64 0,.int .i64 0,.int .i64 0,.string ⟨#[]⟩,.bool false,.string ⟨#[]⟩,.bool false,.string ⟨#[]⟩,.int .i64 0,.slice none 0 0,.slice none 0 0,.slice none 0 0,.slice none 0 0,.slice none 0 0,.slice none 0 0] 39)).heap.size=w.heap.size+1:=by simp
  omega
 have hX:=HRL.out;have hz2:=HB2.out.lt;have hs2:=HU2.out.size;have hs3:=HU3.out.size;have hRlt:=HR3.out.lt;have huA:=(Upd.refl Nowhere w3).alloc (.cells #[.int .i64 1,.int .i64 0,.int .i64 0,.int .i64 0,strV [],.bool false,strV [],.bool false,strV [],.int .i64 0,.slice none 0 0,.slice none 0 0,.slice none 0 0,.slice none 0 0,.slice none 0 0,.slice none 0 0] 39);have hBA:=Blk.new w3 39 #[.int .i64 1,.int .i64 0,.int .i64 0,.int .i64 0,strV [],.bool false,strV [],.bool false,strV [],.int .i64 0,.slice none 0 0,.slice none 0 0,.slice none 0 0,.slice none 0 0,.slice none 0 0,.slice none 0 0];have hRA:=HR3.out.upd huA id fun _ e=>absurd e id
 have HUA:=qh huA;have HBA:=qh hBA;have HRA:=qh hRA;have HE:=qh (rerr_ok hRA);have hXR:w3.heap.size≠R:=by omega
 clear hX huA hBA hRA;go_wp2_with fail
 refine HE.out.mono ?_;clear HE;rintro e w4 ⟨rfl,rfl⟩;have k0:=HBA.out.cell 0;simp only[qA,qZ]at k0;go_wp2_with fail
 refine(HK6.out _).mono ?_;rintro e w5 ⟨rfl,hU5⟩;have hf:=ufields_r (tx:=1) (prev:=0) (key:=key) (oh:=false) (od:=[]) (nh:=vh) (nd:=vd) (rest:=[]) hXR (HBA.out.upd hU5 id) (by omega) (by omega) (by have:=HT.out.key;simp only at this;omega) (by decide) (fun _=>rfl) HT.out.val (fun e=>HT.out.no e) (HRA.out.upd hU5 id fun _ e=>absurd e id) HLB.out
 have HF:=qh hf;have HU5:=qh hU5;unfold cR at HF;clear hf hU5 k0;go_wp2_with fail
 refine HF.out.mono ?_;rintro e w6 ⟨rfl,hR6,hB6,hU6⟩;have hend:=rend_ok hR6;have he0:endR (([]:Bs),0)=([],0):=rfl;rw[he0]at hend;have HEND:=qh hend;have HB6:=qh hB6;have HU6:=qh hU6;clear hend hR6 hB6 hU6 HF he0;go_wp2_with fail
 refine HEND.out.mono ?_;rintro e w7 ⟨rfl,_,hU7⟩;have hB7:=HB6.out.upd hU7 hXR;have b0:=hB7.cell 0;have b1:=hB7.cell 1;have b2:=hB7.cell 2;have b3:=hB7.cell 3;have b4:=hB7.cell 4;have b5:=hB7.cell 5;have b6:=hB7.cell 6;have b7:=hB7.cell 7;have b8:=hB7.cell 8;have b9:=hB7.cell 9;have b10:=hB7.cell 10;have b11:=hB7.cell 11;have b12:=hB7.cell 12;have b13:=hB7.cell 13;have b14:=hB7.cell 14;have b15:=hB7.cell 15;simp only[qA,qZ,qS]at b0 b1 b2 b3 b4 b5 b6 b7 b8 b9 b10 b11 b12 b13 b14 b15;have HB7:=qh hB7;have HU7:=qh hU7;have hM:=HM.out w7;unfold updA at hM;have HM7:=qh hM;clear hB7 hU7 HEND hM;go_wp2_with fail
 refine HM7.out.mono ?_;rintro e w8 ⟨rfl,hU8⟩;have hB8:=HB7.out.upd hU8 id;have hUall:Upd (fun k=>k=R∨k=w3.heap.size) w2 w8:=((((HU3.out.mono fun k _ e=> .inl e).same HUA.out.any).same HU5.out.any).same ((HU6.out.mono fun k _ e=>e).same (HU7.out.mono fun k _ e=> .inl e))).same hU8.any
 have hZ8:=HB2.out.upd hUall (fun e=>by rcases e with e | e<;>omega)
 have hlt8:=hB8.lt;have hltz:=hZ8.lt;clear b0;clear b1;clear b2;clear b3;clear b4;clear b5;clear b6;clear b7;clear b8;clear b9;clear b10;clear b11;clear b12;clear b13;clear b14;clear b15;have b0:=hB8.cell 0;have b1:=hB8.cell 1;have b2:=hB8.cell 2;have b3:=hB8.cell 3;have b4:=hB8.cell 4;have b5:=hB8.cell 5;have b6:=hB8.cell 6;have b7:=hB8.cell 7;have b8:=hB8.cell 8;have b9:=hB8.cell 9;have b10:=hB8.cell 10;have b11:=hB8.cell 11;have b12:=hB8.cell 12;have b13:=hB8.cell 13;have b14:=hB8.cell 14;have b15:=hB8.cell 15;simp only[qA,qZ,qS]at b0 b1 b2 b3 b4 b5 b6 b7 b8 b9 b10 b11 b12 b13 b14 b15;have z0:=hZ8.cell 0;have z1:=hZ8.cell 1;have z2:=hZ8.cell 2;have z3:=hZ8.cell 3;have z4:=hZ8.cell 4;have z5:=hZ8.cell 5;have z6:=hZ8.cell 6;have z7:=hZ8.cell 7;have z8:=hZ8.cell 8;have z9:=hZ8.cell 9;have z10:=hZ8.cell 10;have z11:=hZ8.cell 11;have z12:=hZ8.cell 12;have z13:=hZ8.cell 13;have z14:=hZ8.cell 14;have z15:=hZ8.cell 15;have q0:=hZ8.frozen 0;have q1:=hZ8.frozen 1;have q2:=hZ8.frozen 2;have q3:=hZ8.frozen 3;have q4:=hZ8.frozen 4;have q5:=hZ8.frozen 5;have q6:=hZ8.frozen 6;have q7:=hZ8.frozen 7;have q8:=hZ8.frozen 8;have q9:=hZ8.frozen 9;have q10:=hZ8.frozen 10;have q11:=hZ8.frozen 11;have q12:=hZ8.frozen 12;have q13:=hZ8.frozen 13;have q14:=hZ8.frozen 14;have q15:=hZ8.frozen 15;simp only[qA,qZ,qS]at z0 z1 z2 z3 z4 z5 z6 z7 z8 z9 z10 z11 z12 z13 z14 z15;have HZ8:=qh hZ8;have HUL:=qh hUall;clear hB8 hU8 hUall hZ8 HM7;go_wp2_with fail
 refine bodyPost_ret (res_rec2 (g:=w.heap.size) (cs:=updA key vh vd) rfl rfl (uzero_blk key vh vd HZ8.out) rfl) rfl ?_;have hu9:=(((((((((((((((((Upd.refl (fun k=>w.heap.size≤k) w8).setCell (p:=⟨w.heap.size,0,none⟩) (fun _=>qlr _) (.int .i64 1)).setCell (p:=⟨w.heap.size,1,none⟩) (fun _=>qlr _) (.int .i64 1)).setCell (p:=⟨w.heap.size,2,none⟩) (fun _=>qlr _) (.int .i64 0)).setCell (p:=⟨w.heap.size,3,none⟩) (fun _=>qlr _) (.int .i64 0)).setCell (p:=⟨w.heap.size,4,none⟩) (fun _=>qlr _) (strV key)).setCell (p:=⟨w.heap.size,5,none⟩) (fun _=>qlr _) (.bool false)).setCell (p:=⟨w.heap.size,6,none⟩) (fun _=>qlr _) (.string ⟨#[]⟩)).setCell (p:=⟨w.heap.size,7,none⟩) (fun _=>qlr _) (.bool vh)).setCell (p:=⟨w.heap.size,8,none⟩) (fun _=>qlr _) (strV vd)).setCell (p:=⟨w.heap.size,9,none⟩) (fun _=>qlr _) (.int .i64 0)).setCell (p:=⟨w.heap.size,10,none⟩) (fun _=>qlr _) (.slice none 0 0)).setCell (p:=⟨w.heap.size,11,none⟩) (fun _=>qlr _) (.slice none 0 0)).setCell (p:=⟨w.heap.size,12,none⟩) (fun _=>qlr _) (.slice none 0 0)).setCell (p:=⟨w.heap.size,13,none⟩) (fun _=>qlr _) (.slice none 0 0)).setCell (p:=⟨w.heap.size,14,none⟩) (fun _=>qlr _) (.slice none 0 0)).setCell (p:=⟨w.heap.size,15,none⟩) (fun _=>qlr _) (.slice none 0 0))
 have h28:Upd Nowhere w w8:=HU2.out.trans HUL.out fun k hk e=>by rcases e with e | e<;>omega
 exact⟨rfl,h28.news hu9⟩
theorem dec_upd_any{key:Bs}{vh:Bool}{vd:Bs}(h:CellOK (key,(vh,vd))):DecAny (updP key vh vd).bytes:=fun w v hv=>(dec_upd h w v hv).mono fun _ _ h=>⟨(updP key vh vd).rv nilS,0,h.1,h.2⟩
end Go.Proofs.YtdfccegeihfdpaaGreatDoor
