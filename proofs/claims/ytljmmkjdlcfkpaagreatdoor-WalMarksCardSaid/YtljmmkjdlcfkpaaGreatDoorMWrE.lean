/-
  Layer 7: a coder that reads: the fields of each kind.
-/
import Derived.Test.YtljmmkjdlcfkpaaGreatDoorMWrC
set_option maxRecDepth 100000
set_option maxHeartbeats 2000000
namespace Go.Proofs.YtljmmkjdlcfkpaaGreatDoor
open Go Go.RowKit
theorem kfields1_r{R X B:Nat}{rest:Bs}{w:World}{tx:Int}{prev:Int}{key:Bs}{oh:Bool}{od:Bs}{nh:Bool}{nd:Bs}(hX:X≠R)(hB0:B≤w.heap.size)(hRB:R<B)(hb:Blk w X 38 #[.int .i64 1,.int .i64 0,.int .i64 0,.int .i64 0,strV [],.bool false,strV [],.bool false,strV [],.int .i64 0,.slice none 0 0,.slice none 0 0,.slice none 0 0,.slice none 0 0,.slice none 0 0,.slice none 0 0])(htx:0≤tx∧tx≤1099511627776)(hprev:0≤prev∧prev≤1099511627776)(hkey:key.length≤32)(hod:od.length≤32)(hoe:oh=false→od=[])(hnd:nd.length≤32)(hne:nh=false→nd=[])(h:RAt w R (([tx,prev]:List Int).flatMap numZ++(textB key++(valB oh od++(valB nh nd++rest))),0))(hl:(([tx,prev]:List Int).flatMap numZ++(textB key++(valB oh od++(valB nh nd++rest)))).length≤1000000):
 Calls Tryz.prog 75 #[cR R,.pointer (some ⟨X,0,none⟩)] w (FldP R X B ⟨1,tx,prev,0,key,oh,od,nh,nd,0,[],[],[],[],[],[]⟩ rest w):=by
 have hU0:=(Upd.refl Nowhere w).alloc (.cells #[.pointer none,.pointer (some ⟨R,0,none⟩)] 136);have hB:=Blk.new w 136 #[.pointer none,.pointer (some ⟨R,0,none⟩)];have hbR:w.heap.size≠R:=by have:=h.lt;omega
 have hbg:w.heap.size≠X:=by have:=hb.lt;omega
 have hR1:=h.upd hU0 id fun _ e=>absurd e id
 have hb1:=hb.upd hU0 id;have cK:=hb1.cell 0;simp only[qA,qZ]at cK;have b0:=hB.cell 0;have b1:=hB.cell 1;simp only[qA,qZ,qS]at b0 b1;have hS0:RdS R X 38 (([tx,prev]:List Int).flatMap numZ++(textB key++(valB oh od++(valB nh nd++rest)))) #[.int .i64 1,.int .i64 0,.int .i64 0,.int .i64 0,strV [],.bool false,strV [],.bool false,strV [],.int .i64 0,.slice none 0 0,.slice none 0 0,.slice none 0 0,.slice none 0 0,.slice none 0 0,.slice none 0 0] (w.alloc (.cells #[.pointer none,.pointer (some ⟨R,0,none⟩)] 136)) (w.alloc (.cells #[.pointer none,.pointer (some ⟨R,0,none⟩)] 136)):=⟨hR1,hb1,Upd.refl _ _⟩;have HS0:=qh hS0;have HK:=qh (coder_keepR (g:=X) hbR hbg);have HU0:=qh hU0;have HB:=qh hB;have HL:=qh hl;have HB0:=qh hB0;have HRB:=qh hRB;have HTX:=qh htx;have HPREV:=qh hprev;have HKEY:=qh hkey;have HOD:=qh hod;have HOE:=qh hoe;have HND:=qh hnd;have HNE:=qh hne
 have e_oh:valSet #[.int .i64 1,.int .i64 tx,.int .i64 prev,.int .i64 0,strV key,.bool false,strV [],.bool false,strV [],.int .i64 0,.slice none 0 0,.slice none 0 0,.slice none 0 0,.slice none 0 0,.slice none 0 0,.slice none 0 0] 5 oh od=#[.int .i64 1,.int .i64 tx,.int .i64 prev,.int .i64 0,strV key,.bool oh,strV od,.bool false,strV [],.int .i64 0,.slice none 0 0,.slice none 0 0,.slice none 0 0,.slice none 0 0,.slice none 0 0,.slice none 0 0]:=by
  cases oh with
  | true=>rfl
  | false=>
    obtain rfl:=hoe rfl;rfl
 have E_OH:=qh e_oh
 have e_nh:valSet #[.int .i64 1,.int .i64 tx,.int .i64 prev,.int .i64 0,strV key,.bool oh,strV od,.bool false,strV [],.int .i64 0,.slice none 0 0,.slice none 0 0,.slice none 0 0,.slice none 0 0,.slice none 0 0,.slice none 0 0] 7 nh nd=#[.int .i64 1,.int .i64 tx,.int .i64 prev,.int .i64 0,strV key,.bool oh,strV od,.bool nh,strV nd,.int .i64 0,.slice none 0 0,.slice none 0 0,.slice none 0 0,.slice none 0 0,.slice none 0 0,.slice none 0 0]:=by
  cases nh with
  | true=>rfl
  | false=>
    obtain rfl:=hne rfl;rfl
 have E_NH:=qh e_nh;clear h hl hb hU0 hB hR1 hb1 hS0 hB0 hRB htx hprev hkey hod hoe hnd hne e_oh e_nh;unfold cR at*;go_enter Tryz.func75,Tryz.ntmps75
 go_wp2_with fail
 have hsw:w.heap.size≤(w.alloc (.cells #[.pointer none,.pointer (some ⟨R,0,none⟩)] 136)).heap.size:=HU0.out.size;generalize w.alloc (.cells #[.pointer none,.pointer (some ⟨R,0,none⟩)] 136)=w1 at*;generalize hbx:w.heap.size=bx at*;have hS:=HS0.out;clear b0 b1;have hBx:=HB.out.upd hS.upd (fun e=>by rcases e with e | e<;>omega)
 have b0:=hBx.cell 0;have b1:=hBx.cell 1;simp only[qA,qZ,qS]at b0 b1;have hRd:=hS.rd.upd (Upd.refl Nowhere _).drew id fun _ e=>absurd e id
 have hbd:=hS.blk.upd (Upd.refl Nowhere _).drew id;have hsz:=hS.upd.size;have hcal:=nums_at (os:=[1,2]) (ns:=[tx,prev]) (rest:=(textB key++(valB oh od++(valB nh nd++rest)))) hRd (by simp only[qmc,List.not_mem_nil,or_false];rintro n (rfl | rfl)<;>first | exact HTX.out | exact HPREV.out) (by exact HL.out) hbd (by decide) hX (by intro o ho;simp only[qmc,List.not_mem_nil,or_false]at ho;rcases ho with rfl | rfl<;>exact⟨0,rfl⟩) rfl (by simp) rfl
 have HC1:=qh hcal;have HBx1:=qh hBx;have HS1:=qh hS;clear hcal hBx hS hRd hbd hsz
 try unfold cR at HC1
 go_wp2_with fail
 go_cut [33] (fun _ wz=>RdS R X 38 (textB key++(valB oh od++(valB nh nd++rest))) #[.int .i64 1,.int .i64 tx,.int .i64 prev,.int .i64 0,strV [],.bool false,strV [],.bool false,strV [],.int .i64 0,.slice none 0 0,.slice none 0 0,.slice none 0 0,.slice none 0 0,.slice none 0 0,.slice none 0 0] w1 wz)
 case first=>
  go_region_held3 (fun w'=>w'.cell? ⟨bx,0,none⟩=some (.pointer none)∧w'.cell? ⟨bx,1,none⟩=some (.pointer (some ⟨R,0,none⟩))) (first | exact⟨b0,b1⟩ | exact k2 | go_keep)
   (first
     | (go_at_call 114
        refine HC1.out.mono ?_;rintro e w2 ⟨rfl,hR2,hb2,hU⟩;have k2:=HK.out _ _ (HBx1.out.drew.alloc _) hU;have hd:Upd (RdF R X) w1 w2:=HS1.out.upd.same (Upd.same ((Upd.refl Nowhere _).drew.alloc _).any hU);have HN:=qh ((⟨hR2,hb2,hd⟩:RdS R X 38 (textB key++(valB oh od++(valB nh nd++rest))) #[.int .i64 1,.int .i64 tx,.int .i64 prev,.int .i64 0,strV [],.bool false,strV [],.bool false,strV [],.int .i64 0,.slice none 0 0,.slice none 0 0,.slice none 0 0,.slice none 0 0,.slice none 0 0,.slice none 0 0] w1 w2));clear hd hR2 hb2 hU))
  all_goals
   go_wp2_with fail
   go_meet;exact HN.out
 case rest=>
  have hS:=hcut;have hBx:=HB.out.upd hS.upd (fun e=>by rcases e with e | e<;>omega)
  have b0:=hBx.cell 0;have b1:=hBx.cell 1;simp only[qA,qZ,qS]at b0 b1;have hRd:=hS.rd.upd (Upd.refl Nowhere _).drew id fun _ e=>absurd e id
  have hbd:=hS.blk.upd (Upd.refl Nowhere _).drew id;have hsz:=hS.upd.size;have hcal:=ctext_r (off:=4) hRd HKEY.out (by have:=HL.out;simp only[qla]at this ⊢;omega) hbd (by decide) hX rfl
  have HC2:=qh hcal;have HBx2:=qh hBx;have HS2:=qh hS;clear hcal hBx hS hRd hbd hsz
  try unfold cR at HC2
  go_wp2_with fail
  go_cut [38] (fun _ wz=>RdS R X 38 (valB oh od++(valB nh nd++rest)) #[.int .i64 1,.int .i64 tx,.int .i64 prev,.int .i64 0,strV key,.bool false,strV [],.bool false,strV [],.int .i64 0,.slice none 0 0,.slice none 0 0,.slice none 0 0,.slice none 0 0,.slice none 0 0,.slice none 0 0] w1 wz)
  case first=>
   go_region_held3 (fun w'=>w'.cell? ⟨bx,0,none⟩=some (.pointer none)∧w'.cell? ⟨bx,1,none⟩=some (.pointer (some ⟨R,0,none⟩))) (first | exact⟨b0,b1⟩ | exact k2 | go_keep)
    (first
      | (go_at_call 115
         refine HC2.out.mono ?_;rintro e w2 ⟨rfl,hR2,hb2,hU⟩;have k2:=HK.out _ _ (HBx2.out.drew) hU;have hd:Upd (RdF R X) w1 w2:=HS2.out.upd.same (Upd.same ((Upd.refl Nowhere _).drew).any hU);have HN:=qh ((⟨hR2,hb2,hd⟩:RdS R X 38 (valB oh od++(valB nh nd++rest)) #[.int .i64 1,.int .i64 tx,.int .i64 prev,.int .i64 0,strV key,.bool false,strV [],.bool false,strV [],.int .i64 0,.slice none 0 0,.slice none 0 0,.slice none 0 0,.slice none 0 0,.slice none 0 0,.slice none 0 0] w1 w2));clear hd hR2 hb2 hU))
   all_goals
    go_wp2_with fail
    go_meet;exact HN.out
  case rest=>
   have hS:=hcut;have hBx:=HB.out.upd hS.upd (fun e=>by rcases e with e | e<;>omega)
   have b0:=hBx.cell 0;have b1:=hBx.cell 1;simp only[qA,qZ,qS]at b0 b1;have hRd:=hS.rd.upd (Upd.refl Nowhere _).drew id fun _ e=>absurd e id
   have hbd:=hS.blk.upd (Upd.refl Nowhere _).drew id;have hsz:=hS.upd.size;have hcal:=cval_r (off:=5) hRd HOD.out (by have:=HL.out;simp only[qla]at this ⊢;omega) hbd (by decide) hX rfl rfl
   have HC3:=qh hcal;have HBx3:=qh hBx;have HS3:=qh hS;clear hcal hBx hS hRd hbd hsz
   try unfold cR at HC3
   go_wp2_with fail
   go_cut [43] (fun _ wz=>RdS R X 38 (valB nh nd++rest) #[.int .i64 1,.int .i64 tx,.int .i64 prev,.int .i64 0,strV key,.bool oh,strV od,.bool false,strV [],.int .i64 0,.slice none 0 0,.slice none 0 0,.slice none 0 0,.slice none 0 0,.slice none 0 0,.slice none 0 0] w1 wz)
   case first=>
    go_region_held3 (fun w'=>w'.cell? ⟨bx,0,none⟩=some (.pointer none)∧w'.cell? ⟨bx,1,none⟩=some (.pointer (some ⟨R,0,none⟩))) (first | exact⟨b0,b1⟩ | exact k2 | go_keep)
     (first
       | (go_at_call 116
          refine HC3.out.mono ?_;rintro e w2 ⟨rfl,hR2,hb2,hU⟩;have k2:=HK.out _ _ (HBx3.out.drew) hU;have hd:Upd (RdF R X) w1 w2:=HS3.out.upd.same (Upd.same ((Upd.refl Nowhere _).drew).any hU);have HN:=qh ((⟨hR2,by rw[E_OH.out]at hb2;exact hb2,hd⟩:RdS R X 38 (valB nh nd++rest) #[.int .i64 1,.int .i64 tx,.int .i64 prev,.int .i64 0,strV key,.bool oh,strV od,.bool false,strV [],.int .i64 0,.slice none 0 0,.slice none 0 0,.slice none 0 0,.slice none 0 0,.slice none 0 0,.slice none 0 0] w1 w2))
          clear hd hR2 hb2 hU))
    all_goals
     go_wp2_with fail
     go_meet;exact HN.out
   case rest=>
    have hS:=hcut;have hBx:=HB.out.upd hS.upd (fun e=>by rcases e with e | e<;>omega)
    have b0:=hBx.cell 0;have b1:=hBx.cell 1;simp only[qA,qZ,qS]at b0 b1;have hRd:=hS.rd.upd (Upd.refl Nowhere _).drew id fun _ e=>absurd e id
    have hbd:=hS.blk.upd (Upd.refl Nowhere _).drew id;have hsz:=hS.upd.size;have hcal:=cval_r (off:=7) hRd HND.out (by have:=HL.out;simp only[qla]at this ⊢;omega) hbd (by decide) hX rfl rfl
    have HC4:=qh hcal;have HBx4:=qh hBx;have HS4:=qh hS;clear hcal hBx hS hRd hbd hsz
    try unfold cR at HC4
    go_wp2_with fail
    go_region_held3 (fun w'=>w'.cell? ⟨bx,0,none⟩=some (.pointer none)∧w'.cell? ⟨bx,1,none⟩=some (.pointer (some ⟨R,0,none⟩))) (first | exact⟨b0,b1⟩ | exact k2 | go_keep)
     (first
       | (go_at_call 116
          refine HC4.out.mono ?_;rintro e w2 ⟨rfl,hR2,hb2,hU⟩;have k2:=HK.out _ _ (HBx4.out.drew) hU;have hd:Upd (RdF R X) w1 w2:=HS4.out.upd.same (Upd.same ((Upd.refl Nowhere _).drew).any hU);have HN:=qh ((⟨⟨(none,0,0),(none,0,0),(none,0,0),(none,0,0),(none,0,0),(none,0,0)⟩,⟨nilN _ _ _,nilN _ _ _,rowsN_nil _ _,nilN _ _ _,deesN_nil _ _,nilN _ _ _⟩,hR2,by rw[E_NH.out]at hb2;exact hb2,hd⟩:∃s:Sls,RecN B w2 ⟨1,tx,prev,0,key,oh,od,nh,nd,0,[],[],[],[],[],[]⟩ s∧RdS R X 38 rest ((RecP.rv ⟨1,tx,prev,0,key,oh,od,nh,nd,0,[],[],[],[],[],[]⟩ s).cells.toArray) w1 w2))
          clear hd hR2 hb2 hU))
    all_goals
     go_wp2_with fail
     go_end0;obtain⟨s,h1,h2⟩:=HN.out;exact⟨rfl,s,h1,h2.rd,h2.blk,HU0.out.any.same h2.upd⟩
theorem kfields2_r{R X B:Nat}{rest:Bs}{w:World}{tx:Int}{prev:Int}{next:Int}{key:Bs}{nh:Bool}{nd:Bs}(hX:X≠R)(hB0:B≤w.heap.size)(hRB:R<B)(hb:Blk w X 38 #[.int .i64 2,.int .i64 0,.int .i64 0,.int .i64 0,strV [],.bool false,strV [],.bool false,strV [],.int .i64 0,.slice none 0 0,.slice none 0 0,.slice none 0 0,.slice none 0 0,.slice none 0 0,.slice none 0 0])(htx:0≤tx∧tx≤1099511627776)(hprev:0≤prev∧prev≤1099511627776)(hnext:0≤next∧next≤1099511627776)(hkey:key.length≤32)(hnd:nd.length≤32)(hne:nh=false→nd=[])(h:RAt w R (([tx,prev,next]:List Int).flatMap numZ++(textB key++(valB nh nd++rest)),0))(hl:(([tx,prev,next]:List Int).flatMap numZ++(textB key++(valB nh nd++rest))).length≤1000000):
 Calls Tryz.prog 75 #[cR R,.pointer (some ⟨X,0,none⟩)] w (FldP R X B ⟨2,tx,prev,next,key,false,[],nh,nd,0,[],[],[],[],[],[]⟩ rest w):=by
 have hU0:=(Upd.refl Nowhere w).alloc (.cells #[.pointer none,.pointer (some ⟨R,0,none⟩)] 136);have hB:=Blk.new w 136 #[.pointer none,.pointer (some ⟨R,0,none⟩)];have hbR:w.heap.size≠R:=by have:=h.lt;omega
 have hbg:w.heap.size≠X:=by have:=hb.lt;omega
 have hR1:=h.upd hU0 id fun _ e=>absurd e id
 have hb1:=hb.upd hU0 id;have cK:=hb1.cell 0;simp only[qA,qZ]at cK;have b0:=hB.cell 0;have b1:=hB.cell 1;simp only[qA,qZ,qS]at b0 b1;have hS0:RdS R X 38 (([tx,prev,next]:List Int).flatMap numZ++(textB key++(valB nh nd++rest))) #[.int .i64 2,.int .i64 0,.int .i64 0,.int .i64 0,strV [],.bool false,strV [],.bool false,strV [],.int .i64 0,.slice none 0 0,.slice none 0 0,.slice none 0 0,.slice none 0 0,.slice none 0 0,.slice none 0 0] (w.alloc (.cells #[.pointer none,.pointer (some ⟨R,0,none⟩)] 136)) (w.alloc (.cells #[.pointer none,.pointer (some ⟨R,0,none⟩)] 136)):=⟨hR1,hb1,Upd.refl _ _⟩;have HS0:=qh hS0;have HK:=qh (coder_keepR (g:=X) hbR hbg);have HU0:=qh hU0;have HB:=qh hB;have HL:=qh hl;have HB0:=qh hB0;have HRB:=qh hRB;have HTX:=qh htx;have HPREV:=qh hprev;have HNEXT:=qh hnext;have HKEY:=qh hkey;have HND:=qh hnd;have HNE:=qh hne
 have e_nh:valSet #[.int .i64 2,.int .i64 tx,.int .i64 prev,.int .i64 next,strV key,.bool false,strV [],.bool false,strV [],.int .i64 0,.slice none 0 0,.slice none 0 0,.slice none 0 0,.slice none 0 0,.slice none 0 0,.slice none 0 0] 7 nh nd=#[.int .i64 2,.int .i64 tx,.int .i64 prev,.int .i64 next,strV key,.bool false,strV [],.bool nh,strV nd,.int .i64 0,.slice none 0 0,.slice none 0 0,.slice none 0 0,.slice none 0 0,.slice none 0 0,.slice none 0 0]:=by
  cases nh with
  | true=>rfl
  | false=>
    obtain rfl:=hne rfl;rfl
 have E_NH:=qh e_nh;clear h hl hb hU0 hB hR1 hb1 hS0 hB0 hRB htx hprev hnext hkey hnd hne e_nh;unfold cR at*;go_enter Tryz.func75,Tryz.ntmps75
 go_wp2_with fail
 have hsw:w.heap.size≤(w.alloc (.cells #[.pointer none,.pointer (some ⟨R,0,none⟩)] 136)).heap.size:=HU0.out.size;generalize w.alloc (.cells #[.pointer none,.pointer (some ⟨R,0,none⟩)] 136)=w1 at*;generalize hbx:w.heap.size=bx at*;have hS:=HS0.out;clear b0 b1;have hBx:=HB.out.upd hS.upd (fun e=>by rcases e with e | e<;>omega)
 have b0:=hBx.cell 0;have b1:=hBx.cell 1;simp only[qA,qZ,qS]at b0 b1;have hRd:=hS.rd.upd (Upd.refl Nowhere _).drew id fun _ e=>absurd e id
 have hbd:=hS.blk.upd (Upd.refl Nowhere _).drew id;have hsz:=hS.upd.size;have hcal:=nums_at (os:=[1,2,3]) (ns:=[tx,prev,next]) (rest:=(textB key++(valB nh nd++rest))) hRd (by simp only[qmc,List.not_mem_nil,or_false];rintro n (rfl | rfl | rfl)<;>first | exact HTX.out | exact HPREV.out | exact HNEXT.out) (by exact HL.out) hbd (by decide) hX (by intro o ho;simp only[qmc,List.not_mem_nil,or_false]at ho;rcases ho with rfl | rfl | rfl<;>exact⟨0,rfl⟩) rfl (by simp) rfl
 have HC1:=qh hcal;have HBx1:=qh hBx;have HS1:=qh hS;clear hcal hBx hS hRd hbd hsz
 try unfold cR at HC1
 go_wp2_with fail
 go_cut [60] (fun _ wz=>RdS R X 38 (textB key++(valB nh nd++rest)) #[.int .i64 2,.int .i64 tx,.int .i64 prev,.int .i64 next,strV [],.bool false,strV [],.bool false,strV [],.int .i64 0,.slice none 0 0,.slice none 0 0,.slice none 0 0,.slice none 0 0,.slice none 0 0,.slice none 0 0] w1 wz)
 case first=>
  go_region_held3 (fun w'=>w'.cell? ⟨bx,0,none⟩=some (.pointer none)∧w'.cell? ⟨bx,1,none⟩=some (.pointer (some ⟨R,0,none⟩))) (first | exact⟨b0,b1⟩ | exact k2 | go_keep)
   (first
     | (go_at_call 114
        refine HC1.out.mono ?_;rintro e w2 ⟨rfl,hR2,hb2,hU⟩;have k2:=HK.out _ _ (HBx1.out.drew.alloc _) hU;have hd:Upd (RdF R X) w1 w2:=HS1.out.upd.same (Upd.same ((Upd.refl Nowhere _).drew.alloc _).any hU);have HN:=qh ((⟨hR2,hb2,hd⟩:RdS R X 38 (textB key++(valB nh nd++rest)) #[.int .i64 2,.int .i64 tx,.int .i64 prev,.int .i64 next,strV [],.bool false,strV [],.bool false,strV [],.int .i64 0,.slice none 0 0,.slice none 0 0,.slice none 0 0,.slice none 0 0,.slice none 0 0,.slice none 0 0] w1 w2));clear hd hR2 hb2 hU))
  all_goals
   go_wp2_with fail
   go_meet;exact HN.out
 case rest=>
  have hS:=hcut;have hBx:=HB.out.upd hS.upd (fun e=>by rcases e with e | e<;>omega)
  have b0:=hBx.cell 0;have b1:=hBx.cell 1;simp only[qA,qZ,qS]at b0 b1;have hRd:=hS.rd.upd (Upd.refl Nowhere _).drew id fun _ e=>absurd e id
  have hbd:=hS.blk.upd (Upd.refl Nowhere _).drew id;have hsz:=hS.upd.size;have hcal:=ctext_r (off:=4) hRd HKEY.out (by have:=HL.out;simp only[qla]at this ⊢;omega) hbd (by decide) hX rfl
  have HC2:=qh hcal;have HBx2:=qh hBx;have HS2:=qh hS;clear hcal hBx hS hRd hbd hsz
  try unfold cR at HC2
  go_wp2_with fail
  go_cut [65] (fun _ wz=>RdS R X 38 (valB nh nd++rest) #[.int .i64 2,.int .i64 tx,.int .i64 prev,.int .i64 next,strV key,.bool false,strV [],.bool false,strV [],.int .i64 0,.slice none 0 0,.slice none 0 0,.slice none 0 0,.slice none 0 0,.slice none 0 0,.slice none 0 0] w1 wz)
  case first=>
   go_region_held3 (fun w'=>w'.cell? ⟨bx,0,none⟩=some (.pointer none)∧w'.cell? ⟨bx,1,none⟩=some (.pointer (some ⟨R,0,none⟩))) (first | exact⟨b0,b1⟩ | exact k2 | go_keep)
    (first
      | (go_at_call 115
         refine HC2.out.mono ?_;rintro e w2 ⟨rfl,hR2,hb2,hU⟩;have k2:=HK.out _ _ (HBx2.out.drew) hU;have hd:Upd (RdF R X) w1 w2:=HS2.out.upd.same (Upd.same ((Upd.refl Nowhere _).drew).any hU);have HN:=qh ((⟨hR2,hb2,hd⟩:RdS R X 38 (valB nh nd++rest) #[.int .i64 2,.int .i64 tx,.int .i64 prev,.int .i64 next,strV key,.bool false,strV [],.bool false,strV [],.int .i64 0,.slice none 0 0,.slice none 0 0,.slice none 0 0,.slice none 0 0,.slice none 0 0,.slice none 0 0] w1 w2));clear hd hR2 hb2 hU))
   all_goals
    go_wp2_with fail
    go_meet;exact HN.out
  case rest=>
   have hS:=hcut;have hBx:=HB.out.upd hS.upd (fun e=>by rcases e with e | e<;>omega)
   have b0:=hBx.cell 0;have b1:=hBx.cell 1;simp only[qA,qZ,qS]at b0 b1;have hRd:=hS.rd.upd (Upd.refl Nowhere _).drew id fun _ e=>absurd e id
   have hbd:=hS.blk.upd (Upd.refl Nowhere _).drew id;have hsz:=hS.upd.size;have hcal:=cval_r (off:=7) hRd HND.out (by have:=HL.out;simp only[qla]at this ⊢;omega) hbd (by decide) hX rfl rfl
   have HC3:=qh hcal;have HBx3:=qh hBx;have HS3:=qh hS;clear hcal hBx hS hRd hbd hsz
   try unfold cR at HC3
   go_wp2_with fail
   go_region_held3 (fun w'=>w'.cell? ⟨bx,0,none⟩=some (.pointer none)∧w'.cell? ⟨bx,1,none⟩=some (.pointer (some ⟨R,0,none⟩))) (first | exact⟨b0,b1⟩ | exact k2 | go_keep)
    (first
      | (go_at_call 116
         refine HC3.out.mono ?_;rintro e w2 ⟨rfl,hR2,hb2,hU⟩;have k2:=HK.out _ _ (HBx3.out.drew) hU;have hd:Upd (RdF R X) w1 w2:=HS3.out.upd.same (Upd.same ((Upd.refl Nowhere _).drew).any hU);have HN:=qh ((⟨⟨(none,0,0),(none,0,0),(none,0,0),(none,0,0),(none,0,0),(none,0,0)⟩,⟨nilN _ _ _,nilN _ _ _,rowsN_nil _ _,nilN _ _ _,deesN_nil _ _,nilN _ _ _⟩,hR2,by rw[E_NH.out]at hb2;exact hb2,hd⟩:∃s:Sls,RecN B w2 ⟨2,tx,prev,next,key,false,[],nh,nd,0,[],[],[],[],[],[]⟩ s∧RdS R X 38 rest ((RecP.rv ⟨2,tx,prev,next,key,false,[],nh,nd,0,[],[],[],[],[],[]⟩ s).cells.toArray) w1 w2))
         clear hd hR2 hb2 hU))
   all_goals
    go_wp2_with fail
    go_end0;obtain⟨s,h1,h2⟩:=HN.out;exact⟨rfl,s,h1,h2.rd,h2.blk,HU0.out.any.same h2.upd⟩
theorem kfields3_r{R X B:Nat}{rest:Bs}{w:World}{tx:Int}{prev:Int}{coord:Int}{mem:List Int}{loc:List LockP}(hX:X≠R)(hB0:B≤w.heap.size)(hRB:R<B)(hb:Blk w X 38 #[.int .i64 3,.int .i64 0,.int .i64 0,.int .i64 0,strV [],.bool false,strV [],.bool false,strV [],.int .i64 0,.slice none 0 0,.slice none 0 0,.slice none 0 0,.slice none 0 0,.slice none 0 0,.slice none 0 0])(htx:0≤tx∧tx≤1099511627776)(hprev:0≤prev∧prev≤1099511627776)(hcoord:0≤coord∧coord≤1099511627776)(hml:mem.length≤256)(hmb:∀n∈mem,0≤n∧n≤1099511627776)(hll:loc.length≤256)(hlb:∀y∈loc,y.1.length≤32)(h:RAt w R (([tx,prev,coord]:List Int).flatMap numZ++(listB numZ mem++(listB lockB loc++rest)),0))(hl:(([tx,prev,coord]:List Int).flatMap numZ++(listB numZ mem++(listB lockB loc++rest))).length≤1000000):
 Calls Tryz.prog 75 #[cR R,.pointer (some ⟨X,0,none⟩)] w (FldP R X B ⟨3,tx,prev,0,[],false,[],false,[],coord,mem,loc,[],[],[],[]⟩ rest w):=by
 have hU0:=(Upd.refl Nowhere w).alloc (.cells #[.pointer none,.pointer (some ⟨R,0,none⟩)] 136);have hB:=Blk.new w 136 #[.pointer none,.pointer (some ⟨R,0,none⟩)];have hbR:w.heap.size≠R:=by have:=h.lt;omega
 have hbg:w.heap.size≠X:=by have:=hb.lt;omega
 have hR1:=h.upd hU0 id fun _ e=>absurd e id
 have hb1:=hb.upd hU0 id;have cK:=hb1.cell 0;simp only[qA,qZ]at cK;have b0:=hB.cell 0;have b1:=hB.cell 1;simp only[qA,qZ,qS]at b0 b1;have hS0:RdS R X 38 (([tx,prev,coord]:List Int).flatMap numZ++(listB numZ mem++(listB lockB loc++rest))) #[.int .i64 3,.int .i64 0,.int .i64 0,.int .i64 0,strV [],.bool false,strV [],.bool false,strV [],.int .i64 0,.slice none 0 0,.slice none 0 0,.slice none 0 0,.slice none 0 0,.slice none 0 0,.slice none 0 0] (w.alloc (.cells #[.pointer none,.pointer (some ⟨R,0,none⟩)] 136)) (w.alloc (.cells #[.pointer none,.pointer (some ⟨R,0,none⟩)] 136)):=⟨hR1,hb1,Upd.refl _ _⟩;have HS0:=qh hS0;have HK:=qh (coder_keepR (g:=X) hbR hbg);have HU0:=qh hU0;have HB:=qh hB;have HL:=qh hl;have HB0:=qh hB0;have HRB:=qh hRB;have HTX:=qh htx;have HPREV:=qh hprev;have HCOORD:=qh hcoord;have HML:=qh hml;have HMB:=qh hmb;have HLL:=qh hll;have HLB:=qh hlb;clear h hl hb hU0 hB hR1 hb1 hS0 hB0 hRB htx hprev hcoord hml hmb hll hlb;unfold cR at*;go_enter Tryz.func75,Tryz.ntmps75
 go_wp2_with fail
 have hsw:w.heap.size≤(w.alloc (.cells #[.pointer none,.pointer (some ⟨R,0,none⟩)] 136)).heap.size:=HU0.out.size;generalize w.alloc (.cells #[.pointer none,.pointer (some ⟨R,0,none⟩)] 136)=w1 at*;generalize hbx:w.heap.size=bx at*;have hS:=HS0.out;clear b0 b1;have hBx:=HB.out.upd hS.upd (fun e=>by rcases e with e | e<;>omega)
 have b0:=hBx.cell 0;have b1:=hBx.cell 1;simp only[qA,qZ,qS]at b0 b1;have hRd:=hS.rd.upd (Upd.refl Nowhere _).drew id fun _ e=>absurd e id
 have hbd:=hS.blk.upd (Upd.refl Nowhere _).drew id;have hsz:=hS.upd.size;have hcal:=nums_at (os:=[1,2,9]) (ns:=[tx,prev,coord]) (rest:=(listB numZ mem++(listB lockB loc++rest))) hRd (by simp only[qmc,List.not_mem_nil,or_false];rintro n (rfl | rfl | rfl)<;>first | exact HTX.out | exact HPREV.out | exact HCOORD.out) (by exact HL.out) hbd (by decide) hX (by intro o ho;simp only[qmc,List.not_mem_nil,or_false]at ho;rcases ho with rfl | rfl | rfl<;>exact⟨0,rfl⟩) rfl (by simp) rfl
 have HC1:=qh hcal;have HBx1:=qh hBx;have HS1:=qh hS;clear hcal hBx hS hRd hbd hsz
 try unfold cR at HC1
 go_wp2_with fail
 go_cut [82] (fun _ wz=>RdS R X 38 (listB numZ mem++(listB lockB loc++rest)) #[.int .i64 3,.int .i64 tx,.int .i64 prev,.int .i64 0,strV [],.bool false,strV [],.bool false,strV [],.int .i64 coord,.slice none 0 0,.slice none 0 0,.slice none 0 0,.slice none 0 0,.slice none 0 0,.slice none 0 0] w1 wz)
 case first=>
  go_region_held3 (fun w'=>w'.cell? ⟨bx,0,none⟩=some (.pointer none)∧w'.cell? ⟨bx,1,none⟩=some (.pointer (some ⟨R,0,none⟩))) (first | exact⟨b0,b1⟩ | exact k2 | go_keep)
   (first
     | (go_at_call 114
        refine HC1.out.mono ?_;rintro e w2 ⟨rfl,hR2,hb2,hU⟩;have k2:=HK.out _ _ (HBx1.out.drew.alloc _) hU;have hd:Upd (RdF R X) w1 w2:=HS1.out.upd.same (Upd.same ((Upd.refl Nowhere _).drew.alloc _).any hU);have HN:=qh ((⟨hR2,hb2,hd⟩:RdS R X 38 (listB numZ mem++(listB lockB loc++rest)) #[.int .i64 3,.int .i64 tx,.int .i64 prev,.int .i64 0,strV [],.bool false,strV [],.bool false,strV [],.int .i64 coord,.slice none 0 0,.slice none 0 0,.slice none 0 0,.slice none 0 0,.slice none 0 0,.slice none 0 0] w1 w2));clear hd hR2 hb2 hU))
  all_goals
   go_wp2_with fail
   go_meet;exact HN.out
 case rest=>
  have hS:=hcut;have hBx:=HB.out.upd hS.upd (fun e=>by rcases e with e | e<;>omega)
  have b0:=hBx.cell 0;have b1:=hBx.cell 1;simp only[qA,qZ,qS]at b0 b1;have hRd:=hS.rd.upd (Upd.refl Nowhere _).drew id fun _ e=>absurd e id
  have hbd:=hS.blk.upd (Upd.refl Nowhere _).drew id;have hsz:=hS.upd.size;have hcal:=ints_r (off:=10) hRd (by have:=HL.out;simp only[qla]at this ⊢;omega) hbd (by decide) hX rfl HML.out HMB.out
  have HC2:=qh hcal;have HBx2:=qh hBx;have HS2:=qh hS;clear hcal hBx hS hRd hbd hsz
  try unfold cR at HC2
  go_wp2_with fail
  go_cut [87] (fun _ wz=>∃s_mem:SlT,OwnR 3 intC 1 B wz (slV s_mem) mem∧RdS R X 38 (listB lockB loc++rest) #[.int .i64 3,.int .i64 tx,.int .i64 prev,.int .i64 0,strV [],.bool false,strV [],.bool false,strV [],.int .i64 coord,slV s_mem,.slice none 0 0,.slice none 0 0,.slice none 0 0,.slice none 0 0,.slice none 0 0] w1 wz)
  case first=>
   go_region_held3 (fun w'=>w'.cell? ⟨bx,0,none⟩=some (.pointer none)∧w'.cell? ⟨bx,1,none⟩=some (.pointer (some ⟨R,0,none⟩))) (first | exact⟨b0,b1⟩ | exact k2 | go_keep)
    (first
      | (go_at_call 117
         refine HC2.out.mono ?_;rintro e w2 ⟨rfl,s_mem,hO,hX2⟩;have k2:=HK.out _ _ (HBx2.out.drew) hX2.upd;have hd:Upd (RdF R X) w1 w2:=HS2.out.upd.same (Upd.same ((Upd.refl Nowhere _).drew).any hX2.upd);have HN:=qh ((⟨s_mem,hO.far (fun k hk=>Nat.le_trans (Nat.le_trans HB0.out (Nat.le_trans hsw HS2.out.upd.size)) (hO.new k hk)),hX2.rd,hX2.blk,hd⟩:∃s_mem:SlT,OwnR 3 intC 1 B w2 (slV s_mem) mem∧RdS R X 38 (listB lockB loc++rest) #[.int .i64 3,.int .i64 tx,.int .i64 prev,.int .i64 0,strV [],.bool false,strV [],.bool false,strV [],.int .i64 coord,slV s_mem,.slice none 0 0,.slice none 0 0,.slice none 0 0,.slice none 0 0,.slice none 0 0] w1 w2))
         clear hd hO hX2))
   all_goals
    go_wp2_with fail
    go_meet;exact HN.out
  case rest=>
   obtain⟨s_mem,o_mem,hS⟩:=hcut;have hBx:=HB.out.upd hS.upd (fun e=>by rcases e with e | e<;>omega)
   have b0:=hBx.cell 0;have b1:=hBx.cell 1;simp only[qA,qZ,qS]at b0 b1;have hRd:=hS.rd.upd (Upd.refl Nowhere _).drew id fun _ e=>absurd e id
   have hbd:=hS.blk.upd (Upd.refl Nowhere _).drew id;have hsz:=hS.upd.size;have HBZ:=qh hS.blk;have O_mem:=qh o_mem;have hcal:=locks_r (off:=11) hRd (by have:=HL.out;simp only[qla]at this ⊢;omega) hbd (by decide) hX rfl HLL.out HLB.out
   have HC3:=qh hcal;have HBx3:=qh hBx;have HS3:=qh hS;clear hcal hBx hS hRd hbd hsz  o_mem
   try unfold cR at HC3
   go_wp2_with fail
   go_region_held3 (fun w'=>w'.cell? ⟨bx,0,none⟩=some (.pointer none)∧w'.cell? ⟨bx,1,none⟩=some (.pointer (some ⟨R,0,none⟩))) (first | exact⟨b0,b1⟩ | exact k2 | go_keep)
    (first
      | (go_at_call 118
         refine HC3.out.mono ?_;rintro e w2 ⟨rfl,s_loc,hO,hX2⟩;have k2:=HK.out _ _ (HBx3.out.drew) hX2.upd;have hd:Upd (RdF R X) w1 w2:=HS3.out.upd.same (Upd.same ((Upd.refl Nowhere _).drew).any hX2.upd);have HN:=qh ((⟨⟨s_mem,s_loc,(none,0,0),(none,0,0),(none,0,0),(none,0,0)⟩,⟨O_mem.out.keepR HRB.out HBZ.out (by decide) (Upd.same (Upd.refl Nowhere _).drew.any hX2.upd),hO.far (fun k hk=>Nat.le_trans (Nat.le_trans HB0.out (Nat.le_trans hsw HS3.out.upd.size)) (hO.new k hk)),rowsN_nil _ _,nilN _ _ _,deesN_nil _ _,nilN _ _ _⟩,hX2.rd,hX2.blk,hd⟩:∃s:Sls,RecN B w2 ⟨3,tx,prev,0,[],false,[],false,[],coord,mem,loc,[],[],[],[]⟩ s∧RdS R X 38 rest ((RecP.rv ⟨3,tx,prev,0,[],false,[],false,[],coord,mem,loc,[],[],[],[]⟩ s).cells.toArray) w1 w2))
         clear hd hO hX2))
   all_goals
    go_wp2_with fail
    go_end0;obtain⟨s,h1,h2⟩:=HN.out;exact⟨rfl,s,h1,h2.rd,h2.blk,HU0.out.any.same h2.upd⟩
theorem kfields4_r{R X B:Nat}{rest:Bs}{w:World}{tx:Int}{prev:Int}(hX:X≠R)(hB0:B≤w.heap.size)(hRB:R<B)(hb:Blk w X 38 #[.int .i64 4,.int .i64 0,.int .i64 0,.int .i64 0,strV [],.bool false,strV [],.bool false,strV [],.int .i64 0,.slice none 0 0,.slice none 0 0,.slice none 0 0,.slice none 0 0,.slice none 0 0,.slice none 0 0])(htx:0≤tx∧tx≤1099511627776)(hprev:0≤prev∧prev≤1099511627776)(h:RAt w R (([tx,prev]:List Int).flatMap numZ++rest,0))(hl:(([tx,prev]:List Int).flatMap numZ++rest).length≤1000000):
 Calls Tryz.prog 75 #[cR R,.pointer (some ⟨X,0,none⟩)] w (FldP R X B ⟨4,tx,prev,0,[],false,[],false,[],0,[],[],[],[],[],[]⟩ rest w):=by
 have hU0:=(Upd.refl Nowhere w).alloc (.cells #[.pointer none,.pointer (some ⟨R,0,none⟩)] 136);have hB:=Blk.new w 136 #[.pointer none,.pointer (some ⟨R,0,none⟩)];have hbR:w.heap.size≠R:=by have:=h.lt;omega
 have hbg:w.heap.size≠X:=by have:=hb.lt;omega
 have hR1:=h.upd hU0 id fun _ e=>absurd e id
 have hb1:=hb.upd hU0 id;have cK:=hb1.cell 0;simp only[qA,qZ]at cK;have b0:=hB.cell 0;have b1:=hB.cell 1;simp only[qA,qZ,qS]at b0 b1;have hS0:RdS R X 38 (([tx,prev]:List Int).flatMap numZ++rest) #[.int .i64 4,.int .i64 0,.int .i64 0,.int .i64 0,strV [],.bool false,strV [],.bool false,strV [],.int .i64 0,.slice none 0 0,.slice none 0 0,.slice none 0 0,.slice none 0 0,.slice none 0 0,.slice none 0 0] (w.alloc (.cells #[.pointer none,.pointer (some ⟨R,0,none⟩)] 136)) (w.alloc (.cells #[.pointer none,.pointer (some ⟨R,0,none⟩)] 136)):=⟨hR1,hb1,Upd.refl _ _⟩;have HS0:=qh hS0;have HK:=qh (coder_keepR (g:=X) hbR hbg);have HU0:=qh hU0;have HB:=qh hB;have HL:=qh hl;have HB0:=qh hB0;have HRB:=qh hRB;have HTX:=qh htx;have HPREV:=qh hprev;clear h hl hb hU0 hB hR1 hb1 hS0 hB0 hRB htx hprev;unfold cR at*;go_enter Tryz.func75,Tryz.ntmps75
 go_wp2_with fail
 have hsw:w.heap.size≤(w.alloc (.cells #[.pointer none,.pointer (some ⟨R,0,none⟩)] 136)).heap.size:=HU0.out.size;generalize w.alloc (.cells #[.pointer none,.pointer (some ⟨R,0,none⟩)] 136)=w1 at*;generalize hbx:w.heap.size=bx at*;have hS:=HS0.out;clear b0 b1;have hBx:=HB.out.upd hS.upd (fun e=>by rcases e with e | e<;>omega)
 have b0:=hBx.cell 0;have b1:=hBx.cell 1;simp only[qA,qZ,qS]at b0 b1;have hRd:=hS.rd.upd (Upd.refl Nowhere _).drew id fun _ e=>absurd e id
 have hbd:=hS.blk.upd (Upd.refl Nowhere _).drew id;have hsz:=hS.upd.size;have hcal:=nums_at (os:=[1,2]) (ns:=[tx,prev]) (rest:=rest) hRd (by simp only[qmc,List.not_mem_nil,or_false];rintro n (rfl | rfl)<;>first | exact HTX.out | exact HPREV.out) (by exact HL.out) hbd (by decide) hX (by intro o ho;simp only[qmc,List.not_mem_nil,or_false]at ho;rcases ho with rfl | rfl<;>exact⟨0,rfl⟩) rfl (by simp) rfl
 have HC1:=qh hcal;have HBx1:=qh hBx;have HS1:=qh hS;clear hcal hBx hS hRd hbd hsz
 try unfold cR at HC1
 go_wp2_with fail
 go_region_held3 (fun w'=>w'.cell? ⟨bx,0,none⟩=some (.pointer none)∧w'.cell? ⟨bx,1,none⟩=some (.pointer (some ⟨R,0,none⟩))) (first | exact⟨b0,b1⟩ | exact k2 | go_keep)
  (first
    | (go_at_call 114
       refine HC1.out.mono ?_;rintro e w2 ⟨rfl,hR2,hb2,hU⟩;have k2:=HK.out _ _ (HBx1.out.drew.alloc _) hU;have hd:Upd (RdF R X) w1 w2:=HS1.out.upd.same (Upd.same ((Upd.refl Nowhere _).drew.alloc _).any hU);have HN:=qh ((⟨⟨(none,0,0),(none,0,0),(none,0,0),(none,0,0),(none,0,0),(none,0,0)⟩,⟨nilN _ _ _,nilN _ _ _,rowsN_nil _ _,nilN _ _ _,deesN_nil _ _,nilN _ _ _⟩,hR2,hb2,hd⟩:∃s:Sls,RecN B w2 ⟨4,tx,prev,0,[],false,[],false,[],0,[],[],[],[],[],[]⟩ s∧RdS R X 38 rest ((RecP.rv ⟨4,tx,prev,0,[],false,[],false,[],0,[],[],[],[],[],[]⟩ s).cells.toArray) w1 w2));clear hd hR2 hb2 hU))
 all_goals
  go_wp2_with fail
  go_end0;obtain⟨s,h1,h2⟩:=HN.out;exact⟨rfl,s,h1,h2.rd,h2.blk,HU0.out.any.same h2.upd⟩
theorem kfields5_r{R X B:Nat}{rest:Bs}{w:World}{tx:Int}{prev:Int}(hX:X≠R)(hB0:B≤w.heap.size)(hRB:R<B)(hb:Blk w X 38 #[.int .i64 5,.int .i64 0,.int .i64 0,.int .i64 0,strV [],.bool false,strV [],.bool false,strV [],.int .i64 0,.slice none 0 0,.slice none 0 0,.slice none 0 0,.slice none 0 0,.slice none 0 0,.slice none 0 0])(htx:0≤tx∧tx≤1099511627776)(hprev:0≤prev∧prev≤1099511627776)(h:RAt w R (([tx,prev]:List Int).flatMap numZ++rest,0))(hl:(([tx,prev]:List Int).flatMap numZ++rest).length≤1000000):
 Calls Tryz.prog 75 #[cR R,.pointer (some ⟨X,0,none⟩)] w (FldP R X B ⟨5,tx,prev,0,[],false,[],false,[],0,[],[],[],[],[],[]⟩ rest w):=by
 have hU0:=(Upd.refl Nowhere w).alloc (.cells #[.pointer none,.pointer (some ⟨R,0,none⟩)] 136);have hB:=Blk.new w 136 #[.pointer none,.pointer (some ⟨R,0,none⟩)];have hbR:w.heap.size≠R:=by have:=h.lt;omega
 have hbg:w.heap.size≠X:=by have:=hb.lt;omega
 have hR1:=h.upd hU0 id fun _ e=>absurd e id
 have hb1:=hb.upd hU0 id;have cK:=hb1.cell 0;simp only[qA,qZ]at cK;have b0:=hB.cell 0;have b1:=hB.cell 1;simp only[qA,qZ,qS]at b0 b1;have hS0:RdS R X 38 (([tx,prev]:List Int).flatMap numZ++rest) #[.int .i64 5,.int .i64 0,.int .i64 0,.int .i64 0,strV [],.bool false,strV [],.bool false,strV [],.int .i64 0,.slice none 0 0,.slice none 0 0,.slice none 0 0,.slice none 0 0,.slice none 0 0,.slice none 0 0] (w.alloc (.cells #[.pointer none,.pointer (some ⟨R,0,none⟩)] 136)) (w.alloc (.cells #[.pointer none,.pointer (some ⟨R,0,none⟩)] 136)):=⟨hR1,hb1,Upd.refl _ _⟩;have HS0:=qh hS0;have HK:=qh (coder_keepR (g:=X) hbR hbg);have HU0:=qh hU0;have HB:=qh hB;have HL:=qh hl;have HB0:=qh hB0;have HRB:=qh hRB;have HTX:=qh htx;have HPREV:=qh hprev;clear h hl hb hU0 hB hR1 hb1 hS0 hB0 hRB htx hprev;unfold cR at*;go_enter Tryz.func75,Tryz.ntmps75
 go_wp2_with fail
 have hsw:w.heap.size≤(w.alloc (.cells #[.pointer none,.pointer (some ⟨R,0,none⟩)] 136)).heap.size:=HU0.out.size;generalize w.alloc (.cells #[.pointer none,.pointer (some ⟨R,0,none⟩)] 136)=w1 at*;generalize hbx:w.heap.size=bx at*;have hS:=HS0.out;clear b0 b1;have hBx:=HB.out.upd hS.upd (fun e=>by rcases e with e | e<;>omega)
 have b0:=hBx.cell 0;have b1:=hBx.cell 1;simp only[qA,qZ,qS]at b0 b1;have hRd:=hS.rd.upd (Upd.refl Nowhere _).drew id fun _ e=>absurd e id
 have hbd:=hS.blk.upd (Upd.refl Nowhere _).drew id;have hsz:=hS.upd.size;have hcal:=nums_at (os:=[1,2]) (ns:=[tx,prev]) (rest:=rest) hRd (by simp only[qmc,List.not_mem_nil,or_false];rintro n (rfl | rfl)<;>first | exact HTX.out | exact HPREV.out) (by exact HL.out) hbd (by decide) hX (by intro o ho;simp only[qmc,List.not_mem_nil,or_false]at ho;rcases ho with rfl | rfl<;>exact⟨0,rfl⟩) rfl (by simp) rfl
 have HC1:=qh hcal;have HBx1:=qh hBx;have HS1:=qh hS;clear hcal hBx hS hRd hbd hsz
 try unfold cR at HC1
 go_wp2_with fail
 go_region_held3 (fun w'=>w'.cell? ⟨bx,0,none⟩=some (.pointer none)∧w'.cell? ⟨bx,1,none⟩=some (.pointer (some ⟨R,0,none⟩))) (first | exact⟨b0,b1⟩ | exact k2 | go_keep)
  (first
    | (go_at_call 114
       refine HC1.out.mono ?_;rintro e w2 ⟨rfl,hR2,hb2,hU⟩;have k2:=HK.out _ _ (HBx1.out.drew.alloc _) hU;have hd:Upd (RdF R X) w1 w2:=HS1.out.upd.same (Upd.same ((Upd.refl Nowhere _).drew.alloc _).any hU);have HN:=qh ((⟨⟨(none,0,0),(none,0,0),(none,0,0),(none,0,0),(none,0,0),(none,0,0)⟩,⟨nilN _ _ _,nilN _ _ _,rowsN_nil _ _,nilN _ _ _,deesN_nil _ _,nilN _ _ _⟩,hR2,hb2,hd⟩:∃s:Sls,RecN B w2 ⟨5,tx,prev,0,[],false,[],false,[],0,[],[],[],[],[],[]⟩ s∧RdS R X 38 rest ((RecP.rv ⟨5,tx,prev,0,[],false,[],false,[],0,[],[],[],[],[],[]⟩ s).cells.toArray) w1 w2));clear hd hR2 hb2 hU))
 all_goals
  go_wp2_with fail
  go_end0;obtain⟨s,h1,h2⟩:=HN.out;exact⟨rfl,s,h1,h2.rd,h2.blk,HU0.out.any.same h2.upd⟩
theorem kfields6_r{R X B:Nat}{rest:Bs}{w:World}{tx:Int}{prev:Int}(hX:X≠R)(hB0:B≤w.heap.size)(hRB:R<B)(hb:Blk w X 38 #[.int .i64 6,.int .i64 0,.int .i64 0,.int .i64 0,strV [],.bool false,strV [],.bool false,strV [],.int .i64 0,.slice none 0 0,.slice none 0 0,.slice none 0 0,.slice none 0 0,.slice none 0 0,.slice none 0 0])(htx:0≤tx∧tx≤1099511627776)(hprev:0≤prev∧prev≤1099511627776)(h:RAt w R (([tx,prev]:List Int).flatMap numZ++rest,0))(hl:(([tx,prev]:List Int).flatMap numZ++rest).length≤1000000):
 Calls Tryz.prog 75 #[cR R,.pointer (some ⟨X,0,none⟩)] w (FldP R X B ⟨6,tx,prev,0,[],false,[],false,[],0,[],[],[],[],[],[]⟩ rest w):=by
 have hU0:=(Upd.refl Nowhere w).alloc (.cells #[.pointer none,.pointer (some ⟨R,0,none⟩)] 136);have hB:=Blk.new w 136 #[.pointer none,.pointer (some ⟨R,0,none⟩)];have hbR:w.heap.size≠R:=by have:=h.lt;omega
 have hbg:w.heap.size≠X:=by have:=hb.lt;omega
 have hR1:=h.upd hU0 id fun _ e=>absurd e id
 have hb1:=hb.upd hU0 id;have cK:=hb1.cell 0;simp only[qA,qZ]at cK;have b0:=hB.cell 0;have b1:=hB.cell 1;simp only[qA,qZ,qS]at b0 b1;have hS0:RdS R X 38 (([tx,prev]:List Int).flatMap numZ++rest) #[.int .i64 6,.int .i64 0,.int .i64 0,.int .i64 0,strV [],.bool false,strV [],.bool false,strV [],.int .i64 0,.slice none 0 0,.slice none 0 0,.slice none 0 0,.slice none 0 0,.slice none 0 0,.slice none 0 0] (w.alloc (.cells #[.pointer none,.pointer (some ⟨R,0,none⟩)] 136)) (w.alloc (.cells #[.pointer none,.pointer (some ⟨R,0,none⟩)] 136)):=⟨hR1,hb1,Upd.refl _ _⟩;have HS0:=qh hS0;have HK:=qh (coder_keepR (g:=X) hbR hbg);have HU0:=qh hU0;have HB:=qh hB;have HL:=qh hl;have HB0:=qh hB0;have HRB:=qh hRB;have HTX:=qh htx;have HPREV:=qh hprev;clear h hl hb hU0 hB hR1 hb1 hS0 hB0 hRB htx hprev;unfold cR at*;go_enter Tryz.func75,Tryz.ntmps75
 go_wp2_with fail
 have hsw:w.heap.size≤(w.alloc (.cells #[.pointer none,.pointer (some ⟨R,0,none⟩)] 136)).heap.size:=HU0.out.size;generalize w.alloc (.cells #[.pointer none,.pointer (some ⟨R,0,none⟩)] 136)=w1 at*;generalize hbx:w.heap.size=bx at*;have hS:=HS0.out;clear b0 b1;have hBx:=HB.out.upd hS.upd (fun e=>by rcases e with e | e<;>omega)
 have b0:=hBx.cell 0;have b1:=hBx.cell 1;simp only[qA,qZ,qS]at b0 b1;have hRd:=hS.rd.upd (Upd.refl Nowhere _).drew id fun _ e=>absurd e id
 have hbd:=hS.blk.upd (Upd.refl Nowhere _).drew id;have hsz:=hS.upd.size;have hcal:=nums_at (os:=[1,2]) (ns:=[tx,prev]) (rest:=rest) hRd (by simp only[qmc,List.not_mem_nil,or_false];rintro n (rfl | rfl)<;>first | exact HTX.out | exact HPREV.out) (by exact HL.out) hbd (by decide) hX (by intro o ho;simp only[qmc,List.not_mem_nil,or_false]at ho;rcases ho with rfl | rfl<;>exact⟨0,rfl⟩) rfl (by simp) rfl
 have HC1:=qh hcal;have HBx1:=qh hBx;have HS1:=qh hS;clear hcal hBx hS hRd hbd hsz
 try unfold cR at HC1
 go_wp2_with fail
 go_region_held3 (fun w'=>w'.cell? ⟨bx,0,none⟩=some (.pointer none)∧w'.cell? ⟨bx,1,none⟩=some (.pointer (some ⟨R,0,none⟩))) (first | exact⟨b0,b1⟩ | exact k2 | go_keep)
  (first
    | (go_at_call 114
       refine HC1.out.mono ?_;rintro e w2 ⟨rfl,hR2,hb2,hU⟩;have k2:=HK.out _ _ (HBx1.out.drew.alloc _) hU;have hd:Upd (RdF R X) w1 w2:=HS1.out.upd.same (Upd.same ((Upd.refl Nowhere _).drew.alloc _).any hU);have HN:=qh ((⟨⟨(none,0,0),(none,0,0),(none,0,0),(none,0,0),(none,0,0),(none,0,0)⟩,⟨nilN _ _ _,nilN _ _ _,rowsN_nil _ _,nilN _ _ _,deesN_nil _ _,nilN _ _ _⟩,hR2,hb2,hd⟩:∃s:Sls,RecN B w2 ⟨6,tx,prev,0,[],false,[],false,[],0,[],[],[],[],[],[]⟩ s∧RdS R X 38 rest ((RecP.rv ⟨6,tx,prev,0,[],false,[],false,[],0,[],[],[],[],[],[]⟩ s).cells.toArray) w1 w2));clear hd hR2 hb2 hU))
 all_goals
  go_wp2_with fail
  go_end0;obtain⟨s,h1,h2⟩:=HN.out;exact⟨rfl,s,h1,h2.rd,h2.blk,HU0.out.any.same h2.upd⟩
theorem kfields7_r{R X B:Nat}{rest:Bs}{w:World}(_:X≠R)(_:B≤w.heap.size)(_:R<B)(hb:Blk w X 38 #[.int .i64 7,.int .i64 0,.int .i64 0,.int .i64 0,strV [],.bool false,strV [],.bool false,strV [],.int .i64 0,.slice none 0 0,.slice none 0 0,.slice none 0 0,.slice none 0 0,.slice none 0 0,.slice none 0 0])(h:RAt w R (rest,0))(_:(rest).length≤1000000):
 Calls Tryz.prog 75 #[cR R,.pointer (some ⟨X,0,none⟩)] w (FldP R X B ⟨7,0,0,0,[],false,[],false,[],0,[],[],[],[],[],[]⟩ rest w):=by
 have hU0:=(Upd.refl Nowhere w).alloc (.cells #[.pointer none,.pointer (some ⟨R,0,none⟩)] 136);have hB:=Blk.new w 136 #[.pointer none,.pointer (some ⟨R,0,none⟩)];have hbR:w.heap.size≠R:=by have:=h.lt;omega
 have hbg:w.heap.size≠X:=by have:=hb.lt;omega
 have hR1:=h.upd hU0 id fun _ e=>absurd e id
 have hb1:=hb.upd hU0 id;have cK:=hb1.cell 0;simp only[qA,qZ]at cK;have b0:=hB.cell 0;have b1:=hB.cell 1;simp only[qA,qZ,qS]at b0 b1;have HU0:=qh hU0;have HR1:=qh hR1;have HB1:=qh hb1;clear h hb hU0 hB hR1 hb1;unfold cR at*;go_enter Tryz.func75,Tryz.ntmps75
 go_wp2_with fail
 go_end0;exact⟨rfl,nilS,⟨nilN _ _ _,nilN _ _ _,rowsN_nil _ _,nilN _ _ _,deesN_nil _ _,nilN _ _ _⟩,HR1.out,HB1.out,HU0.out.any⟩
theorem kfields8_r{R X B:Nat}{rest:Bs}{w:World}{row:List RowP}{dir:List (Int×Int)}{dee:List (Int×List Int)}{pas:List Int}(hX:X≠R)(hB0:B≤w.heap.size)(hRB:R<B)(hb:Blk w X 38 #[.int .i64 8,.int .i64 0,.int .i64 0,.int .i64 0,strV [],.bool false,strV [],.bool false,strV [],.int .i64 0,.slice none 0 0,.slice none 0 0,.slice none 0 0,.slice none 0 0,.slice none 0 0,.slice none 0 0])(hrl:row.length≤256)(hrowb:∀x∈row,x.readable)(hdl:dir.length≤256)(hdb:∀x∈dir,∀n∈([x.1,x.2]:List Int),0≤n∧n≤1099511627776)(hel:dee.length≤256)(heb:∀x∈dee,(0≤x.1∧x.1≤1099511627776)∧x.2.length≤256∧∀n∈x.2,0≤n∧n≤1099511627776)(hpl:pas.length≤256)(hpb:∀n∈pas,0≤n∧n≤1099511627776)(h:RAt w R (listB rowB row++(listB dirB dir++(listB deeB dee++(listB numZ pas++rest))),0))(hl:(listB rowB row++(listB dirB dir++(listB deeB dee++(listB numZ pas++rest)))).length≤1000000):
 Calls Tryz.prog 75 #[cR R,.pointer (some ⟨X,0,none⟩)] w (FldP R X B ⟨8,0,0,0,[],false,[],false,[],0,[],[],row,dir,dee,pas⟩ rest w):=by
 have hU0:=(Upd.refl Nowhere w).alloc (.cells #[.pointer none,.pointer (some ⟨R,0,none⟩)] 136);have hB:=Blk.new w 136 #[.pointer none,.pointer (some ⟨R,0,none⟩)];have hbR:w.heap.size≠R:=by have:=h.lt;omega
 have hbg:w.heap.size≠X:=by have:=hb.lt;omega
 have hR1:=h.upd hU0 id fun _ e=>absurd e id
 have hb1:=hb.upd hU0 id;have cK:=hb1.cell 0;simp only[qA,qZ]at cK;have b0:=hB.cell 0;have b1:=hB.cell 1;simp only[qA,qZ,qS]at b0 b1;have hS0:RdS R X 38 (listB rowB row++(listB dirB dir++(listB deeB dee++(listB numZ pas++rest)))) #[.int .i64 8,.int .i64 0,.int .i64 0,.int .i64 0,strV [],.bool false,strV [],.bool false,strV [],.int .i64 0,.slice none 0 0,.slice none 0 0,.slice none 0 0,.slice none 0 0,.slice none 0 0,.slice none 0 0] (w.alloc (.cells #[.pointer none,.pointer (some ⟨R,0,none⟩)] 136)) (w.alloc (.cells #[.pointer none,.pointer (some ⟨R,0,none⟩)] 136)):=⟨hR1,hb1,Upd.refl _ _⟩;have HS0:=qh hS0;have HK:=qh (coder_keepR (g:=X) hbR hbg);have HU0:=qh hU0;have HB:=qh hB;have HL:=qh hl;have HB0:=qh hB0;have HRB:=qh hRB;have HRL:=qh hrl;have HROWB:=qh hrowb;have HDL:=qh hdl;have HDB:=qh hdb;have HEL:=qh hel;have HEB:=qh heb;have HPL:=qh hpl;have HPB:=qh hpb;clear h hl hb hU0 hB hR1 hb1 hS0 hB0 hRB hrl hrowb hdl hdb hel heb hpl hpb;unfold cR at*;go_enter Tryz.func75,Tryz.ntmps75
 go_wp2_with fail
 have hsw:w.heap.size≤(w.alloc (.cells #[.pointer none,.pointer (some ⟨R,0,none⟩)] 136)).heap.size:=HU0.out.size;generalize w.alloc (.cells #[.pointer none,.pointer (some ⟨R,0,none⟩)] 136)=w1 at*;generalize hbx:w.heap.size=bx at*;have hS:=HS0.out;clear b0 b1;have hBx:=HB.out.upd hS.upd (fun e=>by rcases e with e | e<;>omega)
 have b0:=hBx.cell 0;have b1:=hBx.cell 1;simp only[qA,qZ,qS]at b0 b1;have hRd:=hS.rd.upd (Upd.refl Nowhere _).drew id fun _ e=>absurd e id
 have hbd:=hS.blk.upd (Upd.refl Nowhere _).drew id;have hsz:=hS.upd.size;have hcal:=rows_r (off:=12) (B:=B) hRd (by have:=HL.out;simp only[qla]at this ⊢;omega) hbd (by decide) hX rfl HRL.out (Nat.le_trans HB0.out (Nat.le_trans hsw hsz)) HRB.out HROWB.out
 have HC1:=qh hcal;have HBx1:=qh hBx;have HS1:=qh hS;clear hcal hBx hS hRd hbd hsz
 try unfold cR at HC1
 go_wp2_with fail
 go_cut [108] (fun _ wz=>∃s_row:SlT,RowsN B wz s_row row∧RdS R X 38 (listB dirB dir++(listB deeB dee++(listB numZ pas++rest))) #[.int .i64 8,.int .i64 0,.int .i64 0,.int .i64 0,strV [],.bool false,strV [],.bool false,strV [],.int .i64 0,.slice none 0 0,.slice none 0 0,slV s_row,.slice none 0 0,.slice none 0 0,.slice none 0 0] w1 wz)
 case first=>
  go_region_held3 (fun w'=>w'.cell? ⟨bx,0,none⟩=some (.pointer none)∧w'.cell? ⟨bx,1,none⟩=some (.pointer (some ⟨R,0,none⟩))) (first | exact⟨b0,b1⟩ | exact k2 | go_keep)
   (first
     | (go_at_call 119
        refine HC1.out.mono ?_;rintro e w2 ⟨rfl,s_row,qs,hq,hO,hok,hX2⟩;have k2:=HK.out _ _ (HBx1.out.drew) hX2.upd;have hd:Upd (RdF R X) w1 w2:=HS1.out.upd.same (Upd.same ((Upd.refl Nowhere _).drew).any hX2.upd);have HN:=qh ((⟨s_row,⟨qs,hO.far (fun k hk=>Nat.le_trans (Nat.le_trans HB0.out (Nat.le_trans hsw HS1.out.upd.size)) (hO.new k hk)),hq,hok⟩,hX2.rd,hX2.blk,hd⟩:∃s_row:SlT,RowsN B w2 s_row row∧RdS R X 38 (listB dirB dir++(listB deeB dee++(listB numZ pas++rest))) #[.int .i64 8,.int .i64 0,.int .i64 0,.int .i64 0,strV [],.bool false,strV [],.bool false,strV [],.int .i64 0,.slice none 0 0,.slice none 0 0,slV s_row,.slice none 0 0,.slice none 0 0,.slice none 0 0] w1 w2))
        clear hd hq hO hok hX2))
  all_goals
   go_wp2_with fail
   go_meet;exact HN.out
 case rest=>
  obtain⟨s_row,o_row,hS⟩:=hcut;have hBx:=HB.out.upd hS.upd (fun e=>by rcases e with e | e<;>omega)
  have b0:=hBx.cell 0;have b1:=hBx.cell 1;simp only[qA,qZ,qS]at b0 b1;have hRd:=hS.rd.upd (Upd.refl Nowhere _).drew id fun _ e=>absurd e id
  have hbd:=hS.blk.upd (Upd.refl Nowhere _).drew id;have hsz:=hS.upd.size;have HBZ:=qh hS.blk;have O_row:=qh o_row;have hcal:=dirs_r (off:=13) hRd (by have:=HL.out;simp only[qla]at this ⊢;omega) hBx.drew hbR hbg hbd (by decide) hX rfl HDL.out HDB.out
  have HC2:=qh hcal;have HBx2:=qh hBx;have HS2:=qh hS;clear hcal hBx hS hRd hbd hsz  o_row
  try unfold cR at HC2
  go_wp2_with fail
  go_cut [114] (fun _ wz=>∃s_row:SlT,∃s_dir:SlT,RowsN B wz s_row row∧OwnR 154 dirC 2 B wz (slV s_dir) dir∧RdS R X 38 (listB deeB dee++(listB numZ pas++rest)) #[.int .i64 8,.int .i64 0,.int .i64 0,.int .i64 0,strV [],.bool false,strV [],.bool false,strV [],.int .i64 0,.slice none 0 0,.slice none 0 0,slV s_row,slV s_dir,.slice none 0 0,.slice none 0 0] w1 wz)
  case first=>
   go_region_held3 (fun w'=>w'.cell? ⟨bx,0,none⟩=some (.pointer none)∧w'.cell? ⟨bx,1,none⟩=some (.pointer (some ⟨R,0,none⟩))) (first | exact⟨b0,b1⟩ | exact k2 | go_keep)
    (first
      | (go_at_call 121
         refine HC2.out.mono ?_;rintro e w2 ⟨rfl,s_dir,hO,hX2⟩;have k2:=HK.out _ _ (HBx2.out.drew) hX2.upd;have hd:Upd (RdF R X) w1 w2:=HS2.out.upd.same (Upd.same ((Upd.refl Nowhere _).drew).any hX2.upd);have HN:=qh ((⟨s_row,s_dir,O_row.out.keepR HRB.out HBZ.out (Upd.same (Upd.refl Nowhere _).drew.any hX2.upd),hO.far (fun k hk=>Nat.le_trans (Nat.le_trans HB0.out (Nat.le_trans hsw HS2.out.upd.size)) (hO.new k hk)),hX2.rd,hX2.blk,hd⟩:∃s_row:SlT,∃s_dir:SlT,RowsN B w2 s_row row∧OwnR 154 dirC 2 B w2 (slV s_dir) dir∧RdS R X 38 (listB deeB dee++(listB numZ pas++rest)) #[.int .i64 8,.int .i64 0,.int .i64 0,.int .i64 0,strV [],.bool false,strV [],.bool false,strV [],.int .i64 0,.slice none 0 0,.slice none 0 0,slV s_row,slV s_dir,.slice none 0 0,.slice none 0 0] w1 w2))
         clear hd hO hX2))
   all_goals
    go_wp2_with fail
    go_meet;exact HN.out
  case rest=>
   obtain⟨s_row,s_dir,o_row,o_dir,hS⟩:=hcut;have hBx:=HB.out.upd hS.upd (fun e=>by rcases e with e | e<;>omega)
   have b0:=hBx.cell 0;have b1:=hBx.cell 1;simp only[qA,qZ,qS]at b0 b1;have hRd:=hS.rd.upd (Upd.refl Nowhere _).drew id fun _ e=>absurd e id
   have hbd:=hS.blk.upd (Upd.refl Nowhere _).drew id;have hsz:=hS.upd.size;have HBZ:=qh hS.blk;have O_row:=qh o_row;have O_dir:=qh o_dir;have hcal:=dees_r (off:=14) (B:=B) hRd (by have:=HL.out;simp only[qla]at this ⊢;omega) hBx.drew hbR hbg hbd (by decide) hX rfl HEL.out (Nat.le_trans HB0.out (Nat.le_trans hsw hsz)) HRB.out HEB.out
   have HC3:=qh hcal;have HBx3:=qh hBx;have HS3:=qh hS;clear hcal hBx hS hRd hbd hsz  o_row o_dir
   try unfold cR at HC3
   go_wp2_with fail
   go_cut [120] (fun _ wz=>∃s_row:SlT,∃s_dir:SlT,∃s_dee:SlT,RowsN B wz s_row row∧OwnR 154 dirC 2 B wz (slV s_dir) dir∧DeesN B wz s_dee dee∧RdS R X 38 (listB numZ pas++rest) #[.int .i64 8,.int .i64 0,.int .i64 0,.int .i64 0,strV [],.bool false,strV [],.bool false,strV [],.int .i64 0,.slice none 0 0,.slice none 0 0,slV s_row,slV s_dir,slV s_dee,.slice none 0 0] w1 wz)
   case first=>
    go_region_held3 (fun w'=>w'.cell? ⟨bx,0,none⟩=some (.pointer none)∧w'.cell? ⟨bx,1,none⟩=some (.pointer (some ⟨R,0,none⟩))) (first | exact⟨b0,b1⟩ | exact k2 | go_keep)
     (first
       | (go_at_call 123
          refine HC3.out.mono ?_;rintro e w2 ⟨rfl,s_dee,qs,hq,hO,hok,hX2⟩;have k2:=HK.out _ _ (HBx3.out.drew) hX2.upd;have hd:Upd (RdF R X) w1 w2:=HS3.out.upd.same (Upd.same ((Upd.refl Nowhere _).drew).any hX2.upd);have HN:=qh ((⟨s_row,s_dir,s_dee,O_row.out.keepR HRB.out HBZ.out (Upd.same (Upd.refl Nowhere _).drew.any hX2.upd),O_dir.out.keepR HRB.out HBZ.out (by decide) (Upd.same (Upd.refl Nowhere _).drew.any hX2.upd),⟨qs,hO.far (fun k hk=>Nat.le_trans (Nat.le_trans HB0.out (Nat.le_trans hsw HS3.out.upd.size)) (hO.new k hk)),hq,hok⟩,hX2.rd,hX2.blk,hd⟩:∃s_row:SlT,∃s_dir:SlT,∃s_dee:SlT,RowsN B w2 s_row row∧OwnR 154 dirC 2 B w2 (slV s_dir) dir∧DeesN B w2 s_dee dee∧RdS R X 38 (listB numZ pas++rest) #[.int .i64 8,.int .i64 0,.int .i64 0,.int .i64 0,strV [],.bool false,strV [],.bool false,strV [],.int .i64 0,.slice none 0 0,.slice none 0 0,slV s_row,slV s_dir,slV s_dee,.slice none 0 0] w1 w2))
          clear hd hq hO hok hX2))
    all_goals
     go_wp2_with fail
     go_meet;exact HN.out
   case rest=>
    obtain⟨s_row,s_dir,s_dee,o_row,o_dir,o_dee,hS⟩:=hcut;have hBx:=HB.out.upd hS.upd (fun e=>by rcases e with e | e<;>omega)
    have b0:=hBx.cell 0;have b1:=hBx.cell 1;simp only[qA,qZ,qS]at b0 b1;have hRd:=hS.rd.upd (Upd.refl Nowhere _).drew id fun _ e=>absurd e id
    have hbd:=hS.blk.upd (Upd.refl Nowhere _).drew id;have hsz:=hS.upd.size;have HBZ:=qh hS.blk;have O_row:=qh o_row;have O_dir:=qh o_dir;have O_dee:=qh o_dee;have hcal:=ints_r (off:=15) hRd (by have:=HL.out;simp only[qla]at this ⊢;omega) hbd (by decide) hX rfl HPL.out HPB.out
    have HC4:=qh hcal;have HBx4:=qh hBx;have HS4:=qh hS;clear hcal hBx hS hRd hbd hsz  o_row o_dir o_dee
    try unfold cR at HC4
    go_wp2_with fail
    go_region_held3 (fun w'=>w'.cell? ⟨bx,0,none⟩=some (.pointer none)∧w'.cell? ⟨bx,1,none⟩=some (.pointer (some ⟨R,0,none⟩))) (first | exact⟨b0,b1⟩ | exact k2 | go_keep)
     (first
       | (go_at_call 117
          refine HC4.out.mono ?_;rintro e w2 ⟨rfl,s_pas,hO,hX2⟩;have k2:=HK.out _ _ (HBx4.out.drew) hX2.upd;have hd:Upd (RdF R X) w1 w2:=HS4.out.upd.same (Upd.same ((Upd.refl Nowhere _).drew).any hX2.upd);have HN:=qh ((⟨⟨(none,0,0),(none,0,0),s_row,s_dir,s_dee,s_pas⟩,⟨nilN _ _ _,nilN _ _ _,O_row.out.keepR HRB.out HBZ.out (Upd.same (Upd.refl Nowhere _).drew.any hX2.upd),O_dir.out.keepR HRB.out HBZ.out (by decide) (Upd.same (Upd.refl Nowhere _).drew.any hX2.upd),O_dee.out.keepR HRB.out HBZ.out (Upd.same (Upd.refl Nowhere _).drew.any hX2.upd),hO.far (fun k hk=>Nat.le_trans (Nat.le_trans HB0.out (Nat.le_trans hsw HS4.out.upd.size)) (hO.new k hk))⟩,hX2.rd,hX2.blk,hd⟩:∃s:Sls,RecN B w2 ⟨8,0,0,0,[],false,[],false,[],0,[],[],row,dir,dee,pas⟩ s∧RdS R X 38 rest ((RecP.rv ⟨8,0,0,0,[],false,[],false,[],0,[],[],row,dir,dee,pas⟩ s).cells.toArray) w1 w2))
          clear hd hO hX2))
    all_goals
     go_wp2_with fail
     go_end0;obtain⟨s,h1,h2⟩:=HN.out;exact⟨rfl,s,h1,h2.rd,h2.blk,HU0.out.any.same h2.upd⟩
theorem kfields9_r{R X B:Nat}{rest:Bs}{w:World}{tx:Int}{mem:List Int}(hX:X≠R)(hB0:B≤w.heap.size)(hRB:R<B)(hb:Blk w X 38 #[.int .i64 9,.int .i64 0,.int .i64 0,.int .i64 0,strV [],.bool false,strV [],.bool false,strV [],.int .i64 0,.slice none 0 0,.slice none 0 0,.slice none 0 0,.slice none 0 0,.slice none 0 0,.slice none 0 0])(htx:0≤tx∧tx≤1099511627776)(hml:mem.length≤256)(hmb:∀n∈mem,0≤n∧n≤1099511627776)(h:RAt w R (numZ tx++(listB numZ mem++rest),0))(hl:(numZ tx++(listB numZ mem++rest)).length≤1000000):
 Calls Tryz.prog 75 #[cR R,.pointer (some ⟨X,0,none⟩)] w (FldP R X B ⟨9,tx,0,0,[],false,[],false,[],0,mem,[],[],[],[],[]⟩ rest w):=by
 have hU0:=(Upd.refl Nowhere w).alloc (.cells #[.pointer none,.pointer (some ⟨R,0,none⟩)] 136);have hB:=Blk.new w 136 #[.pointer none,.pointer (some ⟨R,0,none⟩)];have hbR:w.heap.size≠R:=by have:=h.lt;omega
 have hbg:w.heap.size≠X:=by have:=hb.lt;omega
 have hR1:=h.upd hU0 id fun _ e=>absurd e id
 have hb1:=hb.upd hU0 id;have cK:=hb1.cell 0;simp only[qA,qZ]at cK;have b0:=hB.cell 0;have b1:=hB.cell 1;simp only[qA,qZ,qS]at b0 b1;have hS0:RdS R X 38 (numZ tx++(listB numZ mem++rest)) #[.int .i64 9,.int .i64 0,.int .i64 0,.int .i64 0,strV [],.bool false,strV [],.bool false,strV [],.int .i64 0,.slice none 0 0,.slice none 0 0,.slice none 0 0,.slice none 0 0,.slice none 0 0,.slice none 0 0] (w.alloc (.cells #[.pointer none,.pointer (some ⟨R,0,none⟩)] 136)) (w.alloc (.cells #[.pointer none,.pointer (some ⟨R,0,none⟩)] 136)):=⟨hR1,hb1,Upd.refl _ _⟩;have HS0:=qh hS0;have HK:=qh (coder_keepR (g:=X) hbR hbg);have HU0:=qh hU0;have HB:=qh hB;have HL:=qh hl;have HB0:=qh hB0;have HRB:=qh hRB;have HTX:=qh htx;have HML:=qh hml;have HMB:=qh hmb;clear h hl hb hU0 hB hR1 hb1 hS0 hB0 hRB htx hml hmb;unfold cR at*;go_enter Tryz.func75,Tryz.ntmps75
 go_wp2_with fail
 have hsw:w.heap.size≤(w.alloc (.cells #[.pointer none,.pointer (some ⟨R,0,none⟩)] 136)).heap.size:=HU0.out.size;generalize w.alloc (.cells #[.pointer none,.pointer (some ⟨R,0,none⟩)] 136)=w1 at*;generalize hbx:w.heap.size=bx at*;have hS:=HS0.out;clear b0 b1;have hBx:=HB.out.upd hS.upd (fun e=>by rcases e with e | e<;>omega)
 have b0:=hBx.cell 0;have b1:=hBx.cell 1;simp only[qA,qZ,qS]at b0 b1;have hRd:=hS.rd.upd (Upd.refl Nowhere _).drew id fun _ e=>absurd e id
 have hbd:=hS.blk.upd (Upd.refl Nowhere _).drew id;have hsz:=hS.upd.size;have hcal:=cnum_r (off:=1) hRd HTX.out (by have:=HL.out;simp only[qla]at this ⊢;omega) hbd (by decide) hX (n0:=0) rfl
 have HC1:=qh hcal;have HBx1:=qh hBx;have HS1:=qh hS;clear hcal hBx hS hRd hbd hsz
 try unfold cR at HC1
 go_wp2_with fail
 go_cut [130] (fun _ wz=>RdS R X 38 (listB numZ mem++rest) #[.int .i64 9,.int .i64 tx,.int .i64 0,.int .i64 0,strV [],.bool false,strV [],.bool false,strV [],.int .i64 0,.slice none 0 0,.slice none 0 0,.slice none 0 0,.slice none 0 0,.slice none 0 0,.slice none 0 0] w1 wz)
 case first=>
  go_region_held3 (fun w'=>w'.cell? ⟨bx,0,none⟩=some (.pointer none)∧w'.cell? ⟨bx,1,none⟩=some (.pointer (some ⟨R,0,none⟩))) (first | exact⟨b0,b1⟩ | exact k2 | go_keep)
   (first
     | (go_at_call 125
        refine HC1.out.mono ?_;rintro e w2 ⟨rfl,hR2,hb2,hU⟩;have k2:=HK.out _ _ (HBx1.out.drew) hU;have hd:Upd (RdF R X) w1 w2:=HS1.out.upd.same (Upd.same ((Upd.refl Nowhere _).drew).any hU);have HN:=qh ((⟨hR2,hb2,hd⟩:RdS R X 38 (listB numZ mem++rest) #[.int .i64 9,.int .i64 tx,.int .i64 0,.int .i64 0,strV [],.bool false,strV [],.bool false,strV [],.int .i64 0,.slice none 0 0,.slice none 0 0,.slice none 0 0,.slice none 0 0,.slice none 0 0,.slice none 0 0] w1 w2));clear hd hR2 hb2 hU))
  all_goals
   go_wp2_with fail
   go_meet;exact HN.out
 case rest=>
  have hS:=hcut;have hBx:=HB.out.upd hS.upd (fun e=>by rcases e with e | e<;>omega)
  have b0:=hBx.cell 0;have b1:=hBx.cell 1;simp only[qA,qZ,qS]at b0 b1;have hRd:=hS.rd.upd (Upd.refl Nowhere _).drew id fun _ e=>absurd e id
  have hbd:=hS.blk.upd (Upd.refl Nowhere _).drew id;have hsz:=hS.upd.size;have hcal:=ints_r (off:=10) hRd (by have:=HL.out;simp only[qla]at this ⊢;omega) hbd (by decide) hX rfl HML.out HMB.out
  have HC2:=qh hcal;have HBx2:=qh hBx;have HS2:=qh hS;clear hcal hBx hS hRd hbd hsz
  try unfold cR at HC2
  go_wp2_with fail
  go_region_held3 (fun w'=>w'.cell? ⟨bx,0,none⟩=some (.pointer none)∧w'.cell? ⟨bx,1,none⟩=some (.pointer (some ⟨R,0,none⟩))) (first | exact⟨b0,b1⟩ | exact k2 | go_keep)
   (first
     | (go_at_call 117
        refine HC2.out.mono ?_;rintro e w2 ⟨rfl,s_mem,hO,hX2⟩;have k2:=HK.out _ _ (HBx2.out.drew) hX2.upd;have hd:Upd (RdF R X) w1 w2:=HS2.out.upd.same (Upd.same ((Upd.refl Nowhere _).drew).any hX2.upd);have HN:=qh ((⟨⟨s_mem,(none,0,0),(none,0,0),(none,0,0),(none,0,0),(none,0,0)⟩,⟨hO.far (fun k hk=>Nat.le_trans (Nat.le_trans HB0.out (Nat.le_trans hsw HS2.out.upd.size)) (hO.new k hk)),nilN _ _ _,rowsN_nil _ _,nilN _ _ _,deesN_nil _ _,nilN _ _ _⟩,hX2.rd,hX2.blk,hd⟩:∃s:Sls,RecN B w2 ⟨9,tx,0,0,[],false,[],false,[],0,mem,[],[],[],[],[]⟩ s∧RdS R X 38 rest ((RecP.rv ⟨9,tx,0,0,[],false,[],false,[],0,mem,[],[],[],[],[]⟩ s).cells.toArray) w1 w2))
        clear hd hO hX2))
  all_goals
   go_wp2_with fail
   go_end0;obtain⟨s,h1,h2⟩:=HN.out;exact⟨rfl,s,h1,h2.rd,h2.blk,HU0.out.any.same h2.upd⟩
theorem kfields10_r{R X B:Nat}{rest:Bs}{w:World}{tx:Int}(hX:X≠R)(hB0:B≤w.heap.size)(hRB:R<B)(hb:Blk w X 38 #[.int .i64 10,.int .i64 0,.int .i64 0,.int .i64 0,strV [],.bool false,strV [],.bool false,strV [],.int .i64 0,.slice none 0 0,.slice none 0 0,.slice none 0 0,.slice none 0 0,.slice none 0 0,.slice none 0 0])(htx:0≤tx∧tx≤1099511627776)(h:RAt w R (numZ tx++rest,0))(hl:(numZ tx++rest).length≤1000000):
 Calls Tryz.prog 75 #[cR R,.pointer (some ⟨X,0,none⟩)] w (FldP R X B ⟨10,tx,0,0,[],false,[],false,[],0,[],[],[],[],[],[]⟩ rest w):=by
 have hU0:=(Upd.refl Nowhere w).alloc (.cells #[.pointer none,.pointer (some ⟨R,0,none⟩)] 136);have hB:=Blk.new w 136 #[.pointer none,.pointer (some ⟨R,0,none⟩)];have hbR:w.heap.size≠R:=by have:=h.lt;omega
 have hbg:w.heap.size≠X:=by have:=hb.lt;omega
 have hR1:=h.upd hU0 id fun _ e=>absurd e id
 have hb1:=hb.upd hU0 id;have cK:=hb1.cell 0;simp only[qA,qZ]at cK;have b0:=hB.cell 0;have b1:=hB.cell 1;simp only[qA,qZ,qS]at b0 b1;have hS0:RdS R X 38 (numZ tx++rest) #[.int .i64 10,.int .i64 0,.int .i64 0,.int .i64 0,strV [],.bool false,strV [],.bool false,strV [],.int .i64 0,.slice none 0 0,.slice none 0 0,.slice none 0 0,.slice none 0 0,.slice none 0 0,.slice none 0 0] (w.alloc (.cells #[.pointer none,.pointer (some ⟨R,0,none⟩)] 136)) (w.alloc (.cells #[.pointer none,.pointer (some ⟨R,0,none⟩)] 136)):=⟨hR1,hb1,Upd.refl _ _⟩;have HS0:=qh hS0;have HK:=qh (coder_keepR (g:=X) hbR hbg);have HU0:=qh hU0;have HB:=qh hB;have HL:=qh hl;have HB0:=qh hB0;have HRB:=qh hRB;have HTX:=qh htx;clear h hl hb hU0 hB hR1 hb1 hS0 hB0 hRB htx;unfold cR at*;go_enter Tryz.func75,Tryz.ntmps75
 go_wp2_with fail
 have hsw:w.heap.size≤(w.alloc (.cells #[.pointer none,.pointer (some ⟨R,0,none⟩)] 136)).heap.size:=HU0.out.size;generalize w.alloc (.cells #[.pointer none,.pointer (some ⟨R,0,none⟩)] 136)=w1 at*;generalize hbx:w.heap.size=bx at*;have hS:=HS0.out;clear b0 b1;have hBx:=HB.out.upd hS.upd (fun e=>by rcases e with e | e<;>omega)
 have b0:=hBx.cell 0;have b1:=hBx.cell 1;simp only[qA,qZ,qS]at b0 b1;have hRd:=hS.rd.upd (Upd.refl Nowhere _).drew id fun _ e=>absurd e id
 have hbd:=hS.blk.upd (Upd.refl Nowhere _).drew id;have hsz:=hS.upd.size;have hcal:=cnum_r (off:=1) hRd HTX.out (by have:=HL.out;simp only[qla]at this ⊢;omega) hbd (by decide) hX (n0:=0) rfl
 have HC1:=qh hcal;have HBx1:=qh hBx;have HS1:=qh hS;clear hcal hBx hS hRd hbd hsz
 try unfold cR at HC1
 go_wp2_with fail
 go_region_held3 (fun w'=>w'.cell? ⟨bx,0,none⟩=some (.pointer none)∧w'.cell? ⟨bx,1,none⟩=some (.pointer (some ⟨R,0,none⟩))) (first | exact⟨b0,b1⟩ | exact k2 | go_keep)
  (first
    | (go_at_call 125
       refine HC1.out.mono ?_;rintro e w2 ⟨rfl,hR2,hb2,hU⟩;have k2:=HK.out _ _ (HBx1.out.drew) hU;have hd:Upd (RdF R X) w1 w2:=HS1.out.upd.same (Upd.same ((Upd.refl Nowhere _).drew).any hU);have HN:=qh ((⟨⟨(none,0,0),(none,0,0),(none,0,0),(none,0,0),(none,0,0),(none,0,0)⟩,⟨nilN _ _ _,nilN _ _ _,rowsN_nil _ _,nilN _ _ _,deesN_nil _ _,nilN _ _ _⟩,hR2,hb2,hd⟩:∃s:Sls,RecN B w2 ⟨10,tx,0,0,[],false,[],false,[],0,[],[],[],[],[],[]⟩ s∧RdS R X 38 rest ((RecP.rv ⟨10,tx,0,0,[],false,[],false,[],0,[],[],[],[],[],[]⟩ s).cells.toArray) w1 w2));clear hd hR2 hb2 hU))
 all_goals
  go_wp2_with fail
  go_end0;obtain⟨s,h1,h2⟩:=HN.out;exact⟨rfl,s,h1,h2.rd,h2.blk,HU0.out.any.same h2.upd⟩
end Go.Proofs.YtljmmkjdlcfkpaaGreatDoor
