/-
  Layer 7: the pool's record (an update of one key by transaction 1) may be; its bytes. Layer 7: a coder that reads: a text, a flag, a value; memory words for lists that are read.
-/
import Derived.Test.YtdfccegeihfdpaaGreatDoorAPm9
import Derived.Test.YtdfccegeihfdpaaGreatDoorAPoA
set_option maxRecDepth 100000
set_option maxHeartbeats 4000000
namespace Go.Proofs.YtdfccegeihfdpaaGreatDoor
open Go Go.RowKit
def updP(key:Bs)(vh:Bool)(vd:Bs):RecP:=⟨1,1,0,0,key,false,[],vh,vd,0,[],[],[],[],[],[]⟩
def updA(key:Bs)(vh:Bool)(vd:Bs):Array Value:=#[.int .i64 1,.int .i64 1,.int .i64 0,.int .i64 0,strV key,.bool false,.string ⟨#[]⟩,.bool vh,strV vd,.int .i64 0,.slice none 0 0,.slice none 0 0,.slice none 0 0,.slice none 0 0,.slice none 0 0,.slice none 0 0]
theorem updA_eq(key:Bs)(vh:Bool)(vd:Bs):((updP key vh vd).rv nilS).cells.toArray=updA key vh vd:=rfl
theorem updP_nil(w:World)(key:Bs)(vh:Bool)(vd:Bs):RecE w (updP key vh vd) nilS:=
 ⟨(OwnR.nil 3 intC 1 0 w).els,(OwnR.nil 170 lockC 2 0 w).els,⟨[],(OwnR.nil 172 RowW.cells 8 0 w).els,rfl,fun q hq=>by cases hq⟩,(OwnR.nil 168 dirC 2 0 w).els,⟨[],(OwnR.nil 174 DeedV.cells 2 0 w).els,rfl,fun q hq=>by cases hq⟩,(OwnR.nil 3 intC 1 0 w).els⟩
theorem updP_bytes(key:Bs)(vh:Bool)(vd:Bs):(updP key vh vd).bytes=numZ 1++(numZ 1++(numZ 0++(textB key++(valB false []++valB vh vd)))):=by simp[updP,RecP.bytes,RecP.fieldsB]
theorem valB_len(h:Bool){d:Bs}(hd:d.length≤32):(valB h d).length≤34:=by
 have h1:=shortB_1 (n:=d.length) (by omega)
 unfold valB flagB textB;split<;>simp<;>omega
theorem numZ_1:(numZ 1).length=1:=shortB_1 (by decide)
theorem numZ_0:(numZ 0).length=1:=shortB_1 (by decide)
theorem updP_len{key:Bs}{vh:Bool}{vd:Bs}(h:CellOK (key,(vh,vd))):(updP key vh vd).bytes.length≤100:=by
 rw[updP_bytes];have h1:=valB_len vh h.val;have h2:=valB_len false (d:=[]) (by decide)
 have h3:=shortB_1 (n:=key.length) (by have:=h.key;simp only at this;omega)
 have h4:=h.key;simp only at h1 h4;simp only[qla,numZ_1,numZ_0,textB];omega
theorem updP_good{key:Bs}{vh:Bool}{vd:Bs}(h:CellOK (key,(vh,vd))):(updP key vh vd).good:=by
 have hl:=updP_len h;have hk:=h.key;have hv:=h.val;simp only at hk hv;refine⟨⟨by simp[updP],by simp[updP]⟩,⟨by simp only[updP];omega,by simp only[updP];omega⟩,⟨by simp[updP],by simp[updP]⟩,⟨by simp[updP],by simp[updP]⟩,⟨by simp[updP],by simp[updP]⟩,by simp only[updP];omega,by simp[updP],by simp only[updP];omega,by simp[updP],by simp[updP],by simp[updP],by simp[updP],by simp[updP],by simp[updP],by simp[updP],by simp[updP],by simp[updP],by simp[updP],by simp[updP],by simp[updP],by omega⟩
theorem wants_upd(w:World):Calls Tryz.prog 223 #[.int .i64 1] w fun e w'=>e= .returned (.agg #[.bool false,.bool true,.bool false,.bool false,.bool false,.bool true,.bool true,.bool true,.bool true])∧Upd Nowhere w w':=by
 go_enter Tryz.func223,Tryz.ntmps223
 go_wp2_with fail
 refine bodyPost_ret (results_cell_row rfl _ _ w.heap.size 308 #[.bool false,.bool true,.bool false,.bool false,.bool false,.bool true,.bool true,.bool true,.bool true] _ _ rfl ((Blk.new w 308 #[.bool false,.bool true,.bool false,.bool false,.bool false,.bool true,.bool true,.bool true,.bool true]).alloc _) Tryz.underlying308 rfl (by kernel_rfl)) rfl ?_
 exact⟨rfl,((Upd.refl Nowhere w).alloc _).alloc _⟩
theorem spare_upd(key:Bs)(vh:Bool)(vd:Bs)(w:World):Calls Tryz.prog 171 #[.agg (updA key vh vd)] w (BoolP false w):=by
 have HW6:=qh wants_upd;have HU0:=qh ((Upd.refl Nowhere w).alloc (.cells (updA key vh vd) 39));have HB:=qh (Blk.new w 39 (updA key vh vd));unfold updA at*;go_enter Tryz.func171,Tryz.ntmps171
 go_wp2_with fail
 refine(HW6.out _).mono ?_;rintro e w2 ⟨rfl,hU1⟩;have hB1:=HB.out.upd hU1 id;have HU1:=qh (HU0.out.same hU1);have b0:=hB1.cell 0;have b1:=hB1.cell 1;have b2:=hB1.cell 2;have b3:=hB1.cell 3;have b4:=hB1.cell 4;have b5:=hB1.cell 5;have b6:=hB1.cell 6;have b7:=hB1.cell 7;have b8:=hB1.cell 8;have b9:=hB1.cell 9;have b10:=hB1.cell 10;have b11:=hB1.cell 11;have b12:=hB1.cell 12;have b13:=hB1.cell 13;have b14:=hB1.cell 14;have b15:=hB1.cell 15;have hlt:=hB1.lt;simp only[qA,qZ,qS]at b0 b1 b2 b3 b4 b5 b6 b7 b8 b9 b10 b11 b12 b13 b14 b15;clear hB1 hU1;go_wp2_with fail
 go_ret;exact⟨rfl,(HU1.out.alloc _).alloc _⟩
theorem may_upd{key:Bs}{vh:Bool}{vd:Bs}(h:CellOK (key,(vh,vd)))(w:World):Calls Tryz.prog 122 #[.agg (updA key vh vd)] w (BoolP true w):=by
 have HC0:Hid (∀w,Calls Tryz.prog 127 #[.int .i64 1] w (BoolP true w)):=qh fun w=>by
  have:=kind_ok 1 w
  rwa [show kindP 1=true from by decide]at this
 have HC1:=qh (spare_upd key vh vd)
 have HC2:Hid (∀w,Calls Tryz.prog 173 #[strV key] w (BoolP true w)):=qh fun w=>by
  have:=reckey_ok key (by have:=h.key;simp only at this;omega) w
  rwa [show keyP key=true from by simp only[keyP,Bool.and_eq_true,decide_eq_true_eq];exact⟨h.ne,h.key⟩]at this
 have HC3:Hid (∀w,Calls Tryz.prog 174 #[.agg #[.bool false,.string ⟨#[]⟩]] w (BoolP true w)):=qh fun w=>by
  have:=recvalue_ok false [] (by decide) w
  rwa [show valueP false []=true from by decide]at this
 have HC4:Hid (∀w,Calls Tryz.prog 174 #[.agg #[.bool vh,strV vd]] w (BoolP true w)):=qh fun w=>by
  have:=recvalue_ok vh vd (by have:=h.val;simp only at this;omega) w
  rwa [show valueP vh vd=true from by
   have h1:=h.val;have h2:=h.has;simp only at h1 h2;simp only[valueP,Bool.and_eq_true,Bool.or_eq_true,decide_eq_true_eq];exact⟨h1,h2⟩]at this
 have HC5:Hid (∀w,Calls Tryz.prog 175 #[.int .i64 1,.int .i64 1] w (BoolP true w)):=qh fun w=>by
  have:=seq_ok 1 1 w
  rwa [show seqP 1 1=true from by decide]at this
 have HC6:Hid (∀w,Calls Tryz.prog 175 #[.int .i64 0,.int .i64 0] w (BoolP true w)):=qh fun w=>by
  have:=seq_ok 0 0 w
  rwa [show seqP 0 0=true from by decide]at this
 have HC7:Hid (∀w,Calls Tryz.prog 176 #[.int .i64 0] w (BoolP true w)):=qh fun w=>by
  have:=node_ok 0 w
  rwa [show nodeP 0=true from by decide]at this
 have HC8:=qh members_nil;have HC9:=qh locks_nil;have hb0:=(Upd.refl Nowhere w).alloc (.cells (updA key vh vd) 39);have HU0:=qh hb0;have HB0:=qh (Blk.new w 39 (updA key vh vd));clear hb0 h;unfold updA at*;go_enter Tryz.func122,Tryz.ntmps122
 go_wp2_with fail
 refine(HC0.out _).mono ?_;rintro e w2 ⟨rfl,hU1⟩;have hB1:=HB0.out.upd hU1 id;have b0:=hB1.cell 0;have b1:=hB1.cell 1;have b2:=hB1.cell 2;have b3:=hB1.cell 3;have b4:=hB1.cell 4;have b5:=hB1.cell 5;have b6:=hB1.cell 6;have b7:=hB1.cell 7;have b8:=hB1.cell 8;have b9:=hB1.cell 9;have b10:=hB1.cell 10;have b11:=hB1.cell 11;have b12:=hB1.cell 12;have b13:=hB1.cell 13;have b14:=hB1.cell 14;have b15:=hB1.cell 15;simp only[qA,qZ,qS]at b0 b1 b2 b3 b4 b5 b6 b7 b8 b9 b10 b11 b12 b13 b14 b15;have HB1:=qh hB1;have HU1:=qh (HU0.out.same hU1);clear hB1 hU1;go_wp2_with fail
 refine(HC1.out _).mono ?_;rintro e w3 ⟨rfl,hU2⟩;have hB2:=HB1.out.upd hU2 id;have b0:=hB2.cell 0;have b1:=hB2.cell 1;have b2:=hB2.cell 2;have b3:=hB2.cell 3;have b4:=hB2.cell 4;have b5:=hB2.cell 5;have b6:=hB2.cell 6;have b7:=hB2.cell 7;have b8:=hB2.cell 8;have b9:=hB2.cell 9;have b10:=hB2.cell 10;have b11:=hB2.cell 11;have b12:=hB2.cell 12;have b13:=hB2.cell 13;have b14:=hB2.cell 14;have b15:=hB2.cell 15;simp only[qA,qZ,qS]at b0 b1 b2 b3 b4 b5 b6 b7 b8 b9 b10 b11 b12 b13 b14 b15;have HB2:=qh hB2;have HU2:=qh (HU1.out.same hU2);clear hB2 hU2;go_wp2_with fail
 refine(HC2.out _).mono ?_;rintro e w4 ⟨rfl,hU3⟩;have hB3:=HB2.out.upd hU3 id;have b0:=hB3.cell 0;have b1:=hB3.cell 1;have b2:=hB3.cell 2;have b3:=hB3.cell 3;have b4:=hB3.cell 4;have b5:=hB3.cell 5;have b6:=hB3.cell 6;have b7:=hB3.cell 7;have b8:=hB3.cell 8;have b9:=hB3.cell 9;have b10:=hB3.cell 10;have b11:=hB3.cell 11;have b12:=hB3.cell 12;have b13:=hB3.cell 13;have b14:=hB3.cell 14;have b15:=hB3.cell 15;simp only[qA,qZ,qS]at b0 b1 b2 b3 b4 b5 b6 b7 b8 b9 b10 b11 b12 b13 b14 b15;have HB3:=qh hB3;have HU3:=qh (HU2.out.same hU3);clear hB3 hU3;go_wp2_with fail
 refine(HC3.out _).mono ?_;rintro e w5 ⟨rfl,hU4⟩;have hB4:=HB3.out.upd hU4 id;have b0:=hB4.cell 0;have b1:=hB4.cell 1;have b2:=hB4.cell 2;have b3:=hB4.cell 3;have b4:=hB4.cell 4;have b5:=hB4.cell 5;have b6:=hB4.cell 6;have b7:=hB4.cell 7;have b8:=hB4.cell 8;have b9:=hB4.cell 9;have b10:=hB4.cell 10;have b11:=hB4.cell 11;have b12:=hB4.cell 12;have b13:=hB4.cell 13;have b14:=hB4.cell 14;have b15:=hB4.cell 15;simp only[qA,qZ,qS]at b0 b1 b2 b3 b4 b5 b6 b7 b8 b9 b10 b11 b12 b13 b14 b15;have HB4:=qh hB4;have HU4:=qh (HU3.out.same hU4);clear hB4 hU4;go_wp2_with fail
 refine(HC4.out _).mono ?_;rintro e w6 ⟨rfl,hU5⟩;have hB5:=HB4.out.upd hU5 id;have b0:=hB5.cell 0;have b1:=hB5.cell 1;have b2:=hB5.cell 2;have b3:=hB5.cell 3;have b4:=hB5.cell 4;have b5:=hB5.cell 5;have b6:=hB5.cell 6;have b7:=hB5.cell 7;have b8:=hB5.cell 8;have b9:=hB5.cell 9;have b10:=hB5.cell 10;have b11:=hB5.cell 11;have b12:=hB5.cell 12;have b13:=hB5.cell 13;have b14:=hB5.cell 14;have b15:=hB5.cell 15;simp only[qA,qZ,qS]at b0 b1 b2 b3 b4 b5 b6 b7 b8 b9 b10 b11 b12 b13 b14 b15;have HB5:=qh hB5;have HU5:=qh (HU4.out.same hU5);clear hB5 hU5;go_wp2_with fail
 refine(HC5.out _).mono ?_;rintro e w7 ⟨rfl,hU6⟩;have hB6:=HB5.out.upd hU6 id;have b0:=hB6.cell 0;have b1:=hB6.cell 1;have b2:=hB6.cell 2;have b3:=hB6.cell 3;have b4:=hB6.cell 4;have b5:=hB6.cell 5;have b6:=hB6.cell 6;have b7:=hB6.cell 7;have b8:=hB6.cell 8;have b9:=hB6.cell 9;have b10:=hB6.cell 10;have b11:=hB6.cell 11;have b12:=hB6.cell 12;have b13:=hB6.cell 13;have b14:=hB6.cell 14;have b15:=hB6.cell 15;simp only[qA,qZ,qS]at b0 b1 b2 b3 b4 b5 b6 b7 b8 b9 b10 b11 b12 b13 b14 b15;have HB6:=qh hB6;have HU6:=qh (HU5.out.same hU6);clear hB6 hU6;go_wp2_with fail
 refine(HC6.out _).mono ?_;rintro e w8 ⟨rfl,hU7⟩;have hB7:=HB6.out.upd hU7 id;have b0:=hB7.cell 0;have b1:=hB7.cell 1;have b2:=hB7.cell 2;have b3:=hB7.cell 3;have b4:=hB7.cell 4;have b5:=hB7.cell 5;have b6:=hB7.cell 6;have b7:=hB7.cell 7;have b8:=hB7.cell 8;have b9:=hB7.cell 9;have b10:=hB7.cell 10;have b11:=hB7.cell 11;have b12:=hB7.cell 12;have b13:=hB7.cell 13;have b14:=hB7.cell 14;have b15:=hB7.cell 15;simp only[qA,qZ,qS]at b0 b1 b2 b3 b4 b5 b6 b7 b8 b9 b10 b11 b12 b13 b14 b15;have HB7:=qh hB7;have HU7:=qh (HU6.out.same hU7);clear hB7 hU7;go_wp2_with fail
 refine(HC6.out _).mono ?_;rintro e w9 ⟨rfl,hU8⟩;have hB8:=HB7.out.upd hU8 id;have b0:=hB8.cell 0;have b1:=hB8.cell 1;have b2:=hB8.cell 2;have b3:=hB8.cell 3;have b4:=hB8.cell 4;have b5:=hB8.cell 5;have b6:=hB8.cell 6;have b7:=hB8.cell 7;have b8:=hB8.cell 8;have b9:=hB8.cell 9;have b10:=hB8.cell 10;have b11:=hB8.cell 11;have b12:=hB8.cell 12;have b13:=hB8.cell 13;have b14:=hB8.cell 14;have b15:=hB8.cell 15;simp only[qA,qZ,qS]at b0 b1 b2 b3 b4 b5 b6 b7 b8 b9 b10 b11 b12 b13 b14 b15;have HB8:=qh hB8;have HU8:=qh (HU7.out.same hU8);clear hB8 hU8;go_wp2_with fail
 refine(HC7.out _).mono ?_;rintro e w10 ⟨rfl,hU9⟩;have hB9:=HB8.out.upd hU9 id;have b0:=hB9.cell 0;have b1:=hB9.cell 1;have b2:=hB9.cell 2;have b3:=hB9.cell 3;have b4:=hB9.cell 4;have b5:=hB9.cell 5;have b6:=hB9.cell 6;have b7:=hB9.cell 7;have b8:=hB9.cell 8;have b9:=hB9.cell 9;have b10:=hB9.cell 10;have b11:=hB9.cell 11;have b12:=hB9.cell 12;have b13:=hB9.cell 13;have b14:=hB9.cell 14;have b15:=hB9.cell 15;simp only[qA,qZ,qS]at b0 b1 b2 b3 b4 b5 b6 b7 b8 b9 b10 b11 b12 b13 b14 b15;have HB9:=qh hB9;have HU9:=qh (HU8.out.same hU9);clear hB9 hU9;go_wp2_with fail
 refine(HC8.out _).mono ?_;rintro e w11 ⟨rfl,hU10⟩;have hB10:=HB9.out.upd hU10 id;have b0:=hB10.cell 0;have b1:=hB10.cell 1;have b2:=hB10.cell 2;have b3:=hB10.cell 3;have b4:=hB10.cell 4;have b5:=hB10.cell 5;have b6:=hB10.cell 6;have b7:=hB10.cell 7;have b8:=hB10.cell 8;have b9:=hB10.cell 9;have b10:=hB10.cell 10;have b11:=hB10.cell 11;have b12:=hB10.cell 12;have b13:=hB10.cell 13;have b14:=hB10.cell 14;have b15:=hB10.cell 15;simp only[qA,qZ,qS]at b0 b1 b2 b3 b4 b5 b6 b7 b8 b9 b10 b11 b12 b13 b14 b15;have HB10:=qh hB10;have HU10:=qh (HU9.out.same hU10);clear hB10 hU10;go_wp2_with fail
 refine(HC9.out _).mono ?_;rintro e w12 ⟨rfl,hU11⟩;have hB11:=HB10.out.upd hU11 id;have b0:=hB11.cell 0;have b1:=hB11.cell 1;have b2:=hB11.cell 2;have b3:=hB11.cell 3;have b4:=hB11.cell 4;have b5:=hB11.cell 5;have b6:=hB11.cell 6;have b7:=hB11.cell 7;have b8:=hB11.cell 8;have b9:=hB11.cell 9;have b10:=hB11.cell 10;have b11:=hB11.cell 11;have b12:=hB11.cell 12;have b13:=hB11.cell 13;have b14:=hB11.cell 14;have b15:=hB11.cell 15;simp only[qA,qZ,qS]at b0 b1 b2 b3 b4 b5 b6 b7 b8 b9 b10 b11 b12 b13 b14 b15;have HB11:=qh hB11;have HU11:=qh (HU10.out.same hU11);clear hB11 hU11;go_wp2_with fail
 go_ret;exact⟨rfl,HU11.out⟩
theorem enc_upd{key:Bs}{vh:Bool}{vd:Bs}(h:CellOK (key,(vh,vd)))(w0:World):EncAt w0 ((updP key vh vd).rv nilS) (updP key vh vd).bytes 0:=by
 intro w _;rw[updA_eq];have hlen:=updP_len h;have HM:=qh (may_upd h)
 have hby:∀w,Calls Tryz.prog 123 #[.agg (updA key vh vd)] w fun e w'=>∃A c,e= .returned (.slice A (updP key vh vd).bytes.length c)∧OwnB w.heap.size w' (.slice A (updP key vh vd).bytes.length c) (updP key vh vd).bytes∧Upd Nowhere w w':=fun w=>by
  have:=bytes_ok (w:=w) (updP key vh vd) nilS (by simp[updP,kindP]) (updP_nil w key vh vd) (updP_good h)
  rwa [updA_eq]at this
 have HBY:=qh hby;clear hby h;generalize (updP key vh vd).bytes=bs at*;have hlI:((bs.length:Nat):Int)≤100:=by omega
 have hlN:¬4096<bs.length:=by omega
 have HU0:=qh ((Upd.refl Nowhere w).alloc (.cells (updA key vh vd) 39));have HB:=qh (Blk.new w 39 (updA key vh vd));unfold updA at*;clear hlen;go_enter Tryz.func78,Tryz.ntmps78
 go_wp2_with fail
 refine(HM.out _).mono ?_;rintro e w2 ⟨rfl,hU1⟩;have hB1:=HB.out.upd hU1 id;have b0:=hB1.cell 0;have b1:=hB1.cell 1;have b2:=hB1.cell 2;have b3:=hB1.cell 3;have b4:=hB1.cell 4;have b5:=hB1.cell 5;have b6:=hB1.cell 6;have b7:=hB1.cell 7;have b8:=hB1.cell 8;have b9:=hB1.cell 9;have b10:=hB1.cell 10;have b11:=hB1.cell 11;have b12:=hB1.cell 12;have b13:=hB1.cell 13;have b14:=hB1.cell 14;have b15:=hB1.cell 15;simp only[qA,qZ,qS]at b0 b1 b2 b3 b4 b5 b6 b7 b8 b9 b10 b11 b12 b13 b14 b15;have HU1:=qh (HU0.out.same hU1);clear hB1 hU1;go_wp2_with fail
 refine(HBY.out _).mono ?_;rintro e w3 ⟨A,c,rfl,hO3,hU3⟩;have HO3:=qh hO3;have HU3:=qh hU3;clear hO3 hU3;go_wp2_with fail
 go_ret2;exact⟨A,c,rfl,HO3.out.far fun k hk=>Nat.le_trans HU1.out.size (HO3.out.new k hk),HU1.out.same HU3.out⟩
section
variable {P:Program} {ops:Array Oper} {Q:Exit→Act→World→Prop} {a:Act} {w:World} {rest:List Oper} {o:Oper}
end
structure RdS(R g t:Nat)(rest:Bs)(cs:Array Value)(w w':World):Prop where
 rd:RAt w' R (rest,0)
 blk:Blk w' g t cs
 upd:Upd (RdF R g) w w'
theorem coder_keepR{R g bx:Nat}(h1:bx≠R)(h2:bx≠g):∀w1 w2,Blk w1 bx 214 #[.pointer none,.pointer (some ⟨R,0,none⟩)]→Upd (RdF R g) w1 w2→w2.cell? ⟨bx,0,none⟩=some (.pointer none)∧w2.cell? ⟨bx,1,none⟩=some (.pointer (some ⟨R,0,none⟩)):=fun w1 w2 hb hu=>by
 have hb2:=hb.upd hu (fun e=>by rcases e with e | e<;>omega)
 exact⟨hb2.cell 0,hb2.cell 1⟩
theorem set_get{cs:Array Value}{o:Nat}{v v0:Value}(h:cs[o]? =some v0):(cs.setIfInBounds o v)[o]? =some v:=by
 obtain⟨h1,_⟩:=Array.getElem?_eq_some_iff.1 h;simp[h1]
theorem set_far{cs:Array Value}{o p:Nat}{v:Value}(h:o≠p):(cs.setIfInBounds o v)[p]? =cs[p]? :=Array.getElem?_setIfInBounds_ne h
theorem ctext_r{R g t off:Nat}{s rest:Bs}{w:World}{cs:Array Value}(h:RAt w R (textB s++rest,0))(hs:s.length≤32)(hl:(textB s++rest).length≤1000000)(hb:Blk w g t cs)(ht:t≠5)(hg:g≠R){v0:Value}(hc:cs[off]? =some v0):
 Calls Tryz.prog 183 #[cR R,.pointer (some ⟨g,off,none⟩)] w (RdP R g t rest (cs.setIfInBounds off (strV s)) w):=by
 have hU0:=(Upd.refl Nowhere w).alloc (.cells #[.pointer none,.pointer (some ⟨R,0,none⟩)] 214);have hR1:=h.upd hU0 id fun _ e=>absurd e id
 have hb1:=hb.upd hU0 id;have hnum:=rtext_ok hR1 hl 32 (by omega)
 have hrd:textR 32 (textB s++rest,0)=(s,(rest,0)):=textR_text hs (by omega) rest
 rw[hrd]at hnum;have HU0:=qh hU0;have HB1:=qh hb1;have HC:=qh hc;clear h hs hl hb hc hU0 hR1 hb1 hrd;unfold cR;go_enter Tryz.func183,Tryz.ntmps183
 go_wp2_with fail
 refine hnum.mono ?_;clear hnum;rintro e w2 ⟨rfl,hR2,hU2⟩;have hb2:=HB1.out.upd hU2 hg;have c2:=hb2.cell off;rw[HC.out]at c2;have f2:=hb2.frozen off;have HB2:=qh hb2;have HR2:=qh hR2;have HU2:=qh hU2;clear hb2 hR2 hU2;go_wp2_with fail
 go_end0;have hu3:=Upd.one w2 g off (strV s);refine⟨rfl,HR2.out.upd hu3 (fun e=>hg e.symm) (noU8_blk HB2.out ht),HB2.out.set_ off _,?_⟩
 exact(HU0.out.any.same (HU2.out.mono fun k _ e=> .inl e)).same (hu3.mono fun k _ e=> .inr e)
theorem cflag_r{R g t off:Nat}{b:Bool}{rest:Bs}{w:World}{cs:Array Value}(h:RAt w R (flagB b++rest,0))(hl:(flagB b++rest).length≤1000000)(hb:Blk w g t cs)(ht:t≠5)(hg:g≠R){v0:Value}(hc:cs[off]? =some v0):
 Calls Tryz.prog 240 #[cR R,.pointer (some ⟨g,off,none⟩)] w (RdP R g t rest (cs.setIfInBounds off (.bool b)) w):=by
 have hU0:=(Upd.refl Nowhere w).alloc (.cells #[.pointer none,.pointer (some ⟨R,0,none⟩)] 214);have hR1:=h.upd hU0 id fun _ e=>absurd e id
 have hb1:=hb.upd hU0 id;have hnum:=rflag_ok hR1 hl;have hrd:flagR (flagB b++rest,0)=(b,(rest,0)):=flagR_flag b rest;rw[hrd]at hnum;have HU0:=qh hU0;have HB1:=qh hb1;have HC:=qh hc;clear h hl hb hc hU0 hR1 hb1 hrd;unfold cR;go_enter Tryz.func240,Tryz.ntmps240
 go_wp2_with fail
 refine hnum.mono ?_;clear hnum;rintro e w2 ⟨rfl,hR2,hU2⟩;have hb2:=HB1.out.upd hU2 hg;have c2:=hb2.cell off;rw[HC.out]at c2;have f2:=hb2.frozen off;have HB2:=qh hb2;have HR2:=qh hR2;have HU2:=qh hU2;clear hb2 hR2 hU2;go_wp2_with fail
 go_end0;have hu3:=Upd.one w2 g off (.bool b);refine⟨rfl,HR2.out.upd hu3 (fun e=>hg e.symm) (noU8_blk HB2.out ht),HB2.out.set_ off _,?_⟩
 exact(HU0.out.any.same (HU2.out.mono fun k _ e=> .inl e)).same (hu3.mono fun k _ e=> .inr e)
def valSet(cs:Array Value)(off:Nat)(b:Bool)(d:Bs):Array Value:=if b=true then (cs.setIfInBounds off (.bool true)).setIfInBounds (off+1) (strV d) else cs.setIfInBounds off (.bool false)
theorem cval_r{R g t off:Nat}{b:Bool}{d rest:Bs}{w:World}{cs:Array Value}(h:RAt w R (valB b d++rest,0))(hd:d.length≤32)(hl:(valB b d++rest).length≤1000000)(hb:Blk w g t cs)(ht:t≠5)(hg:g≠R){v0 v1:Value}(hc:cs[off]? =some v0)(hc1:cs[off+1]? =some v1):
 Calls Tryz.prog 184 #[cR R,.pointer (some ⟨g,off,none⟩)] w (RdP R g t rest (valSet cs off b d) w):=by
 have hU0:=(Upd.refl Nowhere w).alloc (.cells #[.pointer none,.pointer (some ⟨R,0,none⟩)] 214);have hB:=Blk.new w 214 #[.pointer none,.pointer (some ⟨R,0,none⟩)];have hR1:=h.upd hU0.drew id fun _ e=>absurd e id
 have hb1:=hb.upd hU0.drew id;have hbR:w.heap.size≠R:=by have:=h.lt;omega
 have hbg:w.heap.size≠g:=by have:=hb.lt;omega
 have hvb:valB b d++rest=flagB b++((if b then textB d else [])++rest):=by unfold valB;rw[qaa]
 rw[hvb]at hR1 hl;have hfl:=cflag_r (off:=off) hR1 hl hb1 ht hg hc;have HFL:=qh hfl;have HK:=qh (coder_keepR (g:=g) hbR hbg);have HU0:=qh hU0;have HB:=qh hB;have HC:=qh hc;have HC1:=qh hc1;have HL:=qh hl;have b0:=hB.cell 0;have b1:=hB.cell 1;simp only[qA,qZ,qS]at b0 b1;clear h hl hb hc hc1 hU0 hR1 hb1 hvb hfl hB;unfold cR at*;go_enter Tryz.func184,Tryz.ntmps184
 go_wp2_with fail
 generalize w.alloc (.cells #[.pointer none,.pointer (some ⟨R,0,none⟩)] 214)=w1 at*;generalize w.heap.size=bx at*;go_cut [8] (fun _ wz=>RdS R g t ((if b then textB d else [])++rest) (cs.setIfInBounds off (.bool b)) w1 wz)
 case first=>
  go_region_held3 (fun w'=>w'.cell? ⟨bx,0,none⟩=some (.pointer none)∧w'.cell? ⟨bx,1,none⟩=some (.pointer (some ⟨R,0,none⟩))) (first | exact⟨b0,b1⟩ | exact k2)
   (first
     | (go_at_call 240
        refine HFL.out.mono ?_;rintro e w2 ⟨rfl,hR2,hB2,hU⟩;have k2:=HK.out _ _ HB.out.drew hU;have HS2:Hid (RdS R g t ((if b then textB d else [])++rest) (cs.setIfInBounds off (.bool b)) w1 w2):=qh ⟨hR2,hB2,⟨hU.os,hU.tape,hU.output,hU.size,hU.block⟩⟩
        clear hR2 hB2 hU))
  all_goals
   go_wp2_with fail
   go_meet;exact HS2.out
 case rest=>
  obtain⟨hR2,hb2,hU2⟩:=hcut;have hB2:=HB.out.upd hU2 (fun e=>by rcases e with e | e<;>omega)
  have b0:=hB2.cell 0;have b1:=hB2.cell 1;have g0:=hb2.cell off;rw[set_get HC.out]at g0;simp only[qA,qZ,qS]at b0 b1
  cases b with
  | false=>
    have HR2:=qh hR2;have HB2:=qh hb2;have HU2:=qh hU2;clear hR2 hb2 hU2 hB2 HFL;go_wp2_with fail
    refine ret_none rfl rfl ?_;exact⟨rfl,HR2.out,HB2.out,HU0.out.any.same HU2.out⟩
  | true=>
    have htx:=ctext_r (off:=off+1) (hR2.upd (Upd.refl Nowhere _).drew id fun _ e=>absurd e id) hd (by have:=HL.out;simp only[if_true,qla]at this ⊢;omega) (hb2.upd (Upd.refl Nowhere _).drew id) ht hg (by rw[set_far (by omega)];exact HC1.out)
    have HT:=qh htx;have HB2:=qh hB2;have HU2:=qh hU2;clear hR2 hb2 hU2 hB2 htx HFL;unfold cR at HT;go_wp2_with fail
    go_region_held3 (fun w'=>w'.cell? ⟨bx,0,none⟩=some (.pointer none)∧w'.cell? ⟨bx,1,none⟩=some (.pointer (some ⟨R,0,none⟩))) (first | exact⟨b0,b1⟩ | exact k2)
     (first
       | (go_at_call 183
          refine HT.out.mono ?_;rintro e w3 ⟨rfl,hR3,hB3,hU⟩;have k2:=HK.out _ _ HB2.out.drew hU;have HR3:=qh hR3;have HB3:=qh hB3;have HU3:=qh hU;clear hR3 hB3 hU))
    all_goals
     go_wp2_with fail
     refine ret_none rfl rfl ?_;exact⟨rfl,HR3.out,HB3.out,HU0.out.any.same (HU2.out.same ⟨HU3.out.os,HU3.out.tape,HU3.out.output,HU3.out.size,HU3.out.block⟩)⟩
end Go.Proofs.YtdfccegeihfdpaaGreatDoor
