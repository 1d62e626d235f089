/-
  The law's example, walked.
-/
import Derived.Test.YtdfccegeihfdpaaGreatDoorAPoH
set_option maxRecDepth 100000
set_option maxHeartbeats 8000000
namespace Go.Proofs.YtdfccegeihfdpaaGreatDoor
open Go Go.RowKit
theorem findF_VP{L:List FrB}{n:Nat}(h:∀v∈VP L,v.1≠n):findF L (n:Nat)=none:=by
 cases hf:findF L (n:Nat) with
 | none=>rfl
 | some q=>
   obtain⟨hq,hn⟩:=findF_some hf;exact absurd (by show q.1.no=n;omega) (h _ (List.mem_map.2 ⟨q,hq,rfl⟩))
theorem VP_len(L:List FrB):(VP L).length=L.length:=qlm ..
theorem FetV.new{n most:Nat}{L L':List FrB}{x:Int}(h:FetV n most L L' x){V:List (Nat×Nat)}(hV:VP L=V)(hn:∀v∈V,v.1≠n)(hl:V.length<most):x=0∧VP L'=V++[(n,1)]:=by
 subst hV;have hf:=findF_VP hn;rw[VP_len]at hl
 rcases h with⟨_,h1,_⟩ | ⟨h0,_,_,h2⟩ | ⟨_,_,h1,_⟩ | ⟨_,_,h1,_⟩
 ·exact absurd hf h1
 ·exact⟨h0,h2⟩
 ·omega
 ·omega
theorem FetV.full{n most:Nat}{L L':List FrB}{x:Int}(h:FetV n most L L' x){V:List (Nat×Nat)}(hV:VP L=V)(hn:∀v∈V,v.1≠n)(hl:V.length=most)(hp:∀v∈V,v.2≠0):x=120∧VP L'=V:=by
 subst hV;have hf:=findF_VP hn;rw[VP_len]at hl
 rcases h with⟨_,h1,_⟩ | ⟨h0,_,h1,h2⟩ | ⟨_,_,_,q,hq,hz,_⟩ | ⟨h0,_,h1,_,h2⟩
 ·exact absurd hf h1
 ·omega
 ·exact absurd hz (hp _ (List.mem_map.2 ⟨q,hq,rfl⟩))
 ·exact⟨h0,h2⟩
theorem FetV.ev{n most:Nat}{L L':List FrB}{x:Int}(h:FetV n most L L' x){V:List (Nat×Nat)}(hV:VP L=V)(hn:∀v∈V,v.1≠n)(hl:V.length=most)(hp:∃v∈V,v.2=0):x=0∧∃m,(m,0)∈V∧VP L'=(V.filter fun v=>decide (v.1≠m))++[(n,1)]:=by
 subst hV;have hf:=findF_VP hn;rw[VP_len]at hl
 rcases h with⟨_,h1,_⟩ | ⟨h0,_,h1,h2⟩ | ⟨h0,_,_,q,hq,hz,h2⟩ | ⟨h0,_,h1,h3,h2⟩
 ·exact absurd hf h1
 ·omega
 ·exact⟨h0,q.1.no,hz▸List.mem_map.2 ⟨q,hq,rfl⟩,h2⟩
 ·obtain⟨v,hv,hz⟩:=hp;obtain⟨q,hq,rfl⟩:=List.mem_map.1 hv;exact absurd hz (h3 q hq)
theorem sorted_same{A B:List Nat}(ha:A.Pairwise (·<·))(hb:B.Pairwise (·<·))(h:∀n,n∈A↔n∈B):A=B:=by
 have na:A.Nodup:=ha.imp fun h=>Nat.ne_of_lt h
 have nb:B.Nodup:=hb.imp fun h=>Nat.ne_of_lt h
 exact perm_sorted (fun n:Nat=>(n:Int)) ((List.perm_ext_iff_of_nodup na nb).2 h) (ha.imp fun h=>by omega) (hb.imp fun h=>by omega)
theorem FrsP.nos{T:PoS}{w':World}{v:Value}{os:List FrO}(h:FrsP T w' v os){V:List (Nat×Nat)}(hV:VP T.L=V){A:List Nat}(hA:A.Pairwise (·<·))(hs:∀n,n∈A↔n∈V.map (·.1)):os.map (fun o=>o.1.no)=A:=by
 refine sorted_same h.sort hA fun n=> ?_
 rw[hs,←hV];constructor
 ·intro hn;obtain⟨o,ho,rfl⟩:=List.mem_map.1 hn;obtain⟨q,hq,e⟩:=h.of o ho;exact List.mem_map.2 ⟨_,List.mem_map.2 ⟨q,hq,rfl⟩,by show q.1.no=_;rw[e]⟩
 ·intro hn;obtain⟨v,hv,rfl⟩:=List.mem_map.1 hn;obtain⟨q,hq,rfl⟩:=List.mem_map.1 hv;obtain⟨o,ho,e⟩:=h.mem q hq;exact List.mem_map.2 ⟨o,ho,by show o.1.no=q.1.no;rw[e]⟩
theorem FrsP.at_{T:PoS}{w':World}{v:Value}{os:List FrO}(h:FrsP T w' v os){i:Nat}{o:FrO}(ho:os[i]? =some o):∃b off c,v= .slice (some ⟨b,off,none⟩) os.length c∧b<w'.heap.size∧w'.cell? ⟨b,off+i * 6,none⟩=some (.int .i64 (o.1.no:Nat)):=by
 obtain⟨B,hO⟩:=h.own;obtain⟨b,off,c,hv,hb,hc⟩:=hO.els.get frO_len ho;exact⟨b,off,c,hv,hb,by have:=hc 0 (by omega);rw[Nat.add_zero]at this;exact this⟩
section
variable {bz P l d e0 pages most c:Nat} {w:World} {p:DkP} {S:LogS} {T:PoS} {M:DkM}
theorem Blk.play{x:Nat}{cs:Array Value}(h:Blk w x 65 cs){w':World}(hu:Upd (PoolF bz w) w w'):Blk w' x 65 cs:=h.upd hu (h.noPool rfl)
end
theorem awake_ok{w:World}(hW:HalfW w)(hz:0<w.heap.size):Calls Tryz.prog 21 #[] w fun e w'=>e= .returned (.bool true)∧Upd (fun k=>w.heap.size≤k) w w':=by
 have HB:=qh (begun_ok w hW hz 4 2 (by omega) (by omega) (by omega) (by omega))
 have HW:=qh hW;clear hW hz;have HB':Hid (Calls Tryz.prog 22 #[.int .i64 4,.int .i64 2] w fun e w'=>∃x,e= .returned (.pointer (some ⟨x,0,none⟩))∧BegP 4 2 w x w'):=HB
 clear HB;go_enter Tryz.func21,Tryz.ntmps21
 go_wp2_with fail
 refine HB'.out.mono ?_;rintro e w1 ⟨x,rfl,hbeg⟩;obtain⟨P,l,q,d,p1,S1,T1,hx1,h1,hT1,_⟩:=begK HW.out (by omega) (by omega) hbeg
 have HU1:Hid (Upd (fun k=>w.heap.size≤k) w w1):=qh (hbeg.upd.any)
 have HX1:=qh hx1;have V1:VP T1.L=[]:=by rw[hT1];rfl
 have P1:pinsP T1.L 0=0:=by rw[hT1];rfl
 have hf1:=fetchK h1 (by omega) 0 (by omega)
 rw[show((0:Nat):Int)=0 from rfl]at hf1;have HF1:=qh hf1;have c1:=hx1.cell 2;simp only[qA,qZ,qS]at c1;have HV1:=qh V1;have HP1:=qh P1;clear hbeg hx1 h1 hT1 V1 P1 HB' hf1;go_wp2_with fail
 refine HF1.out.mono ?_;rintro e w2 ⟨p2,S2,T2,M2,x2,rfl,h2,hu2,hf2⟩;obtain⟨rfl,V2⟩:=hf2.view.new HV1.out (by simp) (by simp)
 have hx2:=HX1.out.play hu2;have HU2:Hid (Upd (fun k=>w.heap.size≤k) w w2):=qh (HU1.out.same (hu2.mono fun k _ h=>h.1))
 have P2:pinsP T2.L 0=1:=by
  rcases hf2.code with⟨_,hc⟩ | ⟨h9,_⟩
  ·rw[hc 0,if_pos rfl,HP1.out]
  ·cases h9
 have HP2:=qh P2;have hf2n:=fetchK h2 (by omega) 1 (by omega)
 rw[show((1:Nat):Int)=1 from rfl]at hf2n;have HF2:=qh hf2n;have c2:=hx2.cell 2;simp only[qA,qZ,qS]at c2;have HX2:=qh hx2;have HV2:=qh V2;clear hu2 hf2 h2 hx2 V2 P2 hf2n c1 HF1;go_wp2_with fail
 refine HF2.out.mono ?_;rintro e w3 ⟨p3,S3,T3,M3,x3,rfl,h3,hu3,hf3⟩;obtain⟨rfl,V3⟩:=hf3.view.new HV2.out (by simp) (by simp)
 have hx3:=HX2.out.play hu3;have HU3:Hid (Upd (fun k=>w.heap.size≤k) w w3):=qh (HU2.out.same (hu3.mono fun k _ h=>h.1))
 have P3:pinsP T3.L 0=1:=by
  rcases hf3.code with⟨_,hc⟩ | ⟨h9,_⟩
  ·rw[hc 0,if_neg (by omega),HP2.out]
  ·cases h9
 have HP3:=qh P3;have hf3n:=fetchK h3 (by omega) 2 (by omega)
 rw[show((2:Nat):Int)=2 from rfl]at hf3n;have HF3:=qh hf3n;have c3:=hx3.cell 2;simp only[qA,qZ,qS]at c3;have HX3:=qh hx3;have HV3:=qh V3;clear hu3 hf3 h3 hx3 V3 P3 hf3n c2 HF2;go_wp2_with fail
 refine HF3.out.mono ?_;rintro e w4 ⟨p4,S4,T4,M4,x4,rfl,h4,hu4,hf4⟩;obtain⟨rfl,V4⟩:=hf4.view.full HV3.out (by simp) (by simp) (by simp)
 have hx4:=HX3.out.play hu4;have HU4:Hid (Upd (fun k=>w.heap.size≤k) w w4):=qh (HU3.out.same (hu4.mono fun k _ h=>h.1))
 have P4:pinsP T4.L 0=1:=by
  rcases hf4.code with⟨h9,_⟩ | ⟨_,_,_,hc⟩
  ·cases h9
  ·rw[hc 0,HP3.out]
 obtain⟨q4,hq4,_⟩:=h4.inv.pinS_of (n:=0) (by omega) (by omega)
 have hup:=h4.inv.unpin_pins (n:=0) (by omega) (by omega)
 have V5:=h4.inv.unpin_view 0 hq4;rw[V4]at V5;have hf4n:=unpinK h4 (by omega) ((0:Nat):Int)
 rw[hup.1]at hf4n;have HF4:Hid (Calls Tryz.prog 29 #[.pointer (some ⟨P,0,none⟩),.int .i64 0] w4 fun e w'=>e= .returned (.int .i64 0)∧PSt w.heap.size P l d 0 4 2 (0+4+4+4) w' p4 S4 (unpinS T4 ((0:Nat):Int)).1 M4∧Upd (PoolF w.heap.size w4) w4 w'):=qh hf4n
 have HV5:=qh V5;have c4:=hx4.cell 2;simp only[qA,qZ,qS]at c4;have HX4:=qh hx4;have HV4:=qh V4;clear hu4 hf4 h4 hx4 V4 V5 P4 hf4n c3 HF3 hup hq4 HV4;go_wp2_with fail
 refine HF4.out.mono ?_;rintro e w5 ⟨rfl,h5,hu5⟩;have hx5:=HX4.out.play hu5;have HU5:Hid (Upd (fun k=>w.heap.size≤k) w w5):=qh (HU4.out.same (hu5.mono fun k _ h=>h.1))
 have c5:=hx5.cell 2;simp only[qA,qZ,qS]at c5;have HX5:=qh hx5;have hf5n:=fetchK h5 (by omega) 2 (by omega)
 rw[show((2:Nat):Int)=2 from rfl]at hf5n;have HF5:=qh hf5n;generalize (unpinS T4 ((0:Nat):Int)).1=T5 at*;clear hu5 h5 hx5 hf5n c4 HF4;go_wp2_with fail
 refine HF5.out.mono ?_;rintro e w6 ⟨p6,S6,T6,M6,x6,rfl,h6,hu6,hf6⟩;obtain⟨rfl,m6,hm6,V6⟩:=hf6.view.ev HV5.out (by decide) (by decide) ⟨(0,0),by decide,rfl⟩
 have hm6':m6=0:=by
  have:(m6,0)∈[((0:Nat),(0:Nat)),(1,1)]:=hm6;simp at this;exact this
 subst hm6';have hx6:=HX5.out.play hu6;have HU6:Hid (Upd (fun k=>w.heap.size≤k) w w6):=qh (HU5.out.same (hu6.mono fun k _ h=>h.1))
 have c6:=hx6.cell 2;simp only[qA,qZ,qS]at c6;have V6':VP T6.L=[(1,1),(2,1)]:=V6;have HV6:=qh V6';have HFR:=qh (frames_ok h6.at_ (h6.inv.bounds (by omega)))
 clear hu6 hf6 h6 hx6 V6 V6' hm6 c5 HF5;go_wp2_with fail
 refine HFR.out.mono ?_;rintro e w7 ⟨v7,os,rfl,hF,hu7⟩;have hno:=hF.nos HV6.out (A:=[1,2]) (by decide) (by simp)
 have hlen:os.length=2:=by have:=congrArg List.length hno;simpa using this
 obtain⟨o1,o2,rfl⟩:∃o1 o2,os=[o1,o2]:=by
  rcases os with _ | ⟨a,_ | ⟨b,_ | ⟨c,r⟩⟩⟩
  ·cases hlen
  ·cases hlen
  ·exact⟨a,b,rfl⟩
  ·simp at hlen
 clear hlen;simp only[List.map_cons,List.map_nil,List.cons.injEq,and_true]at hno;obtain⟨n1,n2⟩:=hno;obtain⟨b,off,c,rfl,hb,r0⟩:=hF.at_ (i:=0) (o:=o1) rfl;obtain⟨_,_,_,he,_,r1⟩:=hF.at_ (i:=1) (o:=o2) rfl
 cases he;rw[n1]at r0;rw[n2]at r1;simp only[List.length_cons,List.length_nil,Nat.zero_mul,Nat.add_zero,Nat.one_mul]at r0 r1 ⊢;have HU7:=qh (HU6.out.same hu7.any);clear hF hu7 n1 n2 HFR;go_wp2_with fail
 go_ret;exact⟨rfl,HU7.out⟩
end Go.Proofs.YtdfccegeihfdpaaGreatDoor
