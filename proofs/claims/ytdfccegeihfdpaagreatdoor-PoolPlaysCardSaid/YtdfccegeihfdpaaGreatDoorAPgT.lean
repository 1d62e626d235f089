/-
  Contracts of layer 12: New, and the document's pool made.
-/
import Derived.Test.YtdfccegeihfdpaaGreatDoorAPgQ
set_option maxRecDepth 100000
set_option maxHeartbeats 4000000
namespace Go.Proofs.YtdfccegeihfdpaaGreatDoor
open Go Go.RowKit
section
variable {P:Program} {ops:Array Oper} {Q:Exit→Act→World→Prop} {a:Act} {w:World} {o:Oper}
end
theorem mkRow(w:World)(t e:TypeId)(z:Value)(sz bytes n:Nat)(ht:Tryz.prog.underlying t=some (.slice e))(hi:(Tryz.prog.info? e).map (fun i=>(i.zero,i.size,i.bytes))=some (some z,sz,bytes))(hb:bytes≤100)(hn:n≤100):(Instr.makeSlice t (.int .i64 (n:Nat)) (.int .i64 (n:Nat))).run Tryz.prog w= .ok (.slice (some ⟨w.heap.size,0,none⟩) n n) (w.alloc (.cells (madeCells z.cells (n * sz)) e)):=by
 cases hq:Tryz.prog.info? e with
 | none=>rw[hq]at hi;cases hi
 | some i=>
   rw[hq]at hi;simp only[Option.map_some,Option.some.injEq,Prod.mk.injEq]at hi;obtain⟨h1,h2,h3⟩:=hi;have hm:i.bytes * n≤100 * 100:=Nat.mul_le_mul (by omega) hn
   have h:=run_make (P:=Tryz.prog) w t e i z ht hq h1 .i64 .i64 (n:Nat) (n:Nat) (by omega) (by omega) (by rw[←Int.natCast_mul];omega) (by omega)
   rw[h2]at h;exact h
theorem mkPages(w:World)(n:Nat)(hn:n≤100):(Instr.makeSlice 59 (.int .i64 (n:Nat)) (.int .i64 (n:Nat))).run Tryz.prog w= .ok (.slice (some ⟨w.heap.size,0,none⟩) n n) (w.alloc (.cells (madeCells #[.int .i64 0,.slice none 0 0] (n * 2)) 72)):=
 mkRow w _ _ (.agg #[.int .i64 0,.slice none 0 0]) 2 32 n Tryz.underlying59 (by kernel_rfl) (by decide) hn
theorem mkInts(w:World)(n:Nat)(hn:n≤100):(Instr.makeSlice 33 (.int .i64 (n:Nat)) (.int .i64 (n:Nat))).run Tryz.prog w= .ok (.slice (some ⟨w.heap.size,0,none⟩) n n) (w.alloc (.cells (madeCells #[.int .i64 0] (n * 1)) 3)):=
 mkRow w _ _ (.int .i64 0) 1 8 n Tryz.underlying33 (by kernel_rfl) (by decide) hn
structure RefNew(lo:Nat)(w':World)(q pages most:Nat):Prop where
 ex:∃a b,lo≤q∧lo≤a∧lo≤b∧Blk w' q 91 #[.int .i64 (most:Nat),.slice none 0 0,.slice (some ⟨a,0,none⟩) pages pages,.slice (some ⟨b,0,none⟩) pages pages,.int .i64 0,.int .i64 0,.int .i64 0]∧Blk w' a 72 (madeCells #[.int .i64 0,.slice none 0 0] (pages * 2))∧Blk w' b 3 (madeCells #[.int .i64 0] (pages * 1))
theorem rnew_ok(w:World)(pages most:Nat)(hp:pages≤100):Calls Tryz.prog 75 #[.int .i64 (pages:Nat),.int .i64 (most:Nat)] w fun e w'=>∃q,e= .returned (.pointer (some ⟨q,0,none⟩))∧RefNew w.heap.size w' q pages most∧Upd Nowhere w w'∧w.heap.size≤q:=by
 have h1:=fun W:World=>mkPages W pages hp
 have h2:=fun W:World=>mkInts W pages hp
 generalize hc1:madeCells #[.int .i64 0,.slice none 0 0] (pages * 2)=c1 at h1;generalize hc2:madeCells #[.int .i64 0] (pages * 1)=c2 at h2;have HC1:=qh hc1;have HC2:=qh hc2;clear hc1 hc2 hp;go_enter Tryz.func75,Tryz.ntmps75
 go_wp2_with fail
 go_region
 all_goals
  go_wp2_with fail
  go_ret;have hc1:=HC1.out;have hc2:=HC2.out;subst hc1 hc2
 ·exact⟨w.heap.size+1+1,rfl,⟨_,_,(by first | exact qlr _ | omega | (simp;omega) | simp),(by first | exact qlr _ | omega | (simp;omega) | simp),(by first | exact qlr _ | omega | (simp;omega) | simp),(Blk.new' _ _ _ (by simp)).upd (Upd.refl Nowhere _).drew id,(((Blk.new w _ _).alloc _).alloc _).upd (Upd.refl Nowhere _).drew id,((Blk.new' (w.alloc _) _ _ (by simp)).alloc _).upd (Upd.refl Nowhere _).drew id⟩,((((Upd.refl _ w).alloc _).alloc _).alloc _).drew,by omega⟩
 ·exact⟨w.heap.size+1+1,rfl,⟨_,_,(by first | exact qlr _ | omega | (simp;omega) | simp),(by first | exact qlr _ | omega | (simp;omega) | simp),(by first | exact qlr _ | omega | (simp;omega) | simp),(Blk.new' _ _ _ (by simp)).upd (Upd.refl Nowhere _).drew id,((Blk.new' (w.alloc _) _ _ (by simp)).alloc _).upd (Upd.refl Nowhere _).drew id,(((Blk.new w _ _).alloc _).alloc _).upd (Upd.refl Nowhere _).drew id⟩,((((Upd.refl _ w).alloc _).alloc _).alloc _).drew,by omega⟩
theorem dnew_pm(w:World)(n:Nat)(h1:1≤n)(h2:n≤4096):Calls Tryz.prog 51 #[.int .i64 (n:Int)] w fun e w'=>∃p,e= .returned (.tuple #[.pointer (some ⟨p.d,0,none⟩),.int .i64 0])∧DiskAt w' p (DiskS.empty n)∧Upd Nowhere w w'∧(∀k,p.foot k→w.heap.size≤k)∧(p.ms<w.heap.size+3∧p.mn<w.heap.size+3)∧w.heap.size+3≤w'.heap.size:=by
 have h1':¬(n:Int)<1:=by omega
 have h2':¬(4096:Int)<(n:Int):=by omega
 have hmm:=@run_makeMap Tryz.prog;clear h1 h2;go_enter Tryz.func51,Tryz.ntmps51
 go_wp2_with fail
 go_ret2;have hs1:(w.alloc (.map #[] 0)).heap.size=w.heap.size+1:=by simp
 have hs2:((w.alloc (.map #[] 0)).alloc (.map #[] 0)).heap.size=w.heap.size+1+1:=by simp
 refine⟨⟨w.heap.size+1+1,w.heap.size,w.heap.size+1,.slice none 0 0⟩,rfl,⟨Blk.new' _ _ _ hs2.symm,?_,?_,OwnR.nil _ _ _ _ _,by simp⟩,(((Upd.refl _ w).alloc _).alloc _).alloc _,?_,⟨by simp only;omega,by simp only;omega⟩,by simp⟩
 ·exact(((MapIs.new w intK).alloc _).alloc _).congr fun _=>rfl
 ·have:=(MapIs.new (w.alloc (.map #[] 0)) intK).alloc (.cells #[.int .i64 n,.map (some w.heap.size),.map (some (w.heap.size+1)),.slice none 0 0,.int .i64 (-1),.bool false,.int .i64 0] 107);rw[hs1]at this;exact this.congr fun _=>rfl
 ·rintro k (rfl | rfl | rfl | hk)
  ·simp only;omega
  ·exact qlr _
  ·simp only;omega
  ·cases hk
def PNewP(bz:Nat)(p:DkP)(l:Nat)(S:LogS)(pages most:Nat)(w:World)(e:Ending)(w':World):Prop:=∃P fm,e= .returned (.tuple #[.pointer (some ⟨P,0,none⟩),.int .i64 0])∧PoolAt bz w' P p l S ⟨pages,most,0,fm,[]⟩∧Upd Nowhere w w'∧w.heap.size≤P
theorem pnew_ok{bz:Nat}{w:World}{p:DkP}{l:Nat}{S:LogS}(h:LogAt bz w l p S)(hw:bz+3≤w.heap.size)(pages most:Nat)(h1:1≤pages)(h2:pages≤64)(h3:1≤most)(h4:most≤64):
 Calls Tryz.prog 74 #[.pointer (some ⟨p.d,0,none⟩),.int .i64 202,.int .i64 (pages:Nat),.int .i64 (most:Nat),.pointer (some ⟨l,0,none⟩)] w (PNewP bz p l S pages most w):=by
 have hmm:=@run_makeMap Tryz.prog;have a1:¬(pages:Int)<1:=by omega
 have a2:¬(64:Int)<(pages:Int):=by omega
 have a3:¬(most:Int)<1:=by omega
 have a4:¬(64:Int)<(most:Int):=by omega
 have HL:=qh h;have HW:=qh hw;clear h hw h1 h2 h3 h4;go_enter Tryz.func74,Tryz.ntmps74
 go_wp2_with fail
 go_ret2;have hw:=HW.out;have hs1:(w.alloc (.map #[] 0)).heap.size=w.heap.size+1:=by simp
 refine⟨w.heap.size+1,w.heap.size,rfl,⟨HL.out.up (((Upd.refl _ w).alloc _).alloc _),Blk.new' _ _ _ hs1.symm,((MapIs.new w intK).alloc _).congr fun _=>rfl,fun q hq=>(by cases hq),List.nodup_nil,List.nodup_nil,fun q hq=>(by cases hq),hw,by omega⟩,((Upd.refl _ w).alloc _).alloc _,by omega⟩
def pLog(pages:Nat):LogS:=⟨disk2 (202+2 * pages),200,mast2,[],0,0,0,false⟩
structure BegP(pages most:Nat)(w:World)(x:Nat)(w':World):Prop where
 ex:∃(P l q fm:Nat) (p:DkP),Blk w' x 65 #[.pointer (some ⟨p.d,0,none⟩),.pointer (some ⟨l,0,none⟩),.pointer (some ⟨P,0,none⟩),.pointer (some ⟨q,0,none⟩)]∧PoolAt w.heap.size w' P p l (pLog pages) ⟨pages,most,0,fm,[]⟩∧RefNew w.heap.size w' q pages most
 upd:Upd Nowhere w w'
theorem begun_ok(w:World)(hW:HalfW w)(hz:0<w.heap.size)(pages most:Nat)(h1:1≤pages)(h2:pages≤20)(h3:1≤most)(h4:most≤20):
 Calls Tryz.prog 22 #[.int .i64 (pages:Nat),.int .i64 (most:Nat)] w fun e w'=>∃x,e= .returned (.pointer (some ⟨x,0,none⟩))∧BegP pages most w x w':=by
 obtain⟨n,hn⟩:∃n,202+2 * pages=n:=⟨_,rfl⟩;have hw1:(202:Int)+2 * (pages:Int)=(n:Nat):=by omega
 have hnew:=dnew_pm w n (by omega) (by omega)
 have hfmt:∀w' p,DiskAt w' p (DiskS.empty n)→Calls Tryz.prog 52 #[.pointer (some ⟨p.d,0,none⟩),.int .i64 200] w' (PutP p (disk1 n) 0 w'):=fun w' p h=>by
  have d:=DkOK.empty n;have:=format_ok h 200 (by omega) (by omega) (by have:=d.size;omega) (by have:=d.size;omega) (by rw[d.fuse];omega) (by rw[d.syncs];omega) d.read (by have:=d.pend;omega)
  rw[(disk1_ok n).1]at this;exact this
 have hopen:∀w' p,DiskAt w' p (disk1 n)→(∀k,p.foot k→w.heap.size≤k)→(p.ms<w.heap.size+3∧p.mn<w.heap.size+3)→w.heap.size≤w'.heap.size→HalfW w'→Calls Tryz.prog 14 #[.pointer (some ⟨p.d,0,none⟩),.int .i64 200] w' (OpenP w.heap.size p (disk1 n) 200 0 mast2 w'):=fun w' p h hpf hpm hb' hW'=>by
  have d:=(disk1_ok n).2;have e:=disk1_load n;exact open0_ok h hz hb' hpf hpm 200 (by omega) (by omega) (by have:=d.size;omega) (by have:=d.size;omega) d.down (by rw[d.fuse];omega) (by rw[d.syncs];omega) d.read (by have:=d.pend;omega) 0 (by rw[e];rfl) (by omega) (by rw[e];decide) (by rw[e];decide) (disk1_page _ _ (by omega) _ _) hW' mast2 (by rw[e];rfl) mast2_may (disk2_ok n).1
 have hpn:∀w' l p (S:LogS),LogAt w.heap.size w' l p S→w.heap.size+3≤w'.heap.size→Calls Tryz.prog 74 #[.pointer (some ⟨p.d,0,none⟩),.int .i64 202,.int .i64 (pages:Nat),.int .i64 (most:Nat),.pointer (some ⟨l,0,none⟩)] w' (PNewP w.heap.size p l S pages most w'):=fun w' l p S h hw'=>pnew_ok h hw' pages most h1 (by omega) h3 (by omega)
 have hrn:=fun w'=>rnew_ok w' pages most (by omega)
 have hbnd:(pages:Int)≤20:=by omega
 have HNEW:=qh hnew;have HFMT:=qh hfmt;have HOPEN:=qh hopen;have HPN:=qh hpn;have HRN:=qh hrn;have HW:=qh hW;have HLG:Hid (pLog pages=⟨disk2 n,200,mast2,[],0,0,0,false⟩):=qh (by unfold pLog;rw[hn])
 clear hnew hfmt hopen hpn hrn hW hz hn h1 h2 h3 h4;go_enter Tryz.func22,Tryz.ntmps22
 go_wp2_with fail
 refine HNEW.out.mono ?_;rintro e w1 ⟨p,rfl,hD1,hU1,hf1,hpm1,hsz1⟩;have HC:=qh (HFMT.out w1 p hD1);have HU1:=qh hU1;have HF1:=qh hf1;have HPM1:=qh hpm1;have HSZ1:=qh hsz1;clear hD1 hU1 hf1 hpm1 hsz1 HNEW HFMT;go_wp2_with fail
 refine HC.out.mono ?_;rintro e w2 ⟨v2,rfl,hD2,hU2,hN2⟩
 have hf2:∀k,(p.at_ v2).foot k→w.heap.size≤k:=fun k hk=>by
  rcases hk with e | e | e | e
  ·exact HF1.out k (.inl e)
  ·exact HF1.out k (.inr (.inl e))
  ·exact HF1.out k (.inr (.inr (.inl e)))
  ·rcases hN2 k e with e | e
   ·exact HF1.out k (.inr (.inr (.inr e)))
   ·exact Nat.le_trans HU1.out.size e
 have hU02:Upd Nowhere w w2:=HU1.out.trans hU2 fun k hk e=>by
  have:=HF1.out k e;omega
 have HC2:=qh (HOPEN.out w2 (p.at_ v2) hD2 hf2 HPM1.out hU02.size (HW.out.upd hU02 id));have HU02:=qh hU02;have HF2:=qh hf2;have HSZ2:Hid (w.heap.size+3≤w2.heap.size):=qh (Nat.le_trans HSZ1.out hU2.size);clear hD2 hU2 hN2 hf2 hU02 HC HOPEN HPM1 HSZ1;unfold DkP.at_ at HC2;simp only at HC2;go_wp2_with fail
 refine HC2.out.mono ?_;rintro e w3 ⟨l,v3,rfl,hL3,hU3,hl3,hN3⟩;have HC3:=qh (HPN.out w3 l _ _ hL3 (Nat.le_trans HSZ2.out hU3.size));have HU03:=qh (HU02.out.trans hU3 fun k hk e=>by have:=HF2.out k e;omega)
 clear hL3 hU3 hN3 hl3 HC2 HPN HU02 HSZ2;unfold DkP.at_ at HC3;simp only at HC3;go_wp2_with fail
 refine HC3.out.mono ?_;rintro e w4 ⟨P,fm,rfl,hP4,hU4,hP⟩;have HP4:=qh hP4;have HU04:=qh (HU03.out.trans (F:=Nowhere) hU4 fun _ _ h=>h)
 clear hP4 hU4 hP HC3 HU03;go_wp2_with fail
 refine(HRN.out w4).mono ?_;rintro e w5 ⟨q,rfl,hR5,hU5,hq⟩;have HR5:=qh hR5;have HU5:=qh hU5;clear hR5 hU5 hq;go_wp2_with fail
 go_ret;refine⟨w5.heap.size,rfl,⟨⟨P,l,q,fm,⟨p.d,p.ms,p.mn,v3⟩,Blk.new w5 _ _,?_,?_⟩,(HU04.out.trans (F:=Nowhere) HU5.out fun _ _ h=>h).alloc _⟩⟩
 ·rw[HLG.out];exact(HP4.out.up HU5.out).up ((Upd.refl _ _).alloc _)
 ·obtain⟨a,b,g1,g2,g3,h1,h2,h3⟩:=HR5.out.ex;have hsz:=HU04.out.size;exact⟨a,b,by omega,by omega,by omega,h1.alloc _,h2.alloc _,h3.alloc _⟩
end Go.Proofs.YtdfccegeihfdpaaGreatDoor
