/-
  Contracts of layer 12: Flush, Evict; a frame is taken out. Contracts of layer 12: room.
-/
import Derived.Test.YtdfccegeihfdpaaGreatDoorAPgK
set_option maxRecDepth 100000
set_option maxHeartbeats 4000000
namespace Go.Proofs.YtdfccegeihfdpaaGreatDoor
open Go Go.RowKit
structure PoK(S:LogS)(T:PoS):Prop where
 ex:∃k,LogB k S∧k≤70
 down:S.down=false
 dk:∀q∈T.L,DkC q.1.no S.dk∧DkC q.1.no S.forceS.1.dk
def evS(S:LogS)(T:PoS)(q:FrB):(LogS×PoS)×Int:=
 if (backS S T q.1).2=0 then (((backS S T q.1).1.1,{ (backS S T q.1).1.2 with L:=remF (backS S T q.1).1.2.L q.1.no }),0) else backS S T q.1
def flushS(S:LogS)(T:PoS)(n:Int):(LogS×PoS)×Int:=if inT T n then match findF T.L n with
 | some q=>backS S T q.1
 | none=>((S,T),0)
 else ((S,T),1)
def evictS(S:LogS)(T:PoS)(n:Int):(LogS×PoS)×Int:=if inT T n then match findF T.L n with
 | some q=>if q.1.pins=0 then evS S T q else ((S,T),121)
 | none=>((S,T),0)
 else ((S,T),1)
theorem findF_rem(L:List FrB)(n:Nat)(m:Int):findF (remF L n) m=if m=(n:Int) then none else findF L m:=by
 unfold findF remF
 induction L with
 | nil=>split<;>rfl
 | cons r L ih=>
   by_cases h:r.1.no=n
   ·rw[List.filter_cons_of_neg (by simpa using h),ih]
    split
    ·rfl
    ·rename_i hm
     rw[List.find?_cons_of_neg (by simp;omega)]
   ·rw[List.filter_cons_of_pos (by simpa using h)]
    by_cases hm:(r.1.no:Int)=m
    ·rw[List.find?_cons_of_pos (by simpa using hm),List.find?_cons_of_pos (by simpa using hm),if_neg (by omega)]
    ·rw[List.find?_cons_of_neg (by simpa using hm),List.find?_cons_of_neg (by simpa using hm),ih]
theorem frF_rem(L:List FrB)(n:Nat):putF (frF L) (n:Int) none=frF (remF L n):=by
 funext m
 unfold frF putF;rw[findF_rem];split<;>rfl
section
variable {w:World} {bz P l:Nat} {p:DkP} {S:LogS} {T:PoS}
theorem PoolAt.fm_upd(h:PoolAt bz w P p l S T){w':World}(hu:Upd (fun k=>k=T.fm) w w'){L':List FrB}(hm:MapIs intK w' T.fm (frF L'))(hs:∀q∈L',FrAt w q.2 q.1∧bz≤q.2)(hn1:(L'.map (·.2)).Nodup)(hn2:(L'.map (·.1.no)).Nodup):PoolAt bz w' P p l S { T with L:=L' }:=by
 have hmap:=h.map;obtain⟨es,ck,h3,_⟩:=hmap;refine⟨h.log.upd hu (fun k e hl=> ?_) (fun k e h8=> ?_),h.blk.upd hu fun e=>h.map.ne_blk h.blk e.symm,hm,fun q hq=>(hs q hq).1.upd hu (fun e=> ?_) fun k e hc=> ?_,hn1,hn2,fun q hq=>(hs q hq).2,h.fmge,h.hP⟩
 ·subst e;obtain⟨_,o,h1,h2⟩:=hl;rw[h3]at h1;injection h1 with h1
  subst h1;have:=h.fmge;have h4:T.fm<bz+3:=of_decide_eq_true h2;omega
 ·subst e;exact h.map.notU8 h8
 ·obtain⟨_,_,hb,_⟩:=(hs q hq).1.ex;exact h.map.ne_blk hb e.symm
 ·subst e;obtain⟨cs,fz,hc⟩:=hc;exact h.map.not_cells hc
theorem PoolAt.rem(h:PoolAt bz w P p l S T)(n:Nat):∃w',(∀ty,(Builtin.delete_ #[137,3] ty #[.map (some T.fm),.int .i64 (n:Nat)]).run Tryz.prog w= .ok (.tuple #[]) w')∧PoolAt bz w' P p l S { T with L:=remF T.L n }∧Upd (PoolF bz w) w w':=by
 have key:∀ty,∃w',(Builtin.delete_ #[137,3] ty #[.map (some T.fm),.int .i64 (n:Nat)]).run Tryz.prog w= .ok (.tuple #[]) w'∧MapIs intK w' T.fm (putF (frF T.L) (n:Int) none)∧w.grownBy w' (some T.fm)∧w'.heap.size=w.heap.size:=fun ty=>h.map.del keyI (ts:=#[137,3]) rfl Tryz.underlying137 Tryz.underlying3 (n:Int)
 obtain⟨w',hr,hm,hg,_⟩:=key 3;have hall:∀ty,(Builtin.delete_ #[137,3] ty #[.map (some T.fm),.int .i64 (n:Nat)]).run Tryz.prog w= .ok (.tuple #[]) w':=fun ty=>hr
 have hu:Upd (fun k=>k=T.fm) w w':=⟨hg.os,hg.tape,hg.output,hg.size,fun k hk hn=>hg.block k hk fun e=>hn (by injection e)⟩
 rw[frF_rem]at hm;have hsub:List.Sublist (remF T.L n) T.L:=List.filter_sublist;exact⟨w',hall,h.fm_upd hu hm (fun q hq=>⟨h.fr q (hsub.mem hq),h.ge q (hsub.mem hq)⟩) ((hsub.map _).nodup h.nd) ((hsub.map _).nodup h.nos),hu.mono fun k _ e=>e▸h.fmF⟩
theorem flush_ok(h:PoolAt bz w P p l S T)(hT:PoB T)(hK:PoK S T)(hW:HalfW w)(n:Int):Calls Tryz.prog 43 #[.pointer (some ⟨P,0,none⟩),.int .i64 n] w (PwP bz P l p (flushS S T n) w):=by
 have HIS:=qh (is_ok h n);have HH:=qh h
 have hFS:flushS S T n=if inT T n then match findF T.L n with
  | some q=>backS S T q.1
  | none=>((S,T),0)
  else ((S,T),1):=rfl
 by_cases hin:inT T n
 ·rw[if_pos hin]at hFS;rw[if_pos hin]at HIS;have c6:=h.blk.cell 6;simp only[qA,qZ,qS]at c6;have hlk:=h.look n
  cases hf:findF T.L n with
  | none=>
    rw[hf]at hlk hFS;simp only at hlk hFS;rw[hFS];have HLK:=qh hlk;clear h hT hK hW hFS hin hlk hf;go_enter Tryz.func43,Tryz.ntmps43
    go_wp2_with fail
    refine HIS.out.mono ?_;rintro e w1 ⟨rfl,rfl⟩;go_wp2_with (refine wpList_lookup_run rfl _ _ _ _ rfl rfl rfl HLK.out ?_)
    go_ret;exact⟨p,rfl,rfl,HH.out,Upd.refl _ _⟩
  | some q=>
    rw[hf]at hlk hFS;simp only at hlk hFS;rw[hFS];have HLK:=qh hlk;have hq:=(findF_some hf).1;obtain⟨k,hB,hk⟩:=hK.ex;have HBK:=qh (back_ok h hT hB hk hK.down hW hq (hK.dk q hq).1 (hK.dk q hq).2);unfold ptrF at HLK HBK;obtain⟨R,hR⟩:∃R,backS S T q.1=R:=⟨_,rfl⟩;rw[hR]at HBK ⊢;obtain⟨b,hb⟩:∃b,q.2=b:=⟨_,rfl⟩;rw[hb]at HLK HBK;clear h hT hK hW hFS hin hlk hf hq hB hk hR hb;go_enter Tryz.func43,Tryz.ntmps43
    go_wp2_with fail
    refine HIS.out.mono ?_;rintro e w1 ⟨rfl,rfl⟩;go_wp2_with (refine wpList_lookup_run rfl _ _ _ _ rfl rfl rfl HLK.out ?_)
    refine HBK.out.mono ?_;rintro e w2 ⟨p2,hpd,rfl,hP2,hU2⟩;have HX:=qh (show p2.d=p.d∧PoolAt bz w2 P p2 l R.1.1 R.1.2∧Upd (PoolF bz w1) w1 w2 from⟨hpd,hP2,hU2⟩)
    clear hpd hP2 hU2;go_wp2_with fail
    go_ret;exact⟨p2,HX.out.1,rfl,HX.out.2.1,HX.out.2.2⟩
 ·rw[if_neg hin]at hFS;rw[if_neg hin]at HIS;rw[hFS];clear h hT hK hW hFS hin;go_enter Tryz.func43,Tryz.ntmps43
  go_wp2_with fail
  refine HIS.out.mono ?_;rintro e w1 ⟨rfl,rfl⟩;go_wp2_with fail
  go_ret;exact⟨p,rfl,rfl,HH.out,Upd.refl _ _⟩
theorem evict_ok(h:PoolAt bz w P p l S T)(hT:PoB T)(hK:PoK S T)(hW:HalfW w)(n:Int):Calls Tryz.prog 30 #[.pointer (some ⟨P,0,none⟩),.int .i64 n] w (PwP bz P l p (evictS S T n) w):=by
 have HIS:=qh (is_ok h n);have HH:=qh h
 have hFS:evictS S T n=if inT T n then match findF T.L n with
  | some q=>if q.1.pins=0 then evS S T q else ((S,T),121)
  | none=>((S,T),0)
  else ((S,T),1):=rfl
 by_cases hin:inT T n
 ·rw[if_pos hin]at hFS;rw[if_pos hin]at HIS;have c6:=h.blk.cell 6;simp only[qA,qZ,qS]at c6;have hlk:=h.look n
  cases hf:findF T.L n with
  | none=>
    rw[hf]at hlk hFS;simp only at hlk hFS;rw[hFS];have HLK:=qh hlk;clear h hT hK hW hFS hin hlk hf;go_enter Tryz.func30,Tryz.ntmps30
    go_wp2_with fail
    refine HIS.out.mono ?_;rintro e w1 ⟨rfl,rfl⟩;go_wp2_with (refine wpList_lookup_run rfl _ _ _ _ rfl rfl rfl HLK.out ?_)
    go_ret;exact⟨p,rfl,rfl,HH.out,Upd.refl _ _⟩
  | some q=>
    rw[hf]at hlk hFS;simp only at hlk hFS;have HLK:=qh hlk;have hq:=(findF_some hf).1;have hqn:=(findF_some hf).2;obtain⟨A,c,f0,f1,f2,f3,f4,f5,f6,fz,hce⟩:=(h.fr _ hq).cells;obtain⟨k,hB,hk⟩:=hK.ex;have HBK:=qh (back_ok h hT hB hk hK.down hW hq (hK.dk q hq).1 (hK.dk q hq).2);unfold ptrF at HLK HBK;by_cases hpz:q.1.pins=0
    ·rw[if_pos hpz]at hFS;rw[hFS];have HEV:Hid (evS S T q=if (backS S T q.1).2=0 then (((backS S T q.1).1.1,{ (backS S T q.1).1.2 with L:=remF (backS S T q.1).1.2.L q.1.no }),0) else backS S T q.1):=qh rfl
     obtain⟨R,hR⟩:∃R,backS S T q.1=R:=⟨_,rfl⟩;rw[hR]at HBK HEV;obtain⟨b,hb⟩:∃b,q.2=b:=⟨_,rfl⟩;rw[hb]at HLK HBK f1;have f1':w.cell? ⟨b,1,none⟩=some (.int .i64 0):=by rw[f1,hpz];rfl
     have hfmR:R.1.2.fm=T.fm:=by
      rw[←hR];unfold backS;split
      ·rfl
      ·split
       ·rfl
       ·split<;>rfl
     subst hqn;have HFM:=qh hfmR;clear h hT hK hW hFS hin hlk hf hq hB hk hR hb f0 f1 f2 f3 f4 f5 f6 fz hce hpz hfmR;go_enter Tryz.func30,Tryz.ntmps30
     go_wp2_with fail
     refine HIS.out.mono ?_;rintro e w1 ⟨rfl,rfl⟩;go_wp2_with (refine wpList_lookup_run rfl _ _ _ _ rfl rfl rfl HLK.out ?_)
     refine HBK.out.mono ?_;rintro e w2 ⟨p2,hpd,rfl,hP2,hU2⟩;obtain⟨⟨S2,T2⟩,x2⟩:=R;simp only at hP2 HFM HEV ⊢;have HX:=qh (show p2.d=p.d∧PoolAt bz w2 P p2 l S2 T2∧Upd (PoolF bz w1) w1 w2 from⟨hpd,hP2,hU2⟩)
     by_cases hx2:x2=0
     ·subst hx2;obtain⟨w3,hrd,hP3,hU3⟩:=hP2.rem q.1.no;have c6':=hP2.blk.cell 6;simp only[qA,qZ,qS]at c6';have HRD:=qh hrd;have HP3:=qh hP3;have HU3:=qh (hU2.pools hU3);have hev:=HEV.out;rw[if_pos rfl]at hev;have HEV2:=qh hev;clear hpd hP2 hU2 hrd hP3 hU3 hev HEV;go_wp2_with (with_reducible refine wpList_delete_run rfl _ _ _ _ rfl rfl rfl (HRD.out _) ?_)
      go_ret;rw[HEV2.out];exact⟨p2,HX.out.1,rfl,HP3.out,HU3.out⟩
     ·have hxb:(x2 == 0)=false:=by simpa using hx2
      have hev:=HEV.out;rw[if_neg hx2]at hev;have HEV2:=qh hev;clear hpd hP2 hU2 hev HEV hx2;go_wp2_with fail
      go_ret;rw[HEV2.out];exact⟨p2,HX.out.1,rfl,HX.out.2.1,HX.out.2.2⟩
    ·rw[if_neg hpz]at hFS;rw[hFS];obtain⟨b,hb⟩:∃b,q.2=b:=⟨_,rfl⟩;obtain⟨pn,hpn⟩:∃pn,q.1.pins=pn:=⟨_,rfl⟩;rw[hb]at HLK f1;rw[hpn]at f1 hpz;have hp0:(0:Int)<(pn:Int):=by omega
     clear h hT hK hW hFS hin hlk hf hq hB hk hb f0 f2 f3 f4 f5 f6 fz hce hpz hqn hpn HBK;go_enter Tryz.func30,Tryz.ntmps30
     go_wp2_with fail
     refine HIS.out.mono ?_;rintro e w1 ⟨rfl,rfl⟩;go_wp2_with (refine wpList_lookup_run rfl _ _ _ _ rfl rfl rfl HLK.out ?_)
     go_ret;exact⟨p,rfl,rfl,HH.out,Upd.refl _ _⟩
 ·rw[if_neg hin]at hFS;rw[if_neg hin]at HIS;rw[hFS];clear h hT hK hW hFS hin;go_enter Tryz.func30,Tryz.ntmps30
  go_wp2_with fail
  refine HIS.out.mono ?_;rintro e w1 ⟨rfl,rfl⟩;go_wp2_with fail
  go_ret;exact⟨p,rfl,rfl,HH.out,Upd.refl _ _⟩
end
theorem map_len{w:World}{b:Nat}{f:Int→Option Value}(h:MapIs intK w b f){ks:List Int}(hn:ks.Nodup)(hk:∀a,a∈ks↔f a≠none){P:Program}{t kt et:TypeId}(ht:P.underlying t=some (.map kt et))(ty:TypeId):
 (Builtin.len_ #[t] ty #[.map (some b)]).run P w= .ok (.int .i64 (ks.length:Nat)) w:=by
 obtain⟨es,ck,h1,h2,h3,h4⟩:=h
 have hlen:es.size=ks.length:=by
  have hnd:(es.toList.map (·.key)).Nodup:=h2.2.2;have h5:(ks.map intK).Nodup:=List.pairwise_map.2 (hn.imp fun {a c} hac e=>hac (by injection e))
  have h6:∀v,v∈es.toList.map (·.key)↔v∈ks.map intK:=fun v=>by
   rw[List.mem_map,List.mem_map];constructor
   ·rintro⟨e,he,rfl⟩;obtain⟨a,ha⟩:=h3 e he;exact⟨a,(hk a).2 (by rw[(h4 a e.val).2 ⟨e,he,ha,rfl⟩];simp),ha.symm⟩
   ·rintro⟨a,ha,rfl⟩;have:=(hk a).1 ha
    cases hf:f a with
    | none=>exact absurd hf this
    | some v=>
      obtain⟨e,he,hke,_⟩:=(h4 a v).1 hf;exact⟨e,he,hke⟩
  have hp:(es.toList.map (·.key)).Perm (ks.map intK):=(List.perm_ext_iff_of_nodup hnd h5).2 h6;have:=hp.length_eq
  simpa using this
 rw[show(Builtin.len_ #[t] ty #[.map (some b)]).run P w= .ok (goInt es.size) w by simp[Builtin.len_,run_underlying ht,MapKept.run_getObj_map h1,Result.andThen],hlen]
 rfl
section
variable {P:Program} {ops:Array Oper} {Q:Exit→Act→World→Prop} {a:Act} {w:World} {o:Oper}
theorem step_delete_run{K:Act→World→Prop}{E:Prop}(hg:o.guard=none)(x y:Operand)(t u:TypeId)(ho:o.op= .call { callee:= .builtin .delete,args:=#[x,y],argTypes:=#[t,u] }){v1 v2 v':Value}{w':World}
 (hx:a.eval x=v1) (hy:a.eval y=v2) (hrun:(Builtin.delete_ #[t,u] o.type #[v1,v2]).run P w= .ok v' w') (h:K (a.put o.dst v') w'):
 if Region.wanted o (yielded ops a.tmps)=true then Oper.wp P o a w K Q else E:=by
 have hw:Region.wanted o (yielded ops a.tmps)=true:=by simp[Region.wanted,hg]
 rw[if_pos hw];unfold Oper.wp execOp;simp only[ho,resolve,invoke,builtin,Sem.run_bind,Sem.run_pure,Result.andThen_ok,List.map_toArray,List.map_cons,List.map_nil,hx,hy,hrun];exact h
end
section
variable {w:World} {bz P l:Nat} {p:DkP} {S:LogS} {T:PoS}
theorem PoolAt.lenL(h:PoolAt bz w P p l S T)(ty:TypeId):(Builtin.len_ #[137] ty #[.map (some T.fm)]).run Tryz.prog w= .ok (.int .i64 (T.L.length:Nat)) w:=by
 have hn:(T.L.map fun q=>(q.1.no:Int)).Nodup:=by
  have h1:=h.nos;have e:(T.L.map fun q=>(q.1.no:Int))=(T.L.map (·.1.no)).map fun n:Nat=>(n:Int):=by rw[List.map_map];rfl
  rw[e];exact List.pairwise_map.2 (h1.imp fun {a b} hab e=>hab (by omega))
 have h1:=map_len h.map hn (fun a=> ?_) Tryz.underlying137 ty
 ·rw[qlm]at h1;exact h1
 ·unfold frF;rw[List.mem_map];constructor
  ·rintro⟨q,hq,rfl⟩;rw[findF_of h.nos hq];simp
  ·intro h2
   cases hf:findF T.L a with
   | none=>rw[hf]at h2;exact absurd rfl h2
   | some q=>exact⟨q,(findF_some hf).1,(findF_some hf).2⟩
structure IsOld(L:List FrB)(q:FrB):Prop where
 mem:q∈L
 pins:q.1.pins=0
 least:∀r∈L,r.1.pins=0→q.1.at_≤r.1.at_
def ptrO:Option FrB→Value
 | none=> .pointer none
 | some q=>ptrF q
def RoomP(bz P l:Nat)(p:DkP)(S:LogS)(T:PoS)(w:World)(e:Ending)(w':World):Prop:=
 (T.L.length<T.most→PwP bz P l p ((S,T),0) w e w')∧
 (¬T.L.length<T.most→((∀q∈T.L,q.1.pins≠0)∧PwP bz P l p ((S,T),120) w e w')∨∃q,IsOld T.L q∧PwP bz P l p (evS S T q) w e w')
theorem room_ok(h:PoolAt bz w P p l S T)(hT:PoB T)(hK:PoK S T)(hW:HalfW w):Calls Tryz.prog 77 #[.pointer (some ⟨P,0,none⟩)] w (RoomP bz P l p S T w):=by
 have HH:=qh h;have HT:=qh hT;have HK:=qh hK;have HW:=qh hW;have c4:=h.blk.cell 4;have c6:=h.blk.cell 6;simp only[qA,qZ,qS]at c4 c6;have hlen:∀ty,(Builtin.len_ #[137] ty #[.map (some T.fm)]).run Tryz.prog w.drew= .ok (.int .i64 (T.L.length:Nat)) w.drew:=(h.up (Upd.refl Nowhere w).drew).lenL;obtain⟨n,hn⟩:∃n,T.L.length=n:=⟨_,rfl⟩;obtain⟨m,hm⟩:∃m,T.most=m:=⟨_,rfl⟩;rw[hn]at hlen;rw[hm]at c4;have HN:=qh hn;have HM:=qh hm;have hn20:(n:Int)≤20:=by have:=hT.len;have:=hT.most;omega
 clear h hT hK hW hn hm;go_enter Tryz.func77,Tryz.ntmps77
 go_wp2_with fail
 go_region
 all_goals
  clear c4 c6 hlen;by_cases hlt:n<m
  ·have dw:decide (n<m)=true:=decide_eq_true hlt;rw[dw];have HLT:=qh hlt;clear dw hlt;go_wp2_with fail
   go_ret;refine⟨fun _=>⟨p,rfl,rfl,HH.out.up (Upd.refl Nowhere w).drew,(Upd.refl _ w).drew⟩,fun hn=>absurd ?_ hn⟩
   rw[HN.out,HM.out];exact HLT.out
  ·have dw:decide (n<m)=false:=decide_eq_false hlt;rw[dw];have HLT:=qh hlt;have HH1:=qh (HH.out.up (Upd.refl Nowhere w).drew);have HW1:=qh (HW.out.upd (Upd.refl Nowhere w).drew id);have HU1:=qh ((Upd.refl (PoolF bz w) w).drew);obtain⟨w1,hw1⟩:∃w1,w.drew=w1:=⟨_,rfl⟩;rw[hw1]at HH1 HW1 HU1 ⊢;have c6:=HH1.out.blk.cell 6;simp only[qA,qZ,qS]at c6;obtain⟨w2,cnt0,hrun,hR0,hU0,hz0⟩:=HH1.out.map.range Tryz.underlying137;have HRUN:=qh hrun;have HR0:=qh hR0;have HU0:=qh hU0;clear dw hlt hw1 hrun hR0 hU0 hz0;go_wp2_with (at_range;refine wpList_range_run rfl _ _ rfl rfl HRUN.out ?_)
   clear c6;go_frame
   go_loopw [3] (fun s3 wr=>∃(left:Int→Prop) (cnt:Nat) (o:Option FrB),RangeIs intK wr w1.heap.size T.fm (frF T.L) left cnt∧s3=ptrO o∧LeastAt (fun q:FrB=>q.1.pins=0) (fun q=>(q.1.at_:Int)) (fun q=>q∈T.L∧¬left (q.1.no:Int)) o∧Upd Nowhere w1 wr) (fun _ wr=>wr.rangeLeft T.fm w1.heap.size)
   case atStart=>
    refine⟨_,cnt0,none,HR0.out,rfl,?_,HU0.out⟩;refine⟨fun _ q hq=>absurd ?_ hq.2,fun a ha=>by cases ha⟩
    unfold frF;rw[findF_of HH1.out.nos hq.1];simp
   case round=>
    obtain⟨left,cnt,o,hR,rfl,hL,hu⟩:=hrel;have HR:=qh hR;have HL:=qh hL;have HU:=qh hu;clear hR hL hu;go_wp2_with (at_next;refine wpList_next_is keyI rfl _ rfl rfl HR.out ?_ ?_)
    ·intro h0 hno;have HNO:=qh hno;clear hno;have HPR:=qh (HH1.out.up HU.out);have HUR:=qh (HU1.out.trans (F:=PoolF bz w) HU.out fun _ _ h=>absurd h id)
     have HWR:=qh (HW1.out.upd HU.out id)
     cases o with
     | none=>
       have hall:=HL.out.none_ rfl;have HALL:=qh hall;clear hall;unfold ptrO;go_wp2_with fail
       go_ret;refine⟨fun h=>absurd ?_ HLT.out,fun _=> .inl ⟨fun q hq=>HALL.out q ⟨hq,HNO.out _⟩,p,rfl,rfl,HPR.out,HUR.out⟩⟩
       rw[←HN.out,←HM.out];exact h
     | some q=>
       obtain⟨hq,hp0,hle⟩:=HL.out.some_ q rfl;have HOLD:Hid (IsOld T.L q):=qh ⟨hq.1,hp0,fun r hr h0=>by have:=hle r ⟨hr,HNO.out _⟩ h0;omega⟩
       obtain⟨k,hB,hk⟩:=HK.out.ex;have HBK:=qh (back_ok HPR.out HT.out hB hk HK.out.down HWR.out hq.1 (HK.out.dk q hq.1).1 (HK.out.dk q hq.1).2);have HEV:Hid (evS S T q=if (backS S T q.1).2=0 then (((backS S T q.1).1.1,{ (backS S T q.1).1.2 with L:=remF (backS S T q.1).1.2.L q.1.no }),0) else backS S T q.1):=qh rfl
       have HRES:Hid (∀e W,PwP bz P l p (evS S T q) w e W→RoomP bz P l p S T w e W):=qh fun e W h=>⟨fun h2=>absurd (by rw[←HN.out,←HM.out];exact h2) HLT.out,fun _=> .inr ⟨q,HOLD.out,h⟩⟩
       have hfrq:=HPR.out.fr q hq.1;have HQM:=qh hq.1
       have hrel:∃x,(backS S T q.1).1.2={ T with L:=x }∧((backS S T q.1).2=0→∃y,(y,q.2)∈x∧y.no=q.1.no):=by
        unfold backS;split
        ·exact⟨T.L,rfl,fun _=>⟨q.1,hq.1,rfl⟩⟩
        ·split
         ·rename_i h9
          exact⟨T.L,rfl,fun e=>absurd e h9⟩
         ·split
          ·rename_i h9
           exact⟨T.L,rfl,fun e=>absurd e h9⟩
          ·exact⟨_,rfl,fun _=>⟨{ q.1 with stamp:=q.1.stamp+1,rc:=0 },List.mem_map.2 ⟨q,hq.1,by rw[if_pos rfl]⟩,rfl⟩⟩
       have HREL:=qh hrel;obtain⟨R,hR⟩:∃R,backS S T q.1=R:=⟨_,rfl⟩;rw[hR]at HBK HEV HREL;obtain⟨y,b⟩:=q;unfold ptrO ptrF;unfold ptrF at HBK;simp only at HBK HEV HREL ⊢;clear hq hp0 hle hB hk hR hfrq hrel;go_wp2_with fail
       refine HBK.out.mono ?_;rintro e w3 ⟨p3,hpd,rfl,hP3,hU3⟩;obtain⟨⟨S3,T3⟩,x3⟩:=R;simp only at hP3 HEV HREL ⊢;have HX:=qh (show p3.d=p.d∧PoolAt bz w3 P p3 l S3 T3∧Upd (PoolF bz w) w w3 from⟨hpd,hP3,HUR.out.pools hU3⟩)
       clear hpd hP3 hU3;by_cases hx3:x3=0
       ·subst hx3;obtain⟨x',hT3,hy⟩:=HREL.out;obtain⟨y',hy',hyn⟩:=hy rfl;have hfr:=HX.out.2.1.fr (y',b) (by rw[hT3];exact hy')
        obtain⟨A,c,f0,_⟩:=hfr.cells;simp only at f0;rw[hyn]at f0;have c6:=HX.out.2.1.blk.cell 6;simp only[qA,qZ,qS]at c6;have hfm:T3.fm=T.fm:=by rw[hT3]
        obtain⟨w4,hrd,hP4,hU4⟩:=(HX.out.2.1.up (Upd.refl Nowhere w3).drew).rem y.no;have HRD:=qh hrd;have HP4:=qh hP4;have HU4:=qh (HX.out.2.2.pools ((Upd.refl (PoolF bz w3) w3).drew.trans hU4 fun _ _ h=>h))
        have hev:=HEV.out;rw[if_pos rfl]at hev;have HEV2:=qh hev;clear hT3 hy hy' hyn hfr hrd hP4 hU4 hev HEV hfm;go_wp2_with fail
        go_region_law (refine step_delete_run rfl (.tmp 58) (.tmp 63) 137 3 rfl (v1:= .map (some T3.fm)) (v2:= .int .i64 (y.no:Nat)) (by simp[Act.eval]) (by simp[Act.eval]) (HRD.out _) ?_)
        all_goals
         go_wp2_with fail
         go_ret;refine HRES.out _ _ ?_;rw[HEV2.out];exact⟨p3,HX.out.1,rfl,HP4.out,HU4.out⟩
       ·have hxb:(x3 == 0)=false:=by simpa using hx3
        have hev:=HEV.out;rw[if_neg hx3]at hev;have HEV2:=qh hev;clear hev HEV hx3;go_wp2_with fail
        go_ret;refine HRES.out _ _ ?_;rw[HEV2.out];exact⟨p3,HX.out.1,rfl,HX.out.2.1,HX.out.2.2⟩
    ·intro x vx wn cnt1 hfx hlx hR1 hlt hu1 hsz1 hen
     obtain⟨q,hq,rfl⟩:∃q,findF T.L x=some q∧ptrF q=vx:=by
      unfold frF at hfx
      cases hf:findF T.L x with
      | none=>rw[hf]at hfx;cases hfx
      | some q=>rw[hf]at hfx;exact⟨q,rfl,by injection hfx⟩
     obtain⟨hqm,hqn⟩:=findF_some hq;have HUN:=qh (HU.out.trans (F:=Nowhere) hu1 fun k hk e=>by omega)
     have HR1:=qh hR1;have HLT:=qh hlt;obtain⟨A,c,f0,f1,f2,f3,f4,f5,f6,fz,hce⟩:=((HH1.out.up HUN.out).fr _ hqm).cells
     have hset:∀r:FrB,(r∈T.L∧¬(left (r.1.no:Int)∧(r.1.no:Int)≠x))↔((r∈T.L∧¬left (r.1.no:Int))∨r=q):=fun r=>by
      constructor
      ·rintro⟨h1,h2⟩;by_cases e:(r.1.no:Int)=x
       ·exact .inr (nos_inj HH1.out.nos h1 hqm (by omega))
       ·exact .inl ⟨h1,fun h3=>h2 ⟨h3,e⟩⟩
      ·rintro(⟨h1,h2⟩ | rfl)
       ·exact⟨h1,fun h3=>h2 h3.1⟩
       ·exact⟨hqm,fun h3=>h3.2 hqn⟩
     have HST:=qh hset;have HQM:=qh hqm;unfold ptrF at hen;obtain⟨y,b⟩:=q;simp only at hen f1 f6;clear hfx hlx hR1 hlt hu1 hsz1 hq f0 f2 f3 f4 f5 fz hce hset hqm hqn;by_cases hpz:y.pins=0
     ·have HPZ:=qh hpz;have f1':wn.cell? ⟨b,1,none⟩=some (.int .i64 0):=by rw[f1,hpz];rfl
      clear f1 hpz
      cases o with
      | none=>
        have hL2:=HL.out.take (a:=(y,b)) HPZ.out (fun r hr=>by cases hr)
        have HL2:=qh hL2;clear hL2;unfold ptrO;go_wp2_with fail
        go_region
        go_wp2_with fail
        go_roundw
        case rel=>
         refine⟨_,cnt1,some (y,b),HR1.out.kept rfl rfl,rfl,?_,HUN.out.drew⟩;rw[show(fun r:FrB=>r∈T.L∧¬(left (r.1.no:Int)∧(r.1.no:Int)≠x))=fun r=>(r∈T.L∧¬left (r.1.no:Int))∨r=(y,b) from funext fun r=>propext (HST.out r)];exact HL2.out
        case measure=>
         rw[RangeIs.left_eq (HR1.out.kept rfl rfl:RangeIs intK wn.drew w1.heap.size T.fm (frF T.L) _ cnt1),HR.out.left_eq];exact HLT.out
      | some q0=>
        obtain⟨hq0,hp0,_⟩:=HL.out.some_ q0 rfl;obtain⟨A0,c0,g0,g1,g2,g3,g4,g5,g6,gz,gce⟩:=((HH1.out.up HUN.out).fr _ hq0.1).cells;obtain⟨y0,b0⟩:=q0;unfold ptrO ptrF;simp only at g6 ⊢;clear hq0 hp0 g0 g1 g2 g3 g4 g5 gz gce;by_cases hat:y.at_<y0.at_
        ·have HL2:=qh (HL.out.take (a:=(y,b)) HPZ.out fun r hr=>by cases hr;simp only;omega)
         have hat':(y.at_:Int)<(y0.at_:Int):=by omega
         have hatb:decide (y.at_<y0.at_)=true:=decide_eq_true hat;clear hat;go_wp2_with fail
         go_region
         go_wp2_with fail
         go_roundw
         case rel=>
          refine⟨_,cnt1,some (y,b),HR1.out.kept rfl rfl,rfl,?_,HUN.out.drew⟩;rw[show(fun r:FrB=>r∈T.L∧¬(left (r.1.no:Int)∧(r.1.no:Int)≠x))=fun r=>(r∈T.L∧¬left (r.1.no:Int))∨r=(y,b) from funext fun r=>propext (HST.out r)];exact HL2.out
         case measure=>
          rw[RangeIs.left_eq (HR1.out.kept rfl rfl:RangeIs intK wn.drew w1.heap.size T.fm (frF T.L) _ cnt1),HR.out.left_eq];exact HLT.out
        ·have HL2:=qh (HL.out.skip (a:=(y,b)) (.inr ⟨_,rfl,by simp only;omega⟩))
         have hat':¬(y.at_:Int)<(y0.at_:Int):=by omega
         have hatb:decide (y.at_<y0.at_)=false:=decide_eq_false hat;clear hat;go_wp2_with fail
         go_region
         go_wp2_with fail
         go_roundw
         case rel=>
          refine⟨_,cnt1,some (y0,b0),HR1.out.kept rfl rfl,rfl,?_,HUN.out.drew⟩;rw[show(fun r:FrB=>r∈T.L∧¬(left (r.1.no:Int)∧(r.1.no:Int)≠x))=fun r=>(r∈T.L∧¬left (r.1.no:Int))∨r=(y,b) from funext fun r=>propext (HST.out r)];exact HL2.out
         case measure=>
          rw[RangeIs.left_eq (HR1.out.kept rfl rfl:RangeIs intK wn.drew w1.heap.size T.fm (frF T.L) _ cnt1),HR.out.left_eq];exact HLT.out
     ·obtain⟨pn,hpn⟩:∃pn,y.pins=pn:=⟨_,rfl⟩;have HL2:=qh (HL.out.skip (a:=(y,b)) (.inl hpz));rw[hpn]at f1 hpz;have hpb:((pn:Int) == 0)=false:=by simpa using hpz
      have hpb2:¬(pn:Int)=0:=by omega
      have hpb3:(pn == 0)=false:=by simpa using hpz
      clear hpn hpz;go_wp2_with fail
      go_region
      go_wp2_with fail
      go_roundw
      case rel=>
       refine⟨_,cnt1,o,HR1.out.kept rfl rfl,rfl,?_,HUN.out.drew⟩;rw[show(fun r:FrB=>r∈T.L∧¬(left (r.1.no:Int)∧(r.1.no:Int)≠x))=fun r=>(r∈T.L∧¬left (r.1.no:Int))∨r=(y,b) from funext fun r=>propext (HST.out r)];exact HL2.out
      case measure=>
       rw[RangeIs.left_eq (HR1.out.kept rfl rfl:RangeIs intK wn.drew w1.heap.size T.fm (frF T.L) _ cnt1),HR.out.left_eq];exact HLT.out
end
end Go.Proofs.YtdfccegeihfdpaaGreatDoor
