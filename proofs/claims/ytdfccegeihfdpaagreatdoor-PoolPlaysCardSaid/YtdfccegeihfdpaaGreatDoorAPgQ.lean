/-
  The frames' row, sorted by the closure of Frames.
-/
import Derived.Test.YtdfccegeihfdpaaGreatDoorAPgP
import Derived.Test.YtdfccegeihfdpaaGreatDoorAPgS
set_option maxRecDepth 100000
set_option maxHeartbeats 4000000
namespace Go.Proofs.YtdfccegeihfdpaaGreatDoor
open Go Go.RowKit Go.Shelf Go.Lib Go.Sort
def cmpN(x y:Fin 64):Int:=(x.1:Int) - y.1
theorem cmpN_lt(x y:Fin 64):ltOf cmpN x y=decide (x.1<y.1):=by
 unfold ltOf cmpN
 congr 1
 apply propext;omega
theorem cmpN_swo:SWO (ltOf cmpN) where
 irrefl x:=by rw[cmpN_lt];simp
 trans x y z h1 h2:=by rw[cmpN_lt]at*;simp at*;omega
 ntrans x y z h1 h2:=by rw[cmpN_lt]at*;simp at*;omega
theorem cmpN_tot(x y:Fin 64)(h1:ltOf cmpN x y=false)(h2:ltOf cmpN y x=false):x=y:=by
 rw[cmpN_lt]at*;simp at*;exact Fin.ext (by omega)
def pickF(os:List FrO)(n:Nat):FrO:=(os.find? fun o=>decide (o.1.no=n)).getD (⟨n,0,0,0,0,[],0⟩,(none,0))
theorem pickF_no(os:List FrO)(n:Nat):(pickF os n).1.no=n:=by
 unfold pickF
 cases h:os.find? fun o=>decide (o.1.no=n) with
 | none=>rfl
 | some o=>simpa using List.find?_some h
theorem pickF_of{os:List FrO}(hn:(os.map fun o=>o.1.no).Nodup){o:FrO}(ho:o∈os):pickF os o.1.no=o:=by
 unfold pickF
 induction os with
 | nil=>cases ho
 | cons a os ih=>
   rw[List.map_cons,List.nodup_cons]at hn
   rcases qmc.1 ho with rfl | ho
   ·simp
   ·have:a.1.no≠o.1.no:=fun e=>hn.1 (List.mem_map.2 ⟨o,ho,e.symm⟩)
    rw[List.find?_cons_of_neg (by simpa using this)]
    exact ih hn.2 ho
def frN(os:List FrO)(n:Fin 64):List Value:=frO (pickF os n.1)
theorem frN_len(os:List FrO)(n:Fin 64):(frN os n).length=6:=rfl
theorem frN_one(os:List FrO)(n:Fin 64)(v:Value)(h:v∈frN os n):v.oneCell'=true:=frame_row.one _ v h
theorem cmpN_ok(x y:Fin 64)(p1 p2 p3 p4 q1 q2 q3 q4:Int)(p5 q5:Value)(w:World):Calls Tryz.prog 93 #[.agg #[.int .i64 (x.1:Nat),.int .i64 p1,.int .i64 p2,.int .i64 p3,.int .i64 p4,p5],.agg #[.int .i64 (y.1:Nat),.int .i64 q1,.int .i64 q2,.int .i64 q3,.int .i64 q4,q5]] w fun e w'=>e= .returned (.int .i64 (cmpN x y))∧∃k os,w'=grow (w.drewN k) os:=by
 have hx:=x.2;have hy:=y.2;have ha:=((Blk.new w 83 #[.int .i64 (x.1:Nat),.int .i64 p1,.int .i64 p2,.int .i64 p3,.int .i64 p4,p5]).alloc (.cells #[.int .i64 (y.1:Nat),.int .i64 q1,.int .i64 q2,.int .i64 q3,.int .i64 q4,q5] 83)).cell 0;have hb:=(Blk.new (w.alloc (.cells #[.int .i64 (x.1:Nat),.int .i64 p1,.int .i64 p2,.int .i64 p3,.int .i64 p4,p5] 83)) 83 #[.int .i64 (y.1:Nat),.int .i64 q1,.int .i64 q2,.int .i64 q3,.int .i64 q4,q5]).cell 0
 have HG:Hid (∃k os,((w.alloc (.cells #[.int .i64 (x.1:Nat),.int .i64 p1,.int .i64 p2,.int .i64 p3,.int .i64 p4,p5] 83)).alloc (.cells #[.int .i64 (y.1:Nat),.int .i64 q1,.int .i64 q2,.int .i64 q3,.int .i64 q4,q5] 83))=grow (w.drewN k) os):=qh ⟨0,_,by
  rw[alloc_eq_grow,alloc_eq_grow,grow_grow];rfl⟩
 simp only[qA,qZ,World.size_alloc]at ha hb;unfold cmpN;go_enter Tryz.func93,Tryz.ntmps93
 go_wp2_with fail
 go_ret;exact⟨by simp,HG.out⟩
theorem cmpN_lays(os:List FrO)(blk off size:Nat)(w:World):CmpLays Tryz.prog 93 #[] (frN os) 6 cmpN blk off size w:=fun _ _ _ _ x y=>by
 have hx:=pickF_no os x.1;have hy:=pickF_no os y.1;unfold frN;generalize pickF os x.1=a at*;generalize pickF os y.1=b at*;unfold frO;rw[hx,hy];exact cmpN_ok x y _ _ _ _ _ _ _ _ _ _ _
section
variable {α:Type} [Inhabited α] {w:World} {B b n cap size:Nat} {TE:TypeId} {xs ys:List Value}
theorem own_holds(enc:α→Value)(d:Array α)(h:w.ownsRow B TE size (.slice (some ⟨b,0,none⟩) n cap) n xs)(hd:d.toList.map enc=xs):Holds enc w b 0 d:=by
 obtain⟨hl,h | ⟨g,c,cur,he,_,hh,_,_,hcs,ht⟩⟩:=h
 ·cases h.1
 ·cases he;intro j hj
  have hx:xs[j]? =some (enc d[j]!):=by
   rw[←hd,qgm,Array.getElem?_toList,Array.getElem?_eq_getElem hj,getElem!_pos d j hj];rfl
  refine⟨?_,by simp[World.frozen?,hh]⟩
  rw[←ht,List.getElem?_take]at hx
  have hx2:cur.toList[j]? =some (enc d[j]!):=by
   split at hx
   ·exact hx
   ·cases hx
  simp only[Nat.zero_add];unfold World.cell?;simp only[hh];rw[←Array.getElem?_toList];exact hx2
theorem own_putRow(enc:α→Value)(d:Array α)(m:Nat)(os:Array Obj)(h:w.ownsRow B TE size (.slice (some ⟨b,0,none⟩) n cap) n xs)(hd:d.toList.map enc=ys)(hl:ys.length=xs.length):
 (grow (putRow enc (Sort.ahead w m) b 0 d) os).ownsRow B TE size (.slice (some ⟨b,0,none⟩) n cap) n ys∧Upd (fun k=>k=b) w (grow (putRow enc (Sort.ahead w m) b 0 d) os):=by
 have hheap:∀k,k<w.heap.size→(grow (putRow enc (Sort.ahead w m) b 0 d) os).heap[k]? =if b=k then (w.heap[k]?).map (onCells (putCells enc 0 d)) else w.heap[k]? :=by
  intro k hk
  show((w.heap.modify b (onCells (putCells enc 0 d)))++os)[k]? =_
  rw[Array.getElem?_append_left (by simpa using hk),Array.getElem?_modify]
 have hu:Upd (fun k=>k=b) w (grow (putRow enc (Sort.ahead w m) b 0 d) os):=⟨rfl,rfl,rfl,by simp[grow,putRow,mapBlock,Sort.ahead],fun k hk hn=>by rw[hheap k hk,if_neg fun e=>hn e.symm]⟩
 refine⟨?_,hu⟩;obtain⟨h1,h | ⟨g,c,cur,he,hb,hh,h2,h3,hcs,ht⟩⟩:=h
 ·cases h.1
 ·cases he;refine⟨hl.trans h1,.inr ⟨b,cap,putCells enc 0 d cur,rfl,hb,?_,h2,h3,by simp[putCells,hcs],?_⟩⟩
  ·rw[hheap b (lt_of_heap hh),if_pos rfl,hh];rfl
  ·have hds:d.size=n * size:=by
    have:=congrArg List.length hd;simp at this;omega
   refine List.ext_getElem? fun t=> ?_
   rw[List.getElem?_take,←hd,qgm,Array.getElem?_toList,Array.getElem?_toList];by_cases h4:t<n * size
   ·have h5:t<cur.size:=by
     have:=Nat.mul_le_mul_right size h2;omega
    rw[if_pos h4,Array.getElem?_eq_getElem (by omega:t<d.size)]
    unfold putCells;rw[Array.getElem?_mapIdx,Array.getElem?_eq_getElem h5];simp only[Option.map_some,Nat.zero_le,Nat.zero_add,true_and,Nat.sub_zero];rw[if_pos (by omega),getElem!_pos d t (by omega)]
   ·rw[if_neg h4,Array.getElem?_eq_none (by omega)]
    rfl
theorem flatK_list(enc:α→List Value)(k:Nat)(hk:∀x,(enc x).length=k)(h0:0<k)(l:List α):(flatK enc k l.toArray).toList=l.flatMap enc:=by
 refine List.ext_getElem? fun t=> ?_
 by_cases h1:t<l.length * k
 ·have h2:t / k<l.length:=(Nat.div_lt_iff_lt_mul h0).2 h1;have h3:t % k<k:=Nat.mod_lt _ h0;have h4:=flatMap_get hk (qeg h2) (t % k) h3;rw[show t / k * k+t % k=t from by rw[Nat.mul_comm];exact Nat.div_add_mod t k]at h4
  rw[h4,Array.getElem?_toList];unfold flatK;rw[Array.getElem?_map,Array.getElem?_range];simp only[List.size_toArray,h1,if_true,Option.map_some];have h5:t / k<l.toArray.size:=by simpa using h2
  rw[getElem!_pos l.toArray (t / k) h5];have h6:t % k<(enc l[t / k]).length:=by rw[hk];exact h3
  rw[qeg h6];simp;rw[qeg h6];rfl
 ·rw[List.getElem?_eq_none (by simp[flatK];omega),List.getElem?_eq_none (by rw[flatMap_len hk];omega)]
end
def SortF(os:List FrO):Prop:=(os.map fun o=>o.1.no).Pairwise (·<·)
theorem fsort_ok{w:World}{B:Nat}{v:Value}{os:List FrO}(h:OwnF B w v os)(hl:os.length≤100000)(hn:(os.map fun o=>o.1.no).Nodup)(hb:∀o∈os,o.1.no<64):
 Calls Tryz.prog 92 #[v,.func (.func 93) #[] #[]] w fun e w'=>e= .returned (.tuple #[])∧(∃os',OwnF B w' v os'∧(∀o,o∈os'↔o∈os)∧os'.length=os.length∧SortF os')∧Upd (fun k=>v.ownBlock=some k) w w':=by
 rcases List.eq_nil_or_concat os with rfl | ⟨ys,y,rfl⟩
 ·obtain⟨A,c,rfl,hc⟩:=h.els.val;have h9:=AnyF.slices_SortFunc_none (P:=Tryz.prog) (ρ:=Tryz.l6_ren) { Tryz.l6 with } A c (.func (.func 93) #[] #[]) w
  refine Calls.mono h9 ?_;rintro e w' ⟨rfl,rfl⟩;exact⟨rfl,⟨[],h,fun _=>Iff.rfl,rfl,List.Pairwise.nil⟩,Upd.refl _ _⟩
 ·generalize hxs:ys.concat y=os at*;have hne:os≠[]:=by rw[←hxs];simp
  have hrow:=h.row;have hnew:=h.new;obtain⟨_,h0 | ⟨g,cap,cur,rfl,_,hh,_⟩⟩:=h.row
  ·exact absurd (List.length_eq_zero_iff.1 h0.2) hne
  ·obtain⟨ns,hns⟩:∃ns:List (Fin 64),ns.map (·.1)=os.map fun o=>o.1.no:=by
    refine⟨os.attach.map fun o=>⟨o.1.1.no,hb _ o.2⟩,?_⟩
    rw[List.map_map]
    conv=>rhs;rw[←List.attach_map_subtype_val os,List.map_map]
    rfl
   have hpk:ns.map (fun n=>pickF os n.1)=os:=by
    have h1:ns.map (fun n=>pickF os n.1)=(ns.map (·.1)).map (pickF os):=by rw[List.map_map];rfl
    rw[h1,hns,List.map_map]
    conv=>rhs;rw[←List.map_id os]
    refine List.map_congr_left fun o ho=> ?_
    exact pickF_of hn ho
   have hlen:ns.length=os.length:=by have:=congrArg List.length hns;simpa using this
   have hfl:ns.flatMap (frN os)=os.flatMap frO:=by
    conv=>rhs;rw[←hpk,List.flatMap_map]
    rfl
   have hH:HoldsK (frN os) 6 w g 0 ns.toArray:=own_holds id _ hrow (by rw[List.map_id,flatK_list _ _ (frN_len os) (by decide) ns,hfl])
   have h9:=AnyQ.slices_SortFunc_total Tryz.l6 6 (fun _=>by kernel_rfl) (fun _=>by kernel_rfl) (frN os) (frN_len os) (frN_one os) cmpN cmpN_swo 93 #[] g 0 cap ns.toArray w (enters_of Tryz.func93 (by kernel_rfl) rfl) (cmpN_lays os _ _ _ _) hH (lt_of_heap hh) (by simp;omega) cmpN_tot
   have e9:ns.toArray.size=os.length:=by simp[hlen]
   rw[e9]at h9;refine Calls.mono h9 ?_;rintro e w' ⟨rfl,m,oo,rfl⟩;have hperm:=List.mergeSort_perm ns (fun x y=> !(ltOf cmpN) y x)
   have hsrt:(ns.mergeSort fun x y=> !(ltOf cmpN) y x).Pairwise fun a b=>a.1<b.1:=by
    have h1:=List.pairwise_mergeSort (le:=fun x y=> !(ltOf cmpN) y x) (fun a b c h1 h2=>by
     rw[cmpN_lt]at*;simp at*;omega) (fun a b=>by
     simp only[cmpN_lt];simp;omega) ns
    have hnd:ns.Nodup:=by
     have h5:(ns.map fun x:Fin 64=>x.1).Nodup:=by rw[hns];exact hn
     exact(List.pairwise_map.1 h5).imp fun h6 e6=>h6 (by rw[e6])
    have h2:=hperm.nodup_iff.2 hnd;refine(h1.and h2).imp fun {a b} h=> ?_
    obtain⟨h3,h4⟩:=h;rw[cmpN_lt]at h3;simp at h3;have:a.1≠b.1:=fun e=>h4 (Fin.ext e)
    omega
   generalize hms:(ns.mergeSort fun x y=> !(ltOf cmpN) y x)=ms at*
   have hml:ms.length=os.length:=by rw[←hlen];exact hperm.length_eq
   have hfm:ms.flatMap (frN os)=(ms.map fun n=>pickF os n.1).flatMap frO:=by rw[List.flatMap_map];rfl
   obtain⟨h1,h2⟩:=own_putRow id (flatK (frN os) 6 ms.toArray) m oo hrow (ys:=(ms.map fun n=>pickF os n.1).flatMap frO) (by rw[List.map_id,flatK_list _ _ (frN_len os) (by decide) _,hfm]) (by rw[flatMap_len frO_len,flatMap_len frO_len,qlm,hml])
   refine⟨rfl,⟨ms.map fun n=>pickF os n.1,⟨?_,hnew⟩,fun o=> ?_,by rw[qlm,hml],?_⟩,h2.mono fun k _ e=> ?_⟩
   ·rw[qlm,hml];exact h1
   ·rw[List.mem_map]
    conv=>rhs;rw[←hpk,List.mem_map]
    exact⟨fun ⟨a,ha,e⟩=>⟨a,hperm.mem_iff.1 ha,e⟩,fun ⟨a,ha,e⟩=>⟨a,hperm.mem_iff.2 ha,e⟩⟩
   ·unfold SortF;rw[List.map_map];have e1:((fun o:FrO=>o.1.no) ∘ fun n:Fin 64=>pickF os n.1)=fun n=>n.1:=funext fun n=>pickF_no os n.1
    rw[e1,List.pairwise_map];exact hsrt
   ·subst e;rfl
structure FrsP(T:PoS)(w':World)(v:Value)(os:List FrO):Prop where
 own:∃B,OwnF B w' v os
 mem:∀q∈T.L,∃o∈os,o.1=q.1
 of:∀o∈os,∃q∈T.L,q.1=o.1
 sort:SortF os
 cells:∀o∈os,CellsE w' (slO o) o.1.cells
theorem frames_ok{w:World}{bz P l:Nat}{p:DkP}{S:LogS}{T:PoS}(h:PoolAt bz w P p l S T)(hT:PoB T):
 Calls Tryz.prog 32 #[.pointer (some ⟨P,0,none⟩)] w fun e w'=>∃v os,e= .returned v∧FrsP T w' v os∧Upd Nowhere w w':=by
 refine frames_walk h hT fun A c os W hO hG hC hu=> ?_
 have hb:∀o∈os,o.1.no<64:=fun o ho=>by
  obtain⟨q,hq,e,_⟩:=hG.from_ o ho;have:=(hT.fr q hq).1;have:=hT.pages;rw[←e];omega
 have hl:=hG.len_le h.nos;have h3:=hT.len;have h4:=hT.most;refine(fsort_ok hO (by omega) hG.nd hb).mono ?_
 rintro e w' ⟨rfl,⟨os',hO',hm,_,hs⟩,hu'⟩;refine⟨rfl,_,os',rfl,⟨⟨_,hO'⟩,fun q hq=> ?_,fun o ho=> ?_,hs,fun o ho=> ?_⟩,hu.trans hu' fun k hk e=> ?_⟩
 ·obtain⟨o,ho,e⟩:=hG.all q hq id;exact⟨o,(hm o).2 ho,e⟩
 ·obtain⟨q,hq,e,_⟩:=hG.from_ o ((hm o).1 ho);exact⟨q,hq,e⟩
 ·exact(hC o ((hm o).1 ho)).upd hu' (noC_own hO (by decide))
 ·have:=hO.new k e;omega
end Go.Proofs.YtdfccegeihfdpaaGreatDoor
