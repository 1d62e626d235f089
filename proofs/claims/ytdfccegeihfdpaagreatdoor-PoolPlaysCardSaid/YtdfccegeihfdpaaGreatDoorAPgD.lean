/-
  Contracts of layer 10: slices.Insert at cells.
-/
import Derived.Test.YtdfccegeihfdpaaGreatDoorAPgB
import Derived.Lib.Overlaps
import Derived.Lib.AppendZerosOnto
set_option maxRecDepth 100000
set_option maxHeartbeats 4000000
namespace Go.Proofs.YtdfccegeihfdpaaGreatDoor
open Go Go.RowKit
theorem run_copy_k{P:Program}(w:World)(dT sT ty elem:TypeId)(sz g o dLen dCap:Nat)(a:Addr)(sLen sCap:Nat)(cur:Array Value)(t:TypeId)(cs:List Value)(m:Nat)
 (hu:P.underlying dT=some (.slice elem)) (hs:(P.info? elem).map (·.size)=some sz)
 (hg:w.heap[g]? =some (.cells cur t (0,0))) (hm:m=Nat.min sLen dLen) (hn:cs.length=m * sz)
 (hsrc:∀j v,cs[j]? =some v→w.cell? (a.add j)=some v) (hfit:o+cs.length≤cur.size) (h1:∀v∈cs,v.oneCell'=true):
 (Builtin.copy_ #[dT,sT] ty #[.slice (some ⟨g,o,none⟩) dLen dCap,.slice (some a) sLen sCap]).run P w=
   .ok (goInt m) (w.setRow g (cur.toList.take o++cs++cur.toList.drop (o+cs.length)).toArray):=by
 have hl:=run_firstCells_some (P:=P) w sz m a sLen sCap cs hn hsrc;have hst:=run_storeCells_at P g o t cs 0 cur w hg (by simpa using hfit) h1
 simp only[Nat.add_zero]at hst
 cases hq:P.info? elem with
 | none=>simp[hq]at hs
 | some i=>
   have hi:i.size=sz:=by simpa [hq] using hs
   simp[Builtin.copy_,run_underlying hu,Builtin.lenOf,sizeOf,typeInfo,hq,hi,←hm,hl,hst]
section
variable {P:Program} {ops:Array Oper} {Q:Exit→Act→World→Prop} {a:Act} {w:World} {o:Oper}
theorem step_copy_run{K:Act→World→Prop}{E:Prop}(hg:o.guard=none)(x y:Operand)(t u:TypeId)(ho:o.op= .call { callee:= .builtin .copy,args:=#[x,y],argTypes:=#[t,u] }){v1 v2 v':Value}{w':World}
 (hx:a.eval x=v1) (hy:a.eval y=v2) (hrun:(Builtin.copy_ #[t,u] o.type #[v1,v2]).run P w= .ok v' w') (h:K (a.put o.dst v') w'):
 if Region.wanted o (yielded ops a.tmps)=true then Oper.wp P o a w K Q else E:=by
 have hw:Region.wanted o (yielded ops a.tmps)=true:=by simp[Region.wanted,hg]
 rw[if_pos hw];unfold Oper.wp execOp;simp only[ho,resolve,invoke,builtin,Sem.run_bind,Sem.run_pure,Result.andThen_ok,List.map_toArray,List.map_cons,List.map_nil,hx,hy,hrun];exact h
end
theorem flat_take(L:Cl)(i:Nat):(L.take i).flatMap cellC=(L.flatMap cellC).take (i * 3):=by
 induction L generalizing i with
 | nil=>simp
 | cons a L ih=>
   cases i with
   | zero=>simp
   | succ i=>
     have e:(i+1) * 3=(cellC a).length+i * 3:=by rw[cellC_len];omega
     rw[List.take_succ_cons,List.flatMap_cons,List.flatMap_cons,ih,e,List.take_length_add_append]
theorem flat_drop(L:Cl)(i:Nat):(L.drop i).flatMap cellC=(L.flatMap cellC).drop (i * 3):=by
 induction L generalizing i with
 | nil=>simp
 | cons a L ih=>
   cases i with
   | zero=>simp
   | succ i=>
     have e:(i+1) * 3=(cellC a).length+i * 3:=by rw[cellC_len];omega
     rw[List.drop_succ_cons,List.flatMap_cons,ih,e,List.drop_length_add_append]
theorem cellC_one(L:Cl):∀u∈L.flatMap cellC,u.oneCell'=true:=fun u h=>by
 obtain⟨c,_,h⟩:=List.mem_flatMap.1 h;exact cell_row.one c u h
theorem one_els{w:World}{vb:Nat}{x:Ky×Vl}(hx:Blk w vb 155 (cellC x).toArray):Els 3 cellC w (.slice (some ⟨vb,0,none⟩) 1 1) [x]:=by
 refine⟨_,1,rfl,qlr _,rfl,fun _=>⟨_,rfl,hx.lt,rfl,fun j u hj=> ?_⟩⟩
 rw[Addr.add_lit,Nat.zero_add,hx.cell];rw[List.flatMap_cons,List.flatMap_nil,List.append_nil]at hj;rw[qA];exact hj
theorem insert_end{B:Nat}{w:World}{v:Value}{L:Cl}(h:OwnC B w v L)(hB:B≤w.heap.size)(hl:L.length≤100)(x:Ky×Vl){vb:Nat}(hx:Blk w vb 155 (cellC x).toArray):
 Calls Tryz.prog 135 #[v,.int .i64 (L.length:Nat),.slice (some ⟨vb,0,none⟩) 1 1] w fun e w'=>∃A c,e= .returned (.slice A (L.length+1) c)∧OwnC B w' (.slice A (L.length+1) c) (L++[x])∧Upd (fun k=>v.ownBlock=some k) w w':=by
 obtain⟨A2,c2,w2,hrun,hO,hU⟩:=cell_row.appU h hB 70 (one_els hx) (by simp;omega)
 obtain⟨A,c,rfl,hc⟩:=h.cap;simp only[qls]at hrun hO;have HRUN:=qh hrun;have HO:=qh hO;have HU:=qh hU;obtain⟨n,hn⟩:∃n,L.length=n:=⟨_,rfl⟩;rw[hn]at HRUN HO HU hc hl ⊢;have hc':(n:Int)≤(c:Int):=by omega
 clear hrun hO hU h hx hB hn;by_cases hcn:c=n
 ·go_enter Tryz.func135,Tryz.ntmps135
  go_wp2_with (at_builtin;refine wpList_append_run rfl _ _ _ rfl rfl rfl HRUN.out ?_)
  go_ret;exact⟨_,_,rfl,HO.out,HU.out⟩
 ·go_enter Tryz.func135,Tryz.ntmps135
  go_wp2_with (at_builtin;refine wpList_append_run rfl _ _ _ rfl rfl rfl HRUN.out ?_)
  go_ret;exact⟨_,_,rfl,HO.out,HU.out⟩
theorem app_zeros{w:World}{g i cap:Nat}{xs:Cl}(hcell:∀j u,(xs.flatMap cellC)[j]? =some u→w.cell? ⟨g,j,none⟩=some u)(hlen:xs.length=i)(k:Nat)(h0:0<k)(hcap:cap<i+k)(hbig:i+k≤1000):
 ∃c' w' cs,(∀ty,(Builtin.append_ #[70,3] ty #[.slice (some ⟨g,0,none⟩) i cap,.int .i64 (k:Int)]).run Tryz.prog w= .ok (.slice (some ⟨w.heap.size,0,none⟩) (i+k) c') w')∧i+k≤c'∧c'≤maxLen∧Blk w' w.heap.size 155 cs∧cs.size=c' * 3∧cs.toList.take (i * 3)=xs.flatMap cellC∧Upd Nowhere w w'∧w'.heap.size=w.heap.size+1:=by
 obtain⟨i0,hi0,hz0,hzs,hzb⟩:=info_parts (P:=Tryz.prog) (e:=155) (z:= .agg #[.string ⟨#[]⟩,.bool false,.string ⟨#[]⟩]) (size:=3) (bytes:=40) (by kernel_rfl)
 have hfl:(xs.flatMap cellC).length=i * 3:=by rw[flatMap_len cellC_len,hlen]
 have hold:(Builtin.firstCells i0.size i (.slice (some ⟨g,0,none⟩) i cap)).run Tryz.prog w.drew= .ok (xs.flatMap cellC).toArray w.drew:=by
  rw[hzs]
  exact run_firstCells_some w.drew 3 i ⟨g,0,none⟩ i cap _ hfl fun j u hj=>by
   rw[Addr.add_lit,Nat.zero_add];exact hcell j u hj
 refine⟨_,_,_,fun ty=>Go.Lib.run_append_grow_zeros w 70 3 ty 155 i0 _ .i64 .i64 Tryz.underlying70 Tryz.underlying3 hi0 hz0 (some ⟨g,0,none⟩) i cap _ hold k h0 (by omega) hcap (by omega) (by rw[hzb];omega) (by rw[hzb];exact growslice_fits hcap (by omega)),grownCap_ge _ _ _ _,grownCap_le_maxLen _ _ _ _ (by unfold maxLen;omega),Blk.new _ _ _,?_,?_,(Upd.refl _ _).drew.alloc _,by simp⟩
 ·have:=grownCap_ge w (i+k) cap 155;simp only[Array.size_append,List.size_toArray,hfl,size_zeroCells];have e3:(Value.agg #[.string ⟨#[]⟩,.bool false,.string ⟨#[]⟩]).cells.size=3:=rfl;rw[e3];omega
 ·rw[Array.append_assoc,Array.toList_append,List.toList_toArray,List.take_append_of_le_length (by omega),List.take_of_length_le (by omega)]
theorem own_of_blk{B:Nat}{w:World}{g n c:Nat}{cs:Array Value}{L:Cl}(hb:Blk w g 155 cs)(hB:B≤g)(hl:L.length=n)(hc:n≤c)(hm:c≤maxLen)(hs:cs.size=c * 3)(ht:cs.toList.take (n * 3)=L.flatMap cellC):OwnC B w (.slice (some ⟨g,0,none⟩) n c) L:=by
 refine⟨⟨flatMap_len cellC_len L,.inr ⟨g,c,cs,by rw[hl],Nat.zero_le _,hb,by rw[hl];exact hc,hm,hs,by rw[hl];exact ht⟩⟩,fun k hk=> ?_⟩
 simp only[Value.ownBlock,Option.some.injEq]at hk;omega
theorem splice_cells{cs:List Value}{L:Cl}{i n:Nat}{x:Ky×Vl}(hn:L.length=n)(hi:i≤n)(hc:(n+1) * 3≤cs.length)(ht:cs.take (i * 3)=(L.take i).flatMap cellC):
 ((cs.take (i * 3)++cellC x++cs.drop (i * 3+(cellC x).length)).take (i * 3+3)++(L.drop i).flatMap cellC++(cs.take (i * 3)++cellC x++cs.drop (i * 3+(cellC x).length)).drop (i * 3+3+((L.drop i).flatMap cellC).length)).take ((n+1) * 3)=(L.take i++x::L.drop i).flatMap cellC:=by
 have h1:((L.drop i).flatMap cellC).length=(n - i) * 3:=by rw[flatMap_len cellC_len,qld,hn]
 have h2:(cs.take (i * 3)++cellC x).length=i * 3+3:=by rw[qla,qlt,cellC_len];omega
 rw[List.take_left' (l₁:=cs.take (i * 3)++cellC x) h2,List.take_left' (by rw[qla,h2,h1];omega),ht]
 simp only[List.flatMap_append,List.flatMap_cons,qaa]
theorem insert_grow{B:Nat}{w:World}{g n c i:Nat}{cur:Array Value}{L:Cl}(hb:Blk w g 155 cur)(hn:L.length=n)(hi:i<n)(hnc:n≤c)(hl:n≤100)(ht:cur.toList.take (n * 3)=L.flatMap cellC)(hroom:c<n+1)(hB:B≤w.heap.size)(x:Ky×Vl){vb:Nat}(hx:Blk w vb 155 (cellC x).toArray):
 Calls Tryz.prog 135 #[.slice (some ⟨g,0,none⟩) n c,.int .i64 (i:Nat),.slice (some ⟨vb,0,none⟩) 1 1] w fun e w'=>∃A c',e= .returned (.slice A (n+1) c')∧OwnC B w' (.slice A (n+1) c') (L.take i++x::L.drop i)∧Upd Nowhere w w':=by
 have hcells:∀j u,(L.flatMap cellC)[j]? =some u→w.cell? ⟨g,j,none⟩=some u:=fun j u hj=>by
  rw[hb.cell];rw[←ht,List.getElem?_take]at hj;split at hj
  ·rw[←Array.getElem?_toList];exact hj
  ·cases hj
 have ht1:∀j u,((L.take i).flatMap cellC)[j]? =some u→w.cell? ⟨g,j,none⟩=some u:=fun j u hj=>by
  rw[flat_take,List.getElem?_take]at hj;split at hj
  ·exact hcells j u hj
  ·cases hj
 obtain⟨c1,w1,cs,hr1,hc1,hm1,hb1,hs1,hk1,hu1,hz1⟩:=app_zeros (w:=w) (g:=g) (i:=i) (cap:=c) ht1 (by rw[qlt];omega) (n+1 - i) (by omega) (by omega) (by omega)
 have e1:i+(n+1 - i)=n+1:=by omega
 have hmin1:1=Nat.min 1 (n+1 - i):=by
  simp only[Nat.min_def];split<;>omega
 have hmin2:n - i=Nat.min (n - i) (n+1 - (i+1)):=by
  simp only[Nat.min_def];split<;>omega
 rw[e1]at hr1 hc1;have hgN:g≠w.heap.size:=by have:=hb.lt;omega
 have hvN:vb≠w.heap.size:=by have:=hx.lt;omega
 obtain⟨cl,hcl⟩:∃cl,cs.toList=cl:=⟨_,rfl⟩;have hcs:cs=cl.toArray:=by rw[←hcl,Array.toArray_toList]
 have hcz:cl.length=c1 * 3:=by rw[←hcl,Array.length_toList,hs1]
 rw[hcl]at hk1
 have hcopy1:∀W,Upd Nowhere w1 W→W.heap.size=w1.heap.size→∃w2,(∀ty dc,(Builtin.copy_ #[70,70] ty #[.slice (some ⟨w.heap.size,i * 3,none⟩) (n+1 - i) dc,.slice (some ⟨vb,0,none⟩) 1 1]).run Tryz.prog W= .ok (goInt 1) w2)∧Blk w2 w.heap.size 155 (cl.take (i * 3)++cellC x++cl.drop (i * 3+(cellC x).length)).toArray∧Upd (fun k=>k=w.heap.size) W w2:=fun W hW hWs=>by
  refine⟨_,fun ty dc=>run_copy_k W _ _ ty 155 3 w.heap.size (i * 3) (n+1 - i) dc ⟨vb,0,none⟩ 1 1 cs 155 (cellC x) 1 Tryz.underlying70 (by kernel_rfl) (hb1.upd hW id) hmin1 (by rw[cellC_len]) (fun j u hj=> ?_) (by rw[cellC_len,hs1];omega) (fun u hu=>cell_row.one x u hu),?_,⟨rfl,rfl,rfl,by simp[World.setRow],fun k _ hk=>setRow_other W w.heap.size k _ hk⟩⟩
  ·rw[Addr.add_lit,Nat.zero_add,((hx.upd hu1 id).upd hW id).cell,qA];exact hj
  ·have:=setRow_heap W w.heap.size cs (cs.toList.take (i * 3)++cellC x++cs.toList.drop (i * 3+(cellC x).length)).toArray _ _ (hb1.upd hW id);rw[hcl]at this;rw[hcl];exact this
 obtain⟨mid,hmid⟩:∃mid,cl.take (i * 3)++cellC x++cl.drop (i * 3+(cellC x).length)=mid:=⟨_,rfl⟩
 have hmz:mid.length=c1 * 3:=by
  rw[←hmid];simp only[qla,qlt,qld,cellC_len,hcz];omega
 have hdl:((L.drop i).flatMap cellC).length=(n - i) * 3:=by rw[flatMap_len cellC_len,qld,hn]
 have hcopy2:∀W,Blk W w.heap.size 155 mid.toArray→Blk W g 155 cur→∃w3,(∀ty dc sc,(Builtin.copy_ #[70,70] ty #[.slice (some ⟨w.heap.size,(i+1) * 3,none⟩) (n+1 - (i+1)) dc,.slice (some ⟨g,i * 3,none⟩) (n - i) sc]).run Tryz.prog W= .ok (goInt ((n - i:Nat):Int)) w3)∧Blk w3 w.heap.size 155 (mid.take (i * 3+3)++(L.drop i).flatMap cellC++mid.drop (i * 3+3+((L.drop i).flatMap cellC).length)).toArray∧Upd (fun k=>k=w.heap.size) W w3:=fun W hW hWg=>by
  refine⟨_,fun ty dc sc=>run_copy_k W _ _ ty 155 3 w.heap.size ((i+1) * 3) (n+1 - (i+1)) dc ⟨g,i * 3,none⟩ (n - i) sc mid.toArray 155 ((L.drop i).flatMap cellC) (n - i) Tryz.underlying70 (by kernel_rfl) hW hmin2 hdl (fun j u hj=> ?_) (by rw[hdl,List.size_toArray,hmz];omega) (fun u hu=>cellC_one _ u hu),?_,⟨rfl,rfl,rfl,by simp[World.setRow],fun k _ hk=>setRow_other W w.heap.size k _ hk⟩⟩
  ·rw[Addr.add_lit,hWg.cell,←Array.getElem?_toList];rw[flat_drop,←ht,List.getElem?_drop,List.getElem?_take]at hj;split at hj
   ·exact hj
   ·cases hj
  ·have:=setRow_heap W w.heap.size mid.toArray (mid.toArray.toList.take ((i+1) * 3)++(L.drop i).flatMap cellC++mid.toArray.toList.drop ((i+1) * 3+((L.drop i).flatMap cellC).length)).toArray _ _ hW;rw[show(i+1) * 3=i * 3+3 by omega]at this ⊢
   exact this
 have hfin:=splice_cells (cs:=cl) (L:=L) (i:=i) (n:=n) (x:=x) hn (by omega) (by rw[hcz];omega) hk1
 rw[hmid]at hfin hcopy1;obtain⟨fin,hfi⟩:∃fin,mid.take (i * 3+3)++(L.drop i).flatMap cellC++mid.drop (i * 3+3+((L.drop i).flatMap cellC).length)=fin:=⟨_,rfl⟩
 have hfz:fin.length=c1 * 3:=by
  rw[←hfi];simp only[qla,qlt,qld,hdl,hmz];omega
 rw[hfi]at hfin hcopy2;obtain⟨w2,hr2,hb2,hu2⟩:=hcopy1 w1 (Upd.refl _ _) rfl;have hbg2:=(hb.upd hu1 id).upd hu2 hgN;obtain⟨w3,hr3,hb3,hu3⟩:=hcopy2 w2.drew hb2 hbg2;have hkk:(n:Int)+1 - (i:Int)=((n+1 - i:Nat):Int):=by omega
 rw[←hkk]at hr1;have HR1:=qh hr1;have HR2:=qh hr2;have HR3:=qh hr3;have HB3:=qh hb3;have HU3:Hid (Upd Nowhere w w3):=qh (((hu1.trans hu2 fun k hk e=>by omega).drew).trans hu3 fun k hk e=>by omega)
 have HFIN:=qh hfin;have HFZ:=qh hfz;have HBB:=qh hB;have HNI:Hid ((L.take i++x::L.drop i).length=n+1):=qh (by simp[hn];omega)
 have HC1:=qh hc1;have HM1:=qh hm1;have i1:(i:Int)<(n:Int):=by omega
 have i2:¬(i:Int)=(n:Int):=by omega
 have i3:(c:Int)<(n:Int)+1:=by omega
 have i4:(i:Int)≤(n:Int):=by omega
 have i5:¬c=i:=by omega
 have i6:¬c1=i:=by omega
 have i7:¬c1=i+1:=by omega
 have i8:(n:Int)≤(c:Int):=by omega
 have i9:(n:Int)≤100:=by omega
 have ia:i≤n:=by omega
 have ib:i+1≤n+1:=by omega
 have ic:(i:Int)≤(n:Int)+1:=by omega
 have id':(i:Int)+1≤(n:Int)+1:=by omega
 obtain⟨m1,hm1'⟩:∃m1,m1=i+1:=⟨_,rfl⟩;have hw1:IntKind.i64.wrap ((i:Int)+1)=(m1:Int):=by rw[IntKind.wrap_i64];omega
 have HR3':Hid (∀ty dc sc,(Builtin.copy_ #[70,70] ty #[.slice (some ⟨w.heap.size,m1 * 3,none⟩) (n+1 - m1) dc,.slice (some ⟨g,i * 3,none⟩) (n - i) sc]).run Tryz.prog w2.drew= .ok (goInt ((n - i:Nat):Int)) w3):=qh (by rw[hm1'];exact HR3.out)
 have j1:(m1:Int)≤(n:Int)+1:=by omega
 have j2:m1≤n+1:=by omega
 have j3:¬c1=m1:=by omega
 have j4:(0:Int)≤(m1:Int):=by omega
 clear hm1' HR3 i7 ib id';clear hmin1 hmin2 hr1 hr2 hr3 hb3 hu3 hfin hfz hfi hcopy1 hcopy2 hb2 hbg2 hu2 hmid hmz hdl hk1 hcz hcs hcl hu1 hb1 hs1 hm1 hgN hvN ht ht1 hcells hb hx hkk hB;go_enter Tryz.func135,Tryz.ntmps135
 go_wp2_with (first | (at_builtin;refine Go.Lib.wpList_append_run _ rfl _ _ _ _ rfl _ _ rfl rfl _ _ (HR1.out _) ?_) | (with_reducible refine wpList_copy_run rfl (.tmp 43) (.tmp 44) 70 70 rfl rfl rfl (HR2.out _ _) ?_))
 go_region_law (refine step_copy_run rfl (.tmp 50) (.tmp 53) 70 70 rfl (v1:= .slice (some ⟨w.heap.size,m1 * 3,none⟩) (n+1 - m1) (c1 - m1)) (v2:= .slice (some ⟨g,i * 3,none⟩) (n - i) (c - i)) (by simp[Act.eval,Act.put]) (by simp[Act.eval,Act.put]) (HR3'.out _ _ _) ?_)
 go_wp2_with fail
 go_ret;exact⟨_,_,rfl,own_of_blk HB3.out HBB.out HNI.out HC1.out HM1.out (by rw[List.size_toArray];exact HFZ.out) HFIN.out,HU3.out⟩
theorem splice_room{A:List Value}{L:Cl}{i n:Nat}{x:Ky×Vl}(hn:L.length=n)(hi:i≤n)(hc:(n+1) * 3≤A.length)(ht:A.take (n * 3)=L.flatMap cellC):
 ((A.take (i * 3+3)++(L.drop i).flatMap cellC++A.drop (i * 3+3+((L.drop i).flatMap cellC).length)).take (i * 3)++cellC x++(A.take (i * 3+3)++(L.drop i).flatMap cellC++A.drop (i * 3+3+((L.drop i).flatMap cellC).length)).drop (i * 3+(cellC x).length)).take ((n+1) * 3)=(L.take i++x::L.drop i).flatMap cellC:=by
 have h1:((L.drop i).flatMap cellC).length=(n - i) * 3:=by rw[flatMap_len cellC_len,qld,hn]
 have h2:(A.take (i * 3+3)).length=i * 3+3:=by rw[qlt];omega
 have e1:(A.take (i * 3+3)++(L.drop i).flatMap cellC++A.drop (i * 3+3+((L.drop i).flatMap cellC).length)).take (i * 3)=(L.take i).flatMap cellC:=by
  rw[qaa,List.take_append_of_le_length (by omega),List.take_take,Nat.min_eq_left (by omega),flat_take,←ht,List.take_take,Nat.min_eq_left (by omega)]
 have e2:(A.take (i * 3+3)++(L.drop i).flatMap cellC++A.drop (i * 3+3+((L.drop i).flatMap cellC).length)).drop (i * 3+(cellC x).length)=(L.drop i).flatMap cellC++A.drop (i * 3+3+((L.drop i).flatMap cellC).length):=by
  rw[cellC_len,qaa,List.drop_left' h2]
 have e3:((L.take i).flatMap cellC).length=i * 3:=by rw[flatMap_len cellC_len,qlt];omega
 rw[e1,e2,←qaa,List.take_left' (by rw[qla,qla,h1,e3,cellC_len];omega)]
 simp only[List.flatMap_append,List.flatMap_cons,qaa]
theorem insert_room{B:Nat}{w:World}{g n c i:Nat}{cur:Array Value}{L:Cl}(hb:Blk w g 155 cur)(hn:L.length=n)(hi:i<n)(hcm:c≤maxLen)(hl:n≤100)(hsz:cur.size=c * 3)(ht:cur.toList.take (n * 3)=L.flatMap cellC)(hroom:n+1≤c)(hB:B≤g)(x:Ky×Vl){vb:Nat}(hx:Blk w vb 155 (cellC x).toArray)(hne:vb≠g):
 Calls Tryz.prog 135 #[.slice (some ⟨g,0,none⟩) n c,.int .i64 (i:Nat),.slice (some ⟨vb,0,none⟩) 1 1] w fun e w'=>∃A c',e= .returned (.slice A (n+1) c')∧OwnC B w' (.slice A (n+1) c') (L.take i++x::L.drop i)∧Upd (fun k=>k=g) w w':=by
 have hdl:((L.drop i).flatMap cellC).length=(n - i) * 3:=by rw[flatMap_len cellC_len,qld,hn]
 have hmin1:n - i=Nat.min (n+1 - i) (n+1 - (i+1)):=by
  simp only[Nat.min_def];split<;>omega
 have hmin2:1=Nat.min 1 (n+1 - i):=by
  simp only[Nat.min_def];split<;>omega
 obtain⟨cl,hcl⟩:∃cl,cur.toList=cl:=⟨_,rfl⟩;have hcs:cur=cl.toArray:=by rw[←hcl,Array.toArray_toList]
 have hcz:cl.length=c * 3:=by rw[←hcl,Array.length_toList,hsz]
 rw[hcl]at ht;subst hcs;obtain⟨m1,hm1⟩:∃m1,m1=i+1:=⟨_,rfl⟩
 have hov:∀lb cb,(callFunc 198 #[.slice (some ⟨vb,0,none⟩) 1 1,.slice (some ⟨g,m1 * 3,none⟩) lb cb]).run Tryz.prog w= .ok (.value (.bool false)) w:=fun lb cb=>by
  have hsa:w.shape? vb=some (155,3):=by
   have h:=hx;unfold Blk at h;simp[World.shape?,h,cellC]
  have hsb:w.shape? g=some (155,cl.length):=by
   have h:=hb;unfold Blk at h;simp[World.shape?,h]
  rw[run_callFunc_extern Tryz.func198 (by kernel_rfl) (by kernel_rfl) (by kernel_rfl) (e:=Extern.SlicesOverlaps.overlaps #[70,70] #[4]) (by kernel_rfl),
   Go.Lib.run_overlaps_apart w 70 4 155 Tryz.underlying70 3 Tryz.sizeOf155 ⟨vb,0,none⟩ ⟨g,m1 * 3,none⟩ 1 1 lb cb hne _ _ _ _ hsa hsb (by omega) (hx.frozen _) (hx.frozen _)]
  rfl
 obtain⟨mid,hmid⟩:∃mid,cl.take (i * 3+3)++(L.drop i).flatMap cellC++cl.drop (i * 3+3+((L.drop i).flatMap cellC).length)=mid:=⟨_,rfl⟩
 have hmz:mid.length=c * 3:=by
  rw[←hmid];simp only[qla,qlt,qld,hdl,hcz];omega
 have hcopy1:∃w1,(∀ty dc sc,(Builtin.copy_ #[70,70] ty #[.slice (some ⟨g,m1 * 3,none⟩) (n+1 - m1) dc,.slice (some ⟨g,i * 3,none⟩) (n+1 - i) sc]).run Tryz.prog w.drew= .ok (goInt ((n - i:Nat):Int)) w1)∧Blk w1 g 155 mid.toArray∧Upd (fun k=>k=g) w w1∧w1.heap.size=w.heap.size:=by
  refine⟨_,fun ty dc sc=>run_copy_k w.drew _ _ ty 155 3 g (m1 * 3) (n+1 - m1) dc ⟨g,i * 3,none⟩ (n+1 - i) sc cl.toArray 155 ((L.drop i).flatMap cellC) (n - i) Tryz.underlying70 (by kernel_rfl) hb (by rw[hm1];exact hmin1) hdl (fun j u hj=> ?_) (by rw[hdl,List.size_toArray,hcz,hm1];omega) (fun u hu=>cellC_one _ u hu),?_,⟨rfl,rfl,rfl,by simp[World.setRow],fun k _ hk=>setRow_other w.drew g k _ hk⟩,by simp[World.setRow]⟩
  ·rw[Addr.add_lit,hb.drew.cell,qA];rw[flat_drop,←ht,List.getElem?_drop,List.getElem?_take]at hj;split at hj
   ·exact hj
   ·cases hj
  ·have:=setRow_heap w.drew g cl.toArray (cl.toArray.toList.take (m1 * 3)++(L.drop i).flatMap cellC++cl.toArray.toList.drop (m1 * 3+((L.drop i).flatMap cellC).length)).toArray _ _ hb;rw[show m1 * 3=i * 3+3 by omega]at this ⊢
   rw[←hmid];exact this
 obtain⟨w1,hr1,hb1,hu1,hz1⟩:=hcopy1;obtain⟨fin,hfi⟩:∃fin,mid.take (i * 3)++cellC x++mid.drop (i * 3+(cellC x).length)=fin:=⟨_,rfl⟩
 have hfz:fin.length=c * 3:=by
  rw[←hfi];simp only[qla,qlt,qld,cellC_len,hmz];omega
 have hcopy2:∃w2,(∀ty dc,(Builtin.copy_ #[70,70] ty #[.slice (some ⟨g,i * 3,none⟩) (n+1 - i) dc,.slice (some ⟨vb,0,none⟩) 1 1]).run Tryz.prog w1= .ok (goInt 1) w2)∧Blk w2 g 155 fin.toArray∧Upd (fun k=>k=g) w1 w2:=by
  refine⟨_,fun ty dc=>run_copy_k w1 _ _ ty 155 3 g (i * 3) (n+1 - i) dc ⟨vb,0,none⟩ 1 1 mid.toArray 155 (cellC x) 1 Tryz.underlying70 (by kernel_rfl) hb1 hmin2 (by rw[cellC_len]) (fun j u hj=> ?_) (by rw[cellC_len,List.size_toArray,hmz];omega) (fun u hu=>cell_row.one x u hu),?_,⟨rfl,rfl,rfl,by simp[World.setRow],fun k _ hk=>setRow_other w1 g k _ hk⟩⟩
  ·rw[Addr.add_lit,Nat.zero_add,(hx.upd hu1 hne).cell,qA];exact hj
  ·have:=setRow_heap w1 g mid.toArray (mid.toArray.toList.take (i * 3)++cellC x++mid.toArray.toList.drop (i * 3+(cellC x).length)).toArray _ _ hb1;rw[←hfi];exact this
 obtain⟨w2,hr2,hb2,hu2⟩:=hcopy2;have hfin:=splice_room (A:=cl) (L:=L) (i:=i) (n:=n) (x:=x) hn (by omega) (by rw[hcz];omega) ht
 rw[hmid,hfi]at hfin;have HOV:=qh hov;have HR1:=qh hr1;have HR2:=qh hr2;have HB2:=qh hb2;have HU2:=qh (hu1.same hu2);have HFIN:=qh hfin;have HFZ:=qh hfz;have HBB:=qh hB;have HNI:Hid ((L.take i++x::L.drop i).length=n+1):=qh (by simp[hn];omega)
 have HC1:=qh hroom;have HM1:=qh hcm;have i1:(i:Int)<(n:Int):=by omega
 have i2:¬(i:Int)=(n:Int):=by omega
 have i3:¬(c:Int)<(n:Int)+1:=by omega
 have i3':(n:Int)+1≤(c:Int):=by omega
 have i4:(i:Int)≤(n:Int):=by omega
 have i5:¬c=i:=by omega
 have i6:¬c=m1:=by omega
 have i8:(n:Int)≤(c:Int):=by omega
 have i9:(n:Int)≤100:=by omega
 have ia:i≤n:=by omega
 have ib:i≤n+1:=by omega
 have ic:(i:Int)≤(n:Int)+1:=by omega
 have id1:n+1≤c:=by omega
 have hw1:IntKind.i64.wrap ((i:Int)+1)=(m1:Int):=by rw[IntKind.wrap_i64];omega
 have hw2:(i:Int)+1=(m1:Int):=by omega
 have j1:(m1:Int)≤(n:Int)+1:=by omega
 have j2:m1≤n+1:=by omega
 have j4:(0:Int)≤(m1:Int):=by omega
 clear hm1 hov hr1 hr2 hb2 hu2 hfin hfz hfi hb1 hu1 hz1 hmid hmz hdl hmin1 hmin2 hcz ht hsz hb hx hB hcl hcm hroom hl;go_enter Tryz.func135,Tryz.ntmps135
 go_wp2_with (first | (simp only[HOV.out]) | (with_reducible refine wpList_copy_run rfl (.tmp 80) (.tmp 81) 70 70 rfl rfl rfl (HR2.out _ _) ?_))
 clear hw2;go_region_law (refine step_copy_run rfl (.tmp 73) (.tmp 76) 70 70 rfl (v1:= .slice (some ⟨g,m1 * 3,none⟩) (n+1 - m1) (c - m1)) (v2:= .slice (some ⟨g,i * 3,none⟩) (n+1 - i) (c - i)) (by simp[Act.eval,Act.put]) (by simp[Act.eval,Act.put]) (HR1.out _ _ _) ?_)
 go_wp2_with (with_reducible refine wpList_copy_run rfl (.tmp 80) (.tmp 81) 70 70 rfl rfl rfl (HR2.out _ _) ?_)
 go_ret;exact⟨_,_,rfl,own_of_blk HB2.out HBB.out HNI.out HC1.out HM1.out (by rw[List.size_toArray];exact HFZ.out) HFIN.out,HU2.out⟩
theorem insert_ok{B:Nat}{w:World}{v:Value}{L:Cl}(h:OwnC B w v L)(hB:B≤w.heap.size)(hl:L.length≤100)(i:Nat)(hi:i≤L.length)(x:Ky×Vl){vb:Nat}(hx:Blk w vb 155 (cellC x).toArray)(hvb:v.ownBlock≠some vb):
 Calls Tryz.prog 135 #[v,.int .i64 (i:Nat),.slice (some ⟨vb,0,none⟩) 1 1] w fun e w'=>∃A c,e= .returned (.slice A (L.length+1) c)∧OwnC B w' (.slice A (L.length+1) c) (L.take i++x::L.drop i)∧Upd (fun k=>v.ownBlock=some k) w w':=by
 by_cases he:i=L.length
 ·subst he;refine(insert_end h hB hl x hx).mono ?_;rintro e w' ⟨A,c,h1,h2,h3⟩;exact⟨A,c,h1,by rw[List.take_length,List.drop_length];exact h2,h3⟩
 ·obtain⟨hlen,h0 | ⟨g,cap,cur,rfl,hBg,hh,hncap,hcm,hcs,htake⟩⟩:=h.row
  ·exact absurd h0.2 (by omega)
  ·have hg:Blk w g 155 cur:=hh;by_cases hr:L.length+1≤cap
   ·refine(insert_room hg rfl (by omega) hcm hl hcs htake hr (h.new g rfl) x hx (fun e=>hvb (by rw[e];rfl))).mono ?_
    rintro e w' ⟨A,c,h1,h2,h3⟩;exact⟨A,c,h1,h2,h3.mono fun k _ e=>by rw[e];rfl⟩
   ·refine(insert_grow hg rfl (by omega) hncap hl htake (by omega) hB x hx).mono ?_
    rintro e w' ⟨A,c,h1,h2,h3⟩;exact⟨A,c,h1,h2,h3.any⟩
end Go.Proofs.YtdfccegeihfdpaaGreatDoor
