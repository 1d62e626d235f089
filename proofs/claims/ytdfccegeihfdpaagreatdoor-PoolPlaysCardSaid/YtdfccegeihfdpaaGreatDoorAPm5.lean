/-
  The log and all below it: part 5 of 10 (merged by mergew.py).
-/
import Derived.Sort.Walk0
import Derived.Test.YtdfccegeihfdpaaGreatDoorAPm4
set_option maxRecDepth 100000
set_option maxHeartbeats 4000000
namespace Go.Proofs.YtdfccegeihfdpaaGreatDoor
open Go
theorem openO_seal{body:Bs}(h:body.length≤4096)(r:Bs):openO (sealO body++r)=(body,(sealO body).length,0):=by
 rw[←openO_eq,←sealO_eq];exact openB_seal sumB sumB_len h r
theorem openO_part{body p:Bs}(h:body.length≤4096)(hp:p <+: sealO body)(hl:p.length<(sealO body).length):openO p=([],0,10):=by
 rw[←sealO_eq]at hp hl;rw[←openO_eq];exact openB_part sumB sumB_len h hp hl
theorem sealO_pos(b:Bs):0<(sealO b).length:=by
 rw[←sealO_eq,sealB_len sumB_len];omega
def allB(bs:List Bs):Bs:=(bs.map sealO).flatten
theorem allB_nil:allB []=[]:=rfl
theorem allB_cons(b:Bs)(l:List Bs):allB (b::l)=sealO b++allB l:=rfl
theorem allB_append(a b:List Bs):allB (a++b)=allB a++allB b:=by simp[allB]
theorem allB_zero{l:List Bs}(h:(allB l).length=0):l=[]:=by
 cases l with
 | nil=>rfl
 | cons b l=>
   have:=sealO_pos b;rw[allB_cons,qla]at h;omega
def placesB(i0:Nat):Nat→List Bs→List (Bs×Nat)
 | _,[]=>[]
 | n,b::l=>(b,i0+n / 242)::placesB i0 (n+(sealO b).length) l
theorem placesB_append(i0:Nat):∀(a b:List Bs) (n:Nat),placesB i0 n (a++b)=placesB i0 n a++placesB i0 (n+(allB a).length) b:=by
 intro a
 induction a with
 | nil=>intro b n;rfl
 | cons x a ih=>
   intro b n;rw[List.cons_append,placesB,placesB,List.cons_append,ih,allB_cons,qla]
   congr 3
   omega
theorem placesB_len(i0:Nat):∀(a:List Bs) (n:Nat),(placesB i0 n a).length=a.length:=by
 intro a
 induction a with
 | nil=>intro n;rfl
 | cons x a ih=>intro n;rw[placesB,List.length_cons,List.length_cons,ih]
theorem placesB_in(i0 j:Nat):∀(a:List Bs) (n:Nat),242 * j≤n→n+(allB a).length≤242 * (j+1)→placesB i0 n a=a.map fun b=>(b,i0+j):=by
 intro a
 induction a with
 | nil=>intro n h1 h2;rfl
 | cons x a ih=>
   intro n h1 h2;have hp:=sealO_pos x;rw[allB_cons,qla]at h2;rw[placesB,List.map_cons,ih _ (by omega) (by omega)]
   congr 3
   omega
def firstB:Nat→Nat→List Bs→Option Nat
 | _,_,[]=>none
 | n,j,b::l=>if n / 242=j then some (n % 242) else firstB (n+(sealO b).length) j l
theorem firstB_past(j:Nat):∀(a:List Bs) (n:Nat),242 * (j+1)≤n→firstB n j a=none:=by
 intro a
 induction a with
 | nil=>intro n h;rfl
 | cons x a ih=>
   intro n h;rw[firstB,if_neg (by omega),ih _ (by omega)]
theorem firstB_skip(j:Nat):∀(a b:List Bs) (n:Nat),n+(allB a).length≤242 * j→firstB n j (a++b)=firstB (n+(allB a).length) j b:=by
 intro a
 induction a with
 | nil=>intro b n h;rfl
 | cons x a ih=>
   intro b n h;have hp:=sealO_pos x;rw[allB_cons,qla]at h;rw[List.cons_append,firstB,if_neg (by omega),ih _ _ (by omega),allB_cons,qla]
   congr 1
   omega
theorem layAll_fst(bs:List Bs):(layAll bs).1=allB bs:=by
 have:∀(l:List Bs) (st:Bs×(Int→Option Nat)),(l.foldl layStep st).1=st.1++allB l:=by
  intro l
  induction l with
  | nil=>intro st;rw[allB_nil,List.append_nil];rfl
  | cons b l ih=>intro st;rw[List.foldl_cons,ih,allB_cons,←qaa];rfl
 exact this bs _
theorem layAll_snd(bs:List Bs)(j:Nat):(layAll bs).2 (j:Int)=firstB 0 j bs:=by
 have:∀(l:List Bs) (st:Bs×(Int→Option Nat)),(l.foldl layStep st).2 (j:Int)=(st.2 (j:Int)).or (firstB st.1.length j l):=by
  intro l
  induction l with
  | nil=>intro st;rw[List.foldl_nil,firstB,Option.or_none]
  | cons b l ih=>
    intro st;rw[List.foldl_cons,ih];have e1:(layStep st b).1.length=st.1.length+(sealO b).length:=by unfold layStep;rw[qla]
    rw[e1,firstB]
    have e2:(layStep st b).2 (j:Int)=(st.2 (j:Int)).or (if st.1.length / 242=j then some (st.1.length % 242) else none):=by
     unfold layStep;simp only;by_cases hj:st.1.length / 242=j
     ·rw[hj,if_pos rfl]
      cases h:st.2 (j:Int) with
      | none=>simp[putF]
      | some o=>simp[h]
     ·rw[if_neg hj,Option.or_none];by_cases hn:(st.2 ((st.1.length / 242:Nat):Int)).isNone=true
      ·rw[if_pos hn];unfold putF;rw[if_neg (by omega)]
      ·rw[if_neg hn]
    rw[e2,Option.or_assoc]
    congr 1
    by_cases hj:st.1.length / 242=j
    ·rw[if_pos hj,if_pos hj];rfl
    ·rw[if_neg hj,if_neg hj];rfl
 have:=this bs ([],fun _=>none)
 rw[show layAll bs=bs.foldl layStep ([],fun _=>none) from rfl,this];rfl
theorem begGo_feed(i:Nat):∀(cs:List Bs),(∀b∈cs,b.length≤4096)→∀(m k:Nat) (s:FinS),m≤(allB cs).length→m≤k→∃(t d:Nat) (s':FinS),
 begGo i k ((allB cs).take m) s=(true,s')∧t≤cs.length∧s'.out=s.out++(cs.take t).map (fun b=>(b,i))∧m=(allB (cs.take t)).length+d∧(d=0→s'.under=s.under)∧
 (0<d→∃c,cs[t]? =some c∧d<(sealO c).length∧s'.under=true∧s'.way=(sealO c).take d∧s'.frm=i):=by
 intro cs
 induction cs with
 | nil=>
   intro _ m k s hm hk;have:m=0:=by simpa [allB] using hm
   subst this;refine⟨0,0,s,?_,qlr _,by simp,by simp[allB],fun _=>rfl,fun h=>absurd h (by omega)⟩
   cases k<;>simp[begGo]
 | cons c l ih=>
   intro hb m k s hm hk;by_cases h0:m=0
   ·subst h0;refine⟨0,0,s,?_,Nat.zero_le _,by simp,by simp[allB],fun _=>rfl,fun h=>absurd h (by omega)⟩
    cases k<;>simp[begGo]
   ·obtain⟨k,rfl⟩:∃k',k=k'+1:=⟨k - 1,by omega⟩
    have hc:=hb c (by simp)
    have hp:=sealO_pos c
    have hr:(allB (c::l)).take m≠[]:=by
     intro e;have:=congrArg List.length e;rw[qlt,List.length_nil]at this;omega
    rw[begGo,if_neg hr];by_cases hl:(sealO c).length≤m
    ·have e1:(allB (c::l)).take m=sealO c++(allB l).take (m - (sealO c).length):=by
      rw[allB_cons,List.take_append,List.take_of_length_le hl]
     rw[e1,openO_seal hc];simp only[if_true,List.drop_left];rw[allB_cons,qla]at hm;obtain⟨t,d,s',h1,h2,h3,h4,h5,h6⟩:=ih (fun b hb'=>hb b (List.mem_cons_of_mem _ hb')) (m - (sealO c).length) k { s with out:=s.out++[(c,i)] } (by omega) (by omega)
     refine⟨t+1,d,s',h1,by rw[List.length_cons];omega,?_,?_,h5,?_⟩
     ·rw[h3,List.take_succ_cons,List.map_cons,qaa];rfl
     ·clear h5 h6;rw[List.take_succ_cons,allB_cons,qla];omega
     ·intro hd;rw[qS];exact h6 hd
    ·have e1:(allB (c::l)).take m=(sealO c).take m:=by
      rw[allB_cons,List.take_append_of_le_length (by omega)]
     have hlen:((sealO c).take m).length=m:=by rw[qlt];omega
     rw[e1,openO_part hc (List.take_prefix _ _) (by omega)]
     refine⟨0,m,⟨s.out,(sealO c).take m,i,true⟩,by simp,Nat.zero_le _,by simp,by simp[allB],fun h=>absurd h h0,fun _=>⟨c,rfl,by omega,rfl,rfl,rfl⟩⟩
structure Mid(i0:Nat)(bs:List Bs)(o0:List (Bs×Nat))(j:Nat)(s:FinS):Prop where
 ex:∃(pre cs:List Bs) (d:Nat),bs=pre++cs∧s.out=o0++placesB i0 0 pre∧((allB pre).length+d=242 * j∨(cs=[]∧d=0∧(allB pre).length≤242 * j))∧(d=0→s.under=true→(openO s.way).2.2=10)∧
  (0<d→∃c l,cs=c::l∧d<(sealO c).length∧s.under=true∧s.way=(sealO c).take d∧s.frm=i0+(allB pre).length / 242)
theorem Mid.start{i0:Nat}{bs:List Bs}{s:FinS}(h:s.under=true→(openO s.way).2.2=10):Mid i0 bs s.out 0 s:=
 ⟨[],bs,0,rfl,by simp[placesB],.inl rfl,fun _=>h,fun h=>absurd h (by omega)⟩
theorem Mid.all{i0:Nat}{bs:List Bs}{o0:List (Bs×Nat)}{j:Nat}{s:FinS}(h:Mid i0 bs o0 j s)(hj:(allB bs).length≤242 * j):s.out=o0++placesB i0 0 bs∧(s.under=true→(openO s.way).2.2=10):=by
 obtain⟨pre,cs,d,rfl,h1,h2,h3,h4⟩:=h.ex
 have hc:cs=[]∧d=0:=by
  rcases h2 with h2 | h2
  ·rw[allB_append,qla]at hj;by_cases hd:d=0
   ·exact⟨allB_zero (by omega),hd⟩
   ·obtain⟨c,l,rfl,h5,_⟩:=h4 (by omega)
    rw[allB_cons,qla]at hj;omega
  ·exact⟨h2.1,h2.2.1⟩
 obtain⟨rfl,rfl⟩:=hc;rw[List.append_nil];exact⟨h1,h3 rfl⟩
theorem goesF_none{s:FinS}(h:s.under=true→(openO s.way).2.2=10):goesF s []=(true,s):=by
 unfold goesF
 cases hu:s.under with
 | false=>rfl
 | true=>
   rw[List.append_nil,if_neg (by simp),if_pos (h hu)]
   obtain⟨a,b,c,d⟩:=s;simp only at hu;rw[hu]
theorem goesF_more{s:FinS}{c:Bs}{d m:Nat}(hc:c.length≤4096)(hu:s.under=true)(hw:s.way=(sealO c).take d)(hm:d+m<(sealO c).length):goesF s (((sealO c).drop d).take m)=(true,{ s with way:=(sealO c).take (d+m) }):=by
 unfold goesF;have e:s.way++((sealO c).drop d).take m=(sealO c).take (d+m):=by rw[hw,List.take_add]
 rw[hu,e,openO_part hc (List.take_prefix _ _) (by rw[qlt];omega)]
 rfl
theorem goesF_done{s:FinS}{c:Bs}{d:Nat}(hc:c.length≤4096)(hu:s.under=true)(hw:s.way=(sealO c).take d):goesF s ((sealO c).drop d)=(true,⟨s.out++[(c,s.frm)],sealO c,s.frm,false⟩):=by
 unfold goesF;have e:s.way++(sealO c).drop d=sealO c:=by rw[hw,List.take_append_drop]
 have e2:=openO_seal hc [];rw[List.append_nil]at e2;rw[hu,e,e2];simp
theorem begF_feed(i:Nat){cs:List Bs}(h:∀b∈cs,b.length≤4096)(m:Nat)(s:FinS)(hm:m≤(allB cs).length):∃(t d:Nat) (s':FinS),
 begF s ((allB cs).take m) i=(true,s')∧t≤cs.length∧s'.out=s.out++(cs.take t).map (fun b=>(b,i))∧m=(allB (cs.take t)).length+d∧(d=0→s'.under=false)∧
 (0<d→∃c,cs[t]? =some c∧d<(sealO c).length∧s'.under=true∧s'.way=(sealO c).take d∧s'.frm=i):=by
 unfold begF;exact begGo_feed i cs h m _ _ hm (by rw[qlt];omega)
theorem Mid.fed{i0 j n m t d:Nat}{pre cs:List Bs}{o0:List (Bs×Nat)}{s s':FinS}(hn:(allB pre).length=n)(h1:242 * j≤n)(_hm:m≤(allB cs).length)(hmn:n+m=242 * (j+1)∨m=(allB cs).length∧n+m≤242 * (j+1))(hs:s.out=o0++placesB i0 0 pre)
 (_ht:t≤cs.length) (ho:s'.out=s.out++(cs.take t).map (fun b=>(b,i0+j))) (hd:m=(allB (cs.take t)).length+d) (h0:d=0→s'.under=false)
 (hp:0<d→∃c,cs[t]? =some c∧d<(sealO c).length∧s'.under=true∧s'.way=(sealO c).take d∧s'.frm=i0+j):Mid i0 (pre++cs) o0 (j+1) s':=by
 have hlen:(allB (pre++cs.take t)).length=n+(allB (cs.take t)).length:=by rw[allB_append,qla,hn]
 have hb:n+m≤242 * (j+1):=by omega
 have hsplit:(allB cs).length=(allB (cs.take t)).length+(allB (cs.drop t)).length:=by
  conv=>lhs;rw[←List.take_append_drop t cs,allB_append,qla]
 refine⟨pre++cs.take t,cs.drop t,d,by rw[qaa,List.take_append_drop],?_,?_,fun h=>(by rw[h0 h];intro e;cases e),fun h=> ?_⟩
 ·rw[ho,hs,placesB_append,qaa,Nat.zero_add,hn,placesB_in i0 j (cs.take t) n h1 (by omega)]
 ·rcases hmn with e | ⟨e,_⟩
  ·exact .inl (by rw[hlen];omega)
  ·refine .inr ?_
   have hd0:d=0:=by
    rcases Nat.eq_zero_or_pos d with h | h
    ·exact h
    ·obtain⟨c,hc,hl,_⟩:=hp h
     have:cs.drop t=c::cs.drop (t+1):=by
      obtain⟨h1,h2⟩:=qei.1 hc;rw[←h2];exact List.drop_eq_getElem_cons h1
     rw[this,allB_cons,qla]at hsplit;omega
   exact⟨allB_zero (by omega),hd0,by rw[hlen];omega⟩
 ·obtain⟨c,hc,hl,hu,hw,hf⟩:=hp h;refine⟨c,cs.drop (t+1),?_,hl,hu,hw,?_⟩
  ·obtain⟨h1,h2⟩:=qei.1 hc;rw[←h2];exact List.drop_eq_getElem_cons h1
  ·rw[hf,hlen]
   congr 1
   omega
theorem pageAt_data(inc pos:Nat)(bs:List Bs)(j:Nat):(pageAt inc pos (layAll bs) j).data=((allB bs).drop (242 * j)).take 242:=by
 show(((layAll bs).1.drop (242 * j)).take 242)=_
 rw[layAll_fst]
theorem pageAt_first(inc pos:Nat)(bs:List Bs)(j:Nat):(pageAt inc pos (layAll bs) j).first=match firstB 0 j bs with | some o=>(o:Int) | none=>255:=by
 show(match (layAll bs).2 (j:Int) with | some o=>(o:Int) | none=>255)=_
 rw[layAll_snd]
theorem Mid.step{i0:Nat}{bs:List Bs}(hb:∀b∈bs,b.length≤4096){o0:List (Bs×Nat)}{j:Nat}{s:FinS}(h:Mid i0 bs o0 j s)(hj:242 * j<(allB bs).length)(inc pos:Nat)(rest:List SheetS):
 ∃s',findGo (pageAt inc pos (layAll bs) j::rest) (i0+j) s=findGo rest (i0+(j+1)) s'∧Mid i0 bs o0 (j+1) s':=by
 obtain⟨pre,cs,d,rfl,h1,h2,h3,h4⟩:=h.ex;have hdata:=pageAt_data inc pos (pre++cs) j;have hfirst:=pageAt_first inc pos (pre++cs) j;generalize pageAt inc pos (layAll (pre++cs)) j=p at hdata hfirst ⊢;rw[allB_append,qla]at hj
 have h2:(allB pre).length+d=242 * j:=by
  rcases h2 with h2 | ⟨rfl,_,h2⟩
  ·exact h2
  ·rw[allB_nil,List.length_nil]at hj;omega
 have hcs:∀b∈cs,b.length≤4096:=fun b hb'=>hb b (List.mem_append_right _ hb')
 rw[firstB_skip j pre cs 0 (by omega),Nat.zero_add]at hfirst
 have hdrop:(allB (pre++cs)).drop (242 * j)=(allB cs).drop d:=by
  rw[allB_append,←h2,List.drop_append];simp
 rw[hdrop]at hdata;obtain⟨n,hn⟩:∃n,(allB pre).length=n:=⟨_,rfl⟩;rw[hn]at h2 hj hfirst
 rcases Nat.eq_zero_or_pos d with rfl | hd
 ·
  obtain⟨c,l,rfl⟩:∃c l,cs=c::l:=by
   cases cs with
   | nil=>rw[allB_nil,List.length_nil]at hj;omega
   | cons c l=>exact⟨c,l,rfl⟩
  rw[firstB,if_pos (by omega),show n % 242=0 by omega]at hfirst
  simp only[Int.ofNat_zero]at hfirst;rw[List.drop_zero]at hdata
  have hdl:p.data=(allB (c::l)).take (min 242 (allB (c::l)).length):=by
   rw[hdata,←List.take_take,List.take_length]
  clear h4;have hmm:n+min 242 (allB (c::l)).length=242 * (j+1)∨min 242 (allB (c::l)).length=(allB (c::l)).length∧n+min 242 (allB (c::l)).length≤242 * (j+1):=by omega
  have hjn:242 * j≤n:=by omega
  obtain⟨t,d',s',e1,e2,e3,e4,e5,e6⟩:=begF_feed (i0+j) hcs (min 242 (allB (c::l)).length) s (Nat.min_le_right _ _);refine⟨s',?_,Mid.fed hn hjn (Nat.min_le_right _ _) hmm h1 e2 e3 e4 e5 e6⟩;rw[findGo];rw[hfirst,hdl];simp only[Int.le_refl,decide_true,Int.natCast_nonneg,Bool.and_self,if_true,Int.toNat_zero,List.take_zero,List.drop_zero,goesF_none (h3 rfl),Bool.true_eq_false,if_false,e1];rfl
 ·obtain⟨c,l,rfl,hdl,hu,hw,hf⟩:=h4 hd;have hc:=hcs c (by simp)
  rw[firstB,if_neg (by omega)]at hfirst
  have hX:(allB (c::l)).drop d=(sealO c).drop d++allB l:=by rw[allB_cons,List.drop_append_of_le_length (by omega)]
  rw[hX]at hdata;obtain⟨q,hq⟩:∃q,(sealO c).length - d=q:=⟨_,rfl⟩;have hqd:((sealO c).drop d).length=q:=by rw[qld,hq]
  have hplace:placesB i0 0 (pre++[c])=placesB i0 0 pre++[(c,i0+n / 242)]:=by
   rw[placesB_append,Nat.zero_add,hn];rfl
  have hlenc:(allB (pre++[c])).length=n+(sealO c).length:=by rw[allB_append,qla,hn,allB_cons,allB_nil,List.append_nil]
  by_cases hbig:242<q
  ·
   rw[firstB_past j l _ (by omega)]at hfirst
   have hdd:p.data=((sealO c).drop d).take 242:=by rw[hdata,List.take_append_of_le_length (by omega)]
   have hdn:p.data.length=242:=by rw[hdd,qlt];omega
   refine⟨{ s with way:=(sealO c).take (d+242) },?_,⟨pre,c::l,d+242,rfl,h1,.inl (by omega),fun h=>absurd h (by omega),fun _=>⟨c,l,rfl,by omega,hu,rfl,hf⟩⟩⟩
   rw[findGo];simp only[hfirst];have e0:decide ((255:Int)≤(p.data.length:Nat))=false:=by rw[decide_eq_false_iff_not];omega
   simp only[e0,Bool.and_false,Bool.false_eq_true,if_false,if_true];rw[List.take_length,hdd,goesF_more hc hu hw (by omega)]
   rfl
  ·by_cases hl0:l=[]∨q=242
   ·
    have hno:firstB (n+(sealO c).length) j l=none:=by
     rcases hl0 with rfl | e
     ·rfl
     ·exact firstB_past j l _ (by omega)
    rw[hno]at hfirst
    have hdd:p.data=(sealO c).drop d:=by
     rcases hl0 with rfl | e
     ·rw[hdata,allB_nil,List.append_nil,List.take_of_length_le (by omega)]
     ·rw[hdata,List.take_left' (by omega)]
    refine⟨⟨s.out++[(c,s.frm)],sealO c,s.frm,false⟩,?_,⟨pre++[c],l,0,by simp,?_,?_,fun _ h=>(by cases h),fun h=>absurd h (by omega)⟩⟩
    ·rw[findGo];simp only[hfirst];have e0:decide ((255:Int)≤(p.data.length:Nat))=false:=by rw[decide_eq_false_iff_not,hdd];omega
     simp only[e0,Bool.and_false,Bool.false_eq_true,if_false,if_true];rw[List.take_length,hdd,goesF_done hc hu hw];rfl
    ·rw[hplace,←qaa,←h1,hf,hn]
    ·rcases hl0 with rfl | e
     ·exact .inr ⟨rfl,rfl,by rw[hlenc];omega⟩
     ·exact .inl (by rw[hlenc];omega)
   ·
    have hl1:l≠[]:=fun e=>hl0 (.inl e)
    have hq1:q<242:=by
     have:q≠242:=fun e=>hl0 (.inr e)
     omega
    have hpl:0<(allB l).length:=by
     rcases Nat.eq_zero_or_pos (allB l).length with h | h
     ·exact absurd (allB_zero h) hl1
     ·exact h
    have hdiv:(n+(sealO c).length) / 242=j:=by omega
    have hmod:(n+(sealO c).length) % 242=q:=by omega
    have hyes:firstB (n+(sealO c).length) j l=some q:=by
     cases l with
     | nil=>exact absurd rfl hl1
     | cons x l=>rw[firstB,if_pos hdiv,hmod]
    rw[hyes]at hfirst;simp only at hfirst;obtain⟨m,hm⟩:∃m,min (242 - q) (allB l).length=m:=⟨_,rfl⟩
    have hdd:p.data=(sealO c).drop d++(allB l).take m:=by
     rw[hdata,List.take_append,List.take_of_length_le (by omega),hqd,←hm,←List.take_take,List.take_length]
    have hdn:p.data.length=q+m:=by rw[hdd,qla,hqd,qlt];omega
    have k1:242 * j≤n+(sealO c).length:=by omega
    have k2:m≤(allB l).length:=by omega
    have k3:n+(sealO c).length+m=242 * (j+1)∨m=(allB l).length∧n+(sealO c).length+m≤242 * (j+1):=by omega
    have e0:(decide ((0:Int)≤(q:Int)) && decide ((q:Int)≤(p.data.length:Nat)))=true:=by rw[Bool.and_eq_true,decide_eq_true_eq,decide_eq_true_eq,hdn];omega
    obtain⟨t,d',s',e1,e2,e3,e4,e5,e6⟩:=begF_feed (i0+j) (fun b hb'=>hcs b (List.mem_cons_of_mem _ hb')) m ⟨s.out++[(c,s.frm)],sealO c,s.frm,false⟩ (cs:=l) k2
    refine⟨s',?_,?_⟩
    ·rw[findGo];simp only[hfirst,e0,if_true,Int.toNat_natCast];have ht:p.data.take q=(sealO c).drop d:=by rw[hdd,List.take_left' hqd]
     have hr:p.data.drop q=(allB l).take m:=by rw[hdd,List.drop_left' hqd]
     rw[ht,hr,goesF_done hc hu hw,e1];rfl
    ·have:=Mid.fed (i0:=i0) (j:=j) (n:=n+(sealO c).length) (m:=m) (t:=t) (d:=d') (pre:=pre++[c]) (cs:=l) (o0:=o0) (s:=⟨s.out++[(c,s.frm)],sealO c,s.frm,false⟩) (s':=s') hlenc k1 k2 k3 (by
      show s.out++[(c,s.frm)]=_
      rw[hplace,←qaa,←h1,hf,hn]) e2 e3 e4 e5 e6
     rw[qaa]at this;exact this
theorem Mid.steps{i0:Nat}{bs:List Bs}(hb:∀b∈bs,b.length≤4096){o0:List (Bs×Nat)}(inc pos:Nat)(rest:List SheetS):∀(k j:Nat) (s:FinS),Mid i0 bs o0 j s→j+k≤pagesN (allB bs).length→
 ∃s',findGo ((List.range' j k).map (pageAt inc pos (layAll bs))++rest) (i0+j) s=findGo rest (i0+(j+k)) s'∧Mid i0 bs o0 (j+k) s':=by
 intro k
 induction k with
 | zero=>intro j s h _;exact⟨s,rfl,h⟩
 | succ k ih=>
   intro j s h hk;unfold pagesN at hk;obtain⟨s1,e1,h1⟩:=h.step hb (by omega) inc pos ((List.range' (j+1) k).map (pageAt inc pos (layAll bs))++rest)
   obtain⟨s2,e2,h2⟩:=ih (j+1) s1 h1 (by unfold pagesN;omega)
   refine⟨s2,?_,by rw[show j+(k+1)=j+1+k by omega];exact h2⟩
   rw[List.range'_succ,List.map_cons,List.cons_append,e1,e2]
   congr 2
   omega
theorem find_part{bs:List Bs}(hb:∀b∈bs,b.length≤4096)(inc pos:Nat)(rest:List SheetS)(i0 k:Nat)(s:FinS)(hs:s.under=true→(openO s.way).2.2=10)(hk:k≤pagesN (allB bs).length):
 ∃s',findGo ((layB inc pos bs).take k++rest) i0 s=findGo rest (i0+k) s'∧Mid i0 bs s.out k s':=by
 obtain⟨s',e,h⟩:=Mid.steps hb inc pos rest k 0 s (Mid.start hs) (by omega)
 refine⟨s',?_,by rw[Nat.zero_add]at h;exact h⟩
 rw[Nat.zero_add,Nat.add_zero]at e;rw[←e]
 congr 2
 unfold layB;rw[←List.map_take,List.take_range,layAll_fst,Nat.min_eq_left hk,List.range_eq_range']
theorem findB_lay{bs:List Bs}(hb:∀b∈bs,b.length≤4096)(inc pos:Nat):findB (layB inc pos bs)=placesB 0 0 bs:=by
 obtain⟨s',e,h⟩:=find_part hb inc pos [] 0 (pagesN (allB bs).length) ⟨[],[],0,false⟩ (by intro h;cases h) (qlr _)
 have hl:(layB inc pos bs).length=pagesN (allB bs).length:=by simp[layB,layAll_fst]
 rw[List.append_nil,List.take_of_length_le (by omega)]at e
 unfold findB;rw[e];have:=(h.all (by unfold pagesN;omega)).1
 rw[findGo];exact this
abbrev LockP:=Bs×Bool
structure RowP where
 tx:Int
 state:Int
 first:Int
 last:Int
 undo:Int
 coord:Int
 mem:List Int
 loc:List LockP
structure RecP where
 kind:Int
 tx:Int
 prev:Int
 next:Int
 key:Bs
 oh:Bool
 od:Bs
 nh:Bool
 nd:Bs
 coord:Int
 mem:List Int
 loc:List LockP
 row:List RowP
 dir:List (Int×Int)
 dee:List (Int×List Int)
 pas:List Int
def seqP(n least:Int):Bool:=decide (least≤n) && decide (n≤1099511627776)
def nodeP(n:Int):Bool:=decide (0≤n) && decide (n<8)
def keyP(s:Bs):Bool:=decide (s≠[]) && decide (s.length≤16)
def valueP(h:Bool)(d:Bs):Bool:=decide (d.length≤32) && (h || decide (d=[]))
def lessP(a b:Bs):Bool:=Op.bytesLess a b
def risesP{α:Type}(may:α→Bool)(less:α→α→Bool):Option α→List α→Bool
 | _,[]=>true
 | p,x::l=>may x && (match p with | none=>true | some y=>less y x) && risesP may less (some x) l
def risingP{α:Type}(most:Nat)(may:α→Bool)(less:α→α→Bool)(l:List α):Bool:=decide (l.length≤most) && risesP may less none l
def ltP(a b:Int):Bool:=decide (a<b)
def membersP(l:List Int):Bool:=risingP 8 nodeP ltP l
def lockLess(a b:LockP):Bool:=lessP a.1 b.1
def lockMay(a:LockP):Bool:=keyP a.1
def locksP(l:List LockP):Bool:=risingP 64 lockMay lockLess l
def RowP.may(x:RowP):Bool:=seqP x.tx 1 && (decide (1≤x.state) && (decide (x.state≤4) && (seqP x.first 0 && (seqP x.last 0 && (seqP x.undo 0 && (nodeP x.coord && (membersP x.mem && locksP x.loc)))))))
def RowP.less(a b:RowP):Bool:=ltP a.tx b.tx
def dirMay(d:Int×Int):Bool:=decide (0≤d.1) && (decide (d.1<64) && seqP d.2 1)
def dirLess(a b:Int×Int):Bool:=ltP a.1 b.1
def deeMay(d:Int×List Int):Bool:=seqP d.1 1 && membersP d.2
def deeLess(a b:Int×List Int):Bool:=ltP a.1 b.1
def pasMay(n:Int):Bool:=seqP n 1
def RecP.check(x:RecP):Bool:=risingP 64 RowP.may RowP.less x.row && (risingP 64 dirMay dirLess x.dir && (risingP 64 deeMay deeLess x.dee && risingP 256 pasMay ltP x.pas))
def kindP(k:Int):Bool:=decide (1≤k) && decide (k≤10)
structure BareP where
 prev:Bool
 next:Bool
 key:Bool
 old:Bool
 new:Bool
 coord:Bool
 mem:Bool
 loc:Bool
 lists:Bool
def wantsP(k:Int):BareP:=
 if k=1 then ⟨false,true,false,false,false,true,true,true,true⟩
 else if k=2 then ⟨false,false,false,true,false,true,true,true,true⟩
 else if k=3 then ⟨false,true,true,true,true,false,false,false,true⟩
 else if k=4∨k=5∨k=6 then ⟨false,true,true,true,true,true,true,true,true⟩
 else if k=8 then ⟨true,true,true,true,true,true,true,true,false⟩
 else if k=9 then ⟨true,true,true,true,true,true,false,true,true⟩
 else ⟨true,true,true,true,true,true,true,true,true⟩
def RecP.spare(x:RecP):Bool:=
 ((wantsP x.kind).prev && decide (x.prev≠0)) || (((wantsP x.kind).next && decide (x.next≠0)) || (((wantsP x.kind).key && decide (x.key≠[])) || (((wantsP x.kind).old && (x.oh || decide (x.od≠[]))) ||
   (((wantsP x.kind).new && (x.nh || decide (x.nd≠[]))) || (((wantsP x.kind).coord && decide (x.coord≠0)) || (((wantsP x.kind).mem && decide (x.mem≠[])) || (((wantsP x.kind).loc && decide (x.loc≠[])) ||
     ((wantsP x.kind).lists && decide (¬(x.row=[]∧x.dir=[]∧x.dee=[]∧x.pas=[]))))))))))
def RecP.may(x:RecP):Bool:=
 if kindP x.kind=false∨x.spare=true then false
 else if x.kind=7∨x.kind=8 then decide (x.tx=0) && x.check
 else if (x.kind=1∨x.kind=2)∧¬(keyP x.key=true∧valueP x.oh x.od=true∧valueP x.nh x.nd=true) then false
 else seqP x.tx 1 && (seqP x.prev 0 && (seqP x.next 0 && (nodeP x.coord && (membersP x.mem && locksP x.loc))))
def numZ(n:Int):Bs:=shortB n.toNat
def valB(h:Bool)(d:Bs):Bs:=flagB h++(if h then textB d else [])
def listB{α:Type}(f:α→Bs)(l:List α):Bs:=numZ l.length++l.flatMap f
def lockB(x:LockP):Bs:=textB x.1++flagB x.2
def rowB(x:RowP):Bs:=numZ x.tx++(numZ x.state++(numZ x.first++(numZ x.last++(numZ x.undo++(numZ x.coord++(listB numZ x.mem++listB lockB x.loc))))))
def dirB(d:Int×Int):Bs:=numZ d.1++numZ d.2
def deeB(d:Int×List Int):Bs:=numZ d.1++listB numZ d.2
def RecP.fieldsB(x:RecP):Bs:=
 if x.kind=1 then numZ x.tx++(numZ x.prev++(textB x.key++(valB x.oh x.od++valB x.nh x.nd)))
 else if x.kind=2 then numZ x.tx++(numZ x.prev++(numZ x.next++(textB x.key++valB x.nh x.nd)))
 else if x.kind=3 then numZ x.tx++(numZ x.prev++(numZ x.coord++(listB numZ x.mem++listB lockB x.loc)))
 else if x.kind=4∨x.kind=5∨x.kind=6 then numZ x.tx++numZ x.prev
 else if x.kind=8 then listB rowB x.row++(listB dirB x.dir++(listB deeB x.dee++listB numZ x.pas))
 else if x.kind=9 then numZ x.tx++listB numZ x.mem
 else if x.kind=10 then numZ x.tx
 else []
def RecP.bytes(x:RecP):Bs:=numZ x.kind++x.fieldsB
def RecP.enc(x:RecP):Bs×Int:=if x.may=false then ([],1) else if 4096<x.bytes.length then ([],12) else (x.bytes,0)
open Go Go.RowKit
theorem right_ok{w:World}{p:DkP}{S:DiskS}(h:DiskAt w p S)(count:Nat)(h1:8≤count)(h2:count≤300)(h3:count+2≤S.size)(h4:S.size≤4096):
 Calls Tryz.prog 55 #[.pointer (some ⟨p.d,0,none⟩),.int .i64 (count:Int)] w fun e w'=>e= .returned (.int .i64 0)∧w'=w:=by
 have hsec:=sectors_ok h;have HSEC:=qh hsec;have a1:(8:Int)≤(count:Int):=by omega
 have a2:(count:Int)≤300:=by omega
 have a3:(2:Int)+(count:Int)≤(S.size:Int):=by omega
 have a4:(S.size:Int)≤4096:=by omega
 clear hsec h h1 h2 h3 h4;go_enter Tryz.func55,Tryz.ntmps55
 go_wp2_with fail
 refine HSEC.out.mono ?_;rintro e w2 ⟨rfl,rfl⟩;go_wp2_with fail
 go_ret;exact⟨rfl,rfl⟩
def mast1:MastS:=⟨1,0,0,1,0⟩
theorem format_ok{w:World}{p:DkP}{S:DiskS}(h:DiskAt w p S)(count:Nat)(h1:8≤count)(h2:count≤300)(h3:count+2≤S.size)(h4:S.size≤4096)(hfu:S.fuse≤9223372036854775807)(hsy:0≤S.syncs∧S.syncs≤3000000000)(hl:∀n:Int,(S.read n).length=256)(hpl:S.pend.length≤80000):
 Calls Tryz.prog 52 #[.pointer (some ⟨p.d,0,none⟩),.int .i64 (count:Int)] w (PutP p (S.save mast1).1 (S.save mast1).2 w):=by
 have hr:=right_ok h count h1 h2 h3 h4;have hs:=save_ok h hfu hsy (by omega) hl hpl mast1 (by decide)
 have hs':Calls Tryz.prog 58 #[.pointer (some ⟨p.d,0,none⟩),.agg #[.int .i64 1,.int .i64 0,.int .i64 0,.int .i64 1,.int .i64 0]] w (PutP p (S.save mast1).1 (S.save mast1).2 w):=hs;have HR:=qh hr;have HS:=qh hs';have a1:(8:Int)≤(count:Int):=by omega
 have a2:(count:Int)≤300:=by omega
 clear hr hs hs' h h1 h2 h3 h4 hfu hsy hl hpl;go_enter Tryz.func52,Tryz.ntmps52
 go_wp2_with fail
 refine HR.out.mono ?_;rintro e w2 ⟨rfl,rfl⟩;go_wp2_with fail
 refine HS.out.mono ?_;rintro e w3 ⟨v',rfl,hD,hU,hN⟩;have HD:=qh hD;have HU:=qh hU;have HN:=qh hN;clear hD hU hN;go_wp2_with fail
 go_ret;exact⟨v',rfl,HD.out,HU.out,HN.out⟩
def DiskS.page(D:DiskS)(n:Int):Option SheetS:=(D.get n).bind sheetOf
def okAt(minc inc:Int)(q:Nat)(s:SheetS):Bool:=decide (s.pos=(q:Int)) && (decide (inc≤s.inc) && decide (s.inc≤minc))
def pageOk(D:DiskS)(count:Nat)(minc inc:Int)(q:Nat):Option SheetS:=match D.page ((2+q % count:Nat):Int) with
 | none=>none
 | some s=>if okAt minc inc q s=true then some s else none
def AtP(D:DiskS)(count:Nat)(minc inc:Int)(q:Nat)(w:World)(e:Ending)(w':World):Prop:=
 ∃(s:SheetS) (b:Bool),e= .returned (.tuple #[.agg s.arr,.bool b,.int .i64 0])∧(b=true→pageOk D count minc inc q=some s)∧(b=false→pageOk D count minc inc q=none)∧Upd Nowhere w w'
theorem DiskS.get_len{D:DiskS}{n:Int}{pl:Bs}(h0:(D.read n).length=256)(hg:D.get n=some pl):pl.length=254:=by
 have hg':openS (D.read n)=some pl:=hg;unfold openS at hg';split at hg'
 ·have:=Option.some.inj hg';rw[←this];simp;omega
 ·cases hg'
theorem res_sheet3{fn:Func}{p u v:Tmp}(h:fn.results=#[.cell p 176,.tmp u,.tmp v]){tmps:Array Value}{w:World}{g:Nat}{cs:Array Value}(hp:tmps.getD p undef= .pointer (some ⟨g,0,none⟩))(hg:Blk w g 176 cs)(hs:cs.size=4):
 (results fn tmps).run Tryz.prog w= .ok (.tuple #[.agg cs,tmps.getD u undef,tmps.getD v undef]) w:=by
 have e:=run_loadVar_row w g 176 176 cs _ _ hg Tryz.underlying176 rfl (by rw[hs];kernel_rfl)
 have hp':tmps[p]?.getD undef= .pointer (some ⟨g,0,none⟩):=by simpa using hp
 simp[results,h,hp',asAddr,Result.andThen,e]
theorem cf_read1(args:Array Value)(w:World):(callFunc 108 args).run Tryz.prog w= .ok (.enter 108 args) w:=by kernel_rfl
theorem read1_ok{bz:Nat}{w:World}{l:Nat}{p:DkP}{S:LogS}(h:LogAt bz w l p S)(hc:8≤S.count)(hc2:S.count≤300)(hs:S.count+2≤S.dk.size)(hd:S.dk.down=false)(hl:∀n:Int,(S.dk.read n).length=256){Bl Bi:Nat}(inc:Int)
 (h1:Blk w Bl 26 #[.pointer (some ⟨l,0,none⟩)]) (h2:Blk w Bi 3 #[.int .i64 inc]) (q:Nat) (hq:q≤4000000000):
 Calls Tryz.prog 108 #[.int .i64 (q:Int),.pointer (some ⟨Bl,0,none⟩),.pointer (some ⟨Bi,0,none⟩)] w (AtP S.dk S.count S.m.inc inc q w):=by
 have hsec:∀w',Upd Nowhere w w'→Calls Tryz.prog 101 #[.pointer (some ⟨l,0,none⟩),.int .i64 (q:Int)] w' fun e w''=>e= .returned (.int .i64 ((2+q % S.count:Nat):Int))∧w''=w':=fun w' hu=>sector_ok (h.up hu) (by omega) (by omega) q hq
 obtain⟨n,hn⟩:∃n,2+q % S.count=n:=⟨_,rfl⟩
 have hnb:n<S.dk.size:=by
  have:q % S.count<S.count:=Nat.mod_lt _ (by omega)
  omega
 have hpage:pageOk S.dk S.count S.m.inc inc q=match S.dk.page (n:Int) with
  | none=>none
  | some s=>if okAt S.m.inc inc q s=true then some s else none:=by unfold pageOk;rw[hn]
 rw[hn]at hsec;obtain⟨A,c,its,hbx,_⟩:=h.ex;have hlt:=hbx.lt;have hlt1:=h1.lt;have hlt2:=h2.lt;have e0:=hbx.cell 0;have e3:=hbx.cell 3;have eB:=h1.cell 0;have eI:=h2.cell 0;simp only[qA,qZ,qS]at e0 e3 eB eI;have H:=qh h;have HSEC:=qh hsec;have HPG:=qh hpage
 have hkeep:∀w',Upd Nowhere w w'→w'.cell? ⟨l,0,none⟩=some (.pointer (some ⟨p.d,0,none⟩))∧w'.cell? ⟨l,3,none⟩=some (.int .i64 S.m.inc)∧w'.cell? ⟨Bl,0,none⟩=some (.pointer (some ⟨l,0,none⟩))∧w'.cell? ⟨Bi,0,none⟩=some (.int .i64 inc):=fun w' hu=>
  ⟨(hu.cell (p:=⟨l,0,none⟩) hlt id).trans e0,(hu.cell (p:=⟨l,3,none⟩) hlt id).trans e3,(hu.cell (p:=⟨Bl,0,none⟩) hlt1 id).trans eB,(hu.cell (p:=⟨Bi,0,none⟩) hlt2 id).trans eI⟩
 have HK:=qh hkeep;obtain⟨m4,hm4⟩:∃m4,S.m.inc=m4:=⟨_,rfl⟩;rw[hm4]at HK HPG;rw[hm4];have hl4:=hlt;have HLT:=qh hlt;have HLT1:=qh hlt1;have HLT2:=qh hlt2
 cases hg:S.dk.get (n:Int) with
 | none=>
   have hG:∀w',Upd Nowhere w w'→_:=fun w' hu=>get_torn (h.up hu).dk n hnb hd (hl _) hg
   have HG:=qh hG;have hE:pageOk S.dk S.count m4 inc q=none:=by rw[HPG.out];unfold DiskS.page;rw[hg];rfl
   have HE:=qh hE;have hz:(Instr.build 176 #[]).run Tryz.prog w= .ok (.agg #[.int .i64 0,.int .i64 0,.int .i64 0,strV []]) w:=by kernel_rfl
   clear hG hE hsec hpage hbx h h1 h2 hkeep e0 e3 eB eI hg hn hnb hm4 hlt hlt1 hlt2 hl4 hc hc2 hs hd hl hq hz;go_enter Tryz.func108,Tryz.ntmps108
   go_wp2_with fail
   have hu0:=(Upd.refl Nowhere w).alloc (.cells #[.int .i64 0,.int .i64 0,.int .i64 0,.string ⟨#[]⟩] 176);have k0:=HK.out _ hu0;have HU0:=qh hu0;clear hu0;go_cut [7,8] (fun s7 s8 wz=>s7= .slice none 0 0∧s8= .int .i64 50∧Upd Nowhere (w.alloc (.cells #[.int .i64 0,.int .i64 0,.int .i64 0,.string ⟨#[]⟩] 176)) wz)
   case first=>
    go_region_held3 (fun w'=>w'.cell? ⟨l,0,none⟩=some (.pointer (some ⟨p.d,0,none⟩))∧w'.cell? ⟨l,3,none⟩=some (.int .i64 m4)∧w'.cell? ⟨Bl,0,none⟩=some (.pointer (some ⟨l,0,none⟩))∧w'.cell? ⟨Bi,0,none⟩=some (.int .i64 inc)) (first | exact k0 | exact k1)
     (first
       | (go_at_call 101
          refine(HSEC.out _ HU0.out.drew).mono ?_;rintro e w2 ⟨rfl,rfl⟩)
       | (go_at_call 95
          refine(HG.out _ HU0.out.drew).mono ?_;rintro e w3 ⟨rfl,hU3⟩;have k1:=HK.out _ (HU0.out.drew.same hU3);have HU3:=qh hU3;clear hU3))
    all_goals
     go_wp2_with fail
     go_meet;exact⟨rfl,rfl,⟨HU3.out.os,HU3.out.tape,HU3.out.output,HU3.out.size,HU3.out.block⟩⟩
   case rest=>
    obtain⟨rfl,rfl,hU⟩:=hcut;have HU:=qh (HU0.out.same hU);have hB:=(Blk.new w 176 #[.int .i64 0,.int .i64 0,.int .i64 0,.string ⟨#[]⟩]).upd hU id;have b0:=hB.cell 0;have b1:=hB.cell 1;have b2:=hB.cell 2;have b3:=hB.cell 3;have q0:=hB.frozen 0;have q1:=hB.frozen 1;have q2:=hB.frozen 2;have q3:=hB.frozen 3;have hlt:=hB.lt;simp only[qA,qZ,qS]at b0 b1 b2 b3;have HB:=qh hB;clear hU hB;go_wp2_with fail
    refine bodyPost_ret (res_sheet3 rfl rfl ((((HB.out.set_ 0 _).set_ 1 _).set_ 2 _).set_ 3 _) rfl) rfl ?_;refine⟨⟨0,0,0,[]⟩,false,rfl,fun h=>(by cases h),fun _=>HE.out,?_⟩
    have hu4:Upd (fun k=>w.heap.size≤k) wc (((((wc.setCell ⟨w.heap.size,0,none⟩ (.int .i64 0)).setCell ⟨w.heap.size,1,none⟩ (.int .i64 0)).setCell ⟨w.heap.size,2,none⟩ (.int .i64 0)).setCell ⟨w.heap.size,3,none⟩ (.string ⟨#[]⟩))):=(((((Upd.refl (fun k=>w.heap.size≤k) wc).setCell (p:=⟨w.heap.size,0,none⟩) (fun _=>qlr _) (.int .i64 0)).setCell (p:=⟨w.heap.size,1,none⟩) (fun _=>qlr _) (.int .i64 0)).setCell (p:=⟨w.heap.size,2,none⟩) (fun _=>qlr _) (.int .i64 0)).setCell (p:=⟨w.heap.size,3,none⟩) (fun _=>qlr _) (.string ⟨#[]⟩))
    exact HU.out.news hu4
 | some pl=>
   have hpl:=DiskS.get_len (hl (n:Int)) hg;have hG:∀w',Upd Nowhere w w'→_:=fun w' hu=>get_ok (h.up hu).dk n hnb hd (hl _) hg
   have HG:=qh hG
   have hE:pageOk S.dk S.count m4 inc q=match sheetOf pl with
    | none=>none
    | some s=>if okAt m4 inc q s=true then some s else none:=by rw[HPG.out];unfold DiskS.page;rw[hg];rfl
   have hS:∀(w:World) (v:Value),BytesE w v pl→Calls Tryz.prog 109 #[v] w (SdecP pl w):=fun w v hv=>sdec_ok hv hpl
   have HE:=qh hE;have HS:=qh hS;clear hG hE hS hsec hpage hbx h h1 h2 hkeep e0 e3 eB eI hg hn hnb hm4 hlt hlt1 hlt2 hl4 hc hc2 hs hd hl hq hpl;go_enter Tryz.func108,Tryz.ntmps108
   go_wp2_with fail
   have hu0:=(Upd.refl Nowhere w).alloc (.cells #[.int .i64 0,.int .i64 0,.int .i64 0,.string ⟨#[]⟩] 176);have k0:=HK.out _ hu0;have HU0:=qh hu0;clear hu0;go_cut [7,8] (fun s7 s8 wz=>∃A c,s7= .slice A 254 c∧s8= .int .i64 0∧BytesE wz (.slice A 254 c) pl∧Upd Nowhere (w.alloc (.cells #[.int .i64 0,.int .i64 0,.int .i64 0,.string ⟨#[]⟩] 176)) wz)
   case first=>
    go_region_held3 (fun w'=>w'.cell? ⟨l,0,none⟩=some (.pointer (some ⟨p.d,0,none⟩))∧w'.cell? ⟨l,3,none⟩=some (.int .i64 m4)∧w'.cell? ⟨Bl,0,none⟩=some (.pointer (some ⟨l,0,none⟩))∧w'.cell? ⟨Bi,0,none⟩=some (.int .i64 inc)) (first | exact k0 | exact k1)
     (first
       | (go_at_call 101
          refine(HSEC.out _ HU0.out.drew).mono ?_;rintro e w2 ⟨rfl,rfl⟩)
       | (go_at_call 95
          refine(HG.out _ HU0.out.drew).mono ?_;rintro e w3 ⟨A3,c3,rfl,hO3,hU3⟩;have k1:=HK.out _ (HU0.out.drew.same hU3);have HU3:=qh hU3;have HO3:=qh hO3.els;clear hU3 hO3))
    all_goals
     go_wp2_with fail
     go_meet;exact⟨A3,c3,rfl,rfl,HO3.out,⟨HU3.out.os,HU3.out.tape,HU3.out.output,HU3.out.size,HU3.out.block⟩⟩
   case rest=>
    obtain⟨A3,c3,rfl,rfl,hO3,hU⟩:=hcut;have HU:=qh (HU0.out.same hU);have hB:=(Blk.new w 176 #[.int .i64 0,.int .i64 0,.int .i64 0,.string ⟨#[]⟩]).upd hU id;have HB:=qh hB;have HC:=qh (HS.out _ _ hO3);clear hU hB hO3 k0;go_wp2_with fail
    refine HC.out.mono ?_;rintro e w4 ⟨⟨si,sp,sf,sd⟩,x,rfl,hx,hU4⟩;have hB4:=HB.out.upd hU4 id;have HU4:=qh (HU.out.same hU4);have HX:=qh hx;have HB4:=qh hB4;have hlt4:=hB4.lt;have hk4:=HK.out _ (HU.out.same hU4);obtain⟨k1,k2,k3,k4⟩:=hk4;have b0:=hB4.cell 0;have b1:=hB4.cell 1;have b2:=hB4.cell 2;have b3:=hB4.cell 3;have q0:=hB4.frozen 0;have q1:=hB4.frozen 1;have q2:=hB4.frozen 2;have q3:=hB4.frozen 3;simp only[qA,qZ,qS]at b0 b1 b2 b3;unfold SheetS.arr;simp only;clear hx hB4 hU4;have hu5:Upd (fun k=>w.heap.size≤k) w4 (((((w4.setCell ⟨w.heap.size,0,none⟩ (.int .i64 si)).setCell ⟨w.heap.size,1,none⟩ (.int .i64 sp)).setCell ⟨w.heap.size,2,none⟩ (.int .i64 sf)).setCell ⟨w.heap.size,3,none⟩ (strV sd))):=(((((Upd.refl (fun k=>w.heap.size≤k) w4).setCell (p:=⟨w.heap.size,0,none⟩) (fun _=>qlr _) (.int .i64 si)).setCell (p:=⟨w.heap.size,1,none⟩) (fun _=>qlr _) (.int .i64 sp)).setCell (p:=⟨w.heap.size,2,none⟩) (fun _=>qlr _) (.int .i64 sf)).setCell (p:=⟨w.heap.size,3,none⟩) (fun _=>qlr _) (strV sd))
    have HU5:=qh hu5;clear hu5;have hl1:=HLT.out;have hl2:=HLT1.out;have hl3:=HLT2.out;have hl1':l<w4.heap.size:=by omega
    have hl2':Bl<w4.heap.size:=by omega
    have hl3':Bi<w4.heap.size:=by omega
    rcases HX.out with⟨rfl,hs⟩ | ⟨hx,hs⟩
    ·have hok:pageOk S.dk S.count m4 inc q=if okAt m4 inc q ⟨si,sp,sf,sd⟩=true then some ⟨si,sp,sf,sd⟩ else none:=by rw[HE.out,hs]
     have HOK:=qh hok;clear hok hs;by_cases h1:sp=(q:Int)
     ·subst h1;by_cases h2:inc≤si
      ·have d2:decide (inc≤si)=true:=by simpa using h2
       by_cases h3:si≤m4
       ·have d3:decide (si≤m4)=true:=by simpa using h3
        have HQ:Hid (pageOk S.dk S.count m4 inc q=some ⟨si,(q:Int),sf,sd⟩):=qh (by rw[HOK.out];simp[okAt,h2,h3])
        go_wp2_with fail
        go_big_region
        all_goals
         go_wp2_with fail
         refine bodyPost_ret (res_sheet3 rfl rfl ((((((HB4.out.set_ 0 _).set_ 1 _).set_ 2 _).set_ 3 _).alloc _).drew) rfl) rfl ?_;exact⟨⟨si,(q:Int),sf,sd⟩,true,rfl,fun _=>HQ.out,fun h=>(by cases h),HU4.out.news (HU5.out.alloc _).drew⟩
       ·have d3:decide (si≤m4)=false:=by simpa using h3
        have HQ:Hid (pageOk S.dk S.count m4 inc q=none):=qh (by rw[HOK.out];simp[okAt,h3])
        go_wp2_with fail
        go_big_region
        all_goals
         go_wp2_with fail
         refine bodyPost_ret (res_sheet3 rfl rfl ((((((HB4.out.set_ 0 _).set_ 1 _).set_ 2 _).set_ 3 _).alloc _).drew) rfl) rfl ?_;exact⟨⟨si,(q:Int),sf,sd⟩,false,rfl,fun h=>(by cases h),fun _=>HQ.out,HU4.out.news (HU5.out.alloc _).drew⟩
      ·have d2:decide (inc≤si)=false:=by simpa using h2
       have HQ:Hid (pageOk S.dk S.count m4 inc q=none):=qh (by rw[HOK.out];simp[okAt,h2])
       go_wp2_with fail
       go_big_region
       all_goals
        go_wp2_with fail
        refine bodyPost_ret (res_sheet3 rfl rfl ((((((HB4.out.set_ 0 _).set_ 1 _).set_ 2 _).set_ 3 _).alloc _).drew) rfl) rfl ?_;exact⟨⟨si,(q:Int),sf,sd⟩,false,rfl,fun h=>(by cases h),fun _=>HQ.out,HU4.out.news (HU5.out.alloc _).drew⟩
     ·have HQ:Hid (pageOk S.dk S.count m4 inc q=none):=qh (by rw[HOK.out];simp[okAt,h1])
      have h1':(sp == (q:Int))=false:=by simpa using h1
      go_wp2_with fail
      go_big_region
      all_goals
       go_wp2_with fail
       refine bodyPost_ret (res_sheet3 rfl rfl ((((((HB4.out.set_ 0 _).set_ 1 _).set_ 2 _).set_ 3 _).alloc _).drew) rfl) rfl ?_;exact⟨⟨si,sp,sf,sd⟩,false,rfl,fun h=>(by cases h),fun _=>HQ.out,HU4.out.news (HU5.out.alloc _).drew⟩
    ·have hx':(x == 0)=false:=by simpa using hx
     have HQ:Hid (pageOk S.dk S.count m4 inc q=none):=qh (by rw[HE.out,hs])
     clear hs;go_wp2_with fail
     go_big_region
     all_goals
      go_wp2_with fail
      refine bodyPost_ret (res_sheet3 rfl rfl ((((((HB4.out.set_ 0 _).set_ 1 _).set_ 2 _).set_ 3 _).alloc _).drew) rfl) rfl ?_;exact⟨⟨si,sp,sf,sd⟩,false,rfl,fun h=>(by cases h),fun _=>HQ.out,HU4.out.news (HU5.out.alloc _).drew⟩
structure DkOK(D:DiskS)(sz:Nat)(sy:Int)(pl:Nat):Prop where
 down:D.down=false
 fuse:D.fuse= -1
 size:D.size=sz
 syncs:D.syncs=sy
 pend:D.pend.length≤pl
 read:∀n,(D.read n).length=256
theorem DkOK.gone{D:DiskS}{sz:Nat}{sy:Int}{pl:Nat}(h:DkOK D sz sy pl):D.gone=false:=by
 unfold DiskS.gone;rw[h.down,h.fuse];rfl
theorem DkOK.step{D:DiskS}{sz:Nat}{sy:Int}{pl:Nat}(h:DkOK D sz sy pl):D.step=D:=by
 unfold DiskS.step;rw[h.gone,if_neg (by simp),h.fuse,if_neg (by omega)]
 obtain⟨a,b,c,d,e,f,g⟩:=D;have:=h.fuse;simp only at this;rw[this]
theorem wrote_get(D:DiskS)(n k:Int)(b:Bs):(D.wrote n b).read k=if k=n then b else D.read k:=by
 unfold DiskS.wrote DiskS.read putF;simp only;by_cases h:k=n
 ·rw[if_pos h,if_pos h]
 ·rw[if_neg h,if_neg h]
theorem flushed_get(D:DiskS)(k:Int):D.flushed.read k=D.read k:=by
 unfold DiskS.flushed DiskS.read overF;simp only
 cases D.now k with
 | some s=>rfl
 | none=>rfl
theorem DkOK.put_eq{D:DiskS}{sz:Nat}{sy:Int}{pl:Nat}(h:DkOK D sz sy pl)(n:Int)(b:Bs):D.put n b=(D.wrote n (wrapB (nextMark (D.read n)) b),0):=by
 unfold DiskS.put DiskS.write;rw[h.down,if_neg (by simp),h.gone,if_neg (by simp),h.step]
theorem DkOK.put{D:DiskS}{sz:Nat}{sy:Int}{pl:Nat}(h:DkOK D sz sy pl)(n:Int){b:Bs}(hb:b.length≤254):(D.put n b).2=0∧DkOK (D.put n b).1 sz sy (pl+1):=by
 rw[h.put_eq];refine⟨rfl,h.down,h.fuse,h.size,h.syncs,?_,fun k=> ?_⟩
 ·have:=h.pend
  show(D.pend++[_]).length≤_
  rw[qla,qls];omega
 ·rw[wrote_get];by_cases hk:k=n
  ·rw[if_pos hk,wrapB_len _ hb]
  ·rw[if_neg hk,h.read]
theorem DkOK.sync_eq{D:DiskS}{sz:Nat}{sy:Int}{pl:Nat}(h:DkOK D sz sy pl):D.sync=(D.flushed,0):=by
 unfold DiskS.sync;rw[h.gone,if_neg (by simp),h.step]
theorem DkOK.sync{D:DiskS}{sz:Nat}{sy:Int}{pl:Nat}(h:DkOK D sz sy pl):D.sync.2=0∧DkOK D.sync.1 sz (sy+1) 0:=by
 rw[h.sync_eq];exact⟨rfl,h.down,h.fuse,h.size,by show D.syncs+1=_;rw[h.syncs],qlr _,fun k=>by rw[flushed_get,h.read]⟩
theorem DkOK.empty(n:Nat):DkOK (DiskS.empty n) n 0 0:=⟨rfl,rfl,rfl,rfl,qlr _,fun _=>List.length_replicate⟩
theorem MastS.pay_small{m:MastS}(h:m.may=true):m.pay.length≤254:=by
 obtain⟨h1,h2,h3,h4,h5,_⟩:=MastS.may_nums h;have hn:∀n:Int,0≤n→n≤1099511627776→(shortB n.toNat).length≤10:=fun n _ _=>shortB_len_le (k:=9) (by omega)
 have a1:=hn _ h1.1 h1.2;have a2:=hn _ h2.1 h2.2;have a3:=hn _ h3.1 h3.2;have a4:=hn _ h4.1 h4.2;have a5:=hn _ h5.1 h5.2;simp only[MastS.pay,MastS.list,List.flatMap_cons,List.flatMap_nil,qla,List.length_nil];omega
theorem DkOK.save{D:DiskS}{sz:Nat}{sy:Int}{pl:Nat}(h:DkOK D sz sy pl){m:MastS}(hm:m.may=true):(D.save m).2=0∧DkOK (D.save m).1 sz (sy+1) 0:=by
 obtain⟨h1,h2⟩:=h.put (m.gen % 2) (MastS.pay_small hm);unfold DiskS.save
 cases hp:D.put (m.gen % 2) m.pay with
 | mk S1 e=>
   rw[hp]at h1 h2;simp only at h1 h2 ⊢;rw[h1,if_neg (by simp)]
   exact h2.sync
theorem DkOK.save_read{D:DiskS}{sz:Nat}{sy:Int}{pl:Nat}(h:DkOK D sz sy pl){m:MastS}(hm:m.may=true)(k:Int):((D.save m).1).read k=if k=m.gen % 2 then wrapB (nextMark (D.read (m.gen % 2))) m.pay else D.read k:=by
 obtain⟨h1,h2⟩:=h.put (m.gen % 2) (MastS.pay_small hm);have he:=h.put_eq (m.gen % 2) m.pay;unfold DiskS.save;rw[he]at h2 ⊢;simp only at h2 ⊢;rw[if_neg (by simp),h2.sync_eq]
 simp only;rw[flushed_get,wrote_get]
theorem DkOK.save_get{D:DiskS}{sz:Nat}{sy:Int}{pl:Nat}(h:DkOK D sz sy pl){m:MastS}(hm:m.may=true):((D.save m).1).get (m.gen % 2)=some (padB 254 m.pay):=by
 unfold DiskS.get;rw[h.save_read hm,if_pos rfl];obtain⟨h1,h2,_,_⟩:=nextMark_ok (D.read (m.gen % 2));exact openS_wrap h1 h2 (MastS.pay_small hm)
theorem readM_pad{m:MastS}(h:m.may=true):readM (padB 254 m.pay)=(m,true):=readM_pay h _
def disk1(n:Nat):DiskS:=((DiskS.empty n).save mast1).1
def mast2:MastS:=⟨2,1,0,1,0⟩
def disk2(n:Nat):DiskS:=((disk1 n).save mast2).1
theorem mast1_may:mast1.may=true:=by decide
theorem mast2_may:mast2.may=true:=by decide
theorem disk1_ok(n:Nat):((DiskS.empty n).save mast1).2=0∧DkOK (disk1 n) n 1 0:=(DkOK.empty n).save mast1_may
theorem disk2_ok(n:Nat):((disk1 n).save mast2).2=0∧DkOK (disk2 n) n 2 0:=(disk1_ok n).2.save mast2_may
theorem noughts_open:openS noughtsB=none:=by
 have h0:noughtsB.getD 0 0=0:=rfl;unfold openS;rw[h0,if_neg];rintro⟨_,h,_⟩;exact absurd h (by decide)
theorem disk1_load(n:Nat):(disk1 n).load=mast1:=by
 have h1:(disk1 n).get 1=some (padB 254 mast1.pay):=(DkOK.empty n).save_get mast1_may
 have h0:(disk1 n).get 0=none:=by
  unfold DiskS.get;have:=(DkOK.empty n).save_read mast1_may 0;rw[if_neg (by decide)]at this
  rw[show(disk1 n).read 0=(DiskS.empty n).read 0 from this];exact noughts_open
 have e0:lookM (disk1 n) 0 ⟨0,0,0,0,0⟩=⟨0,0,0,0,0⟩:=by
  unfold lookM;rw[show((0:Nat):Int)=0 from rfl,h0]
 unfold DiskS.load;rw[e0];unfold lookM;rw[show((1:Nat):Int)=1 from rfl,h1];simp only[readM_pad mast1_may];rfl
theorem disk1_page(n count:Nat)(_:0<count)(a b:Int):pageOk (disk1 n) count a b 0=none:=by
 unfold pageOk DiskS.page
 have h2:(disk1 n).get ((2+0 % count:Nat):Int)=none:=by
  rw[Nat.zero_mod];unfold DiskS.get;have:=(DkOK.empty n).save_read mast1_may 2;rw[if_neg (by decide)]at this
  rw[show((2+0:Nat):Int)=2 from rfl,show(disk1 n).read 2=(DiskS.empty n).read 2 from this];exact noughts_open
 rw[h2];rfl
theorem Blk.noLog{bz:Nat}{w:World}{g t:Nat}{cs:Array Value}(h:Blk w g t cs)(ht:logTy (.cells cs t (0,0))=false):¬LogF bz w g:=by
 rintro⟨_,o,h1,h2⟩;have h':w.heap[g]? =some (.cells cs t (0,0)):=h;rw[h']at h1;injection h1 with h1
 subst h1;rw[show logTyM (decide (g<bz+3)) (.cells cs t (0,0))=logTy (.cells cs t (0,0)) from rfl,ht]at h2
 cases h2
theorem read0_ok{bz:Nat}{w:World}{l:Nat}{p:DkP}{S:LogS}(h:LogAt bz w l p S)(hc:8≤S.count)(hc2:S.count≤300)(hs:S.count+2≤S.dk.size)(hd:S.dk.down=false)(hl:∀n:Int,(S.dk.read n).length=256)(hit:S.items=[])(hfo:S.forced=0)(f:Nat)(hf:S.m.first=(f:Int))(hfl:f≤1000000)(hpg:pageOk S.dk S.count S.m.inc 0 f=none)(hW:HalfW w):
 Calls Tryz.prog 57 #[.pointer (some ⟨l,0,none⟩)] w fun e w'=>e= .returned (.int .i64 0)∧LogAt bz w' l p { S with next:=f }∧Upd (fun k=>k=l) w w':=by
 have hU0:=((Upd.refl Nowhere w).alloc (.cells #[.pointer (some ⟨l,0,none⟩)] 26)).alloc (.cells #[.int .i64 0] 3);have hz1:(w.alloc (.cells #[.pointer (some ⟨l,0,none⟩)] 26)).heap.size=w.heap.size+1:=by simp
 have hB1:=(Blk.new w 26 #[.pointer (some ⟨l,0,none⟩)]).alloc (.cells #[.int .i64 0] 3);have hB2:=Blk.new' (w.alloc (.cells #[.pointer (some ⟨l,0,none⟩)] 26)) 3 #[.int .i64 0] hz1.symm;have hL0:=h.up hU0;have hrd:=read1_ok hL0 hc hc2 hs hd hl 0 hB1 hB2 f (by omega)
 obtain⟨A,c,its,hbx,hO,hlen,hi⟩:=hL0.ex;have hits:its=[]:=List.eq_nil_of_length_eq_zero (by rw[hlen,hit];rfl)
 subst hits;have hlt:=hbx.lt;have hltw:=h.lt;have e1:=hbx.cell 1;have e4:=hbx.cell 4;have f0:=hbx.frozen 9;have f8:=hbx.frozen 8;simp only[qA,qZ,qS,hf]at e1 e4;have b1:=hB1.cell 0;simp only[qA,qZ]at b1;have hcI:(0:Int)<(S.count:Int):=by omega
 have hfI:(f:Int)≤1000000:=by omega
 have HRD:=qh hrd;have HL0:=qh hL0;have HB1:=qh hB1;have HB2:=qh hB2;have HU0:=qh hU0;have HPG:=qh hpg;have HBX:=qh hbx;have HFO:=qh hfo;have HIT:=qh hit;have HF:=qh hf;have HW:=qh (hW.upd hU0 id);have hcf:=cf_read1;obtain⟨count,hcount⟩:∃n,S.count=n:=⟨_,rfl⟩;rw[hcount]at e1 hcI;clear h hc hc2 hs hd hl hit hfo hf hfl hpg hU0 hB1 hB2 hL0 hrd hbx hO hlen hi hz1 hW hcount;go_enter Tryz.func57,Tryz.ntmps57
 go_wp2_with fail
 generalize (w.alloc (.cells #[.pointer (some ⟨l,0,none⟩)] 26)).alloc (.cells #[.int .i64 0] 3)=w1 at*;go_loopw [3] (fun s3 wr=>s3= .slice none 0 0∧wr=w1) (fun _ _=>1)
 case atStart=>exact⟨rfl,rfl⟩
 case round=>
  obtain⟨rfl,rfl⟩:=hrel;go_wp2_with fail
  refine HRD.out.mono ?_;rintro e w2 ⟨⟨si,sp,sf,sd⟩,b,rfl,ht,hfa,hU2⟩
  have hb:b=false:=by
   cases b with
   | false=>rfl
   | true=>
     have:=ht rfl;rw[HPG.out]at this
     cases this
  subst hb;have hbl:w.heap.size<w2.heap.size:=Nat.lt_of_lt_of_le HB1.out.lt hU2.size;have hbx2:=HBX.out.upd hU2 id;have hlt2:=hbx2.lt;have c1:=(hU2.cell (p:=⟨w.heap.size,0,none⟩) HB1.out.lt id).trans b1;have c4:=(hU2.cell (p:=⟨l,4,none⟩) hlt id).trans e4;have c7:=hbx2.cell 7;have c8:=hbx2.cell 8;have c9:=hbx2.cell 9;have g8:=hbx2.frozen 8;have g9:=hbx2.frozen 9;simp only[qA,qZ,qS,List.length_nil]at c7 c8 c9;have HU2:=qh hU2;clear ht hfa hU2 b1 e4 e1 hbx2 f0 f8;unfold SheetS.arr;simp only;go_wp2_with fail
  go_big_region
  all_goals
   have hu3:=(((Upd.refl (fun k=>k=l) w2).setCell (p:=⟨l,9,none⟩) (fun _=>rfl) (.int .i64 (f:Int))).alloc (.cells #[.int .i64 si,.int .i64 sp,.int .i64 sf,strV sd] 176)).drew
   have hfi:=find_ok (w:=((w2.setCell ⟨l,9,none⟩ (.int .i64 (f:Int))).alloc (.cells #[.int .i64 si,.int .i64 sp,.int .i64 sf,strV sd] 176)).drew) (v:= .slice none 0 0) (l:=[]) ((OwnR.nil 176 sheetC 4 0 _).els) (by simp) (fun s hs=>by cases hs) (HW.out.upd (HU2.out.any.same hu3) (fun e=>by have:=HL0.out.hl;have:=HL0.out.hz;omega))
   have HFI:=qh hfi;have HU3:=qh hu3;clear hfi hu3;go_wp2_with fail
   refine HFI.out.mono ?_;rintro e w4 ⟨A4,c4',rfl,_,hU4⟩;have hL2:=(HL0.out.up HU2.out).setBox 9 (.int .i64 (f:Int)) (S':={ S with next:=f }) ⟨rfl,rfl⟩ (fun v=>rfl)
   have hL3:=((hL2.1.up ((Upd.refl Nowhere _).alloc (.cells #[.int .i64 si,.int .i64 sp,.int .i64 sf,strV sd] 176)).drew)).up hU4
   have hL4:=(hL3.up (Upd.refl Nowhere _).drew).setBox 8 (.int .i64 (0:Int)) (S':={ S with next:=f }) ⟨rfl,rfl⟩ (fun v=>by
    have:=HFO.out;simp only[LogS.box,this];rfl)
   obtain⟨A5,c5,its5,hb5,_,hn5,_⟩:=hL3.ex;have hn5':its5=[]:=List.eq_nil_of_length_eq_zero (by rw[hn5];exact congrArg List.length HIT.out)
   subst hn5';have hbA:Blk ((w2.setCell ⟨l,9,none⟩ (.int .i64 (f:Int))).alloc (.cells #[.int .i64 si,.int .i64 sp,.int .i64 sf,strV sd] 176)).drew w.heap.size 26 #[.pointer (some ⟨l,0,none⟩)]:=(HB1.out.upd (HU2.out.any.same HU3.out) (by omega))
   have hb6:=hbA.upd hU4 id;have k1:=hb6.cell 0;have k7:=hb5.cell 7;have k8:=hb5.cell 8;have g8':=hb5.frozen 8;have hlt4:=hb5.lt;have hlt5:=hb6.lt;simp only[qA,qZ,qS,List.length_nil]at k1 k7 k8;have HL4:=qh hL4;have HU4:=qh hU4;clear hL2 hL3 hL4 hb5 hn5 hbA hb6 hU4 c1 c4 c7 c8 c9 g8 g9 HFI;have e0:(findB []).length=0:=rfl;rw[e0];clear e0;go_wp2_with fail
   go_loopw [60] (fun s60 wr=>s60= .int .i64 0∧wr=w4) (fun _ _=>1)
   case atStart=>exact⟨rfl,rfl⟩
   case round=>
    obtain⟨rfl,rfl⟩:=hrel;go_wp2_with fail
    go_big_region
    all_goals
     go_wp2_with fail
     go_ret;refine⟨rfl,HL4.out.1,?_⟩;have hu5:=((Upd.refl (fun k=>k=l) wr).setCell (p:=⟨l,8,none⟩) (fun _=>rfl) (.int .i64 (0:Int))).drew
     exact HU0.out.any.same ((HU2.out.any.same HU3.out).same (HU4.out.any.same hu5))
def OpenP(bz:Nat)(p:DkP)(D:DiskS)(count f:Nat)(m':MastS)(w:World)(e:Ending)(w':World):Prop:=∃(l:Nat) (v':Value),e= .returned (.tuple #[.pointer (some ⟨l,0,none⟩),.int .i64 0])∧
 LogAt bz w' l (p.at_ v') ⟨(D.save m').1,count,m',[],0,f,0,false⟩∧Upd p.foot w w'∧w.heap.size≤l∧NewV w p.v v'
theorem open0_ok{bz:Nat}{w:World}{p:DkP}{D:DiskS}(h:DiskAt w p D)(hz:0<bz)(hbw:bz≤w.heap.size)(hpf:∀k,p.foot k→bz≤k)(hpm:p.ms<bz+3∧p.mn<bz+3)(count:Nat)(h1:8≤count)(h2:count≤300)(h3:count+2≤D.size)(h4:D.size≤4096)(hd:D.down=false)(hfu:D.fuse≤9223372036854775807)(hsy:0≤D.syncs∧D.syncs≤3000000000)(hl:∀n:Int,(D.read n).length=256)(hpl:D.pend.length≤80000)
 (f:Nat) (hf:D.load.first=(f:Int)) (hfl:f≤1000000) (hg:0<D.load.gen∧D.load.gen≤1000000) (hi:0≤D.load.inc∧D.load.inc≤1000000) (hpg:pageOk D count D.load.inc 0 f=none) (hW:HalfW w) (m':MastS) (hm':m'={ D.load with gen:=D.load.gen+1,inc:=D.load.inc+1 }) (hmay:m'.may=true) (hsv:(D.save m').2=0):
 Calls Tryz.prog 14 #[.pointer (some ⟨p.d,0,none⟩),.int .i64 (count:Int)] w (OpenP bz p D count f m' w):=by
 have hr:=right_ok h count h1 h2 h3 h4;have hld:=mload_ok h hd (by omega) hl (by omega)
 have hsave:∀w',DiskAt w' p D→Calls Tryz.prog 58 #[.pointer (some ⟨p.d,0,none⟩),.agg m'.arr] w' (PutP p (D.save m').1 (D.save m').2 w'):=fun w' h'=>save_ok h' hfu hsy (by omega) hl hpl m' hmay
 rw[hsv]at hsave;generalize hDS:(D.save m').1=D' at*;have hrd:∀w' (l:Nat),LogAt bz w' l p ⟨D,count,D.load,[],0,0,0,false⟩→HalfW w'→Calls Tryz.prog 57 #[.pointer (some ⟨l,0,none⟩)] w' fun e w''=>e= .returned (.int .i64 0)∧LogAt bz w'' l p ⟨D,count,D.load,[],0,f,0,false⟩∧Upd (fun k=>k=l) w' w'':=fun w' l hL hW'=>read0_ok hL h1 h2 h3 hd hl rfl rfl f hf hfl hpg hW'
 have HR:=qh hr;have HLD:=qh hld;have HSV:=qh hsave;have HRD:=qh hrd;have HD:=qh h;have HPF:=qh hpf;have HPM:=qh hpm;have HW:=qh hW;have HZ:=qh hz;have HBW:=qh hbw;have HDS:=qh hDS;have a1:(count:Int)≤300:=by omega
 obtain⟨m,hm⟩:∃m,D.load=m:=⟨_,rfl⟩;rw[hm]at HLD HRD hg hi hm';unfold OpenP;simp only[HDS.out];clear hr hld hsave hrd h hpf hpm hz hbw h1 h2 h3 h4 hd hfu hsy hl hpl hf hfl hpg hW hDS hsv hm hmay;subst hm';obtain⟨gen,inc,first,lsn,check⟩:=m;simp only at hg hi HSV HLD;obtain⟨g1,g2⟩:=hg;obtain⟨i1,i2⟩:=hi;unfold MastS.arr at HLD HSV;simp only at HLD HSV;go_enter Tryz.func14,Tryz.ntmps14
 go_wp2_with fail
 refine HR.out.mono ?_;rintro e w1 ⟨rfl,rfl⟩;go_wp2_with fail
 refine HLD.out.mono ?_;rintro e w2 ⟨rfl,hU2⟩;have HU2:=qh hU2;clear hU2;have hz:(w2.alloc (.cells #[.int .i64 gen,.int .i64 inc,.int .i64 first,.int .i64 lsn,.int .i64 check] 115)).heap.size=w2.heap.size+1:=by simp
 have hUa:=((Upd.refl Nowhere w2).alloc (.cells #[.int .i64 gen,.int .i64 inc,.int .i64 first,.int .i64 lsn,.int .i64 check] 115)).alloc (.cells #[.pointer (some ⟨p.d,0,none⟩),.int .i64 (count:Int),.int .i64 gen,.int .i64 inc,.int .i64 first,.int .i64 lsn,.int .i64 check,.slice none 0 0,.int .i64 0,.int .i64 0,.int .i64 0,.bool false] 120);have hBm:=(Blk.new w2 115 #[.int .i64 gen,.int .i64 inc,.int .i64 first,.int .i64 lsn,.int .i64 check]).alloc (.cells #[.pointer (some ⟨p.d,0,none⟩),.int .i64 (count:Int),.int .i64 gen,.int .i64 inc,.int .i64 first,.int .i64 lsn,.int .i64 check,.slice none 0 0,.int .i64 0,.int .i64 0,.int .i64 0,.bool false] 120);have hBl:=Blk.new' (w2.alloc (.cells #[.int .i64 gen,.int .i64 inc,.int .i64 first,.int .i64 lsn,.int .i64 check] 115)) 120 #[.pointer (some ⟨p.d,0,none⟩),.int .i64 (count:Int),.int .i64 gen,.int .i64 inc,.int .i64 first,.int .i64 lsn,.int .i64 check,.slice none 0 0,.int .i64 0,.int .i64 0,.int .i64 0,.bool false] hz.symm;have HBM:=qh hBm;have HBL:=qh hBl;have HUA:=qh (HU2.out.same hUa);clear hUa hBm hBl hz;go_wp2_with fail
 generalize (w2.alloc (.cells #[.int .i64 gen,.int .i64 inc,.int .i64 first,.int .i64 lsn,.int .i64 check] 115)).alloc (.cells #[.pointer (some ⟨p.d,0,none⟩),.int .i64 (count:Int),.int .i64 gen,.int .i64 inc,.int .i64 first,.int .i64 lsn,.int .i64 check,.slice none 0 0,.int .i64 0,.int .i64 0,.int .i64 0,.bool false] 120)=wa at*;have hplt:p.d<w1.heap.size:=HD.out.lt _ (.inl rfl);have hbw:=HBW.out;have hz:=HZ.out;have hsz2:=HU2.out.size;have hLa:LogAt bz wa (w2.heap.size+1) p ⟨D,count,⟨gen,inc,first,lsn,check⟩,[],0,0,0,false⟩:=⟨⟨none,0,[],HBL.out,OwnR.nil _ _ _ _ _,rfl,fun i x b q hx=>by simp at hx⟩,HD.out.up HUA.out,by omega,HPF.out,HPM.out,HZ.out⟩
 have hread:=HRD.out wa (w2.heap.size+1) hLa (HW.out.upd HUA.out id);have HREAD:=qh hread;clear hLa hread;refine HREAD.out.mono ?_;rintro e w5 ⟨rfl,hL5,hU5⟩;have hBm5:=HBM.out.upd hU5 (by omega)
 obtain⟨A5,c5,its5,hb5,_,hn5,_⟩:=hL5.ex;have hn5':its5=[]:=List.eq_nil_of_length_eq_zero (by rw[hn5];rfl)
 subst hn5';have m0:=hBm5.cell 0;have m1:=hBm5.cell 1;have m2:=hBm5.cell 2;have m3:=hBm5.cell 3;have m4:=hBm5.cell 4;have q0:=hBm5.frozen 0;have q1:=hBm5.frozen 1;have hltm:=hBm5.lt;simp only[qA,qZ,qS]at m0 m1 m2 m3 m4;have hu6:=((Upd.refl (fun k=>k=w2.heap.size) w5).setCell (p:=⟨w2.heap.size,0,none⟩) (fun _=>rfl) (.int .i64 (gen+1))).setCell (p:=⟨w2.heap.size,1,none⟩) (fun _=>rfl) (.int .i64 (inc+1))
 have hD6:DiskAt ((w5.setCell ⟨w2.heap.size,0,none⟩ (.int .i64 (gen+1))).setCell ⟨w2.heap.size,1,none⟩ (.int .i64 (inc+1))) p D:=hL5.dk.upd hu6 fun k hk e=>by
  have:=HD.out.lt k hk;omega
 have hB6:=(hBm5.set_ 0 (.int .i64 (gen+1))).set_ 1 (.int .i64 (inc+1));have hb6:=hb5.upd hu6 (by omega)
 have hsave:=HSV.out _ hD6;have HSAVE:=qh hsave;have HB6:=qh hB6;have Hb6:=qh hb6;have HU6:=qh hu6;have HU5:=qh hU5;have hL6:LogAt bz ((w5.setCell ⟨w2.heap.size,0,none⟩ (.int .i64 (gen+1))).setCell ⟨w2.heap.size,1,none⟩ (.int .i64 (inc+1))) (w2.heap.size+1) p ⟨D,count,⟨gen,inc,first,lsn,check⟩,[],0,f,0,false⟩:=hL5.upd hu6 (fun k e=>by rw[e];exact hBm5.noLog rfl) (noU8_blk hBm5 (by decide))
 have HL6:=qh hL6;clear hL6;clear hL5 hU5 hBm5 hb5 hn5 hu6 hD6 hB6 hb6 hsave HREAD;go_wp2_with fail
 refine HSAVE.out.mono ?_;rintro e w7 ⟨v',rfl,hD7,hU7,hN7⟩;have hnl:¬p.foot (w2.heap.size+1):=fun e=>by have:=HD.out.lt _ e;omega
 have hnm:¬p.foot w2.heap.size:=fun e=>by have:=HD.out.lt _ e;omega
 have hb7:=Hb6.out.upd hU7 hnl;have hm7:=HB6.out.upd hU7 hnm;have m0:=hm7.cell 0;have m1:=hm7.cell 1;have m2:=hm7.cell 2;have m3:=hm7.cell 3;have m4:=hm7.cell 4;have l2:=hb7.cell 2;have l3:=hb7.cell 3;have l4:=hb7.cell 4;have l5:=hb7.cell 5;have l6:=hb7.cell 6;have r2:=hb7.frozen 2;have r3:=hb7.frozen 3;have r4:=hb7.frozen 4;have r5:=hb7.frozen 5;have r6:=hb7.frozen 6;have hltm7:=hm7.lt;have hltl7:=hb7.lt;simp only[qA,qZ,qS,Array.setIfInBounds,List.length_nil]at m0 m1 m2 m3 m4 l2 l3 l4 l5 l6;simp at m0 m1 m2 m3 m4;have HB7:=qh hb7;have HD7:=qh hD7;have HU7:=qh hU7;have HN7:=qh hN7;clear hb7 hm7 hD7 hU7 hN7 HSAVE;go_wp2_with fail
 go_ret2
 have hL7:=HL6.out.disk (p':=p.at_ v') rfl ⟨rfl,rfl⟩ HU7.out HD7.out (fun k hk=>by
  rcases hk with e | e | e | e
  ·exact HPF.out k (.inl e)
  ·exact HPF.out k (.inr (.inl e))
  ·exact HPF.out k (.inr (.inr (.inl e)))
  ·rcases HN7.out k e with e | e
   ·exact HPF.out k (.inr (.inr (.inr e)))
   ·have:=HU5.out.size;have:=HUA.out.size
    have e1:w5.heap.size≤k:=by
     have:=HU6.out.size;omega
    omega)
 have hL8:=hL7.setBox 2 (.int .i64 (gen+1)) (S':=⟨D',count,⟨gen+1,inc,first,lsn,check⟩,[],0,f,0,false⟩) ⟨rfl,rfl⟩ (fun v=>rfl)
 have hL9:=hL8.1.setBox 3 (.int .i64 (inc+1)) (S':=⟨D',count,⟨gen+1,inc+1,first,lsn,check⟩,[],0,f,0,false⟩) ⟨rfl,rfl⟩ (fun v=>rfl)
 have hL10:=hL9.1.setBox 4 (.int .i64 first) (S':=⟨D',count,⟨gen+1,inc+1,first,lsn,check⟩,[],0,f,0,false⟩) ⟨rfl,rfl⟩ (fun v=>rfl)
 have hL11:=hL10.1.setBox 5 (.int .i64 lsn) (S':=⟨D',count,⟨gen+1,inc+1,first,lsn,check⟩,[],0,f,0,false⟩) ⟨rfl,rfl⟩ (fun v=>rfl)
 have hL12:=hL11.1.setBox 6 (.int .i64 check) (S':=⟨D',count,⟨gen+1,inc+1,first,lsn,check⟩,[],0,f,0,false⟩) ⟨rfl,rfl⟩ (fun v=>rfl)
 have hs1:=HUA.out.size;refine⟨w2.heap.size+1,v',rfl,hL12.1,?_,by omega,?_⟩
 ·have hu8:=(((((Upd.refl (fun k=>k=w2.heap.size+1) w7).setCell (p:=⟨w2.heap.size+1,2,none⟩) (fun _=>rfl) (.int .i64 (gen+1))).setCell (p:=⟨w2.heap.size+1,3,none⟩) (fun _=>rfl) (.int .i64 (inc+1))).setCell (p:=⟨w2.heap.size+1,4,none⟩) (fun _=>rfl) (.int .i64 first)).setCell (p:=⟨w2.heap.size+1,5,none⟩) (fun _=>rfl) (.int .i64 lsn)).setCell (p:=⟨w2.heap.size+1,6,none⟩) (fun _=>rfl) (.int .i64 check)
  have a5:Upd p.foot w1 w5:=(HUA.out.any:Upd p.foot w1 wa).trans HU5.out fun k hk e=>by omega
  have a6:=a5.trans HU6.out fun k hk e=>by omega
  have a7:=a6.same HU7.out;exact a7.trans hu8 fun k hk e=>by omega
 ·intro k hk
  rcases HN7.out k hk with e | e
  ·exact .inl e
  ·have:=HU5.out.size;have:=HUA.out.size;have:=HU6.out.size;exact .inr (by omega)
theorem firstB_in:∀(bs:List Bs) (n j o:Nat),firstB n j bs=some o→o<242∧242 * j+o<n+(allB bs).length:=by
 intro bs
 induction bs with
 | nil=>intro n j o h;cases h
 | cons b l ih=>
   intro n j o h;have hp:=sealO_pos b;rw[allB_cons,qla];rw[firstB]at h;by_cases hj:n / 242=j
   ·rw[if_pos hj]at h;injection h with h
    omega
   ·rw[if_neg hj]at h;have:=ih _ _ _ h;omega
theorem placesB_le(i0:Nat):∀(bs:List Bs) (n:Nat) (x:Bs×Nat),x∈placesB i0 n bs→x.2≤i0+(n+(allB bs).length) / 242:=by
 intro bs
 induction bs with
 | nil=>intro n x h;cases h
 | cons b l ih=>
   intro n x h;rw[allB_cons,qla];rw[placesB]at h
   rcases qmc.1 h with h | h
   ·subst h;simp only;omega
   ·have:=ih _ _ h;omega
theorem LogS.sheet_at{S:LogS}{bs:List Bs}{s:SheetS}(h:s∈S.sheets bs):∃j,j<pagesN (allB bs).length∧s=pageAt S.m.inc.toNat S.next (layAll bs) j:=by
 unfold LogS.sheets layB at h;obtain⟨j,hj,rfl⟩:=List.mem_map.1 h;rw[layAll_fst]at hj;exact⟨j,List.mem_range.1 hj,rfl⟩
theorem page_data_le(inc pos:Nat)(bs:List Bs)(j:Nat):(pageAt inc pos (layAll bs) j).data.length≤242:=by
 rw[pageAt_data,qlt];omega
theorem LogB.sheets_good{k:Nat}{S:LogS}(h:LogB k S)(hk:k≤80):∀s∈S.sheets S.pendB,s.good:=by
 intro s hs;obtain⟨j,hj,rfl⟩:=LogS.sheet_at hs;have h1:=h.inc;have h2:=h.nxt;have h3:=h.lay;rw[layAll_fst]at h3;unfold pagesN at hj;refine⟨?_,?_,page_data_le _ _ _ _,?_,?_⟩
 ·show(0:Int)≤((S.m.inc.toNat:Nat):Int)∧((S.m.inc.toNat:Nat):Int)<1099511627776
  omega
 ·show(0:Int)≤((S.next+j:Nat):Int)∧((S.next+j:Nat):Int)<1099511627776
  omega
 ·rw[pageAt_first,pageAt_data]
  cases hf:firstB 0 j S.pendB with
  | none=>exact .inl rfl
  | some o=>
    refine .inr ?_;have:=firstB_in _ _ _ _ hf;simp only[qlt,qld];omega
 ·show((S.next+j:Nat):Int)≤1000000
  omega
theorem LogB.find_len{k:Nat}{S:LogS}(h:LogB k S):findB (S.sheets S.pendB)=placesB 0 0 S.pendB:=findB_lay h.pend_body _ _
theorem LogB.find_le{k:Nat}{S:LogS}(h:LogB k S):∀x∈findB (S.sheets S.pendB),x.2≤300:=by
 intro x hx;rw[h.find_len]at hx;have h1:=placesB_le _ _ _ _ hx;have h3:=h.lay;rw[layAll_fst]at h3;omega
theorem putsGo_ok(count:Nat):∀(Z:List SheetS) (D:DiskS) (sz:Nat) (sy:Int) (pl:Nat),DkOK D sz sy pl→(∀s∈Z,s.data.length≤242)→(putsGo count Z D).2=0∧DkOK (putsGo count Z D).1 sz sy (pl+Z.length):=by
 intro Z
 induction Z with
 | nil=>intro D sz sy pl h _;exact⟨rfl,h⟩
 | cons s Z ih=>
   intro D sz sy pl h hd;have hs:=hd s (by simp)
   obtain⟨h1,h2⟩:=h.put ((2+s.pos.toNat % count:Nat):Int) (b:=s.enc) (by rw[enc_len];omega)
   rw[putsGo,if_neg (by rw[h1];simp)]
   have:=ih _ sz sy (pl+1) h2 fun t ht=>hd t (List.mem_cons_of_mem _ ht)
   rw[List.length_cons,show pl+(Z.length+1)=pl+1+Z.length by omega]
   exact this
theorem LogB.forced{k:Nat}{S:LogS}(h:LogB k S){sz:Nat}{sy:Int}{pl:Nat}(hd:DkOK S.dk sz sy pl)(hf:S.forced≠S.items.length):
 ∃D,S.forceS=({ S with dk:=D,items:=placed S.items S.forced S.next (placesB 0 0 S.pendB) (S.items.length - S.forced),forced:=S.items.length,next:=S.next+pagesN (allB S.pendB).length,forces:=S.forces+1 },0)∧DkOK D sz (sy+1) 0:=by
 obtain⟨h1,h2⟩:=putsGo_ok S.count (S.sheets S.pendB) S.dk sz sy pl hd fun s hs=>by
  obtain⟨j,_,rfl⟩:=LogS.sheet_at hs;exact page_data_le _ _ _ _
 obtain⟨h3,h4⟩:=h2.sync;refine⟨(putsGo S.count (S.sheets S.pendB) S.dk).1.sync.1,?_,h4⟩;unfold LogS.forceS;rw[if_neg hf];simp only;rw[if_neg (by rw[h1];simp),if_neg (by rw[h3];simp),h.find_len,LogS.sheets_len,layAll_fst]
structure FullS(count j:Nat)(S:LogS):Prop where
 cnt:S.count=count
 mst:S.m=mast2
 len:S.items.length=j
 frc:S.forced=j
 nxt:S.next=j
 dwn:S.down=false
 fcs:S.forces≤j
 dk:DkOK S.dk (2+count) (2+j) 0
 bod:∀x∈S.items,x.1.length≤4096
theorem FullS.start(count:Nat):FullS count 0 ⟨disk2 (2+count),count,mast2,[],0,0,0,false⟩:=⟨rfl,rfl,rfl,rfl,rfl,rfl,qlr _,(disk2_ok (2+count)).2,fun x hx=>by cases hx⟩
end Go.Proofs.YtdfccegeihfdpaaGreatDoor
