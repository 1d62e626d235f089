/-
  Plain law of layer 8: sheets from the middle of what was laid; runs of sheets behind one another. Plain law: what stands on a disk that is up: sheets written, a master record saved; what is read of it. Plain law: a log stands on its disk behind each call: appended to, forced, marked, crashed with nothing under way, opened.
-/
import Derived.Test.YtljmmkjdlcfkpaaGreatDoorMWm5
namespace Go.Proofs.YtljmmkjdlcfkpaaGreatDoor
open Go
def placedAt(f:Nat)(l:List (Bs×Nat)):List (Bs×Nat):=l.map fun x=>(x.1,f+x.2)
def cutF(k:Nat)(l:List (Bs×Nat)):List (Bs×Nat):=(l.filter fun x=>decide (k≤x.2)).map fun x=>(x.1,x.2 - k)
theorem placedAt_zero(l:List (Bs×Nat)):placedAt 0 l=l:=by
 unfold placedAt
 conv=>rhs;rw[←List.map_id l]
 apply List.map_congr_left;intro x _;simp
theorem placedAt_append(f:Nat)(a b:List (Bs×Nat)):placedAt f (a++b)=placedAt f a++placedAt f b:=by simp[placedAt]
theorem placedAt_placedAt(f g:Nat)(l:List (Bs×Nat)):placedAt f (placedAt g l)=placedAt (f+g) l:=by
 unfold placedAt;rw[List.map_map];apply List.map_congr_left;intro x _;simp only[Function.comp]
 congr 1
 omega
theorem placedAt_inj(f:Nat){a b:List (Bs×Nat)}(h:placedAt f a=placedAt f b):a=b:=by
 unfold placedAt at h
 exact List.map_inj_right (fun x y e=>by
  obtain⟨x1,x2⟩:=x;obtain⟨y1,y2⟩:=y;simp only[Prod.mk.injEq]at e;obtain⟨e1,e2⟩:=e;subst e1
  congr 1
  omega) |>.1 h
theorem placesB_shift(i0:Nat):∀(l:List Bs) (n:Nat),placesB i0 n l=placedAt i0 (placesB 0 n l):=by
 intro l
 induction l with
 | nil=>intro n;rfl
 | cons b l ih=>
   intro n;rw[placesB,placesB,placedAt,List.map_cons,ih];simp only[Nat.zero_add];rfl
def FinS.sh(k:Nat)(s:FinS):FinS:=⟨s.out.map fun x=>(x.1,x.2+k),s.way,s.frm+k,s.under⟩
theorem goesF_sh(k:Nat)(s:FinS)(h:Bs):goesF (s.sh k) h=((goesF s h).1,(goesF s h).2.sh k):=by
 unfold goesF;by_cases h0:s.under=false
 ·rw[if_pos h0,if_pos (show(s.sh k).under=false from h0)]
 ·rw[if_neg h0,if_neg (show ¬(s.sh k).under=false from h0)];by_cases h1:(openO (s.way++h)).2.2=10
  ·rw[if_pos h1,if_pos (show(openO ((s.sh k).way++h)).2.2=10 from h1)];rfl
  ·rw[if_neg h1,if_neg (show ¬(openO ((s.sh k).way++h)).2.2=10 from h1)];by_cases h2:(openO (s.way++h)).2.2≠0∨(openO (s.way++h)).2.1≠(s.way++h).length
   ·rw[if_pos h2,if_pos (show(openO ((s.sh k).way++h)).2.2≠0∨(openO ((s.sh k).way++h)).2.1≠((s.sh k).way++h).length from h2)];rfl
   ·rw[if_neg h2,if_neg (show ¬((openO ((s.sh k).way++h)).2.2≠0∨(openO ((s.sh k).way++h)).2.1≠((s.sh k).way++h).length) from h2)];simp[FinS.sh]
theorem begGo_sh(k i:Nat):∀(m:Nat) (r:Bs) (s:FinS),begGo (i+k) m r (s.sh k)=((begGo i m r s).1,(begGo i m r s).2.sh k):=by
 intro m
 induction m with
 | zero=>intro r s;rfl
 | succ m ih=>
   intro r s;unfold begGo;by_cases h0:r=[]
   ·rw[if_pos h0,if_pos h0]
   ·rw[if_neg h0,if_neg h0];by_cases h1:(openO r).2.2=0
    ·rw[if_pos h1,if_pos h1];have e:({ s.sh k with out:=(s.sh k).out++[((openO r).1,i+k)] }:FinS)=FinS.sh k { s with out:=s.out++[((openO r).1,i)] }:=by simp[FinS.sh]
     rw[e,ih]
    ·rw[if_neg h1,if_neg h1];by_cases h2:(openO r).2.2=10
     ·rw[if_pos h2,if_pos h2];rfl
     ·rw[if_neg h2,if_neg h2]
theorem begF_sh(k i:Nat)(s:FinS)(r:Bs):begF (s.sh k) r (i+k)=((begF s r i).1,(begF s r i).2.sh k):=by
 unfold begF;exact begGo_sh k i r.length r { s with under:=false }
theorem findGo_sh(k:Nat):∀(l:List SheetS) (i:Nat) (s:FinS),findGo l (i+k) (s.sh k)=(findGo l i s).sh k:=by
 intro l
 induction l with
 | nil=>intro i s;rfl
 | cons p l ih=>
   intro i s;rw[findGo,findGo];simp only[goesF_sh,begF_sh];generalize (decide (0≤p.first) && decide (p.first≤(p.data.length:Nat)))=is;generalize goesF s _=g;by_cases h0:g.1=false
   ·rw[if_pos h0,if_pos h0]
   ·rw[if_neg h0,if_neg h0];by_cases h1:is=false
    ·rw[if_pos h1,if_pos h1];rw[show i+k+1=i+1+k by omega]
     exact ih _ _
    ·rw[if_neg h1,if_neg h1];generalize begF g.2 _ i=b;by_cases h2:b.1=false
     ·rw[if_pos h2,if_pos h2]
     ·rw[if_neg h2,if_neg h2];rw[show i+k+1=i+1+k by omega]
      exact ih _ _
theorem findB_at(l:List SheetS)(k:Nat):(findGo l k ⟨[],[],k,false⟩).out=placedAt k (findB l):=by
 have:=findGo_sh k l 0 ⟨[],[],0,false⟩;simp only[FinS.sh,List.map_nil,Nat.zero_add]at this;rw[this];unfold findB placedAt;apply List.map_congr_left;intro x _;rw[Nat.add_comm]
def wholeN:Nat→List Bs→Nat
 | _,[]=>0
 | m,b::l=>if (sealO b).length≤m then 1+wholeN (m - (sealO b).length) l else 0
theorem wholeN_skip:∀(pre cs:List Bs) (d:Nat),wholeN ((allB pre).length+d) (pre++cs)=pre.length+wholeN d cs:=by
 intro pre
 induction pre with
 | nil=>intro cs d;simp[allB_nil]
 | cons b l ih=>
   intro cs d;rw[allB_cons,qla,List.cons_append,wholeN,if_pos (by omega),show(sealO b).length+(allB l).length+d - (sealO b).length=(allB l).length+d by omega,ih,List.length_cons]
   omega
theorem wholeN_zero(cs:List Bs):wholeN 0 cs=0:=by
 cases cs with
 | nil=>rfl
 | cons c l=>
   have:=sealO_pos c;rw[wholeN,if_neg (by omega)]
theorem Mid.out{i0:Nat}{bs:List Bs}(hb:∀b∈bs,b.length≤4096){o0:List (Bs×Nat)}{j:Nat}{s:FinS}(h:Mid i0 bs o0 j s):s.out=o0++placesB i0 0 (bs.take (wholeN (242 * j) bs))∧(s.under=true→(openO s.way).2.2=10):=by
 obtain⟨pre,cs,d,rfl,h1,h2,h3,h4⟩:=h.ex
 have hw:wholeN (242 * j) (pre++cs)=pre.length:=by
  rcases h2 with h2 | ⟨rfl,rfl,h2⟩
  ·rw[←h2,wholeN_skip]
   rcases Nat.eq_zero_or_pos d with rfl | hd
   ·rw[wholeN_zero];rfl
   ·obtain⟨c,l,rfl,h5,_⟩:=h4 hd;rw[wholeN,if_neg (by omega)]
    rfl
  ·have e:242 * j=(allB pre).length+(242 * j - (allB pre).length):=by omega
   rw[e,wholeN_skip];rfl
 refine⟨by rw[hw,List.take_left' rfl];exact h1,?_⟩
 rcases Nat.eq_zero_or_pos d with h0 | hd
 ·exact h3 h0
 ·obtain⟨c,l,rfl,h5,_,h6,_⟩:=h4 hd;intro _;rw[h6,openO_part (hb c (by simp)) (List.take_prefix _ _) (by rw[qlt];omega)]
def Good(Z:List SheetS)(F:List (Bs×Nat)):Prop:=
 ∀(i:Nat) (rest:List SheetS) (s:FinS),(s.under=true→(openO s.way).2.2=10)→∃s',findGo (Z++rest) i s=findGo rest (i+Z.length) s'∧s'.out=s.out++placedAt i F∧(s'.under=true→(openO s'.way).2.2=10)
def Good0(Z:List SheetS)(F:List (Bs×Nat)):Prop:=
 ∃K,∀(i:Nat),K≤i→∀(rest:List SheetS) (s:FinS),s.under=false→∃s',findGo (Z++rest) i s=findGo rest (i+Z.length) s'∧s'.out=s.out++placedAt i F∧(s'.under=true→(openO s'.way).2.2=10)
theorem Good.zero{Z:List SheetS}{F:List (Bs×Nat)}(h:Good Z F):Good0 Z F:=⟨0,fun i _ rest s hs=>h i rest s fun e=>by rw[hs]at e;cases e⟩
theorem Good.nil:Good [] []:=fun i rest s hs=>⟨s,rfl,by simp[placedAt],hs⟩
theorem Good0.append{Z Z':List SheetS}{F F':List (Bs×Nat)}(h:Good0 Z F)(h':Good Z' F'):Good0 (Z++Z') (F++placedAt Z.length F'):=by
 obtain⟨K,h⟩:=h;refine⟨K,fun i hi rest s hs=> ?_⟩
 obtain⟨s1,e1,o1,u1⟩:=h i hi (Z'++rest) s hs;obtain⟨s2,e2,o2,u2⟩:=h' (i+Z.length) rest s1 u1;refine⟨s2,?_,?_,u2⟩
 ·rw[qaa,e1,e2,qla,Nat.add_assoc]
 ·rw[o2,o1,placedAt_append,placedAt_placedAt,qaa]
theorem Good0.found{Z:List SheetS}{F:List (Bs×Nat)}(h:Good0 Z F):findB Z=F:=by
 obtain⟨K,h⟩:=h;obtain⟨s1,e1,o1,_⟩:=h K (qlr _) [] ⟨[],[],K,false⟩ rfl;rw[List.append_nil]at e1;have:=findB_at Z K;rw[e1]at this;simp only[findGo]at this;rw[o1,List.nil_append]at this;exact(placedAt_inj K this).symm
theorem lay_good{bs:List Bs}(hb:∀b∈bs,b.length≤4096)(inc pos k:Nat)(hk:k≤pagesN (allB bs).length):Good ((layB inc pos bs).take k) (placesB 0 0 (bs.take (wholeN (242 * k) bs))):=fun i rest s hs=>by
 obtain⟨s',e,h⟩:=find_part hb inc pos rest i k s hs hk
 have hl:((layB inc pos bs).take k).length=k:=by
  rw[qlt];have:(layB inc pos bs).length=pagesN (allB bs).length:=by simp[layB,layAll_fst]
  omega
 obtain⟨o,u⟩:=h.out hb;exact⟨s',by rw[hl];exact e,by rw[←placesB_shift];exact o,u⟩
theorem placesB_ge:∀(l:List Bs) (n:Nat),∀x∈placesB 0 n l,n / 242≤x.2:=by
 intro l
 induction l with
 | nil=>intro n x hx;cases hx
 | cons b l ih=>
   intro n x hx;rw[placesB]at hx
   rcases qmc.1 hx with rfl | hx
   ·simp
   ·have:=ih _ x hx;omega
theorem places_split(K:Nat):∀(l:List Bs) (n:Nat),(∃x∈placesB 0 n l,x.2=K)→∃pre c r,l=pre++c::r∧(n+(allB pre).length) / 242=K∧∀x∈placesB 0 n pre,x.2<K:=by
 intro l
 induction l with
 | nil=>rintro n ⟨x,hx,_⟩;cases hx
 | cons b l ih=>
   rintro n ⟨x,hx,hK⟩;by_cases h:n / 242=K
   ·exact⟨[],b,l,rfl,by rw[allB_nil];exact h,fun y hy=>by cases hy⟩
   ·have hge:=placesB_ge (b::l) n x hx;rw[placesB]at hx
    rcases qmc.1 hx with rfl | hx
    ·simp at hK;exact absurd hK h
    ·obtain⟨pre,c,r,rfl,h1,h2⟩:=ih _ ⟨x,hx,hK⟩;refine⟨b::pre,c,r,rfl,?_,?_⟩
     ·rw[allB_cons,qla,←Nat.add_assoc];exact h1
     ·intro y hy;rw[placesB]at hy
      rcases qmc.1 hy with rfl | hy
      ·simp only[Nat.zero_add];omega
      ·exact h2 y hy
theorem cutF_low{k:Nat}{l:List (Bs×Nat)}(h:∀x∈l,x.2<k):cutF k l=[]:=by
 unfold cutF;rw[List.filter_eq_nil_iff.2 (fun x hx=>by have:=h x hx;simp;omega)]
 rfl
theorem cutF_high{k:Nat}{l:List (Bs×Nat)}(h:∀x∈l,k≤x.2):placedAt k (cutF k l)=l:=by
 unfold cutF placedAt;rw[List.filter_eq_self.2 (fun x hx=>by have:=h x hx;simp;omega),List.map_map]
 conv=>rhs;rw[←List.map_id l]
 apply List.map_congr_left;intro x hx;have:=h x hx;simp only[Function.comp,id];rw[show k+(x.2 - k)=x.2 by omega]
theorem cutF_append(k:Nat)(a b:List (Bs×Nat)):cutF k (a++b)=cutF k a++cutF k b:=by simp[cutF]
theorem cutF_zero(l:List (Bs×Nat)):cutF 0 l=l:=by
 unfold cutF;rw[List.filter_eq_self.2 (fun x hx=>by simp)]
 conv=>rhs;rw[←List.map_id l]
 apply List.map_congr_left;intro x _;simp
theorem cutF_cutF(a b:Nat)(l:List (Bs×Nat)):cutF b (cutF a l)=cutF (a+b) l:=by
 unfold cutF;rw[List.filter_map,List.map_map,List.filter_filter]
 have e:(l.filter fun x=>(decide (b≤x.2 - a) && decide (a≤x.2)))=l.filter fun x=>decide (a+b≤x.2):=by
  apply List.filter_congr;intro x _;rw[←Bool.decide_and];apply decide_eq_decide.2;omega
 simp only[Function.comp_def]at e ⊢;rw[e];apply List.map_congr_left;intro x _
 congr 1
 omega
theorem cutF_placed{k f:Nat}(h:k≤f)(l:List (Bs×Nat)):cutF k (placedAt f l)=placedAt (f - k) l:=by
 unfold cutF
 rw[List.filter_eq_self.2 (fun x hx=>by
  unfold placedAt at hx;obtain⟨y,_,rfl⟩:=List.mem_map.1 hx;simp only[decide_eq_true_eq];omega)]
 unfold placedAt;rw[List.map_map];apply List.map_congr_left;intro x _;simp only[Function.comp]
 congr 1
 omega
theorem cutF_far{k f:Nat}(h:f≤k)(l:List (Bs×Nat)):cutF k (placedAt f l)=cutF (k - f) l:=by
 unfold cutF placedAt;rw[List.filter_map,List.map_map]
 have e:(l.filter fun x=>decide (k≤f+x.2))=l.filter fun x=>decide (k - f≤x.2):=by
  apply List.filter_congr;intro x _;apply decide_eq_decide.2;omega
 simp only[Function.comp_def]at e ⊢;rw[e];apply List.map_congr_left;intro x _
 congr 1
 omega
theorem Mid.enter{i0:Nat}{pre cs:List Bs}{c:Bs}{l:List Bs}(hcs:cs=c::l)(hb:∀b∈pre++cs,b.length≤4096){o0:List (Bs×Nat)}{j:Nat}{s:FinS}(hj:(allB pre).length / 242=j)(hu:s.under=false)(ho:s.out=o0++placesB i0 0 pre)(hno:∀x∈placesB 0 0 pre,x.2<j)(inc pos:Nat)(rest:List SheetS):
 ∃s',findGo (pageAt inc pos (layAll (pre++cs)) j::rest) (i0+j) s=findGo rest (i0+(j+1)) s'∧Mid i0 (pre++cs) o0 (j+1) s':=by
 have hdata:=pageAt_data inc pos (pre++cs) j;have hfirst:=pageAt_first inc pos (pre++cs) j;generalize pageAt inc pos (layAll (pre++cs)) j=p at hdata hfirst ⊢;have hcl:∀b∈cs,b.length≤4096:=fun b hb'=>hb b (List.mem_append_right _ hb')
 obtain⟨n,hn⟩:∃n,(allB pre).length=n:=⟨_,rfl⟩
 have hfb:∀(pre:List Bs) (m:Nat),(∀x∈placesB 0 m pre,x.2<j)→firstB m j (pre++cs)=firstB (m+(allB pre).length) j cs:=by
  intro pre
  induction pre with
  | nil=>intro m _;rfl
  | cons b pre ih=>
    intro m hm;have h0:=hm (b,0+m / 242) (by rw[placesB];exact List.mem_cons_self ..)
    rw[List.cons_append,firstB,if_neg (by simp only[Nat.zero_add]at h0;omega),ih _ (fun x hx=>hm x (by rw[placesB];exact List.mem_cons_of_mem _ hx)),allB_cons,qla,Nat.add_assoc]
 rw[hfb pre 0 hno,Nat.zero_add,hn,hcs,firstB,if_pos (by rw[←hn];exact hj)]at hfirst
 simp only at hfirst;rw[hn]at hj;obtain⟨q,hq⟩:∃q,n % 242=q:=⟨_,rfl⟩;rw[hq]at hfirst;have hnq:n=242 * j+q:=by omega
 have hpos:0<(allB cs).length:=by
  have:=sealO_pos c;rw[hcs,allB_cons,qla];omega
 obtain⟨m,hm⟩:∃m,min (242 - q) (allB cs).length=m:=⟨_,rfl⟩
 have hX:(allB (pre++cs)).drop (242 * j)=(allB pre).drop (242 * j)++allB cs:=by
  rw[allB_append,List.drop_append_of_le_length (by rw[hn];omega)]
 have hql:((allB pre).drop (242 * j)).length=q:=by rw[qld,hn];omega
 have hdd:p.data=(allB pre).drop (242 * j)++(allB cs).take m:=by
  rw[hdata,hX,List.take_append,List.take_of_length_le (by rw[hql];omega),hql,←hm,←List.take_take,List.take_length]
 have hdn:p.data.length=q+m:=by rw[hdd,qla,hql,qlt];omega
 have k1:242 * j≤n:=by omega
 have k2:m≤(allB cs).length:=by omega
 have k3:n+m=242 * (j+1)∨m=(allB cs).length∧n+m≤242 * (j+1):=by omega
 have e0:(decide ((0:Int)≤(q:Int)) && decide ((q:Int)≤(p.data.length:Nat)))=true:=by rw[Bool.and_eq_true,decide_eq_true_eq,decide_eq_true_eq,hdn];omega
 obtain⟨t,d',s',e1,e2,e3,e4,e5,e6⟩:=begF_feed (i0+j) hcl m s k2;refine⟨s',?_,Mid.fed hn k1 k2 k3 ho e2 e3 e4 e5 e6⟩;rw[findGo];simp only[hfirst,e0,if_true,Int.toNat_natCast];have hr:p.data.drop q=(allB cs).take m:=by rw[hdd,List.drop_left' hql]
 have hg:goesF s (p.data.take q)=(true,s):=by unfold goesF;rw[hu];rfl
 rw[hg,hr];simp only[Bool.true_eq_false,if_false];rw[e1];rfl
def FinS.pre(a:List (Bs×Nat))(s:FinS):FinS:=⟨a++s.out,s.way,s.frm,s.under⟩
theorem goesF_pre(a:List (Bs×Nat))(s:FinS)(h:Bs):goesF (s.pre a) h=((goesF s h).1,(goesF s h).2.pre a):=by
 unfold goesF;by_cases h0:s.under=false
 ·rw[if_pos h0,if_pos (show(s.pre a).under=false from h0)]
 ·rw[if_neg h0,if_neg (show ¬(s.pre a).under=false from h0)];by_cases h1:(openO (s.way++h)).2.2=10
  ·rw[if_pos h1,if_pos (show(openO ((s.pre a).way++h)).2.2=10 from h1)];rfl
  ·rw[if_neg h1,if_neg (show ¬(openO ((s.pre a).way++h)).2.2=10 from h1)];by_cases h2:(openO (s.way++h)).2.2≠0∨(openO (s.way++h)).2.1≠(s.way++h).length
   ·rw[if_pos h2,if_pos (show(openO ((s.pre a).way++h)).2.2≠0∨(openO ((s.pre a).way++h)).2.1≠((s.pre a).way++h).length from h2)];rfl
   ·rw[if_neg h2,if_neg (show ¬((openO ((s.pre a).way++h)).2.2≠0∨(openO ((s.pre a).way++h)).2.1≠((s.pre a).way++h).length) from h2)];simp[FinS.pre]
theorem begGo_pre(a:List (Bs×Nat))(i:Nat):∀(m:Nat) (r:Bs) (s:FinS),begGo i m r (s.pre a)=((begGo i m r s).1,(begGo i m r s).2.pre a):=by
 intro m
 induction m with
 | zero=>intro r s;rfl
 | succ m ih=>
   intro r s;unfold begGo;by_cases h0:r=[]
   ·rw[if_pos h0,if_pos h0]
   ·rw[if_neg h0,if_neg h0];by_cases h1:(openO r).2.2=0
    ·rw[if_pos h1,if_pos h1];have e:({ s.pre a with out:=(s.pre a).out++[((openO r).1,i)] }:FinS)=FinS.pre a { s with out:=s.out++[((openO r).1,i)] }:=by simp[FinS.pre]
     rw[e,ih]
    ·rw[if_neg h1,if_neg h1];by_cases h2:(openO r).2.2=10
     ·rw[if_pos h2,if_pos h2];rfl
     ·rw[if_neg h2,if_neg h2]
theorem begF_pre(a:List (Bs×Nat))(i:Nat)(s:FinS)(r:Bs):begF (s.pre a) r i=((begF s r i).1,(begF s r i).2.pre a):=by
 unfold begF;exact begGo_pre a i r.length r { s with under:=false }
theorem findGo_pre(a:List (Bs×Nat)):∀(l:List SheetS) (i:Nat) (s:FinS),findGo l i (s.pre a)=(findGo l i s).pre a:=by
 intro l
 induction l with
 | nil=>intro i s;rfl
 | cons p l ih=>
   intro i s;rw[findGo,findGo];simp only[goesF_pre,begF_pre];generalize (decide (0≤p.first) && decide (p.first≤(p.data.length:Nat)))=is;generalize goesF s _=g;by_cases h0:g.1=false
   ·rw[if_pos h0,if_pos h0]
   ·rw[if_neg h0,if_neg h0];by_cases h1:is=false
    ·rw[if_pos h1,if_pos h1];exact ih _ _
    ·rw[if_neg h1,if_neg h1];generalize begF g.2 _ i=b;by_cases h2:b.1=false
     ·rw[if_pos h2,if_pos h2]
     ·rw[if_neg h2,if_neg h2];exact ih _ _
theorem FinS.pre_inj{a:List (Bs×Nat)}{s t:FinS}(h:s.pre a=t.pre a):s=t:=by
 obtain⟨s1,s2,s3,s4⟩:=s;obtain⟨t1,t2,t3,t4⟩:=t;simp only[FinS.pre,FinS.mk.injEq]at h;obtain⟨h1,rfl,rfl,rfl⟩:=h;rw[List.append_cancel_left h1]
theorem wholeN_fits:∀(l:List Bs) (m:Nat),(allB (l.take (wholeN m l))).length≤m:=by
 intro l
 induction l with
 | nil=>intro m;simp[allB]
 | cons b l ih=>
   intro m;rw[wholeN];split
   ·have:=ih (m - (sealO b).length);rw[Nat.add_comm 1,List.take_succ_cons,allB_cons,qla];omega
   ·simp[allB]
def CutOk(Z:List SheetS)(F:List (Bs×Nat)):Prop:=∀K,(K=0∨∃x∈F,x.2=K)→Good0 (Z.drop K) (cutF K F)
theorem CutOk.found{Z:List SheetS}{F:List (Bs×Nat)}(h:CutOk Z F):findB Z=F:=by
 have:=h 0 (.inl rfl);rw[cutF_zero,List.drop_zero]at this;exact this.found
theorem CutOk.nil:CutOk [] []:=fun K _=>by
 rw[List.drop_nil];exact Good.nil.zero
theorem CutOk.cut{Z:List SheetS}{F:List (Bs×Nat)}(h:CutOk Z F){K:Nat}(hK:K=0∨∃x∈F,x.2=K):CutOk (Z.drop K) (cutF K F):=fun K2 h2=>by
 rw[List.drop_drop,cutF_cutF];refine h _ ?_
 rcases h2 with rfl | ⟨x,hx,rfl⟩
 ·exact hK
 ·unfold cutF at hx;obtain⟨y,hy,rfl⟩:=List.mem_map.1 hx;obtain⟨hy1,hy2⟩:=List.mem_filter.1 hy;rw[decide_eq_true_eq]at hy2;exact .inr ⟨y,hy1,by simp only;omega⟩
theorem CutOk.append{Z Z':List SheetS}{F F':List (Bs×Nat)}(h:CutOk Z F)(hF:∀x∈F,x.2<Z.length)(hg:Good Z' F')(h':CutOk Z' F'):CutOk (Z++Z') (F++placedAt Z.length F'):=fun K hK=>by
 rw[cutF_append]
 have early:K≤Z.length→Good0 (Z.drop K) (cutF K F)→Good0 ((Z++Z').drop K) (cutF K F++cutF K (placedAt Z.length F')):=fun hl h0=>by
  rw[List.drop_append_of_le_length hl,cutF_placed hl];have:=h0.append hg
  rwa [qld]at this
 rcases hK with rfl | ⟨x,hx,rfl⟩
 ·exact early (Nat.zero_le _) (h 0 (.inl rfl))
 ·rcases qma.1 hx with hx | hx
  ·exact early (Nat.le_of_lt (hF x hx)) (h _ (.inr ⟨x,hx,rfl⟩))
  ·unfold placedAt at hx;obtain⟨y,hy,rfl⟩:=List.mem_map.1 hx;simp only;rw[List.drop_append,List.drop_eq_nil_of_le (by omega),List.nil_append,cutF_low (fun z hz=>by have:=hF z hz;omega),List.nil_append,cutF_far (by omega),Nat.add_sub_cancel_left]
   exact h' _ (.inr ⟨y,hy,rfl⟩)
theorem lay_cut{bs:List Bs}(hb:∀b∈bs,b.length≤4096)(inc pos k:Nat)(hk:k≤pagesN (allB bs).length):CutOk ((layB inc pos bs).take k) (placesB 0 0 (bs.take (wholeN (242 * k) bs))):=fun K hK=>by
 by_cases h0:K=0
 ·subst h0;rw[List.drop_zero,cutF_zero];exact(lay_good hb inc pos k hk).zero
 obtain⟨pre,c,r,hs,h1,h2⟩:=places_split K _ 0 (hK.resolve_left h0);rw[Nat.zero_add]at h1;obtain⟨t,ht⟩:∃t,wholeN (242 * k) bs=t:=⟨_,rfl⟩;have hfit:=wholeN_fits bs (242 * k);rw[ht]at hfit hs ⊢
 have hbs:bs=pre++(c::(r++bs.drop t)):=by
  conv=>lhs;rw[←List.take_append_drop t bs,hs]
  simp
 have hKk:K<k:=by
  rw[hs,allB_append,allB_cons,qla,qla]at hfit;have:=sealO_pos c;omega
 have hlay:((layB inc pos bs).take k).drop K=pageAt inc pos (layAll bs) K::(List.range' (K+1) (k - K - 1)).map (pageAt inc pos (layAll bs)):=by
  unfold layB;rw[←List.map_take,List.take_range,layAll_fst,Nat.min_eq_left hk,←List.map_drop,List.range_eq_range',List.drop_range',←List.map_cons,show k - K=(k - K - 1)+1 by omega,List.range'_succ]
  simp
 refine⟨K,fun i hi rest s hu=> ?_⟩
 obtain⟨i0,rfl⟩:∃i0,i=i0+K:=⟨i - K,by omega⟩
 obtain⟨out,way,frm,und⟩:=s;simp only at hu;subst hu;obtain⟨s1,e1,m1⟩:=Mid.enter (i0:=i0) (pre:=pre) (cs:=c::(r++bs.drop t)) rfl (by rw[←hbs];exact hb) (o0:=[]) (s:=⟨placesB i0 0 pre,way,frm,false⟩) h1 rfl rfl h2 inc pos ((List.range' (K+1) (k - K - 1)).map (pageAt inc pos (layAll bs))++rest)
 rw[←hbs]at e1 m1;obtain⟨s2,e2,m2⟩:=Mid.steps hb inc pos rest (k - K - 1) (K+1) s1 m1 (by omega)
 rw[e2,show K+1+(k - K - 1)=k by omega]at e1
 rw[show K+1+(k - K - 1)=k by omega]at m2
 obtain⟨o2,u2⟩:=m2.out hb;rw[List.nil_append,ht,hs,placesB_append,Nat.zero_add]at o2;obtain⟨out2,way2,frm2,und2⟩:=s2;simp only at o2 u2;have hp:(⟨placesB i0 0 pre,way,frm,false⟩:FinS)=FinS.pre (placesB i0 0 pre) ⟨[],way,frm,false⟩:=by simp[FinS.pre]
 have hp2:(⟨out2,way2,frm2,und2⟩:FinS)=FinS.pre (placesB i0 0 pre) ⟨placesB i0 (allB pre).length (c::r),way2,frm2,und2⟩:=by simp[FinS.pre,o2]
 rw[hp,hp2,findGo_pre,findGo_pre]at e1;have e3:=congrArg (FinS.pre out) (FinS.pre_inj e1);rw[←findGo_pre,←findGo_pre]at e3;refine⟨FinS.pre out ⟨placesB i0 (allB pre).length (c::r),way2,frm2,und2⟩,?_,?_,u2⟩
 ·rw[hlay,List.cons_append];have hp3:(⟨out,way,frm,false⟩:FinS)=FinS.pre out ⟨[],way,frm,false⟩:=by simp[FinS.pre]
  rw[hp3,e3]
  congr 1
  simp only[List.length_cons,qlm,List.length_range'];omega
 ·show out++_=out++_
  congr 1
  have hge:∀x∈placesB 0 (allB pre).length (c::r),K≤x.2:=fun x hx=>by have:=placesB_ge _ _ x hx;omega
  rw[hs,placesB_append,Nat.zero_add,cutF_append,cutF_low h2,List.nil_append,←placedAt_placedAt,cutF_high hge,←placesB_shift]
theorem unwide5_wide{n:Nat}(h:n<1099511627776)(r:Bs):unwide5 (wide5 n++r)=n:=by
 unfold unwide5 wide5;simp only[List.cons_append,List.nil_append,List.take_succ_cons,List.take_zero,List.foldl_cons,List.foldl_nil,UInt8.toNat_ofNat'];omega
theorem sheetOf_enc{s:SheetS}(h:s.good):sheetOf (padB 254 s.enc)=some s:=by
 obtain⟨⟨i1,i2⟩,⟨p1,p2⟩,hd,hf,hp⟩:=h;obtain⟨r,hr⟩:∃r,List.replicate (254 - s.enc.length) (0:UInt8)=r:=⟨_,rfl⟩
 have hlen:(padB 254 s.enc).length=254:=by
  unfold padB;rw[qla,List.length_replicate,enc_len];omega
 have e:padB 254 s.enc=wide5 s.inc.toNat++(wide5 s.pos.toNat++(UInt8.ofNat s.first.toNat::UInt8.ofNat s.data.length::(s.data++r))):=by
  unfold padB SheetS.enc;rw[show List.replicate (254 - (wide5 s.inc.toNat++(wide5 s.pos.toNat++(UInt8.ofNat s.first.toNat::UInt8.ofNat s.data.length::s.data))).length) (0:UInt8)=r from hr];simp
 have l5:∀n,(wide5 n).length=5:=fun n=>rfl
 have e5:(padB 254 s.enc).drop 5=wide5 s.pos.toNat++(UInt8.ofNat s.first.toNat::UInt8.ofNat s.data.length::(s.data++r)):=by
  rw[e,List.drop_left' (l5 _)]
 have e10:(padB 254 s.enc).drop 10=UInt8.ofNat s.first.toNat::UInt8.ofNat s.data.length::(s.data++r):=by
  rw[show 10=5+5 from rfl,←List.drop_drop,e5,List.drop_left' (l5 _)]
 have e12:(padB 254 s.enc).drop 12=s.data++r:=by
  rw[show 12=10+2 from rfl,←List.drop_drop,e10];rfl
 have g10:(padB 254 s.enc).getD 10 0=UInt8.ofNat s.first.toNat:=by
  rw[List.getD_eq_getElem?_getD,show 10=10+0 from rfl,←List.getElem?_drop,e10];rfl
 have g11:(padB 254 s.enc).getD 11 0=UInt8.ofNat s.data.length:=by
  rw[List.getD_eq_getElem?_getD,show 11=10+1 from rfl,←List.getElem?_drop,e10];rfl
 have n11:(UInt8.ofNat s.data.length).toNat=s.data.length:=by
  rw[UInt8.toNat_ofNat'];omega
 have n10:((UInt8.ofNat s.first.toNat).toNat:Int)=s.first:=by
  rw[UInt8.toNat_ofNat'];omega
 have hdec:decS (padB 254 s.enc)=s:=by
  unfold decS;rw[g10,g11,n11,n10,e5,e12,unwide5_wide (by omega),e,unwide5_wide (by omega),List.take_left' rfl]
  obtain⟨a,b,c,d⟩:=s;simp only at*
  congr 1
  ·omega
  ·omega
 unfold sheetOf;rw[g11,n11,hlen,if_neg (by omega),hdec,if_pos (by omega)]
theorem mod_ne{a b c:Nat}(h1:a<b)(h2:b<a+c):a % c≠b % c:=by
 intro e;have hc:0<c:=by omega
 have h3:=Nat.div_add_mod a c;have h4:=Nat.div_add_mod b c;rw[e]at h3
 rcases Nat.lt_trichotomy (a / c) (b / c) with h | h | h
 ·have:=Nat.mul_le_mul_left c (Nat.succ_le_of_lt h);rw[Nat.mul_succ]at this;omega
 ·rw[h]at h3;omega
 ·have:=Nat.mul_le_mul_left c (Nat.succ_le_of_lt h);rw[Nat.mul_succ]at this;omega
def sectOf(count:Nat)(q:Nat):Int:=((2+q % count:Nat):Int)
theorem put_page{D:DiskS}{sz:Nat}{sy:Int}{pl:Nat}(h:DkOK D sz sy pl)(n:Int){s:SheetS}(hs:s.good)(k:Int):((D.put n s.enc).1).page k=if k=n then some s else D.page k:=by
 rw[h.put_eq];unfold DiskS.page DiskS.get;simp only[wrote_get];by_cases hk:k=n
 ·rw[if_pos hk,if_pos hk];obtain⟨h1,h2,_,_⟩:=nextMark_ok (D.read n);rw[openS_wrap h1 h2 (by rw[enc_len];have:=hs.2.2.1;omega)]
  exact sheetOf_enc hs
 ·rw[if_neg hk,if_neg hk]
theorem page_congr{D D':DiskS}{n:Int}(h:D.read n=D'.read n):D.page n=D'.page n:=by
 unfold DiskS.page DiskS.get;rw[h]
theorem load_congr{D D':DiskS}(h0:D.read 0=D'.read 0)(h1:D.read 1=D'.read 1):D.load=D'.load:=by
 have e0:D.get ((0:Nat):Int)=D'.get ((0:Nat):Int):=by
  show openS (D.read 0)=openS (D'.read 0)
  rw[h0]
 have e1:D.get ((1:Nat):Int)=D'.get ((1:Nat):Int):=by
  show openS (D.read 1)=openS (D'.read 1)
  rw[h1]
 unfold DiskS.load;unfold lookM;rw[e0,e1]
theorem putsGo_page(count:Nat):∀(Z:List SheetS) (q:Nat) (D:DiskS) (sz:Nat) (sy:Int) (pl:Nat),DkOK D sz sy pl→(∀s∈Z,s.good)→(∀j s,Z[j]? =some s→s.pos=((q+j:Nat):Int))→Z.length≤count→
 (∀j s,Z[j]? =some s→((putsGo count Z D).1).page (sectOf count (q+j))=some s)∧(∀n:Int,(∀j,j<Z.length→n≠sectOf count (q+j))→((putsGo count Z D).1).read n=D.read n):=by
 intro Z
 induction Z with
 | nil=>intro q D sz sy pl _ _ _ _;exact⟨fun j s h=>by simp at h,fun n _=>rfl⟩
 | cons s l ih=>
   intro q D sz sy pl hD hg hp hc;have hs0:=hp 0 s rfl;have hsp:s.pos.toNat=q:=by rw[hs0];simp
   have hgs:=hg s (List.mem_cons_self ..);obtain⟨h1,h2⟩:=hD.put (sectOf count q) (b:=s.enc) (by rw[enc_len];have:=hgs.2.2.1;omega)
   have hpg:=put_page hD (sectOf count q) hgs;rw[List.length_cons]at hc
   obtain⟨i1,i2⟩:=ih (q+1) _ sz sy (pl+1) h2 (fun t ht=>hg t (List.mem_cons_of_mem _ ht)) (fun j t ht=>by
    have:=hp (j+1) t (by rw[qS];exact ht)
    rw[this]
    congr 1
    omega) (by omega)
   have e:putsGo count (s::l) D=putsGo count l (D.put (sectOf count q) s.enc).1:=by
    rw[putsGo,hsp];exact if_neg (by rw[show(D.put ((2+q % count:Nat):Int) s.enc).2=0 from h1];simp)
   rw[e];refine⟨fun j t ht=> ?_,fun n hn=> ?_⟩
   ·cases j with
    | zero=>
      simp only[qZ,Option.some.injEq]at ht;subst ht;rw[Nat.add_zero,page_congr (i2 (sectOf count q) (fun j hj e=> ?_)),hpg,if_pos rfl];have:=mod_ne (a:=q) (b:=q+1+j) (c:=count) (by omega) (by omega)
      unfold sectOf at e;omega
    | succ j=>
      rw[qS]at ht;have:=i1 j t ht;rw[show q+1+j=q+(j+1) by omega]at this
      exact this
   ·rw[i2 n (fun j hj=>by
     have:=hn (j+1) (by rw[List.length_cons];omega)
     rw[show q+1+j=q+(j+1) by omega]
     exact this),hD.put_eq]
    simp only;rw[wrote_get,if_neg];have:=hn 0 (by rw[List.length_cons];omega)
    rw[Nat.add_zero]at this;exact this
theorem flushed_page(D:DiskS)(k:Int):D.flushed.page k=D.page k:=by
 unfold DiskS.page DiskS.get;rw[flushed_get]
theorem DkOK.save_page{D:DiskS}{sz:Nat}{sy:Int}{pl:Nat}(h:DkOK D sz sy pl){m:MastS}(hm:m.may=true){k:Int}(hk:2≤k):((D.save m).1).page k=D.page k:=by
 unfold DiskS.page DiskS.get;rw[h.save_read hm,if_neg (by omega)]
theorem lookM_ge(S:DiskS)(n:Nat)(b:MastS):b.gen≤(lookM S n b).gen:=by
 unfold lookM;split
 ·exact Int.le_refl _
 ·split
  ·rename_i h
   omega
  ·exact Int.le_refl _
theorem lookM_congr{S S':DiskS}{n:Nat}(h:S.get n=S'.get n)(b:MastS):lookM S n b=lookM S' n b:=by
 unfold lookM;rw[h]
theorem lookM_slot{S:DiskS}{n:Nat}{p:Bs}(h:S.get n=some p)(h1:(readM p).2=true)(h2:(readM p).1.gen % 2=n)(b:MastS):(readM p).1.gen≤(lookM S n b).gen:=by
 unfold lookM;rw[h];simp only;by_cases hb:b.gen<(readM p).1.gen
 ·rw[if_pos ⟨h1,hb,h2⟩];exact Int.le_refl _
 ·rw[if_neg (fun e=>hb e.2.1)];omega
theorem DkOK.save_load{D:DiskS}{sz:Nat}{sy:Int}{pl:Nat}(h:DkOK D sz sy pl){m:MastS}(hm:m.may=true)(hg:D.load.gen<m.gen):((D.save m).1).load=m:=by
 obtain⟨hg0,_,_,_,_,hg1⟩:=MastS.may_nums hm;have hget:=h.save_get hm
 have hoth:∀k:Int,k≠m.gen % 2→((D.save m).1).get k=D.get k:=fun k hk=>by
  unfold DiskS.get;rw[h.save_read hm,if_neg hk]
 have hrp:=readM_pad hm
 rcases(by omega:m.gen % 2=0∨m.gen % 2=1) with hpar | hpar
 ·
  rw[hpar]at hget hoth;have h1:=hoth 1 (by omega)
  have e0:lookM (D.save m).1 0 ⟨0,0,0,0,0⟩=m:=by
   unfold lookM;rw[show((0:Nat):Int)=0 from rfl,hget];simp only[hrp];rw[if_pos ⟨trivial,by omega,by omega⟩]
  unfold DiskS.load;rw[e0];unfold lookM;rw[show((1:Nat):Int)=1 from rfl,h1]
  cases hs:D.get 1 with
  | none=>rfl
  | some p=>
    simp only;rw[if_neg];rintro⟨q1,q2,q3⟩;have:=lookM_slot (n:=1) (show D.get ((1:Nat):Int)=some p from hs) q1 q3 (lookM D 0 ⟨0,0,0,0,0⟩)
    unfold DiskS.load at hg;omega
 ·rw[hpar]at hget hoth;have h0:=hoth 0 (by omega)
  have e0:lookM (D.save m).1 0 ⟨0,0,0,0,0⟩=lookM D 0 ⟨0,0,0,0,0⟩:=lookM_congr h0 _
  have hle:(lookM D 0 ⟨0,0,0,0,0⟩).gen<m.gen:=by
   have:=lookM_ge D 1 (lookM D 0 ⟨0,0,0,0,0⟩);unfold DiskS.load at hg;omega
  unfold DiskS.load;rw[e0];unfold lookM at hle ⊢;rw[show((1:Nat):Int)=1 from rfl,hget];simp only[hrp];rw[if_pos ⟨trivial,hle,by omega⟩]
def okGo(D:DiskS)(count:Nat)(minc:Int):Int→Nat→List SheetS→Prop
 | _,_,[]=>True
 | inc,q,s::l=>pageOk D count minc inc q=some s∧okGo D count minc s.inc (q+1) l
def lastInc:Int→List SheetS→Int
 | inc,[]=>inc
 | _,s::l=>lastInc s.inc l
def sheetsGo(D:DiskS)(count:Nat)(minc:Int):Nat→Int→Nat→List SheetS
 | 0,_,_=>[]
 | n+1,inc,q=>match pageOk D count minc inc q with
   | none=>[]
   | some s=>s::sheetsGo D count minc n s.inc (q+1)
theorem sheetsGo_eq{D:DiskS}{count:Nat}{minc:Int}:∀(Z:List SheetS) (n:Nat) (inc:Int) (q:Nat),okGo D count minc inc q Z→Z.length≤n→(Z.length<n→pageOk D count minc (lastInc inc Z) (q+Z.length)=none)→sheetsGo D count minc n inc q=Z:=by
 intro Z
 induction Z with
 | nil=>
   intro n inc q _ _ h
   cases n with
   | zero=>rfl
   | succ n=>
     have:=h (by simp)
     simp only[lastInc,List.length_nil,Nat.add_zero]at this;unfold sheetsGo;rw[this]
 | cons s l ih=>
   intro n inc q h hl hs;rw[List.length_cons]at hl;obtain⟨n,rfl⟩:∃m,n=m+1:=⟨n - 1,by omega⟩
   obtain⟨h1,h2⟩:=h;unfold sheetsGo;rw[h1];simp only
   rw[ih n s.inc (q+1) h2 (by omega) (fun h3=>by
    have:=hs (by rw[List.length_cons];omega)
    rw[List.length_cons,show q+(l.length+1)=q+1+l.length by omega]at this
    exact this)]
def incGo(minc:Int):Int→List SheetS→Prop
 | _,[]=>True
 | i,s::l=>i≤s.inc∧s.inc≤minc∧incGo minc s.inc l
theorem incGo_append{minc:Int}:∀(Z Z':List SheetS) (i:Int),incGo minc i Z→i≤minc→(∀s∈Z',s.inc=minc)→incGo minc i (Z++Z'):=by
 intro Z
 induction Z with
 | nil=>
   intro Z'
   induction Z' with
   | nil=>intro i _ _ _;trivial
   | cons s l ih=>
     intro i _ hi hs;have h1:=hs s (List.mem_cons_self ..);refine⟨by omega,by omega,?_⟩
     exact ih s.inc trivial (by omega) fun t ht=>hs t (List.mem_cons_of_mem _ ht)
 | cons s l ih=>
   intro Z' i h hi hs;obtain⟨h1,h2,h3⟩:=h;exact⟨h1,h2,ih Z' s.inc h3 h2 hs⟩
theorem incGo_mono{minc minc':Int}(hm:minc≤minc'):∀(Z:List SheetS) (i:Int),incGo minc i Z→incGo minc' i Z:=by
 intro Z
 induction Z with
 | nil=>intro i _;trivial
 | cons s l ih=>
   intro i h;exact⟨h.1,Int.le_trans h.2.1 hm,ih _ h.2.2⟩
theorem incGo_low{minc:Int}:∀(Z:List SheetS) (i j:Int),j≤i→incGo minc i Z→incGo minc j Z:=by
 intro Z
 cases Z with
 | nil=>intro i j _ _;trivial
 | cons s l=>intro i j hj h;exact⟨Int.le_trans hj h.1,h.2⟩
theorem incGo_drop{minc:Int}:∀(k:Nat) (Z:List SheetS) (i:Int),incGo minc i Z→incGo minc i (Z.drop k):=by
 intro k
 induction k with
 | zero=>intro Z i h;exact h
 | succ k ih=>
   intro Z i h
   cases Z with
   | nil=>trivial
   | cons s l=>
     rw[List.drop_succ_cons];exact ih l i (incGo_low l s.inc i h.1 h.2.2)
theorem okGo_of{D:DiskS}{count:Nat}{minc:Int}:∀(Z:List SheetS) (inc:Int) (q:Nat),incGo minc inc Z→(∀j s,Z[j]? =some s→D.page (sectOf count (q+j))=some s∧s.pos=((q+j:Nat):Int))→okGo D count minc inc q Z:=by
 intro Z
 induction Z with
 | nil=>intro inc q _ _;trivial
 | cons s l ih=>
   intro inc q h hp;obtain⟨h1,h2,h3⟩:=h;obtain⟨p1,p2⟩:=hp 0 s rfl;rw[Nat.add_zero]at p1 p2;refine⟨?_,ih s.inc (q+1) h3 fun j t ht=> ?_⟩
   ·unfold pageOk;rw[show D.page ((2+q % count:Nat):Int)=some s from p1];simp only;rw[if_pos];unfold okAt;simp only[Bool.and_eq_true,decide_eq_true_eq];exact⟨p2,h1,h2⟩
   ·have:=hp (j+1) t (by rw[qS];exact ht)
    rw[show q+(j+1)=q+1+j by omega]at this
    exact this
structure Stand(S:LogS)(f:Nat)(Z:List SheetS)(F:List (Bs×Nat)):Prop where
 fst:S.m.first=(f:Int)
 nxt:S.next=f+Z.length
 room:S.next+pagesN (allB S.pendB).length≤f+S.count
 pg:∀j s,Z[j]? =some s→S.dk.page (sectOf S.count (f+j))=some s∧s.pos=((f+j:Nat):Int)
 inc:incGo S.m.inc 0 Z
 mi:0≤S.m.inc
 old:∀q s,S.dk.page (sectOf S.count q)=some s→s.pos<(S.next:Int)
 cut:CutOk Z F
 pl:∀x∈F,x.2<Z.length
 srt:F.Pairwise fun a b=>a.2≤b.2
 its:S.items.take S.forced=placedAt f F
 frc:S.forced≤S.items.length
 ld:S.dk.load=S.m
 now:S.dk.now=fun _=>none
 pend:S.dk.pend=[]
theorem Stand.le{S:LogS}{f:Nat}{Z:List SheetS}{F:List (Bs×Nat)}(h:Stand S f Z F):Z.length≤S.count:=by
 have h1:=h.nxt;have h2:=h.room;omega
theorem Stand.read{S:LogS}{f:Nat}{Z:List SheetS}{F:List (Bs×Nat)}(h:Stand S f Z F):sheetsGo S.dk S.count S.m.inc S.count 0 f=Z:=by
 refine sheetsGo_eq Z S.count 0 f (okGo_of Z 0 f h.inc h.pg) h.le fun hl=> ?_
 unfold pageOk;rw[←h.nxt]
 cases hp:S.dk.page ((2+S.next % S.count:Nat):Int) with
 | none=>rfl
 | some s=>
   simp only;rw[if_neg];unfold okAt;simp only[Bool.and_eq_true,decide_eq_true_eq,not_and];intro e;have:=h.old S.next s hp;omega
theorem disk_read2(n:Nat){k:Int}(hk:2≤k):(disk2 n).read k=noughtsB:=by
 have h2:=(disk1_ok n).2.save_read mast2_may k;rw[if_neg (by show ¬k=0;omega)]at h2
 have h1:=(DkOK.empty n).save_read mast1_may k;rw[if_neg (by show ¬k=1;omega)]at h1
 exact h2.trans h1
theorem DkOK.save_dk{D:DiskS}{sz:Nat}{sy:Int}{pl:Nat}(h:DkOK D sz sy pl){m:MastS}(hm:m.may=true):((D.save m).1).now=(fun _=>none)∧((D.save m).1).pend=[]:=by
 obtain⟨h1,h2⟩:=h.put (m.gen % 2) (MastS.pay_small hm);have he:=h.put_eq (m.gen % 2) m.pay;unfold DiskS.save;rw[he]at h2 ⊢;simp only at h2 ⊢;rw[if_neg (by simp),h2.sync_eq]
 exact⟨rfl,rfl⟩
theorem disk2_load(n:Nat):(disk2 n).load=mast2:=(disk1_ok n).2.save_load mast2_may (by rw[disk1_load];decide)
theorem Stand.start(count:Nat):Stand ⟨disk2 (2+count),count,mast2,[],0,0,0,false⟩ 0 [] []:=by
 obtain⟨n1,n2⟩:=(disk1_ok (2+count)).2.save_dk mast2_may;refine⟨rfl,rfl,?_,(fun j s h=>by simp at h),trivial,(show(0:Int)≤1 by decide),(fun q s h=> ?_),CutOk.nil,(fun x hx=>by cases hx),List.Pairwise.nil,rfl,qlr _,disk2_load _,n1,n2⟩
 ·show 0+pagesN (allB []).length≤0+count
  rw[allB_nil];unfold pagesN;simp
 ·exfalso
  unfold DiskS.page DiskS.get at h;simp only at h;rw[disk_read2 _ (by unfold sectOf;omega),noughts_open]at h
  cases h
theorem Stand.add{S:LogS}{f:Nat}{Z:List SheetS}{F:List (Bs×Nat)}(h:Stand S f Z F){b:Bs}{spare:Int}(hr:S.roomy b spare=true):Stand (S.add b) f Z F:=by
 have hp:=S.add_pend b h.frc;refine⟨h.fst,h.nxt,?_,h.pg,h.inc,h.mi,h.old,h.cut,h.pl,h.srt,?_,?_,h.ld,h.now,h.pend⟩
 ·rw[hp];unfold LogS.roomy at hr;have hr:=of_decide_eq_true hr;rw[h.fst]at hr;have hn:S.need b=pagesN (allB (S.pendB++[b])).length:=by unfold LogS.need;rw[layAll_fst]
  rw[hn]at hr
  show S.next+_≤f+S.count
  omega
 ·show(S.items++[(b,0)]).take S.forced=_
  rw[List.take_append_of_le_length h.frc];exact h.its
 ·show S.forced≤(S.items++[(b,0)]).length
  have:=h.frc;rw[qla];omega
theorem wholeN_all(bs:List Bs){m:Nat}(h:(allB bs).length≤m):wholeN m bs=bs.length:=by
 have:=wholeN_skip bs [] (m - (allB bs).length);rw[List.append_nil,show(allB bs).length+(m - (allB bs).length)=m by omega]at this
 rw[this];rfl
theorem lay_whole{bs:List Bs}(hb:∀b∈bs,b.length≤4096)(inc pos:Nat):Good (layB inc pos bs) (placesB 0 0 bs)∧CutOk (layB inc pos bs) (placesB 0 0 bs):=by
 have hl:(layB inc pos bs).length=pagesN (allB bs).length:=by simp[layB,layAll_fst]
 have h1:=lay_good hb inc pos (pagesN (allB bs).length) (qlr _);have h2:=lay_cut hb inc pos (pagesN (allB bs).length) (qlr _);rw[List.take_of_length_le (by omega),wholeN_all bs (by unfold pagesN;omega),List.take_length]at h1 h2
 exact⟨h1,h2⟩
theorem placesB_lt:∀(l:List Bs) (n:Nat),∀x∈placesB 0 n l,x.2<pagesN (n+(allB l).length):=by
 intro l
 induction l with
 | nil=>intro n x hx;cases hx
 | cons b l ih=>
   intro n x hx;rw[placesB]at hx;have hp:=sealO_pos b
   rcases qmc.1 hx with rfl | hx
   ·simp only[Nat.zero_add];rw[allB_cons,qla];unfold pagesN;omega
   ·have:=ih _ x hx;rw[allB_cons,qla,←Nat.add_assoc];exact this
theorem placesB_sorted:∀(l:List Bs) (n:Nat),(placesB 0 n l).Pairwise fun a b=>a.2≤b.2:=by
 intro l
 induction l with
 | nil=>intro n;exact List.Pairwise.nil
 | cons b l ih=>
   intro n;rw[placesB];refine List.Pairwise.cons (fun x hx=> ?_) (ih _)
   have:=placesB_ge l _ x hx;simp only[Nat.zero_add];omega
theorem placedAt_len(f:Nat)(l:List (Bs×Nat)):(placedAt f l).length=l.length:=by simp[placedAt]
theorem placedAt_get(f:Nat)(l:List (Bs×Nat))(i:Nat):(placedAt f l)[i]? =(l[i]?).map fun x=>(x.1,f+x.2):=by simp[placedAt]
theorem placesB_fst:∀(l:List Bs) (n i:Nat),((placesB 0 n l)[i]?).map (·.1)=l[i]? :=by
 intro l
 induction l with
 | nil=>intro n i;simp[placesB]
 | cons b l ih=>
   intro n i;rw[placesB]
   cases i with
   | zero=>rfl
   | succ i=>rw[qS,qS];exact ih _ i
theorem Stand.force{S:LogS}{f k:Nat}{Z:List SheetS}{F:List (Bs×Nat)}(h:Stand S f Z F)(hB:LogB k S)(hk:k≤80){sz:Nat}{sy:Int}{pl:Nat}(hd:DkOK S.dk sz sy pl)(hf:S.forced≠S.items.length):
 ∃S',S.forceS=(S',0)∧Stand S' f (Z++S.sheets S.pendB) (F++placedAt Z.length (placesB 0 0 S.pendB))∧DkOK S'.dk sz (sy+1) 0∧S'.m=S.m∧S'.count=S.count∧S'.items.map (·.1)=S.items.map (·.1)∧S'.forced=S.items.length∧S'.forces=S.forces+1∧S'.down=S.down:=by
 obtain⟨D,hD,hok⟩:=hB.forced hd hf;have hb:=hB.pend_body;obtain⟨hg,hc⟩:=lay_whole hb S.m.inc.toNat S.next;have hlen:(S.sheets S.pendB).length=pagesN (allB S.pendB).length:=by rw[LogS.sheets_len,layAll_fst]
 have hle:=h.le;have hroom:=h.room;have hnxt:=h.nxt;have hgood:=hB.sheets_good hk
 have hpos:∀j s,(S.sheets S.pendB)[j]? =some s→s.pos=((S.next+j:Nat):Int)∧s.inc=S.m.inc:=fun j s hs=>by
  unfold LogS.sheets layB at hs;rw[qgm]at hs
  cases hr:(List.range (pagesN (layAll S.pendB).1.length))[j]? with
  | none=>rw[hr]at hs;cases hs
  | some i=>
    rw[hr]at hs
    have hi:i=j:=by
     have:=(qei.1 hr).2;rw[←this,List.getElem_range]
    subst hi;simp only[Option.map_some,Option.some.injEq]at hs;subst hs;refine⟨rfl,?_⟩
    show((S.m.inc.toNat:Nat):Int)=S.m.inc
    have:=h.mi;omega
 obtain⟨p1,p2⟩:=putsGo_page S.count (S.sheets S.pendB) S.next S.dk sz sy pl hd hgood (fun j s hs=>(hpos j s hs).1) (by omega)
 have hPok:=putsGo_ok S.count (S.sheets S.pendB) S.dk sz sy pl hd (fun s hs=>(hgood s hs).2.2.1)
 have hDe:D=(putsGo S.count (S.sheets S.pendB) S.dk).1.flushed:=by
  have:=hD;unfold LogS.forceS at this;rw[if_neg hf]at this;simp only at this;rw[hPok.1,if_neg (by simp),hPok.2.sync_eq]at this
  simp only[ne_eq,not_true_eq_false,if_false]at this;have:=congrArg (fun t:LogS×Int=>t.1.dk) this
  exact this.symm
 have hpg:∀n,D.page n=(putsGo S.count (S.sheets S.pendB) S.dk).1.page n:=fun n=>by rw[hDe];exact flushed_page _ n
 have hrd:∀n,(∀j,j<(S.sheets S.pendB).length→n≠sectOf S.count (S.next+j))→D.read n=S.dk.read n:=fun n hn=>by rw[hDe,flushed_get];exact p2 n hn
 have hlow:∀n:Int,n<2→D.read n=S.dk.read n:=fun n hn=>hrd n fun j _ e=>by unfold sectOf at e;omega
 refine⟨_,hD,?_,hok,rfl,rfl,?_,rfl,rfl,rfl⟩
 ·have hpn:(S.items.drop S.forced).map (·.1)=S.pendB:=rfl;refine⟨h.fst,?_,?_,?_,?_,h.mi,?_,?_,?_,?_,?_,?_,?_,?_,?_⟩
  ·show S.next+pagesN (allB S.pendB).length=f+(Z++S.sheets S.pendB).length
   rw[qla,hlen,hnxt];omega
  ·have e:(⟨D,S.count,S.m,placed S.items S.forced S.next (placesB 0 0 S.pendB) (S.items.length - S.forced),S.items.length,S.next+pagesN (allB S.pendB).length,S.forces+1,S.down⟩:LogS).pendB=[]:=by
    unfold LogS.pendB;simp only;rw[List.drop_eq_nil_of_le (by rw[placed_len];exact qlr _)]
    rfl
   show S.next+pagesN (allB S.pendB).length+pagesN (allB _).length≤f+S.count
   rw[e,allB_nil];unfold pagesN at hroom ⊢
   simpa using hroom
  ·intro j s hs
   show D.page _=_∧_
   by_cases hj:j<Z.length
   ·rw[qal hj]at hs;obtain⟨q1,q2⟩:=h.pg j s hs;refine⟨?_,q2⟩;rw[page_congr (hrd (sectOf S.count (f+j)) fun i hi e=> ?_)]
    ·exact q1
    ·have:=mod_ne (a:=f+j) (b:=S.next+i) (c:=S.count) (by omega) (by omega)
     unfold sectOf at e;omega
   ·rw[qar (by omega)]at hs
    have h1:=p1 _ s hs;rw[show S.next+(j - Z.length)=f+j by omega]at h1
    refine⟨by rw[hpg];exact h1,?_⟩
    rw[(hpos _ s hs).1]
    congr 1
    omega
  ·exact incGo_append Z _ 0 h.inc h.mi fun s hs=>by
    obtain⟨j,hj⟩:=List.getElem?_of_mem hs;exact(hpos j s hj).2
  ·intro q s hs
   show s.pos<((S.next+pagesN (allB S.pendB).length:Nat):Int)
   have hs:D.page (sectOf S.count q)=some s:=hs;by_cases hj:∃j,j<(S.sheets S.pendB).length∧sectOf S.count q=sectOf S.count (S.next+j)
   ·obtain⟨j,hj1,hj2⟩:=hj;have:=p1 j _ (qeg hj1);rw[hpg,hj2,this]at hs;have:=(hpos j s (by rw[←Option.some.inj hs];exact qeg hj1)).1
    omega
   ·rw[page_congr (hrd (sectOf S.count q) fun j hj1 e=>hj ⟨j,hj1,e⟩)]at hs;have:=h.old q s hs;omega
  ·exact h.cut.append h.pl hg hc
  ·intro x hx;rw[qla,hlen]
   rcases qma.1 hx with hx | hx
   ·have:=h.pl x hx;omega
   ·unfold placedAt at hx;obtain⟨y,hy,rfl⟩:=List.mem_map.1 hx;have:=placesB_lt _ 0 y hy;rw[Nat.zero_add]at this;simp only;omega
  ·rw[List.pairwise_append];refine⟨h.srt,?_,fun x hx y hy=> ?_⟩
   ·unfold placedAt;rw[List.pairwise_map];exact(placesB_sorted _ 0).imp fun hab=>by simp only;omega
   ·have:=h.pl x hx;unfold placedAt at hy;obtain⟨z,_,rfl⟩:=List.mem_map.1 hy;simp only;omega
  ·show(placed S.items S.forced S.next (placesB 0 0 S.pendB) (S.items.length - S.forced)).take S.items.length=_
   rw[List.take_of_length_le (by rw[placed_len];exact qlr _),placedAt_append,placedAt_placedAt,←hnxt,←h.its]
   apply List.ext_getElem?;intro i;rw[placed_get];by_cases hi:i<S.forced
   ·have hfl:=h.frc;rw[qal (by rw[qlt];omega),List.getElem?_take_of_lt hi]
    cases S.items[i]? with
    | none=>rfl
    | some x=>simp only[Option.map_some];rw[if_neg (by omega)]
   ·have hfl:=h.frc;have hl:(S.items.take S.forced).length=S.forced:=by rw[qlt];omega
    rw[qar (by omega),hl,placedAt_get]
    cases hx:S.items[i]? with
    | none=>
      have:S.items.length≤i:=List.getElem?_eq_none_iff.1 hx;rw[List.getElem?_eq_none (by rw[placesB_len,LogS.pend_len];omega)]
      rfl
    | some x=>
      have hil:=(qei.1 hx).1
      have hpe:S.pendB[i - S.forced]? =some x.1:=by
       unfold LogS.pendB;rw[qgm,List.getElem?_drop,show S.forced+(i - S.forced)=i by omega,hx]
       rfl
      have hfs:=placesB_fst S.pendB 0 (i - S.forced);rw[hpe]at hfs
      cases hy:(placesB 0 0 S.pendB)[i - S.forced]? with
      | none=>rw[hy]at hfs;cases hfs
      | some y=>
        rw[hy]at hfs;simp only[Option.map_some,Option.some.injEq]at hfs ⊢;rw[if_pos (by omega),List.getD_eq_getElem?_getD,hy,←hfs]
        rfl
  ·show S.items.length≤(placed _ _ _ _ _).length
   rw[placed_len];exact qlr _
  ·show D.load=S.m
   rw[load_congr (hlow 0 (by omega)) (hlow 1 (by omega))]
   exact h.ld
  ·show D.now=_
   rw[hDe];rfl
  ·show D.pend=_
   rw[hDe];rfl
 ·show(placed S.items S.forced S.next (placesB 0 0 S.pendB) (S.items.length - S.forced)).map (·.1)=_
  apply List.ext_getElem?;intro i;rw[qgm,qgm,placed_get]
  cases S.items[i]? with
  | none=>rfl
  | some x=>
    simp only[Option.map_some];split<;>rfl
def markN(l:List (Bs×Nat))(q:Nat):Nat:=(l.takeWhile fun x=>decide (x.2<q)).length
def LogS.kept(S:LogS)(n:Int):Bool:=decide (S.m.lsn≤n) && decide (n≤S.m.lsn+(S.forced:Nat) - 1)
def LogS.markM(S:LogS)(check keep:Int):MastS:=
 ⟨S.m.gen+1,S.m.inc,(((S.items.getD (keep - S.m.lsn).toNat ([],0)).2:Nat):Int),S.m.lsn+(markN S.items (S.items.getD (keep - S.m.lsn).toNat ([],0)).2:Nat),check⟩
def LogS.markS(S:LogS)(check keep:Int):LogS×Int:=
 let P:=S.dk.save (S.markM check keep)
 if P.2≠0 then ({ S with dk:=P.1,down:=P.2 == 40 },P.2)
 else ({ S with dk:=P.1,m:=S.markM check keep,items:=S.items.drop (markN S.items (S.items.getD (keep - S.m.lsn).toNat ([],0)).2),forced:=S.forced - markN S.items (S.items.getD (keep - S.m.lsn).toNat ([],0)).2 },0)
theorem sorted_cut(k:Nat):∀(F:List (Bs×Nat)),F.Pairwise (fun a b=>a.2≤b.2)→F.filter (fun x=>decide (k≤x.2))=F.drop (markN F k):=by
 intro F
 induction F with
 | nil=>intro _;rfl
 | cons x l ih=>
   intro h;obtain⟨h1,h2⟩:=List.pairwise_cons.1 h;unfold markN at ih ⊢;by_cases hx:x.2<k
   ·rw[List.filter_cons_of_neg (by simp;omega),List.takeWhile_cons_of_pos (by simpa using hx),List.length_cons,List.drop_succ_cons]
    exact ih h2
   ·rw[List.filter_cons_of_pos (by simp;omega),List.takeWhile_cons_of_neg (by simpa using hx),List.length_nil,List.drop_zero,List.filter_eq_self.2 (fun y hy=>by have:=h1 y hy;simp;omega)]
theorem markN_lt{l:List (Bs×Nat)}{q i:Nat}{x:Bs×Nat}(hi:l[i]? =some x)(hq:¬x.2<q):markN l q≤i:=by
 unfold markN
 induction l generalizing i with
 | nil=>simp at hi
 | cons y l ih=>
   by_cases hy:y.2<q
   ·rw[List.takeWhile_cons_of_pos (by simpa using hy),List.length_cons]
    cases i with
    | zero=>
      simp only[qZ,Option.some.injEq]at hi;subst hi;exact absurd hy hq
    | succ i=>
      rw[qS]at hi;have:=ih hi;omega
   ·rw[List.takeWhile_cons_of_neg (by simpa using hy)]
    exact Nat.zero_le _
theorem markN_take{l:List (Bs×Nat)}{q i m:Nat}{x:Bs×Nat}(hi:l[i]? =some x)(hq:¬x.2<q)(hm:i<m):markN l q=markN (l.take m) q:=by
 unfold markN
 induction l generalizing i m with
 | nil=>simp at hi
 | cons y l ih=>
   obtain⟨m,rfl⟩:∃m',m=m'+1:=⟨m - 1,by omega⟩
   rw[List.take_succ_cons];by_cases hy:y.2<q
   ·rw[List.takeWhile_cons_of_pos (by simpa using hy),List.takeWhile_cons_of_pos (by simpa using hy),List.length_cons,List.length_cons]
    cases i with
    | zero=>
      simp only[qZ,Option.some.injEq]at hi;subst hi;exact absurd hy hq
    | succ i=>
      rw[qS]at hi;rw[ih (m:=m) hi (by omega)]
   ·rw[List.takeWhile_cons_of_neg (by simpa using hy),List.takeWhile_cons_of_neg (by simpa using hy)]
theorem markN_placed(f k:Nat):∀(F:List (Bs×Nat)),markN (placedAt f F) (f+k)=markN F k:=by
 intro F;unfold markN placedAt
 induction F with
 | nil=>rfl
 | cons x l ih=>
   rw[List.map_cons];by_cases hx:x.2<k
   ·rw[List.takeWhile_cons_of_pos (by simp only[decide_eq_true_eq];omega),List.takeWhile_cons_of_pos (by simpa using hx),List.length_cons,List.length_cons,ih]
   ·rw[List.takeWhile_cons_of_neg (by simp only[decide_eq_true_eq];omega),List.takeWhile_cons_of_neg (by simpa using hx)]
theorem Stand.mark{S:LogS}{f i:Nat}{Z:List SheetS}{F:List (Bs×Nat)}(h:Stand S f Z F){check keep:Int}(hi:i<S.forced)(hkeep:keep=S.m.lsn+(i:Nat)){sz:Nat}{sy:Int}{pl:Nat}(hd:DkOK S.dk sz sy pl)(hm:(S.markM check keep).may=true)(hgen:S.dk.load.gen≤S.m.gen):
 ∃(S':LogS) (n k:Nat),S.markS check keep=(S',0)∧n≤i∧k<Z.length∧Stand S' (f+k) (Z.drop k) (cutF k F)∧DkOK S'.dk sz (sy+1) 0∧S'.m.lsn=S.m.lsn+(n:Nat)∧S'.m.check=check∧S'.m.inc=S.m.inc∧S'.m.gen=S.m.gen+1∧S'.items=S.items.drop n∧S'.forced=S.forced - n∧S'.count=S.count∧S'.next=S.next∧S'.forces=S.forces∧S'.down=S.down:=by
 have hfl:=h.frc;have hit:(keep - S.m.lsn).toNat=i:=by omega
 obtain⟨x,hx⟩:∃x,F[i]? =some x:=by
  have hl:(S.items.take S.forced).length=F.length:=by rw[h.its,placedAt_len]
  rw[qlt]at hl;exact⟨_,qeg (by omega)⟩
 have hxi:S.items[i]? =some (x.1,f+x.2):=by
  have:(S.items.take S.forced)[i]? =(placedAt f F)[i]? :=by rw[h.its]
  rw[List.getElem?_take_of_lt hi,placedAt_get,hx]at this;exact this
 have hxm:x∈F:=qmg hx;have hxl:=h.pl x hxm;have hq:(S.items.getD (keep - S.m.lsn).toNat ([],0)).2=f+x.2:=by rw[hit,List.getD_eq_getElem?_getD,hxi];rfl
 obtain⟨n,hn⟩:∃n,markN S.items (f+x.2)=n:=⟨_,rfl⟩
 have hnF:markN F x.2=n:=by
  rw[←markN_placed f x.2 F,←h.its,←markN_take hxi (by simp) hi]
  exact hn
 have hni:n≤i:=by rw[←hn];exact markN_lt hxi (by simp)
 obtain⟨m,hmm⟩:∃m,S.markM check keep=m:=⟨_,rfl⟩
 have hm':m=⟨S.m.gen+1,S.m.inc,((f+x.2:Nat):Int),S.m.lsn+(n:Nat),check⟩:=by
  rw[←hmm];unfold LogS.markM;rw[hq,hn]
 rw[hmm]at hm;obtain⟨s1,s2⟩:=hd.save hm;obtain⟨s3,s4⟩:=hd.save_dk hm;have s5:=hd.save_load hm (by rw[hm'];show _<S.m.gen+1;omega)
 refine⟨{ S with dk:=(S.dk.save m).1,m:=m,items:=S.items.drop n,forced:=S.forced - n },n,x.2,?_,hni,hxl,?_,s2,by rw[hm'],by rw[hm'],by rw[hm'],by rw[hm'],rfl,rfl,rfl,rfl,rfl,rfl⟩
 ·unfold LogS.markS;rw[hmm,hq,hn];simp only;rw[s1,if_neg (by simp)]
 have hpd:({ S with dk:=(S.dk.save m).1,m:=m,items:=S.items.drop n,forced:=S.forced - n }:LogS).pendB=S.pendB:=by
  unfold LogS.pendB;simp only;rw[List.drop_drop,show n+(S.forced - n)=S.forced by omega]
 have hnx:=h.nxt;have hro:=h.room;have hpage:∀q,((S.dk.save m).1).page (sectOf S.count q)=S.dk.page (sectOf S.count q):=fun q=>hd.save_page hm (by unfold sectOf;omega)
 have hcut:cutF x.2 F=(F.drop n).map fun y=>(y.1,y.2 - x.2):=by
  unfold cutF;rw[sorted_cut x.2 F h.srt,hnF]
 refine⟨by rw[hm'],?_,?_,?_,?_,?_,?_,h.cut.cut (.inr ⟨x,hxm,rfl⟩),?_,?_,?_,?_,s5,s3,s4⟩
 ·show S.next=_
  rw[qld];omega
 ·rw[hpd]
  show S.next+_≤f+x.2+S.count
  omega
 ·intro j s hs;rw[List.getElem?_drop]at hs;obtain⟨a1,a2⟩:=h.pg _ s hs;refine⟨?_,?_⟩
  ·show((S.dk.save m).1).page (sectOf S.count (f+x.2+j))=some s
   rw[hpage,show f+x.2+j=f+(x.2+j) by omega]
   exact a1
  ·rw[a2]
   congr 1
   omega
 ·show incGo m.inc 0 _
  rw[hm'];exact incGo_drop _ Z 0 h.inc
 ·show 0≤m.inc
  rw[hm'];exact h.mi
 ·intro q s hs;exact h.old q s (by rw[←hpage];exact hs)
 ·intro y hy;unfold cutF at hy;obtain⟨z,hz,rfl⟩:=List.mem_map.1 hy;have h1:=h.pl z (List.mem_filter.1 hz).1;have h2:=of_decide_eq_true (List.mem_filter.1 hz).2;rw[qld];simp only;omega
 ·rw[hcut,List.pairwise_map];exact(h.srt.sublist (List.drop_sublist _ _)).imp fun hab=>by simp only;omega
 ·show(S.items.drop n).take (S.forced - n)=_
  rw[←List.drop_take,h.its];have e:placedAt (f+x.2) (cutF x.2 F)=placedAt f (placedAt x.2 (cutF x.2 F)):=(placedAt_placedAt f x.2 _).symm;rw[e]
  have e2:placedAt x.2 (cutF x.2 F)=F.drop n:=by
   rw[hcut]
   have hge:∀y∈F.drop n,x.2≤y.2:=fun y hy=>by
    rw[←hnF,←sorted_cut x.2 F h.srt]at hy;exact of_decide_eq_true (List.mem_filter.1 hy).2
   unfold placedAt;rw[List.map_map]
   conv=>rhs;rw[←List.map_id (F.drop n)]
   apply List.map_congr_left;intro y hy;have:=hge y hy;simp only[Function.comp,id];rw[show x.2+(y.2 - x.2)=y.2 by omega]
  rw[e2];unfold placedAt;rw[List.map_drop]
 ·show S.forced - n≤(S.items.drop n).length
  rw[qld];omega
theorem crash_quiet{D:DiskS}(h1:D.now=fun _=>none)(h2:D.pend=[])(keep:List Int)(torn:Bool)(cut:Int):(∀n,(D.crash keep torn cut).read n=D.read n)∧(D.crash keep torn cut).now=(fun _=>none)∧(D.crash keep torn cut).pend=[]:=by
 refine⟨fun n=> ?_,rfl,rfl⟩
 unfold DiskS.crash;rw[h2];unfold DiskS.read;simp only[h1];rfl
theorem DkOK.crash{D:DiskS}{sz:Nat}{sy:Int}{pl:Nat}(h:DkOK D sz sy pl)(h1:D.now=fun _=>none)(h2:D.pend=[])(keep:List Int)(torn:Bool)(cut:Int):DkOK (D.crash keep torn cut) sz 0 0:=
 ⟨rfl,rfl,h.size,rfl,qlr _,fun n=>by rw[(crash_quiet h1 h2 keep torn cut).1,h.read]⟩
def LogS.openM(S:LogS):MastS:={ S.m with gen:=S.m.gen+1,inc:=S.m.inc+1 }
theorem Stand.opened{S:LogS}{f:Nat}{Z:List SheetS}{F:List (Bs×Nat)}(h:Stand S f Z F){sz:Nat}(hm:S.openM.may=true){D:DiskS}(hD:DkOK D sz 0 0)(hr:∀n,D.read n=S.dk.read n)(hn:D.now=fun _=>none)(hp:D.pend=[]):
 D.load=S.m∧sheetsGo D S.count S.m.inc S.count 0 f=Z∧findB Z=F∧
  Stand ⟨(D.save S.openM).1,S.count,S.openM,placedAt f F,F.length,f+Z.length,0,false⟩ f Z F∧(D.save S.openM).2=0∧DkOK (D.save S.openM).1 sz 1 0:=by
 have hload:D.load=S.m:=by rw[load_congr (hr 0) (hr 1)];exact h.ld
 have hpg:∀n,D.page n=S.dk.page n:=fun n=>page_congr (hr n)
 have hS1:Stand { S with dk:=D } f Z F:=⟨h.fst,h.nxt,h.room,fun j s hs=>⟨by show D.page _=_;rw[hpg];exact(h.pg j s hs).1,(h.pg j s hs).2⟩,h.inc,h.mi,fun q s hs=>h.old q s (by rw[←hpg];exact hs),h.cut,h.pl,h.srt,h.its,h.frc,hload,hn,hp⟩
 obtain⟨s1,s2⟩:=hD.save hm;obtain⟨s3,s4⟩:=hD.save_dk hm;have s5:=hD.save_load hm (by rw[hload];show S.m.gen<S.m.gen+1;omega)
 refine⟨hload,hS1.read,h.cut.found,?_,s1,s2⟩;have hpage:∀q,((D.save S.openM).1).page (sectOf S.count q)=S.dk.page (sectOf S.count q):=fun q=>(hD.save_page hm (by unfold sectOf;omega)).trans (hpg _)
 have hnx:=h.nxt;have hro:=h.room
 have hpd:(⟨(D.save S.openM).1,S.count,S.openM,placedAt f F,F.length,f+Z.length,0,false⟩:LogS).pendB=[]:=by
  unfold LogS.pendB;simp only;rw[List.drop_eq_nil_of_le (by rw[placedAt_len];exact qlr _)]
  rfl
 refine⟨h.fst,rfl,?_,fun j s hs=>⟨?_,(h.pg j s hs).2⟩,?_,?_,fun q s hs=> ?_,h.cut,h.pl,h.srt,?_,?_,s5,s3,s4⟩
 ·rw[hpd,allB_nil]
  show f+Z.length+pagesN 0≤f+S.count
  unfold pagesN;omega
 ·show((D.save S.openM).1).page _=_
  rw[hpage];exact(h.pg j s hs).1
 ·exact incGo_mono (by show S.m.inc≤S.m.inc+1;omega) Z 0 h.inc
 ·show 0≤S.m.inc+1
  have:=h.mi;omega
 ·have:=h.old q s (by rw[←hpage];exact hs)
  show s.pos<((f+Z.length:Nat):Int)
  omega
 ·show(placedAt f F).take F.length=_
  rw[List.take_of_length_le (by rw[placedAt_len];exact qlr _)]
 ·show F.length≤(placedAt f F).length
  rw[placedAt_len];exact qlr _
end Go.Proofs.YtljmmkjdlcfkpaaGreatDoor
