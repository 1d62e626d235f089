/-
  Layer 7: a checkpoint's lists, and a record, may be (as walks over what the callees answer).
-/
import Derived.Test.YtljmmkjdlcfkpaaGreatDoorMWqF
set_option maxRecDepth 100000
set_option maxHeartbeats 4000000
namespace Go.Proofs.YtljmmkjdlcfkpaaGreatDoor
open Go Go.RowKit
theorem check_walk(k tx prev next coord:Int)(key od nd:Bs)(oh nh:Bool)(a1 a2 a3 a4 a5 a6:Option Addr)(n1 n2 n3 n4 n5 n6 c1 c2 c3 c4 c5 c6:Nat)(w:World)(r1 r2 r3 r4:Bool)
 (hr:∀w',Upd Nowhere w w'→Calls Tryz.prog 141 #[.slice a3 n3 c3,.int .i64 64,.func (.func 142) #[] #[],.func (.func 143) #[] #[]] w' (BoolP r1 w'))
 (hd:∀w',Upd Nowhere w w'→Calls Tryz.prog 144 #[.slice a4 n4 c4,.int .i64 64,.func (.func 145) #[] #[],.func (.func 146) #[] #[]] w' (BoolP r2 w'))
 (he:∀w',Upd Nowhere w w'→Calls Tryz.prog 147 #[.slice a5 n5 c5,.int .i64 64,.func (.func 148) #[] #[],.func (.func 149) #[] #[]] w' (BoolP r3 w'))
 (hp:∀w',Upd Nowhere w w'→Calls Tryz.prog 150 #[.slice a6 n6 c6,.int .i64 256,.func (.func 151) #[] #[],.func (.func 152) #[] #[]] w' (BoolP r4 w')):
 Calls Tryz.prog 103 #[.agg #[.int .i64 k,.int .i64 tx,.int .i64 prev,.int .i64 next,strV key,.bool oh,strV od,.bool nh,strV nd,.int .i64 coord,.slice a1 n1 c1,.slice a2 n2 c2,.slice a3 n3 c3,.slice a4 n4 c4,.slice a5 n5 c5,.slice a6 n6 c6]] w (BoolP (r1 && (r2 && (r3 && r4))) w):=by
 have HU0:=qh ((Upd.refl Nowhere w).alloc (.cells #[.int .i64 k,.int .i64 tx,.int .i64 prev,.int .i64 next,strV key,.bool oh,strV od,.bool nh,strV nd,.int .i64 coord,.slice a1 n1 c1,.slice a2 n2 c2,.slice a3 n3 c3,.slice a4 n4 c4,.slice a5 n5 c5,.slice a6 n6 c6] 38));have HB0:=qh (Blk.new w 38 #[.int .i64 k,.int .i64 tx,.int .i64 prev,.int .i64 next,strV key,.bool oh,strV od,.bool nh,strV nd,.int .i64 coord,.slice a1 n1 c1,.slice a2 n2 c2,.slice a3 n3 c3,.slice a4 n4 c4,.slice a5 n5 c5,.slice a6 n6 c6]);have HR:=qh hr;clear hr;have HD:=qh hd;clear hd;have HE:=qh he;clear he;have HP:=qh hp;clear hp;go_enter Tryz.func103,Tryz.ntmps103
 go_wp2_with fail
 refine Calls.mono (HR.out _ HU0.out) ?_;rintro e w1 ⟨rfl,hU1⟩;have hB1:=HB0.out.upd hU1 id;have hlt1:=hB1.lt;obtain⟨b0,b1,b2,b3,b4,b5,b6,b7,b8,b9,b10,b11,b12,b13,b14,b15⟩:=hB1.all16;have HB1:=qh hB1;have HU1:=qh (HU0.out.same hU1);clear hB1 hU1
 cases r1 with
 | false=>
   go_wp2_with fail
   go_ret;exact⟨by simp,HU1.out⟩
 | true=>
   go_wp2_with fail
   refine Calls.mono (HD.out _ HU1.out) ?_;rintro e w2 ⟨rfl,hU2⟩;have hB2:=HB1.out.upd hU2 id;have hlt2:=hB2.lt;obtain⟨b0,b1,b2,b3,b4,b5,b6,b7,b8,b9,b10,b11,b12,b13,b14,b15⟩:=hB2.all16;have HB2:=qh hB2;have HU2:=qh (HU1.out.same hU2);clear hB2 hU2
   cases r2 with
   | false=>
     go_wp2_with fail
     go_ret;exact⟨by simp,HU2.out⟩
   | true=>
     go_wp2_with fail
     refine Calls.mono (HE.out _ HU2.out) ?_;rintro e w3 ⟨rfl,hU3⟩;have hB3:=HB2.out.upd hU3 id;have hlt3:=hB3.lt;obtain⟨b0,b1,b2,b3,b4,b5,b6,b7,b8,b9,b10,b11,b12,b13,b14,b15⟩:=hB3.all16;have HB3:=qh hB3;have HU3:=qh (HU2.out.same hU3);clear hB3 hU3
     cases r3 with
     | false=>
       go_wp2_with fail
       go_ret;exact⟨by simp,HU3.out⟩
     | true=>
       go_wp2_with fail
       refine Calls.mono (HP.out _ HU3.out) ?_;rintro e w4 ⟨rfl,hU4⟩;have hB4:=HB3.out.upd hU4 id;have hlt4:=hB4.lt;obtain⟨b0,b1,b2,b3,b4,b5,b6,b7,b8,b9,b10,b11,b12,b13,b14,b15⟩:=hB4.all16;have HB4:=qh hB4;have HU4:=qh (HU3.out.same hU4);clear hB4 hU4
       cases r4 with
       | false=>
         go_wp2_with fail
         go_ret;exact⟨by simp,HU4.out⟩
       | true=>
         go_wp2_with fail
         go_ret;exact⟨by simp,HU4.out⟩
def mayB(k tx:Int)(bk bsp bch bkey bvo bvn q1 q2 q3 q4 q5 q6:Bool):Bool:=
 if bk=false∨bsp=true then false
 else if k=7∨k=8 then decide (tx=0) && bch
 else if (k=1∨k=2)∧¬(bkey=true∧bvo=true∧bvn=true) then false
 else q1 && (q2 && (q3 && (q4 && (q5 && q6))))
theorem may_walk(k tx prev next coord:Int)(key od nd:Bs)(oh nh:Bool)(a1 a2 a3 a4 a5 a6:Option Addr)(n1 n2 n3 n4 n5 n6 c1 c2 c3 c4 c5 c6:Nat)(w:World)(bk bsp bch bkey bvo bvn q1 q2 q3 q4 q5 q6:Bool)
 (hk:∀w',Upd Nowhere w w'→Calls Tryz.prog 74 #[.int .i64 k] w' (BoolP bk w'))
 (hsp:bk=true→∀w',Upd Nowhere w w'→Calls Tryz.prog 102 #[.agg #[.int .i64 k,.int .i64 tx,.int .i64 prev,.int .i64 next,strV key,.bool oh,strV od,.bool nh,strV nd,.int .i64 coord,.slice a1 n1 c1,.slice a2 n2 c2,.slice a3 n3 c3,.slice a4 n4 c4,.slice a5 n5 c5,.slice a6 n6 c6]] w' (BoolP bsp w'))
 (hch:∀w',Upd Nowhere w w'→Calls Tryz.prog 103 #[.agg #[.int .i64 k,.int .i64 tx,.int .i64 prev,.int .i64 next,strV key,.bool oh,strV od,.bool nh,strV nd,.int .i64 coord,.slice a1 n1 c1,.slice a2 n2 c2,.slice a3 n3 c3,.slice a4 n4 c4,.slice a5 n5 c5,.slice a6 n6 c6]] w' (BoolP bch w'))
 (hkey:∀w',Upd Nowhere w w'→Calls Tryz.prog 104 #[strV key] w' (BoolP bkey w'))
 (hvo:∀w',Upd Nowhere w w'→Calls Tryz.prog 105 #[.agg #[.bool oh,strV od]] w' (BoolP bvo w'))
 (hvn:∀w',Upd Nowhere w w'→Calls Tryz.prog 105 #[.agg #[.bool nh,strV nd]] w' (BoolP bvn w'))
 (hs1:∀w',Upd Nowhere w w'→Calls Tryz.prog 106 #[.int .i64 tx,.int .i64 1] w' (BoolP q1 w'))
 (hs2:∀w',Upd Nowhere w w'→Calls Tryz.prog 106 #[.int .i64 prev,.int .i64 0] w' (BoolP q2 w'))
 (hs3:∀w',Upd Nowhere w w'→Calls Tryz.prog 106 #[.int .i64 next,.int .i64 0] w' (BoolP q3 w'))
 (hs4:∀w',Upd Nowhere w w'→Calls Tryz.prog 107 #[.int .i64 coord] w' (BoolP q4 w'))
 (hs5:∀w',Upd Nowhere w w'→Calls Tryz.prog 108 #[.slice a1 n1 c1] w' (BoolP q5 w'))
 (hs6:∀w',Upd Nowhere w w'→Calls Tryz.prog 109 #[.slice a2 n2 c2] w' (BoolP q6 w')):
 Calls Tryz.prog 68 #[.agg #[.int .i64 k,.int .i64 tx,.int .i64 prev,.int .i64 next,strV key,.bool oh,strV od,.bool nh,strV nd,.int .i64 coord,.slice a1 n1 c1,.slice a2 n2 c2,.slice a3 n3 c3,.slice a4 n4 c4,.slice a5 n5 c5,.slice a6 n6 c6]] w (BoolP (mayB k tx bk bsp bch bkey bvo bvn q1 q2 q3 q4 q5 q6) w):=by
 have HU0:=qh ((Upd.refl Nowhere w).alloc (.cells #[.int .i64 k,.int .i64 tx,.int .i64 prev,.int .i64 next,strV key,.bool oh,strV od,.bool nh,strV nd,.int .i64 coord,.slice a1 n1 c1,.slice a2 n2 c2,.slice a3 n3 c3,.slice a4 n4 c4,.slice a5 n5 c5,.slice a6 n6 c6] 38));have HB0:=qh (Blk.new w 38 #[.int .i64 k,.int .i64 tx,.int .i64 prev,.int .i64 next,strV key,.bool oh,strV od,.bool nh,strV nd,.int .i64 coord,.slice a1 n1 c1,.slice a2 n2 c2,.slice a3 n3 c3,.slice a4 n4 c4,.slice a5 n5 c5,.slice a6 n6 c6]);have HK:=qh hk;clear hk;have HSP:=qh hsp;clear hsp;have HCH:=qh hch;clear hch;have HKEY:=qh hkey;clear hkey;have HVO:=qh hvo;clear hvo;have HVN:=qh hvn;clear hvn;have HS1:=qh hs1;clear hs1;have HS2:=qh hs2;clear hs2;have HS3:=qh hs3;clear hs3;have HS4:=qh hs4;clear hs4;have HS5:=qh hs5;clear hs5;have HS6:=qh hs6;clear hs6;go_enter Tryz.func68,Tryz.ntmps68
 go_wp2_with fail
 refine Calls.mono (HK.out _ HU0.out) ?_;rintro e w1 ⟨rfl,hU1⟩;have hB1:=HB0.out.upd hU1 id;have hlt1:=hB1.lt;obtain⟨b0,b1,b2,b3,b4,b5,b6,b7,b8,b9,b10,b11,b12,b13,b14,b15⟩:=hB1.all16;have HB1:=qh hB1;have HU1:=qh (HU0.out.same hU1);clear hB1 hU1
 cases bk with
 | false=>
   go_wp2_with fail
   go_ret;exact⟨by simp[mayB],HU1.out⟩
 | true=>
   go_wp2_with fail
   refine Calls.mono (HSP.out (by trivial) _ HU1.out) ?_
   rintro e w2 ⟨rfl,hU2⟩;have hB2:=HB1.out.upd hU2 id;have hlt2:=hB2.lt;obtain⟨b0,b1,b2,b3,b4,b5,b6,b7,b8,b9,b10,b11,b12,b13,b14,b15⟩:=hB2.all16;have HB2:=qh hB2;have HU2:=qh (HU1.out.same hU2);clear hB2 hU2
   cases bsp with
   | true=>
     go_wp2_with fail
     go_ret;exact⟨by simp[mayB],HU2.out⟩
   | false=>
     by_cases e7:k=7
     case pos=>
      subst e7;by_cases et:tx=0
      case neg=>
       have gt:(tx == 0)=false:=by simpa using et
       go_wp2_with fail
       go_ret;exact⟨by simp[mayB,et],HU2.out⟩
      subst et;go_wp2_with fail
      refine Calls.mono (HCH.out _ HU2.out) ?_;rintro e w3 ⟨rfl,hU3⟩;have hB3:=HB2.out.upd hU3 id;have hlt3:=hB3.lt;obtain⟨b0,b1,b2,b3,b4,b5,b6,b7,b8,b9,b10,b11,b12,b13,b14,b15⟩:=hB3.all16;have HB3:=qh hB3;have HU3:=qh (HU2.out.same hU3);clear hB3 hU3
      cases bch with
      | false=>
        go_wp2_with fail
        go_ret;exact⟨by simp[mayB],HU3.out⟩
      | true=>
        go_wp2_with fail
        go_ret;exact⟨by simp[mayB],HU3.out⟩
     have g7:(k == 7)=false:=by simpa using e7
     by_cases e8:k=8
     case pos=>
      subst e8;by_cases et:tx=0
      case neg=>
       have gt:(tx == 0)=false:=by simpa using et
       go_wp2_with fail
       go_ret;exact⟨by simp[mayB,et],HU2.out⟩
      subst et;go_wp2_with fail
      refine Calls.mono (HCH.out _ HU2.out) ?_;rintro e w3 ⟨rfl,hU3⟩;have hB3:=HB2.out.upd hU3 id;have hlt3:=hB3.lt;obtain⟨b0,b1,b2,b3,b4,b5,b6,b7,b8,b9,b10,b11,b12,b13,b14,b15⟩:=hB3.all16;have HB3:=qh hB3;have HU3:=qh (HU2.out.same hU3);clear hB3 hU3
      cases bch with
      | false=>
        go_wp2_with fail
        go_ret;exact⟨by simp[mayB],HU3.out⟩
      | true=>
        go_wp2_with fail
        go_ret;exact⟨by simp[mayB],HU3.out⟩
     have g8:(k == 8)=false:=by simpa using e8
     by_cases e1:k=1
     case pos=>
      subst e1;clear e7 g7 e8 g8;go_wp2_with fail
      refine Calls.mono (HKEY.out _ HU2.out) ?_;rintro e w3 ⟨rfl,hU3⟩;have hB3:=HB2.out.upd hU3 id;have hlt3:=hB3.lt;obtain⟨b0,b1,b2,b3,b4,b5,b6,b7,b8,b9,b10,b11,b12,b13,b14,b15⟩:=hB3.all16;have HB3:=qh hB3;have HU3:=qh (HU2.out.same hU3);clear hB3 hU3
      cases bkey with
      | false=>
        go_wp2_with fail
        go_ret;exact⟨by simp[mayB],HU3.out⟩
      | true=>
        go_wp2_with fail
        refine Calls.mono (HVO.out _ HU3.out) ?_;rintro e w4 ⟨rfl,hU4⟩;have hB4:=HB3.out.upd hU4 id;have hlt4:=hB4.lt;obtain⟨b0,b1,b2,b3,b4,b5,b6,b7,b8,b9,b10,b11,b12,b13,b14,b15⟩:=hB4.all16;have HB4:=qh hB4;have HU4:=qh (HU3.out.same hU4);clear hB4 hU4
        cases bvo with
        | false=>
          go_wp2_with fail
          go_ret;exact⟨by simp[mayB],HU4.out⟩
        | true=>
          go_wp2_with fail
          refine Calls.mono (HVN.out _ HU4.out) ?_;rintro e w5 ⟨rfl,hU5⟩;have hB5:=HB4.out.upd hU5 id;have hlt5:=hB5.lt;obtain⟨b0,b1,b2,b3,b4,b5,b6,b7,b8,b9,b10,b11,b12,b13,b14,b15⟩:=hB5.all16;have HB5:=qh hB5;have HU5:=qh (HU4.out.same hU5);clear hB5 hU5
          cases bvn with
          | false=>
            go_wp2_with fail
            go_ret;exact⟨by simp[mayB],HU5.out⟩
          | true=>
            go_wp2_with fail
            refine Calls.mono (HS1.out _ HU5.out) ?_;rintro e w6 ⟨rfl,hU6⟩;have hB6:=HB5.out.upd hU6 id;have hlt6:=hB6.lt;obtain⟨b0,b1,b2,b3,b4,b5,b6,b7,b8,b9,b10,b11,b12,b13,b14,b15⟩:=hB6.all16;have HB6:=qh hB6;have HU6:=qh (HU5.out.same hU6);clear hB6 hU6
            cases q1 with
            | false=>
              go_wp2_with fail
              go_ret;exact⟨by simp[mayB],HU6.out⟩
            | true=>
              go_wp2_with fail
              refine Calls.mono (HS2.out _ HU6.out) ?_;rintro e w7 ⟨rfl,hU7⟩;have hB7:=HB6.out.upd hU7 id;have hlt7:=hB7.lt;obtain⟨b0,b1,b2,b3,b4,b5,b6,b7,b8,b9,b10,b11,b12,b13,b14,b15⟩:=hB7.all16;have HB7:=qh hB7;have HU7:=qh (HU6.out.same hU7);clear hB7 hU7
              cases q2 with
              | false=>
                go_wp2_with fail
                go_ret;exact⟨by simp[mayB],HU7.out⟩
              | true=>
                go_wp2_with fail
                refine Calls.mono (HS3.out _ HU7.out) ?_;rintro e w8 ⟨rfl,hU8⟩;have hB8:=HB7.out.upd hU8 id;have hlt8:=hB8.lt;obtain⟨b0,b1,b2,b3,b4,b5,b6,b7,b8,b9,b10,b11,b12,b13,b14,b15⟩:=hB8.all16;have HB8:=qh hB8;have HU8:=qh (HU7.out.same hU8);clear hB8 hU8
                cases q3 with
                | false=>
                  go_wp2_with fail
                  go_ret;exact⟨by simp[mayB],HU8.out⟩
                | true=>
                  go_wp2_with fail
                  refine Calls.mono (HS4.out _ HU8.out) ?_;rintro e w9 ⟨rfl,hU9⟩;have hB9:=HB8.out.upd hU9 id;have hlt9:=hB9.lt;obtain⟨b0,b1,b2,b3,b4,b5,b6,b7,b8,b9,b10,b11,b12,b13,b14,b15⟩:=hB9.all16;have HB9:=qh hB9;have HU9:=qh (HU8.out.same hU9);clear hB9 hU9
                  cases q4 with
                  | false=>
                    go_wp2_with fail
                    go_ret;exact⟨by simp[mayB],HU9.out⟩
                  | true=>
                    go_wp2_with fail
                    refine Calls.mono (HS5.out _ HU9.out) ?_;rintro e w10 ⟨rfl,hU10⟩;have hB10:=HB9.out.upd hU10 id;have hlt10:=hB10.lt;obtain⟨b0,b1,b2,b3,b4,b5,b6,b7,b8,b9,b10,b11,b12,b13,b14,b15⟩:=hB10.all16;have HB10:=qh hB10;have HU10:=qh (HU9.out.same hU10);clear hB10 hU10
                    cases q5 with
                    | false=>
                      go_wp2_with fail
                      go_ret;exact⟨by simp[mayB],HU10.out⟩
                    | true=>
                      go_wp2_with fail
                      refine Calls.mono (HS6.out _ HU10.out) ?_;rintro e w11 ⟨rfl,hU11⟩;have hB11:=HB10.out.upd hU11 id;have hlt11:=hB11.lt;obtain⟨b0,b1,b2,b3,b4,b5,b6,b7,b8,b9,b10,b11,b12,b13,b14,b15⟩:=hB11.all16;have HB11:=qh hB11;have HU11:=qh (HU10.out.same hU11);clear hB11 hU11
                      cases q6 with
                      | false=>
                        go_wp2_with fail
                        go_ret;exact⟨by simp[mayB],HU11.out⟩
                      | true=>
                        go_wp2_with fail
                        go_ret;exact⟨by simp[mayB],HU11.out⟩
     have g1:(k == 1)=false:=by simpa using e1
     by_cases e2:k=2
     case pos=>
      subst e2;clear e7 g7 e8 g8 e1 g1;go_wp2_with fail
      refine Calls.mono (HKEY.out _ HU2.out) ?_;rintro e w3 ⟨rfl,hU3⟩;have hB3:=HB2.out.upd hU3 id;have hlt3:=hB3.lt;obtain⟨b0,b1,b2,b3,b4,b5,b6,b7,b8,b9,b10,b11,b12,b13,b14,b15⟩:=hB3.all16;have HB3:=qh hB3;have HU3:=qh (HU2.out.same hU3);clear hB3 hU3
      cases bkey with
      | false=>
        go_wp2_with fail
        go_ret;exact⟨by simp[mayB],HU3.out⟩
      | true=>
        go_wp2_with fail
        refine Calls.mono (HVO.out _ HU3.out) ?_;rintro e w4 ⟨rfl,hU4⟩;have hB4:=HB3.out.upd hU4 id;have hlt4:=hB4.lt;obtain⟨b0,b1,b2,b3,b4,b5,b6,b7,b8,b9,b10,b11,b12,b13,b14,b15⟩:=hB4.all16;have HB4:=qh hB4;have HU4:=qh (HU3.out.same hU4);clear hB4 hU4
        cases bvo with
        | false=>
          go_wp2_with fail
          go_ret;exact⟨by simp[mayB],HU4.out⟩
        | true=>
          go_wp2_with fail
          refine Calls.mono (HVN.out _ HU4.out) ?_;rintro e w5 ⟨rfl,hU5⟩;have hB5:=HB4.out.upd hU5 id;have hlt5:=hB5.lt;obtain⟨b0,b1,b2,b3,b4,b5,b6,b7,b8,b9,b10,b11,b12,b13,b14,b15⟩:=hB5.all16;have HB5:=qh hB5;have HU5:=qh (HU4.out.same hU5);clear hB5 hU5
          cases bvn with
          | false=>
            go_wp2_with fail
            go_ret;exact⟨by simp[mayB],HU5.out⟩
          | true=>
            go_wp2_with fail
            refine Calls.mono (HS1.out _ HU5.out) ?_;rintro e w6 ⟨rfl,hU6⟩;have hB6:=HB5.out.upd hU6 id;have hlt6:=hB6.lt;obtain⟨b0,b1,b2,b3,b4,b5,b6,b7,b8,b9,b10,b11,b12,b13,b14,b15⟩:=hB6.all16;have HB6:=qh hB6;have HU6:=qh (HU5.out.same hU6);clear hB6 hU6
            cases q1 with
            | false=>
              go_wp2_with fail
              go_ret;exact⟨by simp[mayB],HU6.out⟩
            | true=>
              go_wp2_with fail
              refine Calls.mono (HS2.out _ HU6.out) ?_;rintro e w7 ⟨rfl,hU7⟩;have hB7:=HB6.out.upd hU7 id;have hlt7:=hB7.lt;obtain⟨b0,b1,b2,b3,b4,b5,b6,b7,b8,b9,b10,b11,b12,b13,b14,b15⟩:=hB7.all16;have HB7:=qh hB7;have HU7:=qh (HU6.out.same hU7);clear hB7 hU7
              cases q2 with
              | false=>
                go_wp2_with fail
                go_ret;exact⟨by simp[mayB],HU7.out⟩
              | true=>
                go_wp2_with fail
                refine Calls.mono (HS3.out _ HU7.out) ?_;rintro e w8 ⟨rfl,hU8⟩;have hB8:=HB7.out.upd hU8 id;have hlt8:=hB8.lt;obtain⟨b0,b1,b2,b3,b4,b5,b6,b7,b8,b9,b10,b11,b12,b13,b14,b15⟩:=hB8.all16;have HB8:=qh hB8;have HU8:=qh (HU7.out.same hU8);clear hB8 hU8
                cases q3 with
                | false=>
                  go_wp2_with fail
                  go_ret;exact⟨by simp[mayB],HU8.out⟩
                | true=>
                  go_wp2_with fail
                  refine Calls.mono (HS4.out _ HU8.out) ?_;rintro e w9 ⟨rfl,hU9⟩;have hB9:=HB8.out.upd hU9 id;have hlt9:=hB9.lt;obtain⟨b0,b1,b2,b3,b4,b5,b6,b7,b8,b9,b10,b11,b12,b13,b14,b15⟩:=hB9.all16;have HB9:=qh hB9;have HU9:=qh (HU8.out.same hU9);clear hB9 hU9
                  cases q4 with
                  | false=>
                    go_wp2_with fail
                    go_ret;exact⟨by simp[mayB],HU9.out⟩
                  | true=>
                    go_wp2_with fail
                    refine Calls.mono (HS5.out _ HU9.out) ?_;rintro e w10 ⟨rfl,hU10⟩;have hB10:=HB9.out.upd hU10 id;have hlt10:=hB10.lt;obtain⟨b0,b1,b2,b3,b4,b5,b6,b7,b8,b9,b10,b11,b12,b13,b14,b15⟩:=hB10.all16;have HB10:=qh hB10;have HU10:=qh (HU9.out.same hU10);clear hB10 hU10
                    cases q5 with
                    | false=>
                      go_wp2_with fail
                      go_ret;exact⟨by simp[mayB],HU10.out⟩
                    | true=>
                      go_wp2_with fail
                      refine Calls.mono (HS6.out _ HU10.out) ?_;rintro e w11 ⟨rfl,hU11⟩;have hB11:=HB10.out.upd hU11 id;have hlt11:=hB11.lt;obtain⟨b0,b1,b2,b3,b4,b5,b6,b7,b8,b9,b10,b11,b12,b13,b14,b15⟩:=hB11.all16;have HB11:=qh hB11;have HU11:=qh (HU10.out.same hU11);clear hB11 hU11
                      cases q6 with
                      | false=>
                        go_wp2_with fail
                        go_ret;exact⟨by simp[mayB],HU11.out⟩
                      | true=>
                        go_wp2_with fail
                        go_ret;exact⟨by simp[mayB],HU11.out⟩
     have g2:(k == 2)=false:=by simpa using e2
     go_wp2_with fail
     refine Calls.mono (HS1.out _ HU2.out) ?_;rintro e w3 ⟨rfl,hU3⟩;have hB3:=HB2.out.upd hU3 id;have hlt3:=hB3.lt;obtain⟨b0,b1,b2,b3,b4,b5,b6,b7,b8,b9,b10,b11,b12,b13,b14,b15⟩:=hB3.all16;have HB3:=qh hB3;have HU3:=qh (HU2.out.same hU3);clear hB3 hU3
     cases q1 with
     | false=>
       go_wp2_with fail
       go_ret;exact⟨by simp[mayB,e7,e8,e1,e2],HU3.out⟩
     | true=>
       go_wp2_with fail
       refine Calls.mono (HS2.out _ HU3.out) ?_;rintro e w4 ⟨rfl,hU4⟩;have hB4:=HB3.out.upd hU4 id;have hlt4:=hB4.lt;obtain⟨b0,b1,b2,b3,b4,b5,b6,b7,b8,b9,b10,b11,b12,b13,b14,b15⟩:=hB4.all16;have HB4:=qh hB4;have HU4:=qh (HU3.out.same hU4);clear hB4 hU4
       cases q2 with
       | false=>
         go_wp2_with fail
         go_ret;exact⟨by simp[mayB,e7,e8,e1,e2],HU4.out⟩
       | true=>
         go_wp2_with fail
         refine Calls.mono (HS3.out _ HU4.out) ?_;rintro e w5 ⟨rfl,hU5⟩;have hB5:=HB4.out.upd hU5 id;have hlt5:=hB5.lt;obtain⟨b0,b1,b2,b3,b4,b5,b6,b7,b8,b9,b10,b11,b12,b13,b14,b15⟩:=hB5.all16;have HB5:=qh hB5;have HU5:=qh (HU4.out.same hU5);clear hB5 hU5
         cases q3 with
         | false=>
           go_wp2_with fail
           go_ret;exact⟨by simp[mayB,e7,e8,e1,e2],HU5.out⟩
         | true=>
           go_wp2_with fail
           refine Calls.mono (HS4.out _ HU5.out) ?_;rintro e w6 ⟨rfl,hU6⟩;have hB6:=HB5.out.upd hU6 id;have hlt6:=hB6.lt;obtain⟨b0,b1,b2,b3,b4,b5,b6,b7,b8,b9,b10,b11,b12,b13,b14,b15⟩:=hB6.all16;have HB6:=qh hB6;have HU6:=qh (HU5.out.same hU6);clear hB6 hU6
           cases q4 with
           | false=>
             go_wp2_with fail
             go_ret;exact⟨by simp[mayB,e7,e8,e1,e2],HU6.out⟩
           | true=>
             go_wp2_with fail
             refine Calls.mono (HS5.out _ HU6.out) ?_;rintro e w7 ⟨rfl,hU7⟩;have hB7:=HB6.out.upd hU7 id;have hlt7:=hB7.lt;obtain⟨b0,b1,b2,b3,b4,b5,b6,b7,b8,b9,b10,b11,b12,b13,b14,b15⟩:=hB7.all16;have HB7:=qh hB7;have HU7:=qh (HU6.out.same hU7);clear hB7 hU7
             cases q5 with
             | false=>
               go_wp2_with fail
               go_ret;exact⟨by simp[mayB,e7,e8,e1,e2],HU7.out⟩
             | true=>
               go_wp2_with fail
               refine Calls.mono (HS6.out _ HU7.out) ?_;rintro e w8 ⟨rfl,hU8⟩;have hB8:=HB7.out.upd hU8 id;have hlt8:=hB8.lt;obtain⟨b0,b1,b2,b3,b4,b5,b6,b7,b8,b9,b10,b11,b12,b13,b14,b15⟩:=hB8.all16;have HB8:=qh hB8;have HU8:=qh (HU7.out.same hU8);clear hB8 hU8
               cases q6 with
               | false=>
                 go_wp2_with fail
                 go_ret;exact⟨by simp[mayB,e7,e8,e1,e2],HU8.out⟩
               | true=>
                 go_wp2_with fail
                 go_ret;exact⟨by simp[mayB,e7,e8,e1,e2],HU8.out⟩
end Go.Proofs.YtljmmkjdlcfkpaaGreatDoor
