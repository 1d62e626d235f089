/-
  The log and all below it: part 6 of 10 (merged by mergew.py).
-/
import Derived.Test.YtdfccegeihfdpaaGreatDoorAPm5
set_option maxRecDepth 100000
set_option maxHeartbeats 2000000
namespace Go.Proofs.YtdfccegeihfdpaaGreatDoor
open Go Go.RowKit
def WrF(B W:Nat)(w:World)(k:Nat):Prop:=k=W∨(B≤k∧U8 w k)
theorem Upd.wr{B W:Nat}{a b c:World}(h:Upd (WrF B W a) a b)(h':Upd (WrF B W b) b c):Upd (WrF B W a) a c:=
 h.trans h' fun k hk hb=>Classical.byContradiction fun hn=>hn (by
  rcases hb with e | ⟨e0,cs,fz,e⟩
  ·exact .inl e
  ·exact .inr ⟨e0,cs,fz,(h.block k hk hn)▸e⟩)
theorem Blk.wr{B W g t:Nat}{w w':World}{cs:Array Value}(h:Blk w g t cs)(ht:t≠5)(hg:g≠W)(hu:Upd (WrF B W w) w w'):Blk w' g t cs:=
 h.upd hu fun e=>by
  rcases e with e | e
  ·exact hg e
  ·exact e.2.ne h ht rfl
theorem old_far{B W k:Nat}{w:World}(hk:k<B)(hW:B≤W):¬WrF B W w k:=fun e=>by
 rcases e with e | e
 ·omega
 ·have:=e.1;omega
def WrP(B W:Nat)(l:Bs)(w:World)(e:Ending)(w':World):Prop:=e= .returned (.tuple #[])∧WAt B w' W l∧Upd (WrF B W w) w w'
theorem put2_ok{B W:Nat}{l x:Bs}{v:Value}{w:World}(h:WAt B w W l)(hx:BytesE w v x)(hn:l.length+x.length≤100000):Calls Tryz.prog 160 #[.pointer (some ⟨W,0,none⟩),v] w (WrP B W (l++x) w):=by
 obtain⟨A,c,hb,ho⟩:=h.ex;obtain⟨A2,c2,rfl,_⟩:=hx.val;obtain⟨A3,c3,w3,hrun,ho3,hu3⟩:=byte_row.appU ho (by have:=h.ge;have:=hb.lt;omega) 143 hx hn
 have hne:(Value.slice A l.length c).ownBlock≠some W:=own_blk_ne ho.row hb (by decide)
 have hb3:=hb.upd hu3 hne;have hne3:(Value.slice A3 (l.length+x.length) c3).ownBlock≠some W:=own_blk_ne ho3.row hb3 (by decide)
 have hc:=hb.cell 0;have hc3:=hb3.cell 0;have hf3:=hb3.frozen 0;simp only[qA,qZ]at hc hc3;have HB3:=qh hb3;have HO:=qh ho;have HO3:=qh ho3;have HU3:=qh hu3;have HNE:=qh hne3;have HRUN:=qh hrun;have H:=qh h;have HX:=qh hx;clear hb ho hrun ho3 hu3 hne hb3 hne3 h hx;go_enter Tryz.func160,Tryz.ntmps160
 go_wp2_with (at_builtin;refine wpList_append_run rfl _ _ _ rfl rfl rfl HRUN.out ?_)
 go_end0;refine⟨rfl,⟨⟨A3,c3,by rw[qla];exact HB3.out.set_ 0 _,by rw[qla];exact HO3.out.upd ((Upd.refl (fun k=>k=W) w3).setCell (fun _=>rfl) _) fun k hk e=>HNE.out (e▸hk)⟩,H.out.ge⟩,?_⟩
 exact(HU3.out.mono fun k _ hk=> .inr ⟨HO.out.new k hk,by obtain⟨cs,hcs⟩:=HO.out.is_cells hk;exact⟨cs,_,hcs⟩⟩).setCell (fun _=> .inl rfl) _
theorem wnum2_ok{B W:Nat}{l:Bs}{w:World}(h:WAt B w W l)(n:Nat)(hn:n<9223372036854775808)(hl:l.length≤90000):Calls Tryz.prog 112 #[.pointer (some ⟨W,0,none⟩),.int .i64 (n:Int)] w (WrP B W (l++shortB n) w):=by
 have H:=qh h;have hs:(shortB n).length≤10:=shortB_len_le (k:=9) (by omega)
 have hn0:(0:Int)≤(n:Int):=by omega
 have HS:=qh hs;clear h hs;go_enter Tryz.func112,Tryz.ntmps112
 go_wp2_with fail
 refine(short_ok n hn _).mono ?_;rintro e w1 ⟨A,c,rfl,hO,hU⟩;have HW:=qh (H.out.upd hU fun _ _ _=>id)
 have HE:=qh hO.els;have HU:=qh hU;clear hO hU;go_wp2_with fail
 refine(put2_ok HW.out HE.out (by have:=HS.out;omega)).mono ?_
 rintro e w2 ⟨rfl,hW,hU⟩;have HW2:=qh hW;have HU2:=qh hU;clear hW hU;go_wp2_with fail
 go_end0;exact⟨rfl,HW2.out,HU.out.any.wr HU2.out⟩
theorem wtext2_ok{B W:Nat}{l:Bs}{w:World}(h:WAt B w W l)(s:Bs)(hn:s.length≤5000)(hl:l.length≤90000):Calls Tryz.prog 221 #[.pointer (some ⟨W,0,none⟩),.string ⟨s.toArray⟩] w (WrP B W (l++textB s) w):=by
 have H:=qh h;have hs:(shortB s.length).length≤10:=shortB_len_le (k:=9) (by omega)
 have HS:=qh hs;clear h hs;go_enter Tryz.func221,Tryz.ntmps221
 go_wp2_with fail
 refine(wnum2_ok H.out s.length (by omega) (by omega)).mono ?_
 rintro e w1 ⟨rfl,hW,hU⟩;have HW:=qh hW;have HU:=qh hU;clear hW hU;obtain⟨c,w2,hrun,hE,hU2,hsz,_⟩:=conv_bytes w1 s;have HRUN:=qh hrun;have HE:=qh hE;have HU2:=qh hU2;have HW2:=qh (HW.out.upd hU2 fun _ _ _=>id)
 clear hrun hE hU2 hsz;go_wp2_with (refine wpList_conv_run rfl 9 143 _ rfl rfl HRUN.out ?_)
 refine(put2_ok HW2.out HE.out (by have:=HS.out;simp only[qla];omega)).mono ?_
 rintro e w3 ⟨rfl,hW,hU3⟩;have HW3:=qh hW;have HU3:=qh hU3;clear hW hU3;go_wp2_with fail
 go_end0;refine⟨rfl,?_,(HU.out.wr HU2.out.any).wr HU3.out⟩;have:=HW3.out;rw[qaa]at this;exact this
theorem wflag2_ok{B W:Nat}{l:Bs}{w:World}(h:WAt B w W l)(b:Bool)(hl:l.length≤90000):Calls Tryz.prog 247 #[.pointer (some ⟨W,0,none⟩),.bool b] w (WrP B W (l++flagB b) w):=by
 have H:=qh h;clear h
 cases b
 case' false=>have HL:=qh (byte_lit w 0)
 case' true=>have HL:=qh (byte_lit w 1)
 all_goals
  have HA:=qh (H.out.upd ((Upd.refl Nowhere w).alloc (.cells #[.int .u8 0] 5)) fun _ _ _=>id)
  have HA1:=qh (H.out.upd ((Upd.refl Nowhere w).alloc (.cells #[.int .u8 1] 5)) fun _ _ _=>id)
  go_enter Tryz.func247,Tryz.ntmps247
  go_wp2_with fail
  refine(put2_ok (by first | exact HA.out | exact HA1.out) HL.out (by simp only[List.length_cons,List.length_nil];omega)).mono ?_
  rintro e w3 ⟨rfl,hW,hU3⟩;have HW3:=qh hW;have HU3:=qh hU3;clear hW hU3;go_wp2_with fail
  go_end0;exact⟨rfl,HW3.out,(((Upd.refl Nowhere w).alloc _).any).wr HU3.out⟩
def cW(W:Nat):Value:= .agg #[.pointer (some ⟨W,0,none⟩),.pointer none]
def cR(R:Nat):Value:= .agg #[.pointer none,.pointer (some ⟨R,0,none⟩)]
theorem Blk.noWr{B W g t:Nat}{w:World}{cs:Array Value}(h:Blk w g t cs)(ht:t≠5)(hg:g≠W):¬WrF B W w g:=fun e=>by
 rcases e with e | e
 ·exact hg e
 ·exact e.2.ne h ht rfl
theorem noWr_up{B W g:Nat}{w w':World}(h:¬WrF B W w g)(hg:g<w.heap.size)(hu:Upd Nowhere w w'):¬WrF B W w' g:=fun e=>h (by
 rcases e with e | ⟨e0,cs,fz,e⟩
 ·exact .inl e
 ·exact .inr ⟨e0,cs,fz,(hu.block g hg id)▸e⟩)
theorem cnum_w{B W:Nat}{l:Bs}{w:World}(h:WAt B w W l){g off:Nat}(n:Nat)(hg:g<w.heap.size)(hf:¬WrF B W w g)(hc:w.cell? ⟨g,off,none⟩=some (.int .i64 (n:Int)))(hn:n<9223372036854775808)(hl:l.length≤90000):
 Calls Tryz.prog 193 #[cW W,.pointer (some ⟨g,off,none⟩)] w (WrP B W (l++shortB n) w):=by
 have hU0:=(Upd.refl Nowhere w).alloc (.cells #[.pointer (some ⟨W,0,none⟩),.pointer none] 214);have hB:=Blk.new w 214 #[.pointer (some ⟨W,0,none⟩),.pointer none];have hW1:=h.upd hU0.drew fun _ _ _=>id
 have c1:=(hU0.cell (p:=⟨g,off,none⟩) hg id).trans hc;have HN:=qh (wnum2_ok hW1 n hn hl);have hf1:=noWr_up hf hg hU0.drew;have hbW:w.heap.size≠W:=by have:=h.lt;omega
 have hk:∀w2,Upd (WrF B W (w.alloc (.cells #[.pointer (some ⟨W,0,none⟩),.pointer none] 214)).drew) (w.alloc (.cells #[.pointer (some ⟨W,0,none⟩),.pointer none] 214)).drew w2→w2.cell? ⟨g,off,none⟩=some (.int .i64 (n:Int))∧w2.cell? ⟨w.heap.size,0,none⟩=some (.pointer (some ⟨W,0,none⟩)):=fun w2 hu=>⟨(hu.cell (p:=⟨g,off,none⟩) (Nat.lt_of_lt_of_le hg hU0.size) hf1).trans c1,(hu.cell (p:=⟨w.heap.size,0,none⟩) hB.lt (hB.noWr (by decide) hbW)).trans (hB.cell 0)⟩
 have HK:=qh hk;have HU0:=qh hU0;have b0:=hB.cell 0;simp only[qA,qZ]at b0;clear hk h hf hf1 hbW hU0 hW1 hn hl hB;unfold cW;go_enter Tryz.func193,Tryz.ntmps193
 go_wp2_with fail
 go_region_held3 (fun w'=>w'.cell? ⟨g,off,none⟩=some (.int .i64 (n:Int))∧w'.cell? ⟨w.heap.size,0,none⟩=some (.pointer (some ⟨W,0,none⟩))) (first | exact⟨c1,b0⟩ | exact k2)
  (first
    | (go_at_call 112
       refine HN.out.mono ?_;rintro e w2 ⟨rfl,hW,hU⟩;have k2:=HK.out _ hU;have HW2:=qh hW;have HU2:=qh hU;clear hW hU))
 all_goals
  go_wp2_with fail
  refine ret_none rfl rfl ?_;exact⟨rfl,HW2.out,HU0.out.drew.any.wr HU2.out⟩
theorem ctext_w{B W:Nat}{l:Bs}{w:World}(h:WAt B w W l){g off:Nat}(s:Bs)(hg:g<w.heap.size)(hf:¬WrF B W w g)(hc:w.cell? ⟨g,off,none⟩=some (strV s))(hn:s.length≤5000)(hl:l.length≤90000):
 Calls Tryz.prog 183 #[cW W,.pointer (some ⟨g,off,none⟩)] w (WrP B W (l++textB s) w):=by
 have hU0:=(Upd.refl Nowhere w).alloc (.cells #[.pointer (some ⟨W,0,none⟩),.pointer none] 214);have hB:=Blk.new w 214 #[.pointer (some ⟨W,0,none⟩),.pointer none];have hW1:=h.upd hU0.drew fun _ _ _=>id
 have c1:=(hU0.cell (p:=⟨g,off,none⟩) hg id).trans hc;have HN:=qh (wtext2_ok hW1 s hn hl);have hf1:=noWr_up hf hg hU0.drew;have hbW:w.heap.size≠W:=by have:=h.lt;omega
 have hk:∀w2,Upd (WrF B W (w.alloc (.cells #[.pointer (some ⟨W,0,none⟩),.pointer none] 214)).drew) (w.alloc (.cells #[.pointer (some ⟨W,0,none⟩),.pointer none] 214)).drew w2→w2.cell? ⟨g,off,none⟩=some (strV s)∧w2.cell? ⟨w.heap.size,0,none⟩=some (.pointer (some ⟨W,0,none⟩)):=fun w2 hu=>⟨(hu.cell (p:=⟨g,off,none⟩) (Nat.lt_of_lt_of_le hg hU0.size) hf1).trans c1,(hu.cell (p:=⟨w.heap.size,0,none⟩) hB.lt (hB.noWr (by decide) hbW)).trans (hB.cell 0)⟩
 have HK:=qh hk;have HU0:=qh hU0;have b0:=hB.cell 0;simp only[qA,qZ]at b0;clear hk h hf hf1 hbW hU0 hW1 hn hl hB;unfold cW;go_enter Tryz.func183,Tryz.ntmps183
 go_wp2_with fail
 go_region_held3 (fun w'=>w'.cell? ⟨g,off,none⟩=some (strV s)∧w'.cell? ⟨w.heap.size,0,none⟩=some (.pointer (some ⟨W,0,none⟩))) (first | exact⟨c1,b0⟩ | exact k2)
  (first
    | (go_at_call 221
       refine HN.out.mono ?_;rintro e w2 ⟨rfl,hW,hU⟩;have k2:=HK.out _ hU;have HW2:=qh hW;have HU2:=qh hU;clear hW hU))
 all_goals
  go_wp2_with fail
  refine ret_none rfl rfl ?_;exact⟨rfl,HW2.out,HU0.out.drew.any.wr HU2.out⟩
theorem cflag_w{B W:Nat}{l:Bs}{w:World}(h:WAt B w W l){g off:Nat}(x:Bool)(hg:g<w.heap.size)(hf:¬WrF B W w g)(hc:w.cell? ⟨g,off,none⟩=some (.bool x))(hl:l.length≤90000):
 Calls Tryz.prog 240 #[cW W,.pointer (some ⟨g,off,none⟩)] w (WrP B W (l++flagB x) w):=by
 have hU0:=(Upd.refl Nowhere w).alloc (.cells #[.pointer (some ⟨W,0,none⟩),.pointer none] 214);have hB:=Blk.new w 214 #[.pointer (some ⟨W,0,none⟩),.pointer none];have hW1:=h.upd hU0.drew fun _ _ _=>id
 have c1:=(hU0.cell (p:=⟨g,off,none⟩) hg id).trans hc;have HN:=qh (wflag2_ok hW1 x hl);have hf1:=noWr_up hf hg hU0.drew;have hbW:w.heap.size≠W:=by have:=h.lt;omega
 have hk:∀w2,Upd (WrF B W (w.alloc (.cells #[.pointer (some ⟨W,0,none⟩),.pointer none] 214)).drew) (w.alloc (.cells #[.pointer (some ⟨W,0,none⟩),.pointer none] 214)).drew w2→w2.cell? ⟨g,off,none⟩=some (.bool x)∧w2.cell? ⟨w.heap.size,0,none⟩=some (.pointer (some ⟨W,0,none⟩)):=fun w2 hu=>⟨(hu.cell (p:=⟨g,off,none⟩) (Nat.lt_of_lt_of_le hg hU0.size) hf1).trans c1,(hu.cell (p:=⟨w.heap.size,0,none⟩) hB.lt (hB.noWr (by decide) hbW)).trans (hB.cell 0)⟩
 have HK:=qh hk;have HU0:=qh hU0;have b0:=hB.cell 0;simp only[qA,qZ]at b0;clear hk h hf hf1 hbW hU0 hW1 hl hB;unfold cW;go_enter Tryz.func240,Tryz.ntmps240
 go_wp2_with fail
 go_region_held3 (fun w'=>w'.cell? ⟨g,off,none⟩=some (.bool x)∧w'.cell? ⟨w.heap.size,0,none⟩=some (.pointer (some ⟨W,0,none⟩))) (first | exact⟨c1,b0⟩ | exact k2)
  (first
    | (go_at_call 247
       refine HN.out.mono ?_;rintro e w2 ⟨rfl,hW,hU⟩;have k2:=HK.out _ hU;have HW2:=qh hW;have HU2:=qh hU;clear hW hU))
 all_goals
  go_wp2_with fail
  refine ret_none rfl rfl ?_;exact⟨rfl,HW2.out,HU0.out.drew.any.wr HU2.out⟩
theorem cval_w{B W:Nat}{l:Bs}{w:World}(h:WAt B w W l){g off t:Nat}{cs:Array Value}(hg:Blk w g t cs)(ht:t≠5)(hgW:g≠W)(x:Bool)(s:Bs)(hx:cs[off]? =some (.bool x))(hs:cs[off+1]? =some (strV s))(hn:s.length≤5000)(hl:l.length≤86000):
 Calls Tryz.prog 184 #[cW W,.pointer (some ⟨g,off,none⟩)] w (WrP B W (l++valB x s) w):=by
 have hU0:=(Upd.refl Nowhere w).alloc (.cells #[.pointer (some ⟨W,0,none⟩),.pointer none] 214);have hB:=Blk.new w 214 #[.pointer (some ⟨W,0,none⟩),.pointer none];have hW1:=h.upd hU0.drew fun _ _ _=>id
 have hg1:=hg.upd hU0 id;have hne:w.heap.size≠W:=by have:=h.lt;omega
 have HN:=qh (cflag_w hW1 (g:=g) (off:=off) x hg1.lt ((hg.alloc _).drew.noWr ht hgW) ((hg1.cell off).trans hx) (by omega))
 have hk:∀w1 w2,Blk w1 w.heap.size 214 #[.pointer (some ⟨W,0,none⟩),.pointer none]→Upd (WrF B W w1) w1 w2→w2.cell? ⟨w.heap.size,0,none⟩=some (.pointer (some ⟨W,0,none⟩))∧w2.cell? ⟨w.heap.size,1,none⟩=some (.pointer none):=fun w1 w2 hb hu=>⟨(hu.cell (p:=⟨w.heap.size,0,none⟩) hb.lt (hb.noWr (by decide) hne)).trans (hb.cell 0),(hu.cell (p:=⟨w.heap.size,1,none⟩) hb.lt (hb.noWr (by decide) hne)).trans (hb.cell 1)⟩
 have HK:=qh hk;have HU0:=qh hU0;have HB:=qh hB;have HG1:=qh hg1;have b0:=hB.cell 0;have b1:=hB.cell 1;simp only[qA,qZ,qS]at b0 b1;have HS:=qh hs;have HX:=qh hx;have HL:=qh hl;clear hk h hU0 hW1 hB hg hg1 hs hx hl;unfold cW at*;go_enter Tryz.func184,Tryz.ntmps184
 go_wp2_with fail
 go_cut [8] (fun _ wz=>WAt B wz W (l++flagB x)∧Upd (WrF B W (w.alloc (.cells #[.pointer (some ⟨W,0,none⟩),.pointer none] 214))) (w.alloc (.cells #[.pointer (some ⟨W,0,none⟩),.pointer none] 214)) wz)
 case first=>
  go_region_held3 (fun w'=>w'.cell? ⟨w.heap.size,0,none⟩=some (.pointer (some ⟨W,0,none⟩))∧w'.cell? ⟨w.heap.size,1,none⟩=some (.pointer none)) (first | exact⟨b0,b1⟩ | exact k2)
   (first
     | (go_at_call 240
        refine HN.out.mono ?_;rintro e w2 ⟨rfl,hW,hU⟩;have k2:=HK.out _ _ HB.out.drew hU;have HW2:=qh hW;have HU2:=qh hU;clear hW hU))
  all_goals
   go_wp2_with fail
   go_meet;exact⟨HW2.out,⟨HU2.out.os,HU2.out.tape,HU2.out.output,HU2.out.size,HU2.out.block⟩⟩
 case rest=>
  obtain⟨hW2,hU2⟩:=hcut;have hB2:=HB.out.wr (by decide) hne hU2
  have hG2:=HG1.out.wr ht hgW hU2;have b0:=hB2.cell 0;have b1:=hB2.cell 1;have g0:=(hG2.cell off).trans HX.out;simp only[qA,qZ,qS]at b0 b1
  cases x with
  | false=>
    have HW2:=qh hW2;have HU2:=qh hU2;clear hW2 hU2 hB2 hG2;go_wp2_with fail
    refine ret_none rfl rfl ?_;exact⟨rfl,HW2.out,HU0.out.any.wr HU2.out⟩
  | true=>
    have HT:=qh (ctext_w (hW2.upd (Upd.refl Nowhere _).drew fun _ _ _=>id) (g:=g) (off:=off+1) s hG2.lt (hG2.drew.noWr ht hgW) ((hG2.cell (off+1)).trans HS.out) hn (by rw[qla];have:=HL.out;simp only[flagB,qls];omega))
    have HU2:=qh hU2;have HB2:=qh hB2;clear hW2 hU2 hB2 hG2;unfold cW at*;go_wp2_with fail
    go_region_held3 (fun w'=>w'.cell? ⟨w.heap.size,0,none⟩=some (.pointer (some ⟨W,0,none⟩))∧w'.cell? ⟨w.heap.size,1,none⟩=some (.pointer none)) (first | exact⟨b0,b1⟩ | exact k2)
     (first
       | (go_at_call 183
          refine HT.out.mono ?_;rintro e w3 ⟨rfl,hW,hU⟩;have k2:=HK.out _ _ HB2.out.drew hU;have HW3:=qh hW;have HU3:=qh hU;clear hW hU))
    all_goals
     go_wp2_with fail
     refine ret_none rfl rfl ?_;refine⟨rfl,?_,HU0.out.any.wr (HU2.out.wr ⟨HU3.out.os,HU3.out.tape,HU3.out.output,HU3.out.size,HU3.out.block⟩)⟩;have:=HW3.out;rw[qaa]at this;exact this
def ptrC(p:Nat×Nat):Value:= .pointer (some ⟨p.1,p.2,none⟩)
structure NumAt(B W:Nat)(w:World)(p:Nat×Nat)(n:Int):Prop where
 lt:p.1<w.heap.size
 far:¬WrF B W w p.1
 cell:w.cell? ⟨p.1,p.2,none⟩=some (.int .i64 n)
 ge:0≤n
 le:n<9223372036854775808
theorem noWr_wr{B W g:Nat}{w w':World}(h:¬WrF B W w g)(hg:g<w.heap.size)(hu:Upd (WrF B W w) w w'):¬WrF B W w' g:=fun e=>h (by
 rcases e with e | ⟨e0,cs,fz,e⟩
 ·exact .inl e
 ·exact .inr ⟨e0,cs,fz,(hu.block g hg h)▸e⟩)
theorem NumAt.wr{B W:Nat}{w w':World}{p:Nat×Nat}{n:Int}(h:NumAt B W w p n)(hu:Upd (WrF B W w) w w'):NumAt B W w' p n:=
 ⟨Nat.lt_of_lt_of_le h.lt hu.size,noWr_wr h.far h.lt hu,(hu.cell (p:=⟨p.1,p.2,none⟩) h.lt h.far).trans h.cell,h.ge,h.le⟩
theorem cnumZ_w{B W:Nat}{l:Bs}{w:World}(h:WAt B w W l){p:Nat×Nat}{n:Int}(hp:NumAt B W w p n)(hl:l.length≤90000):
 Calls Tryz.prog 193 #[cW W,ptrC p] w (WrP B W (l++numZ n) w):=by
 obtain⟨m,rfl⟩:=Int.eq_ofNat_of_zero_le hp.ge;exact cnum_w h m hp.lt hp.far hp.cell (by have:=hp.le;omega) hl
theorem take_flat{α:Type}(f:α→Bs){l:List α}{k:Nat}{x:α}(h:l[k]? =some x):(l.take (k+1)).flatMap f=(l.take k).flatMap f++f x:=by
 obtain⟨hk,rfl⟩:=qei.1 h;rw[show l.take (k+1)=l.take k++[l[k]] from(List.take_append_getElem hk).symm,List.flatMap_append];simp
theorem flat_le{α:Type}(f:α→Bs)(l:List α)(k:Nat):((l.take k).flatMap f).length≤(l.flatMap f).length:=by
 conv=>rhs;rw[←List.take_append_drop k l,List.flatMap_append,qla]
 omega
theorem nums_w{B W vb:Nat}{l:Bs}{w:World}(h:WAt B w W l){ps:List (Nat×Nat)}{ns:List Int}(hv:Blk w vb 194 (ps.map ptrC).toArray)(hvW:vb≠W)(hn:ps.length≤10)(hps:∀(i:Nat) (p:Nat×Nat),ps[i]? =some p→∃n,ns[i]? =some n∧NumAt B W w p n)(hpn:ps.length=ns.length)(hl:l.length+(ns.flatMap numZ).length≤85000):
 Calls Tryz.prog 182 #[cW W,.slice (some ⟨vb,0,none⟩) ps.length ps.length] w (WrP B W (l++ns.flatMap numZ) w):=by
 have hU0:=(Upd.refl Nowhere w).alloc (.cells #[.pointer (some ⟨W,0,none⟩),.pointer none] 214);have hB:=Blk.new w 214 #[.pointer (some ⟨W,0,none⟩),.pointer none];have hW1:=h.upd hU0 fun _ _ _=>id
 have hv1:=hv.upd hU0 id
 have hps1:∀(i:Nat) (p:Nat×Nat),ps[i]? =some p→∃n,ns[i]? =some n∧NumAt B W (w.alloc (.cells #[.pointer (some ⟨W,0,none⟩),.pointer none] 214)) p n:=fun i p hp=>by
  obtain⟨n,h1,h2⟩:=hps i p hp;exact⟨n,h1,Nat.lt_of_lt_of_le h2.lt hU0.size,noWr_up h2.far h2.lt hU0,(hU0.cell (p:=⟨p.1,p.2,none⟩) h2.lt id).trans h2.cell,h2.ge,h2.le⟩
 have hne:w.heap.size≠W:=by have:=h.lt;omega
 have HU0:=qh hU0;have HB:=qh hB;have HW1:=qh hW1;have HV1:=qh hv1;have HPS:=qh hps1;have HPN:=qh hpn;have HL:=qh hl;have hN:(ps.length:Int)≤10:=by omega
 obtain⟨N,hNN⟩:∃N,ps.length=N:=⟨_,rfl⟩;have HNN:=qh hNN;rw[hNN]at hN ⊢;clear h hU0 hW1 hB hv hv1 hps hps1 hpn hl hn hNN;unfold cW at*;go_enter Tryz.func182,Tryz.ntmps182
 go_wp2_with fail
 generalize w.alloc (.cells #[.pointer (some ⟨W,0,none⟩),.pointer none] 214)=w1 at*;generalize w.heap.size=bx at*;go_loopw [8] (fun s8 wr=>∃k:Nat,s8= .int .i64 (k:Int)∧k≤N∧WAt B wr W (l++(ns.take k).flatMap numZ)∧Upd (WrF B W w1) w1 wr) (fun s8 _=>N - (intOf s8).toNat)
 case atStart=>exact⟨0,rfl,by omega,by rw[List.take_zero,List.flatMap_nil,List.append_nil];exact HW1.out,Upd.refl _ _⟩
 case round=>
  obtain⟨k,rfl,hk,hW,hu⟩:=hrel;by_cases hkN:k<N
  ·obtain⟨p,hp⟩:∃p,ps[k]? =some p:=⟨_,qeg (by rw[HNN.out];exact hkN)⟩
   obtain⟨n,hn,hat⟩:=HPS.out k p hp;have hat2:=hat.wr hu;have hBr:=HB.out.wr (by decide) hne hu
   have hVr:=HV1.out.wr (by decide) hvW hu
   have cv:=hVr.cell k;rw[qA,qgm,hp]at cv;simp only[Option.map_some]at cv;have htk:=take_flat numZ hn;have hfl:=flat_le numZ ns k;have hnum:=cnumZ_w hW hat2 (by rw[qla];have:=HL.out;omega)
   have b0:=hBr.cell 0;have b1:=hBr.cell 1;simp only[qA,qZ,qS]at b0 b1;have HN:=qh hnum;have HTK:=qh htk;have HU:=qh hu;have hkI:(k:Int)<(N:Int):=by omega
   have HKN:=qh hkN;unfold ptrC at cv HN;unfold cW at HN;clear hW hu hp hn hat hat2 hBr hVr htk hfl hnum hk hkN;go_wp2_with fail
   refine HN.out.mono ?_;rintro e w2 ⟨rfl,hW,hU⟩;have HW2:=qh hW;have HU2:=qh hU;clear hW hU;go_wp2_with fail
   go_roundw
   case rel=>exact⟨k+1,by go_num,HKN.out,by rw[HTK.out,←qaa];exact HW2.out,HU.out.wr HU2.out⟩
   case measure=>
    have:=HKN.out;simp only[intOf];omega
  ·obtain rfl:k=N:=by omega
   have HW:=qh hW;have HU:=qh hu;clear hW hu hk;go_wp2_with fail
   go_end0;refine⟨rfl,?_,HU0.out.any.wr HU.out⟩;have:=HW.out;rw[List.take_of_length_le (by rw[←HPN.out,HNN.out];exact qlr _)]at this
   exact this
def ItemW{α:Type}(B W:Nat)(w:World)(sz:Nat)(v:Value)(L:List α)(enc:α→Bs)(fid:FuncId)(args:Value→Array Value):Prop:=
 ∀(i:Nat) (x:α) (b off n c:Nat) (w':World) (l':Bs),v= .slice (some ⟨b,off,none⟩) n c→L[i]? =some x→WAt B w' W l'→Upd (WrF B W w) w w'→l'.length+(enc x).length≤85000→
  Calls Tryz.prog fid (args (.pointer (some ⟨b,off+i * sz,none⟩))) w' (WrP B W (l'++enc x) w')
theorem eachI_w{B W:Nat}{l:Bs}{w:World}(h:WAt B w W l){g off:Nat}(hg:g<w.heap.size)(hf:¬WrF B W w g){v:Value}(hc:w.cell? ⟨g,off,none⟩=some v){α:Type}{cells:α→List Value}(hsz:∀a,(cells a).length=1){L:List α}(hE:Els 1 cells w v L)(hn:L.length≤300)(enc:α→Bs)
 (fid:FuncId) (bs caps:Array Value) (hcf:∀args w,(callFunc fid args).run Tryz.prog w= .ok (.enter fid args) w) (args:Value→Array Value) (hargs:∀x,bs++#[x]++caps=args x) (hitem:ItemW B W w 1 v L enc fid args) (hl:l.length+(listB enc L).length≤85000):
 Calls Tryz.prog 241 #[cW W,.pointer (some ⟨g,off,none⟩),.func (.func fid) bs caps] w (WrP B W (l++listB enc L) w):=by
 obtain⟨A,cc,rfl,_⟩:=hE.val;have hU0:=(Upd.refl Nowhere w).alloc (.cells #[.pointer (some ⟨W,0,none⟩),.pointer none] 214);have hB:=Blk.new w 214 #[.pointer (some ⟨W,0,none⟩),.pointer none];have hW1:=h.upd hU0 fun _ _ _=>id
 have hne:w.heap.size≠W:=by have:=h.lt;omega
 have hg1:g<(w.alloc (.cells #[.pointer (some ⟨W,0,none⟩),.pointer none] 214)).heap.size:=Nat.lt_of_lt_of_le hg hU0.size;have hf1:=noWr_up hf hg hU0;have c1:=(hU0.cell (p:=⟨g,off,none⟩) hg id).trans hc;have hlb:listB enc L=numZ (L.length:Nat)++L.flatMap enc:=rfl;rw[hlb,qla]at hl;have hnum:=wnum2_ok hW1 L.length (by omega) (by omega)
 have HN:=qh hnum;have HU0:=qh hU0;have HB:=qh hB;have HE:=qh hE;have HG1:=qh hg1;have HF1:=qh hf1;have HL:=qh hl;have HLB:=qh hlb;have HSZ:=qh hsz;have HIT:=qh hitem;have C1:=qh c1;have hnI:((L.length:Nat):Int)≤300:=by omega
 have b0:=hB.cell 0;have b1:=hB.cell 1;simp only[qA,qZ,qS]at b0 b1;obtain⟨N,hN⟩:∃N,L.length=N:=⟨_,rfl⟩;have HNN:=qh hN;rw[hN]at hnI HN c1 C1 HIT HE;clear h hU0 hW1 hB hg hf hc hE hg1 hf1 hl hlb hn hitem hnum hN hsz;unfold cW at*;go_enter Tryz.func241,Tryz.ntmps241
 go_wp2_with fail
 refine HN.out.mono ?_;rintro e w2 ⟨rfl,hW2,hU2⟩;have HW2:=qh hW2;have HU2:=qh hU2;clear hW2 hU2 HN b0 b1 c1;go_wp2_with fail
 generalize w.alloc (.cells #[.pointer (some ⟨W,0,none⟩),.pointer none] 214)=w1 at*;go_loopw [31] (fun s31 wr=>∃k:Nat,s31= .int .i64 (k:Int)∧k≤N∧WAt B wr W (l++shortB N++(L.take k).flatMap enc)∧Upd (WrF B W w1) w1 wr) (fun s31 _=>N - (intOf s31).toNat)
 case atStart=>exact⟨0,rfl,by omega,by rw[List.take_zero,List.flatMap_nil,List.append_nil];exact HW2.out,HU2.out⟩
 case round=>
  obtain⟨k,rfl,hk,hW,hu⟩:=hrel;by_cases hkN:k<N
  ·obtain⟨x,hx⟩:∃x,L[k]? =some x:=⟨_,qeg (by rw[HNN.out];exact hkN)⟩
   obtain⟨bb,oo,ccc,he,hbb,_⟩:=HE.out.get HSZ.out hx;injection he with he1 he2 he3
   subst he1;have c2:=(hu.cell (p:=⟨g,off,none⟩) HG1.out HF1.out).trans C1.out;have htk:=take_flat enc hx;have hfl:=flat_le enc L (k+1);rw[htk,qla]at hfl
   have hit:=HIT.out k x bb oo N cc wr (l++shortB N++(L.take k).flatMap enc) rfl hx hW (HU0.out.any.wr hu) (by
    have:=HL.out;rw[HNN.out]at this;have e:numZ (N:Nat)=shortB N:=rfl;rw[e]at this;simp only[qla];omega)
   simp only[←hargs]at hit;rw[Nat.mul_one]at hit;have HI:=qh hit;have HTK:=qh htk;have HU:=qh hu;have hkI:(k:Int)<(N:Int):=by omega
   have HKN:=qh hkN;clear hW hu hx htk hfl hit hk hkN hbb he2 he3;go_wp2_with fail
   refine HI.out.mono ?_;rintro e w3 ⟨rfl,hW3,hU3⟩;have HW3:=qh hW3;have HU3:=qh hU3;clear hW3 hU3;go_wp2_with fail
   go_roundw
   case rel=>exact⟨k+1,by go_num,HKN.out,by rw[HTK.out,←qaa];exact HW3.out,HU.out.wr HU3.out⟩
   case measure=>
    have:=HKN.out;simp only[intOf];omega
  ·obtain rfl:k=N:=by omega
   have HW:=qh hW;have HU:=qh hu;clear hW hu hk;go_wp2_with fail
   go_end0;refine⟨rfl,?_,HU0.out.any.wr HU.out⟩;have:=HW.out;rw[List.take_of_length_le (by rw[HNN.out];exact qlr _)]at this
   rw[HLB.out,HNN.out,←qaa];exact this
theorem eachL_w{B W:Nat}{l:Bs}{w:World}(h:WAt B w W l){g off:Nat}(hg:g<w.heap.size)(hf:¬WrF B W w g){v:Value}(hc:w.cell? ⟨g,off,none⟩=some v){α:Type}{cells:α→List Value}(hsz:∀a,(cells a).length=2){L:List α}(hE:Els 2 cells w v L)(hn:L.length≤300)(enc:α→Bs)
 (fid:FuncId) (bs caps:Array Value) (hcf:∀args w,(callFunc fid args).run Tryz.prog w= .ok (.enter fid args) w) (args:Value→Array Value) (hargs:∀x,bs++#[x]++caps=args x) (hitem:ItemW B W w 2 v L enc fid args) (hl:l.length+(listB enc L).length≤85000):
 Calls Tryz.prog 242 #[cW W,.pointer (some ⟨g,off,none⟩),.func (.func fid) bs caps] w (WrP B W (l++listB enc L) w):=by
 obtain⟨A,cc,rfl,_⟩:=hE.val;have hU0:=(Upd.refl Nowhere w).alloc (.cells #[.pointer (some ⟨W,0,none⟩),.pointer none] 214);have hB:=Blk.new w 214 #[.pointer (some ⟨W,0,none⟩),.pointer none];have hW1:=h.upd hU0 fun _ _ _=>id
 have hne:w.heap.size≠W:=by have:=h.lt;omega
 have hg1:g<(w.alloc (.cells #[.pointer (some ⟨W,0,none⟩),.pointer none] 214)).heap.size:=Nat.lt_of_lt_of_le hg hU0.size;have hf1:=noWr_up hf hg hU0;have c1:=(hU0.cell (p:=⟨g,off,none⟩) hg id).trans hc;have hlb:listB enc L=numZ (L.length:Nat)++L.flatMap enc:=rfl;rw[hlb,qla]at hl;have hnum:=wnum2_ok hW1 L.length (by omega) (by omega)
 have HN:=qh hnum;have HU0:=qh hU0;have HB:=qh hB;have HE:=qh hE;have HG1:=qh hg1;have HF1:=qh hf1;have HL:=qh hl;have HLB:=qh hlb;have HSZ:=qh hsz;have HIT:=qh hitem;have C1:=qh c1;have hnI:((L.length:Nat):Int)≤300:=by omega
 have b0:=hB.cell 0;have b1:=hB.cell 1;simp only[qA,qZ,qS]at b0 b1;obtain⟨N,hN⟩:∃N,L.length=N:=⟨_,rfl⟩;have HNN:=qh hN;rw[hN]at hnI HN c1 C1 HIT HE;clear h hU0 hW1 hB hg hf hc hE hg1 hf1 hl hlb hn hitem hnum hN hsz;unfold cW at*;go_enter Tryz.func242,Tryz.ntmps242
 go_wp2_with fail
 refine HN.out.mono ?_;rintro e w2 ⟨rfl,hW2,hU2⟩;have HW2:=qh hW2;have HU2:=qh hU2;clear hW2 hU2 HN b0 b1 c1;go_wp2_with fail
 generalize w.alloc (.cells #[.pointer (some ⟨W,0,none⟩),.pointer none] 214)=w1 at*;go_loopw [31] (fun s31 wr=>∃k:Nat,s31= .int .i64 (k:Int)∧k≤N∧WAt B wr W (l++shortB N++(L.take k).flatMap enc)∧Upd (WrF B W w1) w1 wr) (fun s31 _=>N - (intOf s31).toNat)
 case atStart=>exact⟨0,rfl,by omega,by rw[List.take_zero,List.flatMap_nil,List.append_nil];exact HW2.out,HU2.out⟩
 case round=>
  obtain⟨k,rfl,hk,hW,hu⟩:=hrel;by_cases hkN:k<N
  ·obtain⟨x,hx⟩:∃x,L[k]? =some x:=⟨_,qeg (by rw[HNN.out];exact hkN)⟩
   obtain⟨bb,oo,ccc,he,hbb,_⟩:=HE.out.get HSZ.out hx;injection he with he1 he2 he3
   subst he1;have c2:=(hu.cell (p:=⟨g,off,none⟩) HG1.out HF1.out).trans C1.out;have htk:=take_flat enc hx;have hfl:=flat_le enc L (k+1);rw[htk,qla]at hfl
   have hit:=HIT.out k x bb oo N cc wr (l++shortB N++(L.take k).flatMap enc) rfl hx hW (HU0.out.any.wr hu) (by
    have:=HL.out;rw[HNN.out]at this;have e:numZ (N:Nat)=shortB N:=rfl;rw[e]at this;simp only[qla];omega)
   simp only[←hargs]at hit;have HI:=qh hit;have HTK:=qh htk;have HU:=qh hu;have hkI:(k:Int)<(N:Int):=by omega
   have HKN:=qh hkN;clear hW hu hx htk hfl hit hk hkN hbb he2 he3;go_wp2_with fail
   refine HI.out.mono ?_;rintro e w3 ⟨rfl,hW3,hU3⟩;have HW3:=qh hW3;have HU3:=qh hU3;clear hW3 hU3;go_wp2_with fail
   go_roundw
   case rel=>exact⟨k+1,by go_num,HKN.out,by rw[HTK.out,←qaa];exact HW3.out,HU.out.wr HU3.out⟩
   case measure=>
    have:=HKN.out;simp only[intOf];omega
  ·obtain rfl:k=N:=by omega
   have HW:=qh hW;have HU:=qh hu;clear hW hu hk;go_wp2_with fail
   go_end0;refine⟨rfl,?_,HU0.out.any.wr HU.out⟩;have:=HW.out;rw[List.take_of_length_le (by rw[HNN.out];exact qlr _)]at this
   rw[HLB.out,HNN.out,←qaa];exact this
theorem eachR_w{B W:Nat}{l:Bs}{w:World}(h:WAt B w W l){g off:Nat}(hg:g<w.heap.size)(hf:¬WrF B W w g){v:Value}(hc:w.cell? ⟨g,off,none⟩=some v){α:Type}{cells:α→List Value}(hsz:∀a,(cells a).length=8){L:List α}(hE:Els 8 cells w v L)(hn:L.length≤300)(enc:α→Bs)
 (fid:FuncId) (bs caps:Array Value) (hcf:∀args w,(callFunc fid args).run Tryz.prog w= .ok (.enter fid args) w) (args:Value→Array Value) (hargs:∀x,bs++#[x]++caps=args x) (hitem:ItemW B W w 8 v L enc fid args) (hl:l.length+(listB enc L).length≤85000):
 Calls Tryz.prog 187 #[cW W,.pointer (some ⟨g,off,none⟩),.func (.func fid) bs caps] w (WrP B W (l++listB enc L) w):=by
 obtain⟨A,cc,rfl,_⟩:=hE.val;have hU0:=(Upd.refl Nowhere w).alloc (.cells #[.pointer (some ⟨W,0,none⟩),.pointer none] 214);have hB:=Blk.new w 214 #[.pointer (some ⟨W,0,none⟩),.pointer none];have hW1:=h.upd hU0 fun _ _ _=>id
 have hne:w.heap.size≠W:=by have:=h.lt;omega
 have hg1:g<(w.alloc (.cells #[.pointer (some ⟨W,0,none⟩),.pointer none] 214)).heap.size:=Nat.lt_of_lt_of_le hg hU0.size;have hf1:=noWr_up hf hg hU0;have c1:=(hU0.cell (p:=⟨g,off,none⟩) hg id).trans hc;have hlb:listB enc L=numZ (L.length:Nat)++L.flatMap enc:=rfl;rw[hlb,qla]at hl;have hnum:=wnum2_ok hW1 L.length (by omega) (by omega)
 have HN:=qh hnum;have HU0:=qh hU0;have HB:=qh hB;have HE:=qh hE;have HG1:=qh hg1;have HF1:=qh hf1;have HL:=qh hl;have HLB:=qh hlb;have HSZ:=qh hsz;have HIT:=qh hitem;have C1:=qh c1;have hnI:((L.length:Nat):Int)≤300:=by omega
 have b0:=hB.cell 0;have b1:=hB.cell 1;simp only[qA,qZ,qS]at b0 b1;obtain⟨N,hN⟩:∃N,L.length=N:=⟨_,rfl⟩;have HNN:=qh hN;rw[hN]at hnI HN c1 C1 HIT HE;clear h hU0 hW1 hB hg hf hc hE hg1 hf1 hl hlb hn hitem hnum hN hsz;unfold cW at*;go_enter Tryz.func187,Tryz.ntmps187
 go_wp2_with fail
 refine HN.out.mono ?_;rintro e w2 ⟨rfl,hW2,hU2⟩;have HW2:=qh hW2;have HU2:=qh hU2;clear hW2 hU2 HN b0 b1 c1;go_wp2_with fail
 generalize w.alloc (.cells #[.pointer (some ⟨W,0,none⟩),.pointer none] 214)=w1 at*;go_loopw [31] (fun s31 wr=>∃k:Nat,s31= .int .i64 (k:Int)∧k≤N∧WAt B wr W (l++shortB N++(L.take k).flatMap enc)∧Upd (WrF B W w1) w1 wr) (fun s31 _=>N - (intOf s31).toNat)
 case atStart=>exact⟨0,rfl,by omega,by rw[List.take_zero,List.flatMap_nil,List.append_nil];exact HW2.out,HU2.out⟩
 case round=>
  obtain⟨k,rfl,hk,hW,hu⟩:=hrel;by_cases hkN:k<N
  ·obtain⟨x,hx⟩:∃x,L[k]? =some x:=⟨_,qeg (by rw[HNN.out];exact hkN)⟩
   obtain⟨bb,oo,ccc,he,hbb,_⟩:=HE.out.get HSZ.out hx;injection he with he1 he2 he3
   subst he1;have c2:=(hu.cell (p:=⟨g,off,none⟩) HG1.out HF1.out).trans C1.out;have htk:=take_flat enc hx;have hfl:=flat_le enc L (k+1);rw[htk,qla]at hfl
   have hit:=HIT.out k x bb oo N cc wr (l++shortB N++(L.take k).flatMap enc) rfl hx hW (HU0.out.any.wr hu) (by
    have:=HL.out;rw[HNN.out]at this;have e:numZ (N:Nat)=shortB N:=rfl;rw[e]at this;simp only[qla];omega)
   simp only[←hargs]at hit;have HI:=qh hit;have HTK:=qh htk;have HU:=qh hu;have hkI:(k:Int)<(N:Int):=by omega
   have HKN:=qh hkN;clear hW hu hx htk hfl hit hk hkN hbb he2 he3;go_wp2_with fail
   refine HI.out.mono ?_;rintro e w3 ⟨rfl,hW3,hU3⟩;have HW3:=qh hW3;have HU3:=qh hU3;clear hW3 hU3;go_wp2_with fail
   go_roundw
   case rel=>exact⟨k+1,by go_num,HKN.out,by rw[HTK.out,←qaa];exact HW3.out,HU.out.wr HU3.out⟩
   case measure=>
    have:=HKN.out;simp only[intOf];omega
  ·obtain rfl:k=N:=by omega
   have HW:=qh hW;have HU:=qh hu;clear hW hu hk;go_wp2_with fail
   go_end0;refine⟨rfl,?_,HU0.out.any.wr HU.out⟩;have:=HW.out;rw[List.take_of_length_le (by rw[HNN.out];exact qlr _)]at this
   rw[HLB.out,HNN.out,←qaa];exact this
theorem eachD_w{B W:Nat}{l:Bs}{w:World}(h:WAt B w W l){g off:Nat}(hg:g<w.heap.size)(hf:¬WrF B W w g){v:Value}(hc:w.cell? ⟨g,off,none⟩=some v){α:Type}{cells:α→List Value}(hsz:∀a,(cells a).length=2){L:List α}(hE:Els 2 cells w v L)(hn:L.length≤300)(enc:α→Bs)
 (fid:FuncId) (bs caps:Array Value) (hcf:∀args w,(callFunc fid args).run Tryz.prog w= .ok (.enter fid args) w) (args:Value→Array Value) (hargs:∀x,bs++#[x]++caps=args x) (hitem:ItemW B W w 2 v L enc fid args) (hl:l.length+(listB enc L).length≤85000):
 Calls Tryz.prog 189 #[cW W,.pointer (some ⟨g,off,none⟩),.func (.func fid) bs caps] w (WrP B W (l++listB enc L) w):=by
 obtain⟨A,cc,rfl,_⟩:=hE.val;have hU0:=(Upd.refl Nowhere w).alloc (.cells #[.pointer (some ⟨W,0,none⟩),.pointer none] 214);have hB:=Blk.new w 214 #[.pointer (some ⟨W,0,none⟩),.pointer none];have hW1:=h.upd hU0 fun _ _ _=>id
 have hne:w.heap.size≠W:=by have:=h.lt;omega
 have hg1:g<(w.alloc (.cells #[.pointer (some ⟨W,0,none⟩),.pointer none] 214)).heap.size:=Nat.lt_of_lt_of_le hg hU0.size;have hf1:=noWr_up hf hg hU0;have c1:=(hU0.cell (p:=⟨g,off,none⟩) hg id).trans hc;have hlb:listB enc L=numZ (L.length:Nat)++L.flatMap enc:=rfl;rw[hlb,qla]at hl;have hnum:=wnum2_ok hW1 L.length (by omega) (by omega)
 have HN:=qh hnum;have HU0:=qh hU0;have HB:=qh hB;have HE:=qh hE;have HG1:=qh hg1;have HF1:=qh hf1;have HL:=qh hl;have HLB:=qh hlb;have HSZ:=qh hsz;have HIT:=qh hitem;have C1:=qh c1;have hnI:((L.length:Nat):Int)≤300:=by omega
 have b0:=hB.cell 0;have b1:=hB.cell 1;simp only[qA,qZ,qS]at b0 b1;obtain⟨N,hN⟩:∃N,L.length=N:=⟨_,rfl⟩;have HNN:=qh hN;rw[hN]at hnI HN c1 C1 HIT HE;clear h hU0 hW1 hB hg hf hc hE hg1 hf1 hl hlb hn hitem hnum hN hsz;unfold cW at*;go_enter Tryz.func189,Tryz.ntmps189
 go_wp2_with fail
 refine HN.out.mono ?_;rintro e w2 ⟨rfl,hW2,hU2⟩;have HW2:=qh hW2;have HU2:=qh hU2;clear hW2 hU2 HN b0 b1 c1;go_wp2_with fail
 generalize w.alloc (.cells #[.pointer (some ⟨W,0,none⟩),.pointer none] 214)=w1 at*;go_loopw [31] (fun s31 wr=>∃k:Nat,s31= .int .i64 (k:Int)∧k≤N∧WAt B wr W (l++shortB N++(L.take k).flatMap enc)∧Upd (WrF B W w1) w1 wr) (fun s31 _=>N - (intOf s31).toNat)
 case atStart=>exact⟨0,rfl,by omega,by rw[List.take_zero,List.flatMap_nil,List.append_nil];exact HW2.out,HU2.out⟩
 case round=>
  obtain⟨k,rfl,hk,hW,hu⟩:=hrel;by_cases hkN:k<N
  ·obtain⟨x,hx⟩:∃x,L[k]? =some x:=⟨_,qeg (by rw[HNN.out];exact hkN)⟩
   obtain⟨bb,oo,ccc,he,hbb,_⟩:=HE.out.get HSZ.out hx;injection he with he1 he2 he3
   subst he1;have c2:=(hu.cell (p:=⟨g,off,none⟩) HG1.out HF1.out).trans C1.out;have htk:=take_flat enc hx;have hfl:=flat_le enc L (k+1);rw[htk,qla]at hfl
   have hit:=HIT.out k x bb oo N cc wr (l++shortB N++(L.take k).flatMap enc) rfl hx hW (HU0.out.any.wr hu) (by
    have:=HL.out;rw[HNN.out]at this;have e:numZ (N:Nat)=shortB N:=rfl;rw[e]at this;simp only[qla];omega)
   simp only[←hargs]at hit;have HI:=qh hit;have HTK:=qh htk;have HU:=qh hu;have hkI:(k:Int)<(N:Int):=by omega
   have HKN:=qh hkN;clear hW hu hx htk hfl hit hk hkN hbb he2 he3;go_wp2_with fail
   refine HI.out.mono ?_;rintro e w3 ⟨rfl,hW3,hU3⟩;have HW3:=qh hW3;have HU3:=qh hU3;clear hW3 hU3;go_wp2_with fail
   go_roundw
   case rel=>exact⟨k+1,by go_num,HKN.out,by rw[HTK.out,←qaa];exact HW3.out,HU.out.wr HU3.out⟩
   case measure=>
    have:=HKN.out;simp only[intOf];omega
  ·obtain rfl:k=N:=by omega
   have HW:=qh hW;have HU:=qh hu;clear hW hu hk;go_wp2_with fail
   go_end0;refine⟨rfl,?_,HU0.out.any.wr HU.out⟩;have:=HW.out;rw[List.take_of_length_le (by rw[HNN.out];exact qlr _)]at this
   rw[HLB.out,HNN.out,←qaa];exact this
theorem eachE_w{B W:Nat}{l:Bs}{w:World}(h:WAt B w W l){g off:Nat}(hg:g<w.heap.size)(hf:¬WrF B W w g){v:Value}(hc:w.cell? ⟨g,off,none⟩=some v){α:Type}{cells:α→List Value}(hsz:∀a,(cells a).length=2){L:List α}(hE:Els 2 cells w v L)(hn:L.length≤300)(enc:α→Bs)
 (fid:FuncId) (bs caps:Array Value) (hcf:∀args w,(callFunc fid args).run Tryz.prog w= .ok (.enter fid args) w) (args:Value→Array Value) (hargs:∀x,bs++#[x]++caps=args x) (hitem:ItemW B W w 2 v L enc fid args) (hl:l.length+(listB enc L).length≤85000):
 Calls Tryz.prog 191 #[cW W,.pointer (some ⟨g,off,none⟩),.func (.func fid) bs caps] w (WrP B W (l++listB enc L) w):=by
 obtain⟨A,cc,rfl,_⟩:=hE.val;have hU0:=(Upd.refl Nowhere w).alloc (.cells #[.pointer (some ⟨W,0,none⟩),.pointer none] 214);have hB:=Blk.new w 214 #[.pointer (some ⟨W,0,none⟩),.pointer none];have hW1:=h.upd hU0 fun _ _ _=>id
 have hne:w.heap.size≠W:=by have:=h.lt;omega
 have hg1:g<(w.alloc (.cells #[.pointer (some ⟨W,0,none⟩),.pointer none] 214)).heap.size:=Nat.lt_of_lt_of_le hg hU0.size;have hf1:=noWr_up hf hg hU0;have c1:=(hU0.cell (p:=⟨g,off,none⟩) hg id).trans hc;have hlb:listB enc L=numZ (L.length:Nat)++L.flatMap enc:=rfl;rw[hlb,qla]at hl;have hnum:=wnum2_ok hW1 L.length (by omega) (by omega)
 have HN:=qh hnum;have HU0:=qh hU0;have HB:=qh hB;have HE:=qh hE;have HG1:=qh hg1;have HF1:=qh hf1;have HL:=qh hl;have HLB:=qh hlb;have HSZ:=qh hsz;have HIT:=qh hitem;have C1:=qh c1;have hnI:((L.length:Nat):Int)≤300:=by omega
 have b0:=hB.cell 0;have b1:=hB.cell 1;simp only[qA,qZ,qS]at b0 b1;obtain⟨N,hN⟩:∃N,L.length=N:=⟨_,rfl⟩;have HNN:=qh hN;rw[hN]at hnI HN c1 C1 HIT HE;clear h hU0 hW1 hB hg hf hc hE hg1 hf1 hl hlb hn hitem hnum hN hsz;unfold cW at*;go_enter Tryz.func191,Tryz.ntmps191
 go_wp2_with fail
 refine HN.out.mono ?_;rintro e w2 ⟨rfl,hW2,hU2⟩;have HW2:=qh hW2;have HU2:=qh hU2;clear hW2 hU2 HN b0 b1 c1;go_wp2_with fail
 generalize w.alloc (.cells #[.pointer (some ⟨W,0,none⟩),.pointer none] 214)=w1 at*;go_loopw [31] (fun s31 wr=>∃k:Nat,s31= .int .i64 (k:Int)∧k≤N∧WAt B wr W (l++shortB N++(L.take k).flatMap enc)∧Upd (WrF B W w1) w1 wr) (fun s31 _=>N - (intOf s31).toNat)
 case atStart=>exact⟨0,rfl,by omega,by rw[List.take_zero,List.flatMap_nil,List.append_nil];exact HW2.out,HU2.out⟩
 case round=>
  obtain⟨k,rfl,hk,hW,hu⟩:=hrel;by_cases hkN:k<N
  ·obtain⟨x,hx⟩:∃x,L[k]? =some x:=⟨_,qeg (by rw[HNN.out];exact hkN)⟩
   obtain⟨bb,oo,ccc,he,hbb,_⟩:=HE.out.get HSZ.out hx;injection he with he1 he2 he3
   subst he1;have c2:=(hu.cell (p:=⟨g,off,none⟩) HG1.out HF1.out).trans C1.out;have htk:=take_flat enc hx;have hfl:=flat_le enc L (k+1);rw[htk,qla]at hfl
   have hit:=HIT.out k x bb oo N cc wr (l++shortB N++(L.take k).flatMap enc) rfl hx hW (HU0.out.any.wr hu) (by
    have:=HL.out;rw[HNN.out]at this;have e:numZ (N:Nat)=shortB N:=rfl;rw[e]at this;simp only[qla];omega)
   simp only[←hargs]at hit;have HI:=qh hit;have HTK:=qh htk;have HU:=qh hu;have hkI:(k:Int)<(N:Int):=by omega
   have HKN:=qh hkN;clear hW hu hx htk hfl hit hk hkN hbb he2 he3;go_wp2_with fail
   refine HI.out.mono ?_;rintro e w3 ⟨rfl,hW3,hU3⟩;have HW3:=qh hW3;have HU3:=qh hU3;clear hW3 hU3;go_wp2_with fail
   go_roundw
   case rel=>exact⟨k+1,by go_num,HKN.out,by rw[HTK.out,←qaa];exact HW3.out,HU.out.wr HU3.out⟩
   case measure=>
    have:=HKN.out;simp only[intOf];omega
  ·obtain rfl:k=N:=by omega
   have HW:=qh hW;have HU:=qh hu;clear hW hu hk;go_wp2_with fail
   go_end0;refine⟨rfl,?_,HU0.out.any.wr HU.out⟩;have:=HW.out;rw[List.take_of_length_le (by rw[HNN.out];exact qlr _)]at this
   rw[HLB.out,HNN.out,←qaa];exact this
def intC(n:Int):List Value:=[.int .i64 n]
def lockC(x:LockP):List Value:=[strV x.1,.bool x.2]
def dirC(d:Int×Int):List Value:=[.int .i64 d.1,.int .i64 d.2]
structure RowW where
 p:RowP
 mem:SlT
 loc:SlT
def RowW.cells(r:RowW):List Value:=[.int .i64 r.p.tx,.int .i64 r.p.state,.int .i64 r.p.first,.int .i64 r.p.last,.int .i64 r.p.undo,.int .i64 r.p.coord,slV r.mem,slV r.loc]
structure DeedV where
 p:Int×List Int
 mem:SlT
def DeedV.cells(r:DeedV):List Value:=[.int .i64 r.p.1,slV r.mem]
structure Old(B:Nat)(w0 w:World):Prop where
 le:w0.heap.size≤B
 upd:Upd (fun k=>B≤k) w0 w
section
variable {B W:Nat} {w0 w w':World} {l:Bs}
theorem Old.up(h:Old B w0 w)(hu:Upd Nowhere w w'):Old B w0 w':=⟨h.le,h.upd.same hu.any⟩
theorem Old.wr(h:Old B w0 w)(hW:B≤W)(hu:Upd (WrF B W w) w w'):Old B w0 w':=⟨h.le,h.upd.trans hu fun k hk e=>by
 rcases e with e | e
 ·omega
 ·exact e.1⟩
theorem Old.cell(h:Old B w0 w){g off:Nat}(hg:g<w0.heap.size):w.cell? ⟨g,off,none⟩=w0.cell? ⟨g,off,none⟩:=h.upd.cell (p:=⟨g,off,none⟩) hg (by have:=h.le;show ¬B≤g;omega)
theorem Old.lt(h:Old B w0 w){g:Nat}(hg:g<w0.heap.size):g<w.heap.size:=Nat.lt_of_lt_of_le hg h.upd.size
theorem Old.far(h:Old B w0 w){g:Nat}(hg:g<w0.heap.size)(hW:B≤W):¬WrF B W w g:=old_far (Nat.lt_of_lt_of_le hg h.le) hW
theorem Old.els(h:Old B w0 w){α:Type}{sz:Nat}{cells:α→List Value}{v:Value}{L:List α}(hE:Els sz cells w0 v L):Els sz cells w v L:=hE.newer h.upd fun k hk=>by have:=h.le;omega
theorem WAt.up(h:WAt B w W l)(hu:Upd Nowhere w w'):WAt B w' W l:=h.upd hu fun _ _ _=>id
end
def Num63(n:Int):Prop:=0≤n∧n<9223372036854775808
theorem cf_num(args:Array Value)(w:World):(callFunc 193 args).run Tryz.prog w= .ok (.enter 193 args) w:=by kernel_rfl
theorem cf_locks1(args:Array Value)(w:World):(callFunc 243 args).run Tryz.prog w= .ok (.enter 243 args) w:=by kernel_rfl
theorem ints_w{B W:Nat}{l:Bs}{w0 w:World}(h0:Old B w0 w)(h:WAt B w W l){g off:Nat}(hg:g<w0.heap.size){v:Value}(hc:w0.cell? ⟨g,off,none⟩=some v){L:List Int}(hE:Els 1 intC w0 v L)(hn:L.length≤300)(hb:∀n∈L,Num63 n)(hl:l.length+(listB numZ L).length≤85000):
 Calls Tryz.prog 185 #[cW W,.pointer (some ⟨g,off,none⟩)] w (WrP B W (l++listB numZ L) w):=by
 have hU0:=(Upd.refl Nowhere w).alloc (.cells #[.pointer (some ⟨W,0,none⟩),.pointer none] 214);have hB:=Blk.new w 214 #[.pointer (some ⟨W,0,none⟩),.pointer none];have hW1:=h.up hU0;have hO1:=h0.up hU0;have hge:=h.ge
 have hit:ItemW B W (w.alloc (.cells #[.pointer (some ⟨W,0,none⟩),.pointer none] 214)) 1 v L numZ 193 (fun x=>#[cW W,x]):=by
  intro i x b o n c w' l' hv hx hW' hu' hl';obtain⟨b',o',c',e,hb',hq⟩:=hE.get (fun _=>rfl) hx
  rw[hv]at e;injection e with e1 e2 e3
  injection e1 with e1
  injection e1 with e1 e4 _
  subst e1 e4;have hO':=hO1.wr hge hu';have hq0:=hq 0 (by omega)
  have hnb:=hb x (qmg hx);exact cnumZ_w hW' (p:=(b,o+i * 1)) ⟨hO'.lt hb',hO'.far hb' hge,(hO'.cell hb').trans hq0,hnb.1,hnb.2⟩ (by omega)
 have hcall:=eachI_w hW1 (hO1.lt hg) (hO1.far hg hge) ((hO1.cell hg).trans hc) (fun _=>rfl) (hO1.els hE) hn numZ 193 #[cW W] #[] cf_num _ (fun _=>rfl) hit hl
 have HC:=qh hcall;have HU0:=qh hU0;have b0:=hB.cell 0;have b1:=hB.cell 1;simp only[qA,qZ,qS]at b0 b1;clear h0 h hg hc hE hn hb hl hU0 hB hW1 hO1 hge hit hcall;unfold cW at*;go_enter Tryz.func185,Tryz.ntmps185
 go_wp2_with fail
 refine HC.out.mono ?_;rintro e w2 ⟨rfl,hW,hU⟩;have HW:=qh hW;have HU:=qh hU;clear hW hU;go_wp2_with fail
 go_end0;exact⟨rfl,HW.out,HU0.out.any.wr HU.out⟩
theorem locks1_w{B W bx:Nat}{l:Bs}{w0 w:World}(h0:Old B w0 w)(h:WAt B w W l)(hB:Blk w bx 214 #[.pointer (some ⟨W,0,none⟩),.pointer none])(hne:bx≠W){g off:Nat}(hg:g<w0.heap.size)(x:LockP)(hs:w0.cell? ⟨g,off,none⟩=some (strV x.1))(hx:w0.cell? ⟨g,off+1,none⟩=some (.bool x.2))(hn:x.1.length≤5000)(hl:l.length+(lockB x).length≤85000):
 Calls Tryz.prog 243 #[.pointer (some ⟨g,off,none⟩),.pointer (some ⟨bx,0,none⟩)] w (WrP B W (l++lockB x) w):=by
 have hge:=h.ge;have hlen:(lockB x).length=(textB x.1).length+1:=by simp[lockB,flagB]
 have ht:=ctext_w (h.up (Upd.refl Nowhere w).drew) (g:=g) (off:=off) x.1 (h0.lt hg) ((h0.up (Upd.refl Nowhere w).drew).far hg hge) ((h0.cell hg).trans hs) hn (by omega)
 have HT:=qh ht;have hk:∀w1 w2,Blk w1 bx 214 #[.pointer (some ⟨W,0,none⟩),.pointer none]→Upd (WrF B W w1) w1 w2→w2.cell? ⟨bx,0,none⟩=some (.pointer (some ⟨W,0,none⟩))∧w2.cell? ⟨bx,1,none⟩=some (.pointer none):=fun w1 w2 hb hu=>⟨(hu.cell (p:=⟨bx,0,none⟩) hb.lt (hb.noWr (by decide) hne)).trans (hb.cell 0),(hu.cell (p:=⟨bx,1,none⟩) hb.lt (hb.noWr (by decide) hne)).trans (hb.cell 1)⟩
 have HK:=qh hk;have b0:=hB.cell 0;have b1:=hB.cell 1;simp only[qA,qZ,qS]at b0 b1;have HB:=qh hB;have H0:=qh h0;have HX:=qh hx;have HG:=qh hg;have HL:=qh hl;have HGE:=qh hge;have HLEN:=qh hlen;clear h0 h hB hg hs hx hn hl hge ht hk hlen;unfold cW at*;go_enter Tryz.func243,Tryz.ntmps243
 go_wp2_with fail
 go_cut [7] (fun _ wz=>WAt B wz W (l++textB x.1)∧Upd (WrF B W w) w wz)
 case first=>
  go_region_held3 (fun w'=>w'.cell? ⟨bx,0,none⟩=some (.pointer (some ⟨W,0,none⟩))∧w'.cell? ⟨bx,1,none⟩=some (.pointer none)) (first | exact⟨b0,b1⟩ | exact k2)
   (first
     | (go_at_call 183
        refine HT.out.mono ?_;rintro e w2 ⟨rfl,hW,hU⟩;have k2:=HK.out _ _ HB.out.drew hU;have HW2:=qh hW;have HU2:=qh hU;clear hW hU))
  all_goals
   go_wp2_with fail
   go_meet;exact⟨HW2.out,⟨HU2.out.os,HU2.out.tape,HU2.out.output,HU2.out.size,HU2.out.block⟩⟩
 case rest=>
  obtain⟨hW2,hU2⟩:=hcut;have hB2:=HB.out.wr (by decide) hne hU2
  have hO2:=H0.out.wr HGE.out hU2;have b0:=hB2.cell 0;have b1:=hB2.cell 1;simp only[qA,qZ,qS]at b0 b1;have hfl:=cflag_w (hW2.up (Upd.refl Nowhere _).drew) (g:=g) (off:=off+1) x.2 (hO2.lt HG.out) ((hO2.up (Upd.refl Nowhere _).drew).far HG.out HGE.out) ((hO2.cell HG.out).trans HX.out) (by have:=HL.out;have:=HLEN.out;rw[qla];omega)
  have HF:=qh hfl;have HB2:=qh hB2;have HU2:=qh hU2;clear hW2 hU2 hB2 hO2 hfl HT;unfold cW at*;go_wp2_with fail
  go_region_held3 (fun w'=>w'.cell? ⟨bx,0,none⟩=some (.pointer (some ⟨W,0,none⟩))∧w'.cell? ⟨bx,1,none⟩=some (.pointer none)) (first | exact⟨b0,b1⟩ | exact k2)
   (first
     | (go_at_call 240
        refine HF.out.mono ?_;rintro e w3 ⟨rfl,hW,hU⟩;have k2:=HK.out _ _ HB2.out.drew hU;have HW3:=qh hW;have HU3:=qh hU;clear hW hU))
  all_goals
   go_wp2_with fail
   go_end0;refine⟨rfl,?_,HU2.out.wr ⟨HU3.out.os,HU3.out.tape,HU3.out.output,HU3.out.size,HU3.out.block⟩⟩;have:=HW3.out;rw[qaa]at this;exact this
theorem locks_w{B W:Nat}{l:Bs}{w0 w:World}(h0:Old B w0 w)(h:WAt B w W l){g off:Nat}(hg:g<w0.heap.size){v:Value}(hc:w0.cell? ⟨g,off,none⟩=some v){L:List LockP}(hE:Els 2 lockC w0 v L)(hn:L.length≤300)(hb:∀x∈L,x.1.length≤5000)(hl:l.length+(listB lockB L).length≤85000):
 Calls Tryz.prog 186 #[cW W,.pointer (some ⟨g,off,none⟩)] w (WrP B W (l++listB lockB L) w):=by
 have hU0:=(Upd.refl Nowhere w).alloc (.cells #[.pointer (some ⟨W,0,none⟩),.pointer none] 214);have hB:=Blk.new w 214 #[.pointer (some ⟨W,0,none⟩),.pointer none];have hW1:=h.up hU0;have hO1:=h0.up hU0;have hge:=h.ge;have hne:w.heap.size≠W:=by have:=h.lt;omega
 have hit:ItemW B W (w.alloc (.cells #[.pointer (some ⟨W,0,none⟩),.pointer none] 214)) 2 v L lockB 243 (fun x=>#[x,.pointer (some ⟨w.heap.size,0,none⟩)]):=by
  intro i x b o n c w' l' hv hx hW' hu' hl';obtain⟨b',o',c',e,hb',hq⟩:=hE.get (fun _=>rfl) hx
  rw[hv]at e;injection e with e1 e2 e3
  injection e1 with e1
  injection e1 with e1 e4 _
  subst e1 e4;have hO':=hO1.wr hge hu';exact locks1_w hO' hW' (hB.wr (by decide) hne hu') hne hb' x (hq 0 (by omega)) (hq 1 (by omega)) (hb x (qmg hx)) hl'
 have hcall:=eachL_w hW1 (hO1.lt hg) (hO1.far hg hge) ((hO1.cell hg).trans hc) (fun _=>rfl) (hO1.els hE) hn lockB 243 #[] #[.pointer (some ⟨w.heap.size,0,none⟩)] cf_locks1 _ (fun _=>rfl) hit hl
 have HC:=qh hcall;have HU0:=qh hU0;have b0:=hB.cell 0;have b1:=hB.cell 1;simp only[qA,qZ,qS]at b0 b1;clear h0 h hg hc hE hn hb hl hU0 hB hW1 hO1 hge hit hcall hne;unfold cW at*;go_enter Tryz.func186,Tryz.ntmps186
 go_wp2_with fail
 refine HC.out.mono ?_;rintro e w2 ⟨rfl,hW,hU⟩;have HW:=qh hW;have HU:=qh hU;clear hW hU;go_wp2_with fail
 go_end0;exact⟨rfl,HW.out,HU0.out.any.wr HU.out⟩
def RowW.old(w:World)(r:RowW):Prop:=Els 1 intC w (slV r.mem) r.p.mem∧Els 2 lockC w (slV r.loc) r.p.loc
structure RowP.good(x:RowP):Prop where
 n0:Num63 x.tx
 n1:Num63 x.state
 n2:Num63 x.first
 n3:Num63 x.last
 n4:Num63 x.undo
 n5:Num63 x.coord
 ml:x.mem.length≤300
 mb:∀n∈x.mem,Num63 n
 ll:x.loc.length≤300
 lb:∀y∈x.loc,y.1.length≤5000
theorem coder_keep{B W bx:Nat}(hne:bx≠W):∀w1 w2,Blk w1 bx 214 #[.pointer (some ⟨W,0,none⟩),.pointer none]→Upd (WrF B W w1) w1 w2→w2.cell? ⟨bx,0,none⟩=some (.pointer (some ⟨W,0,none⟩))∧w2.cell? ⟨bx,1,none⟩=some (.pointer none):=fun w1 w2 hb hu=>⟨(hu.cell (p:=⟨bx,0,none⟩) hb.lt (hb.noWr (by decide) hne)).trans (hb.cell 0),(hu.cell (p:=⟨bx,1,none⟩) hb.lt (hb.noWr (by decide) hne)).trans (hb.cell 1)⟩
theorem nums_old{B W:Nat}{l:Bs}{w0 w:World}(h0:Old B w0 w)(h:WAt B w W l){g:Nat}(hg:g<w0.heap.size){os:List Nat}{ns:List Int}(hlen:os.length=ns.length)(hl10:os.length≤10)(hc:∀(i o:Nat),os[i]? =some o→∃n,ns[i]? =some n∧w0.cell? ⟨g,o,none⟩=some (.int .i64 n)∧Num63 n)
 (cs:Array Value) (hcs:cs=(os.map fun o=>ptrC (g,o)).toArray) (hl:l.length+(ns.flatMap numZ).length≤85000):
 Calls Tryz.prog 182 #[cW W,.slice (some ⟨w.heap.size,0,none⟩) os.length os.length] (w.alloc (.cells cs 194)) (WrP B W (l++ns.flatMap numZ) (w.alloc (.cells cs 194))):=by
 subst hcs;have hU:=(Upd.refl Nowhere w).alloc (.cells (os.map fun o=>ptrC (g,o)).toArray 194)
 have hW1:=h.up hU;have hO1:=h0.up hU;have hge:=h.ge
 have:=nums_w (ps:=os.map fun o=>(g,o)) (ns:=ns) hW1 (vb:=w.heap.size) (by
  have:=Blk.new w 194 (os.map fun o=>ptrC (g,o)).toArray
  rw[List.map_map]
  exact this) (by have:=h.lt;omega) (by simpa using hl10) (fun i p hp=>by
   rw[qgm]at hp
   cases ho:os[i]? with
   | none=>rw[ho]at hp;cases hp
   | some o=>
     rw[ho]at hp;simp only[Option.map_some,Option.some.injEq]at hp;obtain⟨n,h1,h2,h3⟩:=hc i o ho;subst hp;exact⟨n,h1,hO1.lt hg,hO1.far hg hge,(hO1.cell hg).trans h2,h3.1,h3.2⟩) (by simpa using hlen) hl
 simpa using this
theorem row_w{B W:Nat}{l:Bs}{w0 w:World}(h0:Old B w0 w)(h:WAt B w W l){g off:Nat}(hg:g<w0.heap.size)(r:RowW)(hc:w0.rangeAt g off r.cells)(hr:r.old w0)(hgd:r.p.good)(hl:l.length+(rowB r.p).length≤85000):
 Calls Tryz.prog 188 #[cW W,.pointer (some ⟨g,off,none⟩)] w (WrP B W (l++rowB r.p) w):=by
 have hU0:=(Upd.refl Nowhere w).alloc (.cells #[.pointer (some ⟨W,0,none⟩),.pointer none] 214);have hB:=Blk.new w 214 #[.pointer (some ⟨W,0,none⟩),.pointer none];have hW1:=h.up hU0;have hO1:=h0.up hU0;have hge:=h.ge;have hne:w.heap.size≠W:=by have:=h.lt;omega
 obtain⟨⟨tx,state,first,last,undo,coord,pm,pl⟩,mem,loc⟩:=r;have q0:=hc 0 _ rfl;have q1:=hc 1 _ rfl;have q2:=hc 2 _ rfl;have q3:=hc 3 _ rfl;have q4:=hc 4 _ rfl;have q5:=hc 5 _ rfl;have q6:=hc 6 _ rfl;have q7:=hc 7 _ rfl;have hrb:rowB ⟨tx,state,first,last,undo,coord,pm,pl⟩=([tx,state,first,last,undo,coord]:List Int).flatMap numZ++(listB numZ pm++listB lockB pl):=by simp[rowB]
 have hll:l.length+(([tx,state,first,last,undo,coord]:List Int).flatMap numZ).length+(listB numZ pm).length+(listB lockB pl).length≤85000:=by
  rw[hrb]at hl;simp only[qla]at hl ⊢;omega
 obtain⟨g0,g1,g2,g3,g4,g5,g6,g7,g8,g9⟩:=hgd;simp only at g0 g1 g2 g3 g4 g5 g6 g7 g8 g9
 have hcs:∀(i o:Nat),([off,off+1,off+2,off+3,off+4,off+5]:List Nat)[i]? =some o→∃n,([tx,state,first,last,undo,coord]:List Int)[i]? =some n∧w0.cell? ⟨g,o,none⟩=some (.int .i64 n)∧Num63 n:=fun i o ho=>by
  match i,ho with
  | 0,ho=>simp only[qZ,Option.some.injEq]at ho;subst ho;exact⟨_,rfl,q0,g0⟩
  | 1,ho=>simp only[qZ,qS,Option.some.injEq]at ho;subst ho;exact⟨_,rfl,q1,g1⟩
  | 2,ho=>simp only[qZ,qS,Option.some.injEq]at ho;subst ho;exact⟨_,rfl,q2,g2⟩
  | 3,ho=>simp only[qZ,qS,Option.some.injEq]at ho;subst ho;exact⟨_,rfl,q3,g3⟩
  | 4,ho=>simp only[qZ,qS,Option.some.injEq]at ho;subst ho;exact⟨_,rfl,q4,g4⟩
  | 5,ho=>simp only[qZ,qS,Option.some.injEq]at ho;subst ho;exact⟨_,rfl,q5,g5⟩
  | n+6,ho=>simp at ho
 have HK:=qh (coder_keep (B:=B) hne);have HU0:=qh hU0;have HB:=qh hB;have HO1:=qh hO1;have HW1:=qh hW1;have HGE:=qh hge;have HG:=qh hg;have Q6:=qh q6;have Q7:=qh q7;have HR:=qh hr;have HRB:=qh hrb;have HLL:=qh hll;have G6:=qh g6;have G7:=qh g7;have G8:=qh g8;have G9:=qh g9;have HCS:=qh hcs;clear h0 h hg hc hr hl hU0 hB hW1 hO1 hge q0 q1 q2 q3 q4 q5 q6 q7 hrb hll g0 g1 g2 g3 g4 g5 g6 g7 g8 g9 hcs;generalize hnb:([tx,state,first,last,undo,coord]:List Int).flatMap numZ=nb at*;have HNB:=qh hnb;clear hnb;unfold cW at*;go_enter Tryz.func188,Tryz.ntmps188
 go_wp2_with fail
 generalize w.alloc (.cells #[.pointer (some ⟨W,0,none⟩),.pointer none] 214)=w1 at*;generalize w.heap.size=bx at*;have hW1:=HW1.out;have hU1:Upd (WrF B W w1) w1 w1:=Upd.refl _ _;have hB1:=HB.out.wr (by decide) hne hU1
 have hO1:=HO1.out.wr HGE.out hU1;have b0:=hB1.cell 0;have b1:=hB1.cell 1;simp only[qA,qZ,qS]at b0 b1;have hOd:=hO1.up (Upd.refl Nowhere _).drew;have hWd:=hW1.up (Upd.refl Nowhere _).drew;have hBd:=hB1.drew;have hcal:=nums_old hOd hWd HG.out (os:=[off,off+1,off+2,off+3,off+4,off+5]) (ns:=[tx,state,first,last,undo,coord]) rfl (by simp) HCS.out _ rfl (by rw[HNB.out];have:=HLL.out;omega)
 have HC1:=qh hcal;have HB1:=qh hB1;have HX1:=qh hU1;clear hW1 hU1 hB1 hO1 hcal hOd hWd hBd;unfold cW at HC1;go_wp2_with fail
 go_cut [24] (fun _ wz=>WAt B wz W (l++([tx,state,first,last,undo,coord]:List Int).flatMap numZ)∧Upd (WrF B W w1) w1 wz)
 case first=>
  go_region_held3 (fun w'=>w'.cell? ⟨bx,0,none⟩=some (.pointer (some ⟨W,0,none⟩))∧w'.cell? ⟨bx,1,none⟩=some (.pointer none)) (first | exact⟨b0,b1⟩ | exact k2 | go_keep)
   (first
     | (go_at_call 182
        refine HC1.out.mono ?_;rintro e w2 ⟨rfl,hW,hU⟩;have k2:=HK.out _ _ (HB1.out.drew.alloc _) hU;have HWn:=qh hW;have HUn:=qh (Upd.wr (((Upd.refl Nowhere _).drew.alloc _).any) hU);clear hW hU))
  all_goals
   go_wp2_with fail
   go_meet;exact⟨HWn.out,HX1.out.wr HUn.out⟩
 case rest=>
  obtain⟨hW2,hU2⟩:=hcut;have hB2:=HB.out.wr (by decide) hne hU2
  have hO2:=HO1.out.wr HGE.out hU2;have b0:=hB2.cell 0;have b1:=hB2.cell 1;simp only[qA,qZ,qS]at b0 b1;have hOd:=hO2.up (Upd.refl Nowhere _).drew;have hWd:=hW2.up (Upd.refl Nowhere _).drew;have hBd:=hB2.drew;have hcal:=ints_w hOd hWd (g:=g) (off:=off+6) (L:=pm) HG.out Q6.out HR.out.1 G6.out G7.out (by rw[qla,HNB.out];have:=HLL.out;omega)
  have HC2:=qh hcal;have HB2:=qh hB2;have HX2:=qh hU2;clear hW2 hU2 hB2 hO2 hcal hOd hWd hBd;unfold cW at HC2;go_wp2_with fail
  go_cut [29] (fun _ wz=>WAt B wz W (l++([tx,state,first,last,undo,coord]:List Int).flatMap numZ++listB numZ pm)∧Upd (WrF B W w1) w1 wz)
  case first=>
   go_region_held3 (fun w'=>w'.cell? ⟨bx,0,none⟩=some (.pointer (some ⟨W,0,none⟩))∧w'.cell? ⟨bx,1,none⟩=some (.pointer none)) (first | exact⟨b0,b1⟩ | exact k2 | go_keep)
    (first
      | (go_at_call 185
         refine HC2.out.mono ?_;rintro e w2 ⟨rfl,hW,hU⟩;have k2:=HK.out _ _ (HB2.out.drew) hU;have HWn:=qh hW;have HUn:=qh (Upd.wr ((Upd.refl Nowhere _).drew.any) hU);clear hW hU))
   all_goals
    go_wp2_with fail
    go_meet;exact⟨HWn.out,HX2.out.wr HUn.out⟩
  case rest=>
   obtain⟨hW3,hU3⟩:=hcut;have hB3:=HB.out.wr (by decide) hne hU3
   have hO3:=HO1.out.wr HGE.out hU3;have b0:=hB3.cell 0;have b1:=hB3.cell 1;simp only[qA,qZ,qS]at b0 b1;have hOd:=hO3.up (Upd.refl Nowhere _).drew;have hWd:=hW3.up (Upd.refl Nowhere _).drew;have hBd:=hB3.drew;have hcal:=locks_w hOd hWd (g:=g) (off:=off+7) (L:=pl) HG.out Q7.out HR.out.2 G8.out G9.out (by rw[qla,qla,HNB.out];have:=HLL.out;omega)
   have HC3:=qh hcal;have HB3:=qh hB3;have HX3:=qh hU3;clear hW3 hU3 hB3 hO3 hcal hOd hWd hBd;unfold cW at HC3;go_wp2_with fail
   go_region_held3 (fun w'=>w'.cell? ⟨bx,0,none⟩=some (.pointer (some ⟨W,0,none⟩))∧w'.cell? ⟨bx,1,none⟩=some (.pointer none)) (first | exact⟨b0,b1⟩ | exact k2 | go_keep)
    (first
      | (go_at_call 186
         refine HC3.out.mono ?_;rintro e w2 ⟨rfl,hW,hU⟩;have k2:=HK.out _ _ (HB3.out.drew) hU;have HWn:=qh hW;have HUn:=qh (Upd.wr ((Upd.refl Nowhere _).drew.any) hU);clear hW hU))
   all_goals
    go_wp2_with fail
    go_end0;refine⟨rfl,?_,HU0.out.any.wr (HX3.out.wr HUn.out)⟩;have:=HWn.out;rw[HNB.out,qaa,qaa]at this;rw[HRB.out];exact this
theorem dirty_w{B W bx:Nat}{l:Bs}{w0 w:World}(h0:Old B w0 w)(h:WAt B w W l)(hB:Blk w bx 214 #[.pointer (some ⟨W,0,none⟩),.pointer none])(hne:bx≠W){g off:Nat}(hg:g<w0.heap.size)(x:Int×Int)(hc:w0.rangeAt g off (dirC x))(h1:Num63 x.1)(h2:Num63 x.2)(hl:l.length+(dirB x).length≤85000):
 Calls Tryz.prog 190 #[.pointer (some ⟨g,off,none⟩),.pointer (some ⟨bx,0,none⟩)] w (WrP B W (l++dirB x) w):=by
 have hW1:=h;have hO1:=h0;have hge:=h.ge;have hU0:=Upd.refl Nowhere w;have q0:=hc 0 _ rfl;have q1:=hc 1 _ rfl;have hrb:dirB x=([x.1,x.2]:List Int).flatMap numZ:=by simp[dirB]
 rw[hrb]at hl ⊢
 have hcs:∀(i o:Nat),([off,off+1]:List Nat)[i]? =some o→∃n,([x.1,x.2]:List Int)[i]? =some n∧w0.cell? ⟨g,o,none⟩=some (.int .i64 n)∧Num63 n:=fun i o ho=>by
  match i,ho with
  | 0,ho=>simp only[qZ,Option.some.injEq]at ho;subst ho;exact⟨_,rfl,q0,h1⟩
  | 1,ho=>simp only[qZ,qS,Option.some.injEq]at ho;subst ho;exact⟨_,rfl,q1,h2⟩
  | n+2,ho=>simp at ho
 have HK:=qh (coder_keep (B:=B) hne);have HU0:=qh hU0;have HB:=qh hB;have HO1:=qh hO1;have HW1:=qh hW1;have HGE:=qh hge;have HG:=qh hg;have HL:=qh hl;have HCS:=qh hcs;clear h0 h hg hc hl hU0 hB hW1 hO1 hge q0 q1 hrb h1 h2 hcs;obtain⟨x1,x2⟩:=x;simp only at*;go_enter Tryz.func190,Tryz.ntmps190
 generalize hww:w=w1 at*;have hW1:=HW1.out;have hU1:Upd (WrF B W w1) w1 w1:=Upd.refl _ _;have hB1:=HB.out.wr (by decide) hne hU1
 have hO1:=HO1.out.wr HGE.out hU1;have b0:=hB1.cell 0;have b1:=hB1.cell 1;simp only[qA,qZ,qS]at b0 b1;have hOd:=hO1.up (Upd.refl Nowhere _).drew;have hWd:=hW1.up (Upd.refl Nowhere _).drew;have hBd:=hB1.drew;have hcal:=nums_old hOd hWd HG.out (os:=[off,off+1]) (ns:=[x1,x2]) rfl (by simp) HCS.out _ rfl HL.out
 have HC1:=qh hcal;have HB1:=qh hB1;have HX1:=qh hU1;clear hW1 hU1 hB1 hO1 hcal hOd hWd hBd;unfold cW at HC1;go_wp2_with fail
 go_region_held3 (fun w'=>w'.cell? ⟨bx,0,none⟩=some (.pointer (some ⟨W,0,none⟩))∧w'.cell? ⟨bx,1,none⟩=some (.pointer none)) (first | exact⟨b0,b1⟩ | exact k2 | go_keep)
  (first
    | (go_at_call 182
       refine HC1.out.mono ?_;rintro e w2 ⟨rfl,hW,hU⟩;have k2:=HK.out _ _ (HB1.out.drew.alloc _) hU;have HWn:=qh hW;have HUn:=qh (Upd.wr (((Upd.refl Nowhere _).drew.alloc _).any) hU);clear hW hU))
 all_goals
  go_wp2_with fail
  go_end0;exact⟨rfl,HWn.out,HU0.out.any.wr (HX1.out.wr HUn.out)⟩
theorem cnum_old{B W:Nat}{l:Bs}{w0 w:World}(h0:Old B w0 w)(h:WAt B w W l){g off:Nat}(hg:g<w0.heap.size){n:Int}(hc:w0.cell? ⟨g,off,none⟩=some (.int .i64 n))(hn:Num63 n)(hl:l.length≤90000):
 Calls Tryz.prog 193 #[cW W,.pointer (some ⟨g,off,none⟩)] w (WrP B W (l++numZ n) w):=
 cnumZ_w h (p:=(g,off)) ⟨h0.lt hg,h0.far hg h.ge,(h0.cell hg).trans hc,hn.1,hn.2⟩ hl
theorem deed_w{B W bx:Nat}{l:Bs}{w0 w:World}(h0:Old B w0 w)(h:WAt B w W l)(hB:Blk w bx 214 #[.pointer (some ⟨W,0,none⟩),.pointer none])(hne:bx≠W){g off:Nat}(hg:g<w0.heap.size)(x:DeedV)(hc:w0.rangeAt g off x.cells)(hE:Els 1 intC w0 (slV x.mem) x.p.2)(h1:Num63 x.p.1)(h2:x.p.2.length≤300)(h3:∀n∈x.p.2,Num63 n)(hl:l.length+(deeB x.p).length≤85000):
 Calls Tryz.prog 192 #[.pointer (some ⟨g,off,none⟩),.pointer (some ⟨bx,0,none⟩)] w (WrP B W (l++deeB x.p) w):=by
 have hW1:=h;have hO1:=h0;have hge:=h.ge;have hU0:=Upd.refl Nowhere w;have q0:=hc 0 _ rfl;have q1:=hc 1 _ rfl;have hrb:deeB x.p=numZ x.p.1++listB numZ x.p.2:=rfl;have hll:l.length+(numZ x.p.1).length+(listB numZ x.p.2).length≤85000:=by rw[hrb,qla]at hl;omega
 rw[hrb];have HK:=qh (coder_keep (B:=B) hne);have HU0:=qh hU0;have HB:=qh hB;have HO1:=qh hO1;have HW1:=qh hW1;have HGE:=qh hge;have HG:=qh hg;have HLL:=qh hll;have Q0:=qh q0;have Q1:=qh q1;have HE:=qh hE;have H1:=qh h1;have H2:=qh h2;have H3:=qh h3;clear h0 h hg hc hl hll hE hU0 hB hW1 hO1 hge q0 q1 hrb h1 h2 h3;obtain⟨⟨x1,x2⟩,mem⟩:=x;simp only at*;go_enter Tryz.func192,Tryz.ntmps192
 generalize hww:w=w1 at*;have hW1:=HW1.out;have hU1:Upd (WrF B W w1) w1 w1:=Upd.refl _ _;have hB1:=HB.out.wr (by decide) hne hU1
 have hO1:=HO1.out.wr HGE.out hU1;have b0:=hB1.cell 0;have b1:=hB1.cell 1;simp only[qA,qZ,qS]at b0 b1;have hOd:=hO1.up (Upd.refl Nowhere _).drew;have hWd:=hW1.up (Upd.refl Nowhere _).drew;have hBd:=hB1.drew;have hcal:=cnum_old hOd hWd (g:=g) (off:=off) HG.out Q0.out H1.out (by have:=HLL.out;omega)
 have HC1:=qh hcal;have HB1:=qh hB1;have HX1:=qh hU1;clear hW1 hU1 hB1 hO1 hcal hOd hWd hBd;unfold cW at HC1;go_wp2_with fail
 go_cut [7] (fun _ wz=>WAt B wz W (l++numZ x1)∧Upd (WrF B W w1) w1 wz)
 case first=>
  go_region_held3 (fun w'=>w'.cell? ⟨bx,0,none⟩=some (.pointer (some ⟨W,0,none⟩))∧w'.cell? ⟨bx,1,none⟩=some (.pointer none)) (first | exact⟨b0,b1⟩ | exact k2 | go_keep)
   (first
     | (go_at_call 193
        refine HC1.out.mono ?_;rintro e w2 ⟨rfl,hW,hU⟩;have k2:=HK.out _ _ (HB1.out.drew) hU;have HWn:=qh hW;have HUn:=qh (Upd.wr ((Upd.refl Nowhere _).drew.any) hU);clear hW hU))
  all_goals
   go_wp2_with fail
   go_meet;exact⟨HWn.out,HX1.out.wr HUn.out⟩
 case rest=>
  obtain⟨hW2,hU2⟩:=hcut;have hB2:=HB.out.wr (by decide) hne hU2
  have hO2:=HO1.out.wr HGE.out hU2;have b0:=hB2.cell 0;have b1:=hB2.cell 1;simp only[qA,qZ,qS]at b0 b1;have hOd:=hO2.up (Upd.refl Nowhere _).drew;have hWd:=hW2.up (Upd.refl Nowhere _).drew;have hBd:=hB2.drew;have hcal:=ints_w hOd hWd (g:=g) (off:=off+1) (L:=x2) HG.out Q1.out HE.out H2.out H3.out (by rw[qla];have:=HLL.out;omega)
  have HC2:=qh hcal;have HB2:=qh hB2;have HX2:=qh hU2;clear hW2 hU2 hB2 hO2 hcal hOd hWd hBd;unfold cW at HC2;go_wp2_with fail
  go_region_held3 (fun w'=>w'.cell? ⟨bx,0,none⟩=some (.pointer (some ⟨W,0,none⟩))∧w'.cell? ⟨bx,1,none⟩=some (.pointer none)) (first | exact⟨b0,b1⟩ | exact k2 | go_keep)
   (first
     | (go_at_call 185
        refine HC2.out.mono ?_;rintro e w2 ⟨rfl,hW,hU⟩;have k2:=HK.out _ _ (HB2.out.drew) hU;have HWn:=qh hW;have HUn:=qh (Upd.wr ((Upd.refl Nowhere _).drew.any) hU);clear hW hU))
  all_goals
   go_wp2_with fail
   go_end0;refine⟨rfl,?_,HU0.out.any.wr (HX2.out.wr HUn.out)⟩;have:=HWn.out;rw[qaa]at this;exact this
end Go.Proofs.YtdfccegeihfdpaaGreatDoor
