/- (*redlineref12.Ghost).Do: SplitNode. -/
import Derived.Test.YtccobobnmpafbaaGreatDoorK45
import Derived.Test.YtccobobnmpafbaaGreatDoorK43
set_option maxRecDepth 100000
set_option maxHeartbeats 100000000
namespace Go.Proofs.YtccobobnmpafbaaGreatDoor
open Go Go.RowKit
theorem infoIntBS:(Tryz.prog.info? 3).map (·.size)=some 1:=by kernel_rfl
theorem infoPtrS:(Tryz.prog.info? 55).map (·.size)=some 1:=by kernel_rfl
theorem ints_from{w:World}{lo hi c q:Nat}{ad:Option Addr}{l:List Int}(h:IntsIn w lo hi ad c l)(hs:(ad=none/\c=0/\l=[])\/∃ rb,ad=some ⟨rb,0,none⟩)(hq:q<=l.length):IntsIn w lo hi (if c=q then ad else ad.map (·.add (q * 1))) (c - q) (l.drop q):=by
 have h1:=h.1.2.1
 rcases hs with ⟨rfl,rfl,rfl⟩ | ⟨rb,rfl⟩
 ·obtain rfl:q=0:=by simpa using hq
  simpa using h
 ·by_cases hcq:c=q
  ·rw[if_pos hcq];have:l.drop q=[]:=by rw[List.drop_eq_nil_iff];omega
   rw[this];exact⟨⟨fun e=>(by cases e),Nat.zero_le _,by have:=h.1.2.2;omega⟩,fun hn=>absurd hn (Nat.lt_irrefl _)⟩
  ·rw[if_neg hcq]
   have e:(some (⟨rb,0,none⟩:Addr)).map (·.add (q * 1))=some ⟨rb,0+q,none⟩:=by
    rw[Option.map_some,Nat.mul_one]
    by_cases h0:q=0
    ·subst h0;rfl
    ·simp[Addr.add,h0]
   rw[e];exact h.drop q (by omega)
theorem ptr_from{w:World}{c q:Nat}{ad:Option Addr}{l:List NT}(h:PtrRow w ad c l)(hs:(ad=none/\c=0/\l=[])\/∃ rb,ad=some ⟨rb,0,none⟩)(hq:q<=l.length):PtrRow w (if c=q then ad else ad.map (·.add (q * 1))) (c - q) (l.drop q):=by
 have h1:=h.1.2.1
 rcases hs with ⟨rfl,rfl,rfl⟩ | ⟨rb,rfl⟩
 ·obtain rfl:q=0:=by simpa using hq
  simpa using h
 ·by_cases hcq:c=q
  ·rw[if_pos hcq];have:l.drop q=[]:=by rw[List.drop_eq_nil_iff];omega
   rw[this];exact⟨⟨fun e=>(by cases e),Nat.zero_le _,by have:=h.1.2.2;omega⟩,fun hn=>absurd hn (Nat.lt_irrefl _)⟩
  ·rw[if_neg hcq]
   have e:(some (⟨rb,0,none⟩:Addr)).map (·.add (q * 1))=some ⟨rb,0+q,none⟩:=by
    rw[Option.map_some,Nat.mul_one]
    by_cases h0:q=0
    ·subst h0;rfl
    ·simp[Addr.add,h0]
   rw[e];exact h.drop q (by omega)
theorem row_keep{w w':World}{lo hi n c k mp:Nat}{ad:Option Addr}{f:Nat->Nat->Value}(h:RowIn w lo hi ad n c k f)(K:Keeps (·=mp) w w')(hne:∀ rb o,ad=some ⟨rb,o,none⟩->rb≠mp)(hh:hi<=w.heap.size):RowIn w' lo hi ad n c k f:=by
 refine⟨h.1,fun hn=>?_⟩;obtain⟨b,off,e,hb1,hb2,hc⟩:=h.2 hn;exact⟨b,off,e,hb1,hb2,fun i hi' j hj=>(K.cell (p:=⟨b,off+i * k+j,none⟩) (by show b < _;omega) (fun e'=>hne b off e e')).trans (hc i hi' j hj)⟩
theorem do4_any(x u:NT)(o:OpL){t:T}(B:Nat)(up:List Int)(i q:Nat)(w:World)(hx:x.GOk w)(hB:B<=w.heap.size)(ho:o.In w 0 B)(hxB:∀ b∈x.gb,B<=b)(hk:o.kind=4)(hp:o.path.l=up++[(i:Int)])(hat:x.er.at up=some t)(hu:x.sub up=u)(hi:i < u.ks.length)(hpos:o.pos=q)(hl:up.length+1<=1048576)(hkl:u.ks.length<=1048000)(hq:(q<=(u.ks.getD i default).ts.tail.length/\(u.ks.getD i default).ks=[])\/((u.ks.getD i default).ks≠[]/\q<=(u.ks.getD i default).ks.length))(hrl:(u.ks.getD i default).ts.tail.length<=1048576)(hml:(u.ks.getD i default).ks.length<=1048576) :
  Calls Tryz.prog 22 #[.pointer (some ⟨x.pc,0,none⟩),o.val] w (DoPost x (T.setAt (u.er.kids (u.er.ks.take i++(u.ks.getD i default).er.gfirst q::(u.ks.getD i default).er.gsecond q::u.er.ks.drop (i+1))) x.er up) w):=by
 have hue:=NT.sub_er hat;rw[hu] at hue;have hatE:x.er.at up=some u.er:=by rw[hue];exact hat
 have hdl:(u.ks.getD i default).er=u.er.ks.getD i default:=by rw[za2,<- NT.er_ks]
 have hil:i < u.er.ks.length:=by rw[NT.er_ks,List.length_map];exact hi
 have hks:u.er.ks=u.er.ks.take i++(u.ks.getD i default).er::u.er.ks.drop (i+1):=by
  rw[hdl,List.getD,List.getElem?_eq_getElem hil,Option.getD_some,List.getElem_cons_drop,List.take_append_drop]
 have htl:(u.er.ks.take i).length=i:=by rw[List.length_take];omega
 have hatK:x.er.at (up++[(i:Int)])=some (u.ks.getD i default).er:=T.at_the_kid hatE hks htl
 have hsubK:x.sub (up++[(i:Int)])=u.ks.getD i default:=by
  have h1:∀(p:List Int) (y:NT) {s:T},y.er.at p=some s->y.sub (p++[(i:Int)])=(y.sub p).ks.getD i default:=by
   intro p
   induction p with
   | nil=>intro y s _;rfl
   | cons a r ih =>
    intro y s h;obtain⟨h0,h1,h2⟩:=T.at_of h;rw[NT.er_ks,<- za2] at h2;exact ih (y.ks.getD a.toNat default) h2
  rw[h1 up x hat,hu]
 have hpi:IntsIn w 0 B o.path.a o.path.c (up++[(i:Int)]):=by have:=ho.1.1;rw[hp] at this;exact this
 have HPI:=zQ0 (fun w1 (g:Grew w w1)=>(IntsIn.agree hpi (g.agree hB):IntsIn w1 0 B o.path.a o.path.c (up++[(i:Int)])));have hplen:(up++[(i:Int)]).length=up.length+1:=by rw[List.length_append];rfl
 have FD:=zQ0 (fun w1 (g:Grew w w1)=>by
  have:=za8 x o.path.a o.path.c (up++[(i:Int)]) w1 (hx.grew g).g ((HPI.out w1 g).mono zQ1 (Nat.le_trans hB g.size)) hatK (by rw[hplen];exact hl);rw[hsubK,hplen] at this
  exact this)
 have HSE:=zQ0 (fun y z=>split_eq (g:=x.er) (v:=u.er) (y:=y) (z:=z) hatE hil)
 have HKU:=zQ0 (fun w1 (g:Grew w w1)=>(by
  have h:=(hx.grew g).sub_ok hatK;rw[hsubK] at h
  exact h:(u.ks.getD i default).GOk w1/\∀ b∈(u.ks.getD i default).gb,b∈x.gb))
 have HUK:Hid (u.er.ks.length=u.ks.length):=by show _=_;rw[NT.er_ks,List.length_map]
 have HX:=zQ0 hx;have HBW:=zQ0 hB;have HXB:=zQ0 hxB;have HAK:=zQ0 hatK;have HSK:=zQ0 hsubK;have HKI:=zQ0 hk;have HPO:=zQ0 hpos;have HPL:=zQ0 (show o.path.l.length=up.length+1 by rw[hp,List.length_append];rfl);have HUL:=zQ0 hl;have HIL:=zQ0 (⟨hi,hkl⟩:i < u.ks.length/\u.ks.length<=1048000);clear hx hB ho hxB hk hp hat hu hi hpos hl hkl hue hatE hdl hil hks htl hatK hsubK hpi hplen;generalize hkd:u.ks.getD i default=kd at *;clear hkd;unfold OpL.val
 go_enter Tryz.func22,Tryz.ntmps22
 go_upto_region 1 with fail
 generalize hW:w.alloc _=w1;obtain⟨g1,rO,_,z1⟩:=zas w o.cells _ w1 hW;clear hW;obtain⟨ov,hov⟩:∃ v,o.val=v:=⟨_,rfl⟩
 unfold OpL.val at hov;rw[hov];clear hov;have k0:=zcp rO (j:=0) rfl;have k1:=zcp rO (j:=1) rfl;rw[HKI.out] at k0;rw[HPL.out] at k1;have CF:=FD.out w1 g1;have G1:=zQ0 g1;have HZ1:=zQ0 z1;have HRO:=zQ0 rO;clear rO z1 g1 FD;go_wp2_with fail
 refine CF.mono ?_;rintro e w1' ⟨rfl,e2⟩;rw[e2];clear CF e2 k0 k1;go_upto_region 17 with fail
 go_cut [10] (fun s10 wx=>s10=.pointer (some ⟨w1.heap.size,0,none⟩)/\wx=w1.alloc (.cells #[.int .i64 (-2),.slice none 0 0,.slice none 0 0] 61))
 case first =>
  go_wp2_with fail
  go_meet
  exact⟨rfl,rfl⟩
 case rest =>
 obtain⟨rfl,rfl⟩:=hcut;obtain⟨m0,m1⟩:=ghR_new w1 (-2) 61;have G12:=zQ0 (Grew.alloc1 w1 (.cells #[.int .i64 (-2),.slice none 0 0,.slice none 0 0] 61));have HMT:Hid ((ghR w1.heap.size (-2) 0 none 0).ts=[-2]/\(ghR w1.heap.size (-2) 0 none 0).ks=[]/\(ghR w1.heap.size (-2) 0 none 0).pc=w1.heap.size/\(ghR w1.heap.size (-2) 0 none 0).ta=none/\(ghR w1.heap.size (-2) 0 none 0).tc=0/\(ghR w1.heap.size (-2) 0 none 0).ka=none/\(ghR w1.heap.size (-2) 0 none 0).kc=0):=⟨rfl,rfl,rfl,rfl,rfl,rfl,rfl⟩
 generalize w1.alloc (.cells #[.int .i64 (-2),.slice none 0 0,.slice none 0 0] 61)=w2 at *;generalize ghR w1.heap.size (-2) 0 none 0=m at *;obtain⟨e1,e2,e3,e4,e5,e6,e7⟩:=HMT.out;have HMT:=zQ0 (⟨e1,e2⟩:m.ts=[-2]/\m.ks=[]);have HM3:=zQ0 e3
 have hmW:∀(w':World),Grew w2 w'->w'.cell? ⟨m.pc,1,none⟩=some (.slice none 0 0)/\w'.cell? ⟨m.pc,2,none⟩=some (.slice none 0 0)/\w'.there m.pc 0 3:=fun w' g=>by
  have h:=(m0.grew g).g.own;have h1:=h.at;rw[e1,e2,e4,e5,e6,e7] at h1;exact⟨h1.2.1,h1.2.2,h.there⟩
 have hmp:m.pc=w1.heap.size:=e3;rw[<- hmp];have G2:=zQ0 (G1.out.trans G12.out)
 have hdis:∀ j∈m.gb,j ∉ x.gb:=fun j hj hjx=>by
  have h1:=m1 j hj;have h2:=HX.out.lt j hjx;have h3:=G1.out.size;omega
 have HMG:=zQ0 (fun w' (g:Grew w2 w')=>m0.grew g);have HDI:=zQ0 hdis;have HM1:Hid (∀ j∈m.gb,w.heap.size < j):=fun j hj=>by have h1:=m1 j hj;have h2:=HZ1.out;omega
 have KB:=fun(w':World) (g:Grew w2 w')=>(have h:=HKU.out w' (G2.out.trans g);have hr:=zcq HRO.out (G12.out.trans g) (by have:=HZ1.out;omega);⟨h.1.g.own.at.2.1,h.1.g.own.at.2.2,HPO.out ▸ zcp hr (j:=3) rfl,(hmW w' g).1,(hmW w' g).2.1⟩:w'.cell? ⟨kd.pc,1,none⟩=some (.slice kd.ta kd.ts.tail.length kd.tc)/\w'.cell? ⟨kd.pc,2,none⟩=some (.slice kd.ka kd.ks.length kd.kc)/\w'.cell? ⟨w.heap.size,3,none⟩=some (.int .i64 (q:Int))/\w'.cell? ⟨m.pc,1,none⟩=some (.slice none 0 0)/\w'.cell? ⟨m.pc,2,none⟩=some (.slice none 0 0))
 have HMW:=zQ0 hmW;clear m0 m1 e1 e2 e3 e4 e5 e6 e7 hmW hdis hmp;go_upto_region 18 with fail
 go_cut [107] (fun s107 wx=>∃ b:Bool,s107=.bool b/\Hid (b=decide (q<=kd.ts.tail.length/\kd.ks=[]))/\Hid (Grew w2 wx))
 case first =>
  have HQQ:=zQ0 hq;have HKB:=zQ0 KB;clear hq KB
  by_cases hA1:q<=kd.ts.tail.length
  ·have t1:decide (q<=kd.ts.tail.length)=true:=decide_eq_true hA1
   by_cases hA2:kd.ks=[]
   ·have t2:((kd.ks.length:Int) == 0)=true:=by rw[hA2];rfl
    have HDC:Hid (true=decide (q<=kd.ts.tail.length/\kd.ks=[])):=(decide_eq_true ⟨hA1,hA2⟩).symm;have hkl0:kd.ks.length=0:=by rw[hA2];rfl
    clear hA2 t2;generalize kd.ks.length=kn at *;subst hkl0;generalize kd.ts.tail.length=rn at *;clear hA1
    as_aux_lemma =>
     go_wp2_with fail
     have g50:Grew w2 w2.drew:=(Grew.refl _).drew;refine zdw (Grew w2) (fun _=>true) (by kernel_rfl) ?_;generalize w2.drew=w2d at *;refine zdj (i:=0) (v:=.pointer (some ⟨w.heap.size,3,none⟩)) (some 92) rfl rfl (by kernel_rfl) (Or.inl ⟨rfl,fun w' hS=>by kernel_rfl⟩) g50 ?_;simp only[zQ2,List.set_cons_succ,List.set_cons_zero];refine zdj (i:=1) (v:=.int .i64 (q:Int)) (some 93) rfl rfl (by kernel_rfl) (Or.inl ⟨rfl,fun w' hS=>by obtain⟨d1,d2,d3,_,_⟩:=HKB.out w' hS;exact za3 rfl (by kernel_rfl) Tryz.underlying3 rfl d3⟩) g50 ?_;simp only[zQ2,List.set_cons_succ,List.set_cons_zero];refine zdj (i:=2) (v:=.pointer (some ⟨kd.pc,0,none⟩)) (some 94) rfl rfl (by kernel_rfl) (Or.inl ⟨rfl,fun w' hS=>by kernel_rfl⟩) g50 ?_;simp only[zQ2,List.set_cons_succ,List.set_cons_zero];refine zdj (i:=3) (v:=.pointer (some ⟨kd.pc,0,none⟩)) (some 95) rfl rfl (by kernel_rfl) (Or.inl ⟨rfl,fun w' hS=>by kernel_rfl⟩) g50 ?_;simp only[zQ2,List.set_cons_succ,List.set_cons_zero];refine zdj (i:=4) (v:=.pointer (some ⟨kd.pc,1,none⟩)) (some 96) rfl rfl (by kernel_rfl) (Or.inl ⟨rfl,fun w' hS=>by kernel_rfl⟩) g50 ?_;simp only[zQ2,List.set_cons_succ,List.set_cons_zero];refine zdj (i:=5) (v:=.slice kd.ta rn kd.tc) (some 97) rfl rfl (by kernel_rfl) (Or.inl ⟨rfl,fun w' hS=>by obtain⟨d1,d2,d3,_,_⟩:=HKB.out w' hS;exact za3 rfl (by kernel_rfl) Tryz.underlying27 rfl d1⟩) g50 ?_;simp only[zQ2,List.set_cons_succ,List.set_cons_zero];refine zdj (i:=6) (v:=.int .i64 (rn:Int)) (some 98) rfl rfl (by kernel_rfl) (Or.inl ⟨rfl,fun w' hS=>by kernel_rfl⟩) g50 ?_;simp only[zQ2,List.set_cons_succ,List.set_cons_zero];refine zdj (i:=7) (v:=.bool true) (some 99) rfl rfl (by kernel_rfl) (Or.inl ⟨rfl,fun w' hS=>exec_eq (v':=.bool (decide ((q:Int)<=(rn:Int)))) (by kernel_rfl) (by rw[show decide ((q:Int)<=(rn:Int))=decide (q<=rn) from decide_eq_decide.2 Int.ofNat_le,t1])⟩) g50 ?_;simp only[zQ2,List.set_cons_succ,List.set_cons_zero];refine zdj (i:=8) (v:=.bool true) (some 100) rfl rfl (by kernel_rfl) (Or.inl ⟨rfl,fun w' hS=>by kernel_rfl⟩) g50 ?_;simp only[zQ2,List.set_cons_succ,List.set_cons_zero];refine zdj (i:=9) (v:=.pointer (some ⟨kd.pc,0,none⟩)) (some 101) rfl rfl (by kernel_rfl) (Or.inl ⟨rfl,fun w' hS=>by kernel_rfl⟩) g50 ?_;simp only[zQ2,List.set_cons_succ,List.set_cons_zero];refine zdj (i:=10) (v:=.pointer (some ⟨kd.pc,0,none⟩)) (some 102) rfl rfl (by kernel_rfl) (Or.inl ⟨rfl,fun w' hS=>by kernel_rfl⟩) g50 ?_;simp only[zQ2,List.set_cons_succ,List.set_cons_zero];refine zdj (i:=11) (v:=.pointer (some ⟨kd.pc,2,none⟩)) (some 103) rfl rfl (by kernel_rfl) (Or.inl ⟨rfl,fun w' hS=>by kernel_rfl⟩) g50 ?_;simp only[zQ2,List.set_cons_succ,List.set_cons_zero];refine zdj (i:=12) (v:=.slice kd.ka 0 kd.kc) (some 104) rfl rfl (by kernel_rfl) (Or.inl ⟨rfl,fun w' hS=>by obtain⟨d1,d2,d3,_,_⟩:=HKB.out w' hS;exact za3 rfl (by kernel_rfl) Tryz.underlying59 rfl d2⟩) g50 ?_;simp only[zQ2,List.set_cons_succ,List.set_cons_zero];refine zdj (i:=13) (v:=.int .i64 ((0:Nat):Int)) (some 105) rfl rfl (by kernel_rfl) (Or.inl ⟨rfl,fun w' hS=>by kernel_rfl⟩) g50 ?_;simp only[zQ2,List.set_cons_succ,List.set_cons_zero];refine zdj (i:=14) (v:=.bool true) (some 106) rfl rfl (by kernel_rfl) (Or.inl ⟨rfl,fun w' hS=>by kernel_rfl⟩) g50 ?_;simp only[zQ2,List.set_cons_succ,List.set_cons_zero];refine zdj (i:=15) (v:=.bool true) (some 107) rfl rfl (by kernel_rfl) (Or.inl ⟨rfl,fun w' hS=>by kernel_rfl⟩) g50 ?_;simp only[zQ2,List.set_cons_succ,List.set_cons_zero];refine zdk (by kernel_rfl) ?_ _;go_wp2_with fail
     go_meet
     exact⟨true,rfl,HDC,zQ0 g50⟩
   ·have hk1:¬ (kd.ks.length:Int)=0:=fun h=>hA2 (List.eq_nil_of_length_eq_zero (by omega));have t2:((kd.ks.length:Int) == 0)=false:=by simpa using hk1
    have HDC:Hid (false=decide (q<=kd.ts.tail.length/\kd.ks=[])):=(decide_eq_false (fun h=>hA2 h.2)).symm;clear hA2 hk1;generalize kd.ks.length=kn at *;generalize kd.ts.tail.length=rn at *;clear hA1
    as_aux_lemma =>
     go_wp2_with fail
     have g50:Grew w2 w2.drew:=(Grew.refl _).drew;refine zdw (Grew w2) (fun _=>true) (by kernel_rfl) ?_;generalize w2.drew=w2d at *;refine zdj (i:=0) (v:=.pointer (some ⟨w.heap.size,3,none⟩)) (some 92) rfl rfl (by kernel_rfl) (Or.inl ⟨rfl,fun w' hS=>by kernel_rfl⟩) g50 ?_;simp only[zQ2,List.set_cons_succ,List.set_cons_zero];refine zdj (i:=1) (v:=.int .i64 (q:Int)) (some 93) rfl rfl (by kernel_rfl) (Or.inl ⟨rfl,fun w' hS=>by obtain⟨d1,d2,d3,_,_⟩:=HKB.out w' hS;exact za3 rfl (by kernel_rfl) Tryz.underlying3 rfl d3⟩) g50 ?_;simp only[zQ2,List.set_cons_succ,List.set_cons_zero];refine zdj (i:=2) (v:=.pointer (some ⟨kd.pc,0,none⟩)) (some 94) rfl rfl (by kernel_rfl) (Or.inl ⟨rfl,fun w' hS=>by kernel_rfl⟩) g50 ?_;simp only[zQ2,List.set_cons_succ,List.set_cons_zero];refine zdj (i:=3) (v:=.pointer (some ⟨kd.pc,0,none⟩)) (some 95) rfl rfl (by kernel_rfl) (Or.inl ⟨rfl,fun w' hS=>by kernel_rfl⟩) g50 ?_;simp only[zQ2,List.set_cons_succ,List.set_cons_zero];refine zdj (i:=4) (v:=.pointer (some ⟨kd.pc,1,none⟩)) (some 96) rfl rfl (by kernel_rfl) (Or.inl ⟨rfl,fun w' hS=>by kernel_rfl⟩) g50 ?_;simp only[zQ2,List.set_cons_succ,List.set_cons_zero];refine zdj (i:=5) (v:=.slice kd.ta rn kd.tc) (some 97) rfl rfl (by kernel_rfl) (Or.inl ⟨rfl,fun w' hS=>by obtain⟨d1,d2,d3,_,_⟩:=HKB.out w' hS;exact za3 rfl (by kernel_rfl) Tryz.underlying27 rfl d1⟩) g50 ?_;simp only[zQ2,List.set_cons_succ,List.set_cons_zero];refine zdj (i:=6) (v:=.int .i64 (rn:Int)) (some 98) rfl rfl (by kernel_rfl) (Or.inl ⟨rfl,fun w' hS=>by kernel_rfl⟩) g50 ?_;simp only[zQ2,List.set_cons_succ,List.set_cons_zero];refine zdj (i:=7) (v:=.bool true) (some 99) rfl rfl (by kernel_rfl) (Or.inl ⟨rfl,fun w' hS=>exec_eq (v':=.bool (decide ((q:Int)<=(rn:Int)))) (by kernel_rfl) (by rw[show decide ((q:Int)<=(rn:Int))=decide (q<=rn) from decide_eq_decide.2 Int.ofNat_le,t1])⟩) g50 ?_;simp only[zQ2,List.set_cons_succ,List.set_cons_zero];refine zdj (i:=8) (v:=.bool true) (some 100) rfl rfl (by kernel_rfl) (Or.inl ⟨rfl,fun w' hS=>by kernel_rfl⟩) g50 ?_;simp only[zQ2,List.set_cons_succ,List.set_cons_zero];refine zdj (i:=9) (v:=.pointer (some ⟨kd.pc,0,none⟩)) (some 101) rfl rfl (by kernel_rfl) (Or.inl ⟨rfl,fun w' hS=>by kernel_rfl⟩) g50 ?_;simp only[zQ2,List.set_cons_succ,List.set_cons_zero];refine zdj (i:=10) (v:=.pointer (some ⟨kd.pc,0,none⟩)) (some 102) rfl rfl (by kernel_rfl) (Or.inl ⟨rfl,fun w' hS=>by kernel_rfl⟩) g50 ?_;simp only[zQ2,List.set_cons_succ,List.set_cons_zero];refine zdj (i:=11) (v:=.pointer (some ⟨kd.pc,2,none⟩)) (some 103) rfl rfl (by kernel_rfl) (Or.inl ⟨rfl,fun w' hS=>by kernel_rfl⟩) g50 ?_;simp only[zQ2,List.set_cons_succ,List.set_cons_zero];refine zdj (i:=12) (v:=.slice kd.ka kn kd.kc) (some 104) rfl rfl (by kernel_rfl) (Or.inl ⟨rfl,fun w' hS=>by obtain⟨d1,d2,d3,_,_⟩:=HKB.out w' hS;exact za3 rfl (by kernel_rfl) Tryz.underlying59 rfl d2⟩) g50 ?_;simp only[zQ2,List.set_cons_succ,List.set_cons_zero];refine zdj (i:=13) (v:=.int .i64 (kn:Int)) (some 105) rfl rfl (by kernel_rfl) (Or.inl ⟨rfl,fun w' hS=>by kernel_rfl⟩) g50 ?_;simp only[zQ2,List.set_cons_succ,List.set_cons_zero];refine zdj (i:=14) (v:=.bool false) (some 106) rfl rfl (by kernel_rfl) (Or.inl ⟨rfl,fun w' hS=>exec_eq (v':=.bool ((kn:Int) == 0)) (by kernel_rfl) (by rw[t2])⟩) g50 ?_;simp only[zQ2,List.set_cons_succ,List.set_cons_zero];refine zdj (i:=15) (v:=.bool false) (some 107) rfl rfl (by kernel_rfl) (Or.inl ⟨rfl,fun w' hS=>by kernel_rfl⟩) g50 ?_;simp only[zQ2,List.set_cons_succ,List.set_cons_zero];refine zdk (by kernel_rfl) ?_ _;go_wp2_with fail
     go_meet
     exact⟨false,rfl,HDC,zQ0 g50⟩
  ·have t1:decide (q<=kd.ts.tail.length)=false:=decide_eq_false hA1;have HDC:Hid (false=decide (q<=kd.ts.tail.length/\kd.ks=[])):=(decide_eq_false (fun h=>hA1 h.1)).symm;generalize kd.ks.length=kn at *;generalize kd.ts.tail.length=rn at *;clear hA1
   as_aux_lemma =>
    go_wp2_with fail
    have g50:Grew w2 w2.drew:=(Grew.refl _).drew;refine zdw (Grew w2) (fun _=>true) (by kernel_rfl) ?_;generalize w2.drew=w2d at *;refine zdj (i:=0) (v:=.pointer (some ⟨w.heap.size,3,none⟩)) (some 92) rfl rfl (by kernel_rfl) (Or.inl ⟨rfl,fun w' hS=>by kernel_rfl⟩) g50 ?_;simp only[zQ2,List.set_cons_succ,List.set_cons_zero];refine zdj (i:=1) (v:=.int .i64 (q:Int)) (some 93) rfl rfl (by kernel_rfl) (Or.inl ⟨rfl,fun w' hS=>by obtain⟨d1,d2,d3,_,_⟩:=HKB.out w' hS;exact za3 rfl (by kernel_rfl) Tryz.underlying3 rfl d3⟩) g50 ?_;simp only[zQ2,List.set_cons_succ,List.set_cons_zero];refine zdj (i:=2) (v:=.pointer (some ⟨kd.pc,0,none⟩)) (some 94) rfl rfl (by kernel_rfl) (Or.inl ⟨rfl,fun w' hS=>by kernel_rfl⟩) g50 ?_;simp only[zQ2,List.set_cons_succ,List.set_cons_zero];refine zdj (i:=3) (v:=.pointer (some ⟨kd.pc,0,none⟩)) (some 95) rfl rfl (by kernel_rfl) (Or.inl ⟨rfl,fun w' hS=>by kernel_rfl⟩) g50 ?_;simp only[zQ2,List.set_cons_succ,List.set_cons_zero];refine zdj (i:=4) (v:=.pointer (some ⟨kd.pc,1,none⟩)) (some 96) rfl rfl (by kernel_rfl) (Or.inl ⟨rfl,fun w' hS=>by kernel_rfl⟩) g50 ?_;simp only[zQ2,List.set_cons_succ,List.set_cons_zero];refine zdj (i:=5) (v:=.slice kd.ta rn kd.tc) (some 97) rfl rfl (by kernel_rfl) (Or.inl ⟨rfl,fun w' hS=>by obtain⟨d1,d2,d3,_,_⟩:=HKB.out w' hS;exact za3 rfl (by kernel_rfl) Tryz.underlying27 rfl d1⟩) g50 ?_;simp only[zQ2,List.set_cons_succ,List.set_cons_zero];refine zdj (i:=6) (v:=.int .i64 (rn:Int)) (some 98) rfl rfl (by kernel_rfl) (Or.inl ⟨rfl,fun w' hS=>by kernel_rfl⟩) g50 ?_;simp only[zQ2,List.set_cons_succ,List.set_cons_zero];refine zdj (i:=7) (v:=.bool false) (some 99) rfl rfl (by kernel_rfl) (Or.inl ⟨rfl,fun w' hS=>exec_eq (v':=.bool (decide ((q:Int)<=(rn:Int)))) (by kernel_rfl) (by rw[show decide ((q:Int)<=(rn:Int))=decide (q<=rn) from decide_eq_decide.2 Int.ofNat_le,t1])⟩) g50 ?_;simp only[zQ2,List.set_cons_succ,List.set_cons_zero];refine zdj (i:=8) (v:=.bool false) (some 100) rfl rfl (by kernel_rfl) (Or.inl ⟨rfl,fun w' hS=>by kernel_rfl⟩) g50 ?_;simp only[zQ2,List.set_cons_succ,List.set_cons_zero];refine zdj (i:=9) (v:=undef) (some 101) rfl rfl (by kernel_rfl) (Or.inr ⟨rfl,rfl⟩) g50 ?_;simp only[zQ2,List.set_cons_succ,List.set_cons_zero];refine zdj (i:=10) (v:=undef) (some 102) rfl rfl (by kernel_rfl) (Or.inr ⟨rfl,rfl⟩) g50 ?_;simp only[zQ2,List.set_cons_succ,List.set_cons_zero];refine zdj (i:=11) (v:=undef) (some 103) rfl rfl (by kernel_rfl) (Or.inr ⟨rfl,rfl⟩) g50 ?_;simp only[zQ2,List.set_cons_succ,List.set_cons_zero];refine zdj (i:=12) (v:=undef) (some 104) rfl rfl (by kernel_rfl) (Or.inr ⟨rfl,rfl⟩) g50 ?_;simp only[zQ2,List.set_cons_succ,List.set_cons_zero];refine zdj (i:=13) (v:=undef) (some 105) rfl rfl (by kernel_rfl) (Or.inr ⟨rfl,rfl⟩) g50 ?_;simp only[zQ2,List.set_cons_succ,List.set_cons_zero];refine zdj (i:=14) (v:=undef) (some 106) rfl rfl (by kernel_rfl) (Or.inr ⟨rfl,rfl⟩) g50 ?_;simp only[zQ2,List.set_cons_succ,List.set_cons_zero];refine zdj (i:=15) (v:=.bool false) (some 107) rfl rfl (by kernel_rfl) (Or.inl ⟨rfl,fun w' hS=>by kernel_rfl⟩) g50 ?_;simp only[zQ2,List.set_cons_succ,List.set_cons_zero];refine zdk (by kernel_rfl) ?_ _;go_wp2_with fail
    go_meet
    exact⟨false,rfl,HDC,zQ0 g50⟩
 case rest =>
 obtain⟨b107,rfl,hb107,GD⟩:=hcut;obtain⟨w2d,hw2d⟩:∃ z,z=wc:=⟨_,rfl⟩
 subst hw2d
 go_upto_if 107 with fail
 go_cut [9,10] (fun s9 s10 wx=>s9=.pointer (some ⟨kd.pc,0,none⟩)/\s10=.pointer (some ⟨m.pc,0,none⟩)/\Hid (Parted x kd m (up++[(i:Int)]) (kd.er.gfirst q) (kd.er.gsecond q) w2 wx))
 case first =>
  have HKT:=zQ0 (HKU.out w2 G2.out).1;have HXO:=zQ0 (HX.out.grew G2.out);have KF:=zQ0 (fun(w':World) (g:Grew w2 w')=>(⟨(HMW.out w' g).2.2,(HKU.out w' (G2.out.trans g)).1.g.own.there⟩:w'.there m.pc 0 3/\w'.there kd.pc 0 3))
  have HKM:Hid (kd.pc < w2.heap.size/\m.pc < w2.heap.size/\kd.pc≠m.pc):=by
   have h1:=HKT.out.lt kd.pc (by rw[NT.gb_eq];exact List.mem_append_left _ (List.mem_cons_self ..));have h2:=(HMG.out w2 (Grew.refl _)).lt m.pc (by rw[NT.gb_eq];exact List.mem_append_left _ (List.mem_cons_self ..));refine⟨h1,h2,fun e=>HDI.out m.pc (by rw[NT.gb_eq];exact List.mem_append_left _ (List.mem_cons_self ..)) ((HKU.out w2 G2.out).2 _ (by rw[<- e,NT.gb_eq];exact List.mem_append_left _ (List.mem_cons_self ..)))⟩
  have HBX:Hid (w.heap.size≠m.pc/\w.heap.size < w2.heap.size):=⟨by have:=HM1.out m.pc (by rw[NT.gb_eq];exact List.mem_append_left _ (List.mem_cons_self ..));omega,by have h1:=HZ1.out;have h2:=G12.out.size;omega⟩
  have hints:=HKT.out.g.own.ints;have hcapR:kd.ts.tail.length<=kd.tc/\kd.tc<=maxLen:=⟨hints.1.2.1,hints.1.2.2⟩
  have HROW:=zQ0 HKT.out.g.own.row;have hcapK:kd.ks.length<=kd.kc/\kd.kc<=maxLen:=⟨HROW.out.1.2.1,HROW.out.1.2.2⟩
  unfold maxLen at hcapR hcapK;have hrowR:=HKT.out.g.own.rune_row;have hrowK:=HKT.out.g.own.kid_row;have HINT:=zQ0 hints;have HKTS:=zQ0 HKT.out.g.own.hts;clear hints
  by_cases hA:q<=kd.ts.tail.length/\kd.ks=[]
  case pos =>
   obtain⟨hA1,hA2⟩:=hA
   have HFS:Hid (kd.er.gfirst q=.mk false [] (kd.ts.headD 0::kd.ts.tail.take q) kd.er.ks/\kd.er.gsecond q=.mk false [] (-2::kd.ts.tail.drop q) []):=by
    have hc:q<=kd.er.ts.length - 1/\kd.er.ks=[]:=⟨by rw[NT.er_ts];rw[List.length_tail] at hA1;exact hA1,by rw[NT.er_ks,hA2];rfl⟩
    obtain⟨z,r,hzr⟩:=List.exists_cons_of_ne_nil HKTS.out;refine⟨?_,?_⟩
    ·unfold T.gfirst;rw[if_pos hc,NT.er_ts,hzr];rfl
    ·unfold T.gsecond;rw[if_pos hc,NT.er_ts,hzr];rfl
   obtain rfl:b107=true:=hb107.out.trans (decide_eq_true ⟨hA1,hA2⟩)
   have HPART:=zQ0 (fun(w0:World) (g0:Grew w2 w0) (w3 w5:World) (v3 v5:Value) (L3 L5:List Int) (h3:L3=kd.ts.tail.drop q) (h5:L5=kd.ts.tail.take q) (hB3:zaa (fun _=>False) w0.heap.size w3 v3 L3) (g3:Grew w0 w3) (hB5:zaa (fun _=>False) (w3.setCell ⟨m.pc,1,none⟩ v3).heap.size w5 v5 L5) (g5:Grew (w3.setCell ⟨m.pc,1,none⟩ v3) w5)=>(by
    have h:=(HXO.out.grew g0).partRunes HAK.out HSK.out (HMG.out w0 g0) HMT.out.2 HDI.out hB3 g3 hB5 g5;rw[HMT.out.1,h3,h5] at h;rw[HFS.out.1,HFS.out.2]
    exact h.from g0:Parted x kd m (up++[(i:Int)]) (kd.er.gfirst q) (kd.er.gsecond q) w2 (w5.setCell ⟨kd.pc,1,none⟩ v5)))
   clear hA2 hq hrowK hcapK HROW HFS HKTS;generalize hLL:kd.ts.tail=rl at *;have HTL:=zQ0 hLL;clear hLL;have hkd1:∀ w',Grew w2 w'->w'.cell? ⟨kd.pc,1,none⟩=some (.slice kd.ta rl.length kd.tc)/\w'.cell? ⟨w.heap.size,3,none⟩=some (.int .i64 (q:Int))/\w'.cell? ⟨m.pc,1,none⟩=some (.slice none 0 0):=fun w' g=>⟨(KB w' g).1,(KB w' g).2.2.1,(KB w' g).2.2.2.1⟩
   clear hb107;have HQL:Hid (q<=rl.length/\rl.length<=kd.tc):=⟨hA1,hcapR.1⟩
   have HQM:Hid (rl.length<=1048576):=hrl;have HTK:Hid ((rl.take q).length=q):=by show _=_;rw[List.length_take];omega
   have HNE:Hid (∀ rb o,kd.ta=some ⟨rb,o,none⟩->rb≠m.pc):=fun rb o ha=>by
    have hr:zb4 kd.runesV rb:=by unfold NT.runesV;rw[ha];rfl
    have hg:rb∈kd.gb:=by rw[NT.gb_eq];exact List.mem_append_left _ (List.mem_cons_of_mem _ (List.mem_append_left _ (mem_ownL.2 hr)))
    exact fun e=>HDI.out m.pc (by rw[NT.gb_eq];exact List.mem_append_left _ (List.mem_cons_self ..)) ((HKU.out w2 G2.out).2 _ (e ▸ hg))
   have HRD:=zQ0 (fun(w':World) (g:Grew w2 w')=>numRow (ints_from ((IntsIn.grew HINT.out g zQ1).mono (Nat.le_refl 0) g.size) hrowR (q:=q) hA1));have HRO5:=zQ0 (fun(w3 w5 w':World) (g3:Grew w2 w3) (k:Keeps (·=m.pc) w3 w5) (g:Grew w5 w')=>(have hs:=k.size;have h3:=g3.size;numRow (IntsIn.take ((IntsIn.grew (row_keep (IntsIn.grew HINT.out g3 zQ1) k HNE.out h3) g (by omega)).mono (Nat.le_refl 0) (show w2.heap.size<=w'.heap.size by have:=g.size;omega)) (k:=q) hA1)));have KBq:=hkd1;clear hkd1 KB hrowR hcapR hA1 hrl
   as_aux_lemma =>
    have HQB:=zQ0 KBq;clear KBq;go_upto_region 19 with fail
    have GE:Hid (Grew w2 w2d.drew):=GD.out.drew;clear GD;refine zdw (Grew w2) (fun j=>j.blt 13) (by kernel_rfl) ?_;generalize w2d.drew=w3 at *;refine zdj (i:=0) (v:=.pointer (some ⟨m.pc,0,none⟩)) (some 108) rfl rfl (by kernel_rfl) (Or.inl ⟨rfl,fun w' hS=>by kernel_rfl⟩) GE.out ?_;simp only[zQ2,List.set_cons_succ,List.set_cons_zero];refine zdj (i:=1) (v:=.pointer (some ⟨m.pc,0,none⟩)) (some 109) rfl rfl (by kernel_rfl) (Or.inl ⟨rfl,fun w' hS=>by kernel_rfl⟩) GE.out ?_;simp only[zQ2,List.set_cons_succ,List.set_cons_zero];refine zdj (i:=2) (v:=.pointer (some ⟨m.pc,0,none⟩)) (some 110) rfl rfl (by kernel_rfl) (Or.inl ⟨rfl,fun w' hS=>by kernel_rfl⟩) GE.out ?_;simp only[zQ2,List.set_cons_succ,List.set_cons_zero];refine zdj (i:=3) (v:=.pointer (some ⟨m.pc,1,none⟩)) (some 111) rfl rfl (by kernel_rfl) (Or.inl ⟨rfl,fun w' hS=>by kernel_rfl⟩) GE.out ?_;simp only[zQ2,List.set_cons_succ,List.set_cons_zero];refine zdj (i:=4) (v:=.slice none 0 0) (some 112) rfl rfl (by kernel_rfl) (Or.inl ⟨rfl,fun w' hS=>by obtain⟨e1,e3,eA⟩:=HQB.out w' hS;exact za3 rfl (by kernel_rfl) Tryz.underlying27 rfl eA⟩) GE.out ?_;simp only[zQ2,List.set_cons_succ,List.set_cons_zero];refine zdj (i:=5) (v:=.pointer (some ⟨kd.pc,0,none⟩)) (some 113) rfl rfl (by kernel_rfl) (Or.inl ⟨rfl,fun w' hS=>by kernel_rfl⟩) GE.out ?_;simp only[zQ2,List.set_cons_succ,List.set_cons_zero];refine zdj (i:=6) (v:=.pointer (some ⟨kd.pc,0,none⟩)) (some 114) rfl rfl (by kernel_rfl) (Or.inl ⟨rfl,fun w' hS=>by kernel_rfl⟩) GE.out ?_;simp only[zQ2,List.set_cons_succ,List.set_cons_zero];refine zdj (i:=7) (v:=.pointer (some ⟨kd.pc,1,none⟩)) (some 115) rfl rfl (by kernel_rfl) (Or.inl ⟨rfl,fun w' hS=>by kernel_rfl⟩) GE.out ?_;simp only[zQ2,List.set_cons_succ,List.set_cons_zero];refine zdj (i:=8) (v:=.slice kd.ta rl.length kd.tc) (some 116) rfl rfl (by kernel_rfl) (Or.inl ⟨rfl,fun w' hS=>by obtain⟨e1,e3,eA⟩:=HQB.out w' hS;exact za3 rfl (by kernel_rfl) Tryz.underlying27 rfl e1⟩) GE.out ?_;simp only[zQ2,List.set_cons_succ,List.set_cons_zero];refine zdj (i:=9) (v:=.pointer (some ⟨w.heap.size,3,none⟩)) (some 117) rfl rfl (by kernel_rfl) (Or.inl ⟨rfl,fun w' hS=>by kernel_rfl⟩) GE.out ?_;simp only[zQ2,List.set_cons_succ,List.set_cons_zero];refine zdj (i:=10) (v:=.int .i64 (q:Int)) (some 118) rfl rfl (by kernel_rfl) (Or.inl ⟨rfl,fun w' hS=>by obtain⟨e1,e3,eA⟩:=HQB.out w' hS;exact za3 rfl (by kernel_rfl) Tryz.underlying3 rfl e3⟩) GE.out ?_;simp only[zQ2,List.set_cons_succ,List.set_cons_zero];obtain⟨xa,hxa⟩:∃ z:Option Addr,z=(if kd.tc=q then kd.ta else kd.ta.map (·.add (q * 1))):=⟨_,rfl⟩
    refine zdj (i:=11) (v:=.slice xa (rl.length - q) (kd.tc - q)) (some 119) rfl rfl (by kernel_rfl) (Or.inl ⟨rfl,fun w' hS=>exec_eq (exec_from (x:=.tmp 116) (y:=.tmp 118) (n:=rl.length) rfl (by kernel_rfl) (by kernel_rfl) Tryz.underlying27 infoIntBS HQL.out.1 HQL.out.2) (by rw[hxa])⟩) GE.out ?_;simp only[zQ2,List.set_cons_succ,List.set_cons_zero];have HRX:=HRD.out w3 GE.out;rw[<- hxa] at HRX;refine zdl (i:=12) (by kernel_rfl) rfl rfl ?_;intro K' hK';refine zdt (S:=fun _=>False) (B:=w3.heap.size) rfl (.tmp 112) (.tmp 119) rfl (some 120) rfl (.slice none 0 0) [] (rl.drop q) (by kernel_rfl) Built.nil xa (kd.tc - q) 0 _ (by rw[List.length_drop];kernel_rfl) HRX (by rw[List.length_drop,List.length_nil];have:=HQM.out;omega) zQ1 ?_;intro v4 w4 hB4 hm4;rw[List.nil_append] at hB4;have g4:Grew w3 w4:=(Grew.refl _).own hm4 (fun j hj=>absurd hj zb5);have hg4:=GE.out.trans g4;obtain⟨n4,a4,c4,rfl⟩:=zcS hB4.1;obtain⟨f1,f2⟩:=(KF.out w4 hg4).1 1 (by decide);simp only[Nat.zero_add] at f1 f2;obtain⟨old,f3⟩:=Option.isSome_iff_exists.1 f1;have HP2:=zQ0 (fun w7 v7 L5 h5 hB7 g7=>HPART.out w3 GE.out w4 w7 (.slice a4 n4 c4) v7 (rl.drop q) L5 rfl h5 hB4 g4 hB7 g7);have K35:Keeps (·=m.pc) w3 (w4.setCell ⟨m.pc,1,none⟩ (.slice a4 n4 c4)):=(g4.keeps _).trans ((Keeps.refl (·=m.pc) w4).own _ _);refine hK' _ _ ⟨fun _=>hg4,?_⟩;clear hK' K' hB4 hm4 g4 HRX hxa;simp only[zQ2,List.set_cons_succ,List.set_cons_zero];refine zdl (i:=13) (by kernel_rfl) rfl rfl ?_;intro K' hK';go_wp2_with fail
    first | refine⟨fun(h:false=true)=>(by cases h),?_⟩ | skip
    refine zdl (i:=14) (by kernel_rfl) rfl rfl ?_;intro K' hK';go_wp2_with fail
    first | refine⟨fun(h:false=true)=>(by cases h),?_⟩ | skip
    refine zdl (i:=15) (by kernel_rfl) rfl rfl ?_;intro K' hK';go_wp2_with fail
    first | refine⟨fun(h:false=true)=>(by cases h),?_⟩ | skip
    refine zdk (by kernel_rfl) ?_ _;go_upto_region 20 with fail
    generalize w4.setCell ⟨m.pc,1,none⟩ (.slice a4 n4 c4)=w5 at *;have hk3:=HKM.out;have hs3:=GE.out.size;have KC:=fun(w':World) (g:Grew w5 w')=>(have h3:=HQB.out w3 GE.out;have hs5:=K35.size;⟨(g.cell (p:=⟨kd.pc,1,none⟩) (by show kd.pc < _;omega)).trans ((K35.cell (p:=⟨kd.pc,1,none⟩) (by show kd.pc < _;omega) (fun e=>hk3.2.2 e)).trans h3.1),(g.cell (p:=⟨w.heap.size,3,none⟩) (by show w.heap.size < _;have:=HBX.out.2;omega)).trans ((K35.cell (p:=⟨w.heap.size,3,none⟩) (by show w.heap.size < _;have:=HBX.out.2;omega) (fun e=>HBX.out.1 e)).trans h3.2.1)⟩:w'.cell? ⟨kd.pc,1,none⟩=some (.slice kd.ta rl.length kd.tc)/\w'.cell? ⟨w.heap.size,3,none⟩=some (.int .i64 (q:Int)))
    have HKC:=zQ0 KC;clear KC;have KH:=zQ0 (fun(w':World) (g:Grew w5 w')=>zc9 (Go.Proofs.YtccobobnmpafbaaGreatDoor.there_keeps (KF.out w3 GE.out).2 K35 (by omega) (fun e=>hk3.2.2 e)) g (by have:=K35.size;omega));have HRT:=zQ0 (fun(w':World) (g:Grew w5 w')=>HRO5.out w3 w5 w' GE.out K35 g);clear f1 f2 f3;refine zdw (Grew w5) (fun j=>j.blt 9) (by kernel_rfl) ?_;have G56:Hid (Grew w5 w5.drew):=(Grew.refl _).drew;generalize w5.drew=w6 at *;refine zdj (i:=0) (v:=.pointer (some ⟨kd.pc,0,none⟩)) (some 123) rfl rfl (by kernel_rfl) (Or.inl ⟨rfl,fun w' hS=>by kernel_rfl⟩) G56.out ?_;simp only[zQ2,List.set_cons_succ,List.set_cons_zero];refine zdj (i:=1) (v:=.pointer (some ⟨kd.pc,0,none⟩)) (some 124) rfl rfl (by kernel_rfl) (Or.inl ⟨rfl,fun w' hS=>by kernel_rfl⟩) G56.out ?_;simp only[zQ2,List.set_cons_succ,List.set_cons_zero];refine zdj (i:=2) (v:=.pointer (some ⟨kd.pc,0,none⟩)) (some 125) rfl rfl (by kernel_rfl) (Or.inl ⟨rfl,fun w' hS=>by kernel_rfl⟩) G56.out ?_;simp only[zQ2,List.set_cons_succ,List.set_cons_zero];refine zdj (i:=3) (v:=.pointer (some ⟨kd.pc,1,none⟩)) (some 126) rfl rfl (by kernel_rfl) (Or.inl ⟨rfl,fun w' hS=>by kernel_rfl⟩) G56.out ?_;simp only[zQ2,List.set_cons_succ,List.set_cons_zero];refine zdj (i:=4) (v:=.slice kd.ta rl.length kd.tc) (some 127) rfl rfl (by kernel_rfl) (Or.inl ⟨rfl,fun w' hS=>by obtain⟨e1,e3⟩:=HKC.out w' hS;exact za3 rfl (by kernel_rfl) Tryz.underlying27 rfl e1⟩) G56.out ?_;simp only[zQ2,List.set_cons_succ,List.set_cons_zero];refine zdj (i:=5) (v:=.pointer (some ⟨w.heap.size,3,none⟩)) (some 128) rfl rfl (by kernel_rfl) (Or.inl ⟨rfl,fun w' hS=>by kernel_rfl⟩) G56.out ?_;simp only[zQ2,List.set_cons_succ,List.set_cons_zero];refine zdj (i:=6) (v:=.int .i64 (q:Int)) (some 129) rfl rfl (by kernel_rfl) (Or.inl ⟨rfl,fun w' hS=>by obtain⟨e1,e3⟩:=HKC.out w' hS;exact za3 rfl (by kernel_rfl) Tryz.underlying3 rfl e3⟩) G56.out ?_;simp only[zQ2,List.set_cons_succ,List.set_cons_zero];refine zdj (i:=7) (v:=.slice kd.ta q kd.tc) (some 130) rfl rfl (by kernel_rfl) (Or.inl ⟨rfl,fun w' hS=>exec_to (x:=.tmp 127) (y:=.tmp 129) (n:=rl.length) rfl (by kernel_rfl) (by kernel_rfl) Tryz.underlying27 infoIntBS HQL.out.1 HQL.out.2⟩) G56.out ?_;simp only[zQ2,List.set_cons_succ,List.set_cons_zero];have HRX:=HRT.out w6 G56.out;refine zdl (i:=8) (by kernel_rfl) rfl rfl ?_;intro K' hK';refine zdt (S:=fun _=>False) (B:=w6.heap.size) rfl (.const (.slice none 0 0)) (.tmp 130) rfl (some 131) rfl (.slice none 0 0) [] (rl.take q) rfl Built.nil kd.ta kd.tc 0 _ (by rw[HTK.out];kernel_rfl) HRX (by rw[HTK.out,List.length_nil];have:=HQM.out;have:=HQL.out.1;omega) zQ1 ?_;intro v7 w7 hB7 hm7;rw[List.nil_append] at hB7;have g7:Grew w6 w7:=(Grew.refl _).own hm7 (fun j hj=>absurd hj zb5);have hg7:=G56.out.trans g7;obtain⟨n7,a7,c7,rfl⟩:=zcS hB7.1;obtain⟨f1,f2⟩:=KH.out w7 hg7 1 (by decide);simp only[Nat.zero_add] at f1 f2;obtain⟨old7,f3⟩:=Option.isSome_iff_exists.1 f1;have HF:=zQ0 (HP2.out w7 (.slice a7 n7 c7) (rl.take q) rfl ⟨zca hB7.1 G56.out.size,fun _ _ _ _=>trivial⟩ hg7);refine hK' _ _ ⟨fun _=>hg7,?_⟩;clear hK' K' hB7 hm7 g7 HRX;simp only[zQ2,List.set_cons_succ,List.set_cons_zero];refine zdl (i:=9) (by kernel_rfl) rfl rfl ?_;intro K' hK';go_wp2_with fail
    first | refine⟨fun(h:false=true)=>(by cases h),?_⟩ | skip
    refine zdl (i:=10) (by kernel_rfl) rfl rfl ?_;intro K' hK';go_wp2_with fail
    first | refine⟨fun(h:false=true)=>(by cases h),?_⟩ | skip
    refine zdl (i:=11) (by kernel_rfl) rfl rfl ?_;intro K' hK';go_wp2_with fail
    first | refine⟨fun(h:false=true)=>(by cases h),?_⟩ | skip
    refine zdk (by kernel_rfl) ?_ _;go_wp2_with fail
    go_meet
    exact⟨rfl,rfl,HF⟩
  case neg =>
   have hne:kd.ks≠[]/\q<=kd.ks.length:=by
    rcases hq with h | h
    ·exact absurd h hA
    ·exact h
   have HFS:Hid (kd.er.gfirst q=.mk false [] kd.ts (kd.er.ks.take q)/\kd.er.gsecond q=.mk false [] [-2] (kd.er.ks.drop q)):=by
    have hc:¬ (q<=kd.er.ts.length - 1/\kd.er.ks=[]):=fun h=>hne.1 (by have:=h.2;rw[NT.er_ks] at this;simpa using this);refine⟨?_,?_⟩
    ·unfold T.gfirst;rw[if_neg hc,NT.er_ts]
    ·unfold T.gsecond;rw[if_neg hc]
   have hkl1:0 < kd.ks.length:=List.length_pos_iff.2 hne.1;obtain rfl:b107=false:=hb107.out.trans (decide_eq_false hA);obtain⟨hne1,hne2⟩:=hne
   have HPART:=zQ0 (fun(w0:World) (g0:Grew w2 w0) (w3 w5:World) (v3 v5:Value) (L3 L5:List NT) (h3:L3=kd.ks.drop q) (h5:L5=kd.ks.take q) (hB3:zad (fun _=>False) w0.heap.size w3 v3 L3) (g3:Grew w0 w3) (hB5:zad (fun _=>False) (w3.setCell ⟨m.pc,2,none⟩ v3).heap.size w5 v5 L5) (g5:Grew (w3.setCell ⟨m.pc,2,none⟩ v3) w5)=>(by
    rw[h3] at hB3;rw[h5] at hB5;have h:=(HXO.out.grew g0).partKids HAK.out HSK.out (HMG.out w0 g0) HMT.out.2 HDI.out hB3 g3 hB5 g5;rw[HMT.out.1] at h;rw[HFS.out.1,HFS.out.2]
    exact h.from g0:Parted x kd m (up++[(i:Int)]) (kd.er.gfirst q) (kd.er.gsecond q) w2 (w5.setCell ⟨kd.pc,2,none⟩ v5)))
   clear hA hq hrowR hcapR hne1 HFS HKTS hkl1;clear hb107;have hkd1:∀ w',Grew w2 w'->w'.cell? ⟨kd.pc,2,none⟩=some (.slice kd.ka kd.ks.length kd.kc)/\w'.cell? ⟨w.heap.size,3,none⟩=some (.int .i64 (q:Int))/\w'.cell? ⟨m.pc,2,none⟩=some (.slice none 0 0):=fun w' g=>⟨(KB w' g).2.1,(KB w' g).2.2.1,(KB w' g).2.2.2.2⟩
   have HQL:Hid (q<=kd.ks.length/\kd.ks.length<=kd.kc):=⟨hne2,hcapK.1⟩
   have HQM:Hid (kd.ks.length<=1048576):=hml;have HTK:Hid ((kd.ks.take q).length=q):=by show _=_;rw[List.length_take];omega
   have HNE:Hid (∀ rb o,kd.ka=some ⟨rb,o,none⟩->rb≠m.pc):=fun rb o ha=>by
    have hr:zb4 kd.kidsV rb:=by unfold NT.kidsV;rw[ha];rfl
    have hg:rb∈kd.gb:=by rw[NT.gb_eq];exact List.mem_append_left _ (List.mem_cons_of_mem _ (List.mem_append_right _ (mem_ownL.2 hr)))
    exact fun e=>HDI.out m.pc (by rw[NT.gb_eq];exact List.mem_append_left _ (List.mem_cons_self ..)) ((HKU.out w2 G2.out).2 _ (e ▸ hg))
   have HRD:=zQ0 (fun(w':World) (g:Grew w2 w')=>ptr_from (zcH HROW.out g:PtrRow w' kd.ka kd.kc kd.ks) hrowK (q:=q) hne2)
   have HRO5:=zQ0 (fun(w3 w5 w':World) (g3:Grew w2 w3) (k:Keeps (·=m.pc) w3 w5) (g:Grew w5 w')=>(by
    have h1:PtrRow w3 kd.ka kd.kc kd.ks:=zcH HROW.out g3;have h2:=row_keep h1 k HNE.out zQ1;have h3:PtrRow w' kd.ka kd.kc kd.ks:=zcH (RowIn.mono h2 (Nat.le_refl 0) k.size:PtrRow w5 kd.ka kd.kc kd.ks) g
    exact h3.take q hne2))
   have KBq:=hkd1;clear hkd1 KB hrowK hcapK hne2 hml
   as_aux_lemma =>
    have HQB:=zQ0 KBq;clear KBq;go_upto_region 21 with fail
    have GE:Hid (Grew w2 w2d.drew):=GD.out.drew;clear GD;refine zdw (Grew w2) (fun j=>j.blt 13) (by kernel_rfl) ?_;generalize w2d.drew=w3 at *;refine zdj (i:=0) (v:=.pointer (some ⟨m.pc,0,none⟩)) (some 134) rfl rfl (by kernel_rfl) (Or.inl ⟨rfl,fun w' hS=>by kernel_rfl⟩) GE.out ?_;simp only[zQ2,List.set_cons_succ,List.set_cons_zero];refine zdj (i:=1) (v:=.pointer (some ⟨m.pc,0,none⟩)) (some 135) rfl rfl (by kernel_rfl) (Or.inl ⟨rfl,fun w' hS=>by kernel_rfl⟩) GE.out ?_;simp only[zQ2,List.set_cons_succ,List.set_cons_zero];refine zdj (i:=2) (v:=.pointer (some ⟨m.pc,0,none⟩)) (some 136) rfl rfl (by kernel_rfl) (Or.inl ⟨rfl,fun w' hS=>by kernel_rfl⟩) GE.out ?_;simp only[zQ2,List.set_cons_succ,List.set_cons_zero];refine zdj (i:=3) (v:=.pointer (some ⟨m.pc,2,none⟩)) (some 137) rfl rfl (by kernel_rfl) (Or.inl ⟨rfl,fun w' hS=>by kernel_rfl⟩) GE.out ?_;simp only[zQ2,List.set_cons_succ,List.set_cons_zero];refine zdj (i:=4) (v:=.slice none 0 0) (some 138) rfl rfl (by kernel_rfl) (Or.inl ⟨rfl,fun w' hS=>by obtain⟨e1,e3,eA⟩:=HQB.out w' hS;exact za3 rfl (by kernel_rfl) Tryz.underlying59 rfl eA⟩) GE.out ?_;simp only[zQ2,List.set_cons_succ,List.set_cons_zero];refine zdj (i:=5) (v:=.pointer (some ⟨kd.pc,0,none⟩)) (some 139) rfl rfl (by kernel_rfl) (Or.inl ⟨rfl,fun w' hS=>by kernel_rfl⟩) GE.out ?_;simp only[zQ2,List.set_cons_succ,List.set_cons_zero];refine zdj (i:=6) (v:=.pointer (some ⟨kd.pc,0,none⟩)) (some 140) rfl rfl (by kernel_rfl) (Or.inl ⟨rfl,fun w' hS=>by kernel_rfl⟩) GE.out ?_;simp only[zQ2,List.set_cons_succ,List.set_cons_zero];refine zdj (i:=7) (v:=.pointer (some ⟨kd.pc,2,none⟩)) (some 141) rfl rfl (by kernel_rfl) (Or.inl ⟨rfl,fun w' hS=>by kernel_rfl⟩) GE.out ?_;simp only[zQ2,List.set_cons_succ,List.set_cons_zero];refine zdj (i:=8) (v:=.slice kd.ka kd.ks.length kd.kc) (some 142) rfl rfl (by kernel_rfl) (Or.inl ⟨rfl,fun w' hS=>by obtain⟨e1,e3,eA⟩:=HQB.out w' hS;exact za3 rfl (by kernel_rfl) Tryz.underlying59 rfl e1⟩) GE.out ?_;simp only[zQ2,List.set_cons_succ,List.set_cons_zero];refine zdj (i:=9) (v:=.pointer (some ⟨w.heap.size,3,none⟩)) (some 143) rfl rfl (by kernel_rfl) (Or.inl ⟨rfl,fun w' hS=>by kernel_rfl⟩) GE.out ?_;simp only[zQ2,List.set_cons_succ,List.set_cons_zero];refine zdj (i:=10) (v:=.int .i64 (q:Int)) (some 144) rfl rfl (by kernel_rfl) (Or.inl ⟨rfl,fun w' hS=>by obtain⟨e1,e3,eA⟩:=HQB.out w' hS;exact za3 rfl (by kernel_rfl) Tryz.underlying3 rfl e3⟩) GE.out ?_;simp only[zQ2,List.set_cons_succ,List.set_cons_zero];obtain⟨xa,hxa⟩:∃ z:Option Addr,z=(if kd.kc=q then kd.ka else kd.ka.map (·.add (q * 1))):=⟨_,rfl⟩
    refine zdj (i:=11) (v:=.slice xa (kd.ks.length - q) (kd.kc - q)) (some 145) rfl rfl (by kernel_rfl) (Or.inl ⟨rfl,fun w' hS=>exec_eq (exec_from (x:=.tmp 142) (y:=.tmp 144) (n:=kd.ks.length) rfl (by kernel_rfl) (by kernel_rfl) Tryz.underlying59 infoPtrS HQL.out.1 HQL.out.2) (by rw[hxa])⟩) GE.out ?_;simp only[zQ2,List.set_cons_succ,List.set_cons_zero];have HRX:=HRD.out w3 GE.out;rw[<- hxa] at HRX;refine zdl (i:=12) (by kernel_rfl) rfl rfl ?_;intro K' hK';refine zdu (S:=fun _=>False) (B:=w3.heap.size) rfl (.tmp 138) (.tmp 145) rfl (some 146) rfl (.slice none 0 0) [] (kd.ks.drop q) (by kernel_rfl) Built.nil xa (kd.kc - q) 0 _ (by rw[List.length_drop];kernel_rfl) HRX (by rw[List.length_drop,List.length_nil];have:=HQM.out;omega) zQ1 ?_;intro v4 w4 hB4 hm4;rw[List.nil_append] at hB4;have g4:Grew w3 w4:=(Grew.refl _).own hm4 (fun j hj=>absurd hj zb5);have hg4:=GE.out.trans g4;obtain⟨n4,a4,c4,rfl⟩:=zcS hB4.1;obtain⟨f1,f2⟩:=(KF.out w4 hg4).1 2 (by decide);simp only[Nat.zero_add] at f1 f2;obtain⟨old,f3⟩:=Option.isSome_iff_exists.1 f1;have HP2:=zQ0 (fun w7 v7 L5 h5 hB7 g7=>HPART.out w3 GE.out w4 w7 (.slice a4 n4 c4) v7 (kd.ks.drop q) L5 rfl h5 hB4 g4 hB7 g7);have K35:Keeps (·=m.pc) w3 (w4.setCell ⟨m.pc,2,none⟩ (.slice a4 n4 c4)):=(g4.keeps _).trans ((Keeps.refl (·=m.pc) w4).own _ _);refine hK' _ _ ⟨fun _=>hg4,?_⟩;clear hK' K' hB4 hm4 g4 HRX hxa;simp only[zQ2,List.set_cons_succ,List.set_cons_zero];refine zdl (i:=13) (by kernel_rfl) rfl rfl ?_;intro K' hK';go_wp2_with fail
    first | refine⟨fun(h:false=true)=>(by cases h),?_⟩ | skip
    refine zdl (i:=14) (by kernel_rfl) rfl rfl ?_;intro K' hK';go_wp2_with fail
    first | refine⟨fun(h:false=true)=>(by cases h),?_⟩ | skip
    refine zdl (i:=15) (by kernel_rfl) rfl rfl ?_;intro K' hK';go_wp2_with fail
    first | refine⟨fun(h:false=true)=>(by cases h),?_⟩ | skip
    refine zdk (by kernel_rfl) ?_ _;go_upto_region 22 with fail
    generalize w4.setCell ⟨m.pc,2,none⟩ (.slice a4 n4 c4)=w5 at *;have hk3:=HKM.out;have hs3:=GE.out.size;have KC:=fun(w':World) (g:Grew w5 w')=>(have h3:=HQB.out w3 GE.out;have hs5:=K35.size;⟨(g.cell (p:=⟨kd.pc,2,none⟩) (by show kd.pc < _;omega)).trans ((K35.cell (p:=⟨kd.pc,2,none⟩) (by show kd.pc < _;omega) (fun e=>hk3.2.2 e)).trans h3.1),(g.cell (p:=⟨w.heap.size,3,none⟩) (by show w.heap.size < _;have:=HBX.out.2;omega)).trans ((K35.cell (p:=⟨w.heap.size,3,none⟩) (by show w.heap.size < _;have:=HBX.out.2;omega) (fun e=>HBX.out.1 e)).trans h3.2.1)⟩:w'.cell? ⟨kd.pc,2,none⟩=some (.slice kd.ka kd.ks.length kd.kc)/\w'.cell? ⟨w.heap.size,3,none⟩=some (.int .i64 (q:Int)))
    have HKC:=zQ0 KC;clear KC;have KH:=zQ0 (fun(w':World) (g:Grew w5 w')=>zc9 (Go.Proofs.YtccobobnmpafbaaGreatDoor.there_keeps (KF.out w3 GE.out).2 K35 (by omega) (fun e=>hk3.2.2 e)) g (by have:=K35.size;omega));have HRT:=zQ0 (fun(w':World) (g:Grew w5 w')=>HRO5.out w3 w5 w' GE.out K35 g);clear f1 f2 f3;refine zdw (Grew w5) (fun j=>j.blt 9) (by kernel_rfl) ?_;have G56:Hid (Grew w5 w5.drew):=(Grew.refl _).drew;generalize w5.drew=w6 at *;refine zdj (i:=0) (v:=.pointer (some ⟨kd.pc,0,none⟩)) (some 149) rfl rfl (by kernel_rfl) (Or.inl ⟨rfl,fun w' hS=>by kernel_rfl⟩) G56.out ?_;simp only[zQ2,List.set_cons_succ,List.set_cons_zero];refine zdj (i:=1) (v:=.pointer (some ⟨kd.pc,0,none⟩)) (some 150) rfl rfl (by kernel_rfl) (Or.inl ⟨rfl,fun w' hS=>by kernel_rfl⟩) G56.out ?_;simp only[zQ2,List.set_cons_succ,List.set_cons_zero];refine zdj (i:=2) (v:=.pointer (some ⟨kd.pc,0,none⟩)) (some 151) rfl rfl (by kernel_rfl) (Or.inl ⟨rfl,fun w' hS=>by kernel_rfl⟩) G56.out ?_;simp only[zQ2,List.set_cons_succ,List.set_cons_zero];refine zdj (i:=3) (v:=.pointer (some ⟨kd.pc,2,none⟩)) (some 152) rfl rfl (by kernel_rfl) (Or.inl ⟨rfl,fun w' hS=>by kernel_rfl⟩) G56.out ?_;simp only[zQ2,List.set_cons_succ,List.set_cons_zero];refine zdj (i:=4) (v:=.slice kd.ka kd.ks.length kd.kc) (some 153) rfl rfl (by kernel_rfl) (Or.inl ⟨rfl,fun w' hS=>by obtain⟨e1,e3⟩:=HKC.out w' hS;exact za3 rfl (by kernel_rfl) Tryz.underlying59 rfl e1⟩) G56.out ?_;simp only[zQ2,List.set_cons_succ,List.set_cons_zero];refine zdj (i:=5) (v:=.pointer (some ⟨w.heap.size,3,none⟩)) (some 154) rfl rfl (by kernel_rfl) (Or.inl ⟨rfl,fun w' hS=>by kernel_rfl⟩) G56.out ?_;simp only[zQ2,List.set_cons_succ,List.set_cons_zero];refine zdj (i:=6) (v:=.int .i64 (q:Int)) (some 155) rfl rfl (by kernel_rfl) (Or.inl ⟨rfl,fun w' hS=>by obtain⟨e1,e3⟩:=HKC.out w' hS;exact za3 rfl (by kernel_rfl) Tryz.underlying3 rfl e3⟩) G56.out ?_;simp only[zQ2,List.set_cons_succ,List.set_cons_zero];refine zdj (i:=7) (v:=.slice kd.ka q kd.kc) (some 156) rfl rfl (by kernel_rfl) (Or.inl ⟨rfl,fun w' hS=>exec_to (x:=.tmp 153) (y:=.tmp 155) (n:=kd.ks.length) rfl (by kernel_rfl) (by kernel_rfl) Tryz.underlying59 infoPtrS HQL.out.1 HQL.out.2⟩) G56.out ?_;simp only[zQ2,List.set_cons_succ,List.set_cons_zero];have HRX:=HRT.out w6 G56.out;refine zdl (i:=8) (by kernel_rfl) rfl rfl ?_;intro K' hK';refine zdu (S:=fun _=>False) (B:=w6.heap.size) rfl (.const (.slice none 0 0)) (.tmp 156) rfl (some 157) rfl (.slice none 0 0) [] (kd.ks.take q) rfl Built.nil kd.ka kd.kc 0 _ (by rw[HTK.out];kernel_rfl) HRX (by rw[HTK.out,List.length_nil];have:=HQM.out;have:=HQL.out.1;omega) zQ1 ?_;intro v7 w7 hB7 hm7;rw[List.nil_append] at hB7;have g7:Grew w6 w7:=(Grew.refl _).own hm7 (fun j hj=>absurd hj zb5);have hg7:=G56.out.trans g7;obtain⟨n7,a7,c7,rfl⟩:=zcS hB7.1;obtain⟨f1,f2⟩:=KH.out w7 hg7 2 (by decide);simp only[Nat.zero_add] at f1 f2;obtain⟨old7,f3⟩:=Option.isSome_iff_exists.1 f1;have HF:=zQ0 (HP2.out w7 (.slice a7 n7 c7) (kd.ks.take q) rfl ⟨zca hB7.1 G56.out.size,fun _ _ _ _=>trivial⟩ hg7);refine hK' _ _ ⟨fun _=>hg7,?_⟩;clear hK' K' hB7 hm7 g7 HRX;simp only[zQ2,List.set_cons_succ,List.set_cons_zero];refine zdl (i:=9) (by kernel_rfl) rfl rfl ?_;intro K' hK';go_wp2_with fail
    first | refine⟨fun(h:false=true)=>(by cases h),?_⟩ | skip
    refine zdl (i:=10) (by kernel_rfl) rfl rfl ?_;intro K' hK';go_wp2_with fail
    first | refine⟨fun(h:false=true)=>(by cases h),?_⟩ | skip
    refine zdl (i:=11) (by kernel_rfl) rfl rfl ?_;intro K' hK';go_wp2_with fail
    first | refine⟨fun(h:false=true)=>(by cases h),?_⟩ | skip
    refine zdk (by kernel_rfl) ?_ _;go_wp2_with fail
    go_meet
    exact⟨rfl,rfl,HF⟩
 case rest =>
  obtain⟨rfl,rfl,hP⟩:=hcut;obtain⟨x2,m2,r1,r2,r3,r4,r5,r6,r7,r8,r9,r10⟩:=hP.out;clear hP KB HMW HM3 HMG HDI HMT HKI;have hbx:=HBW.out;have hks:(x2.sub up).er=u.er.kids (u.er.ks.take i++kd.er.gfirst q::u.er.ks.drop (i+1)):=NT.sub_er (by rw[r6];exact (HSE.out _ (kd.er.gsecond q)).1);have hat2:x2.er.at up=some (u.er.kids (u.er.ks.take i++kd.er.gfirst q::u.er.ks.drop (i+1))):=by rw[r6];exact (HSE.out _ (kd.er.gsecond q)).1
  have hlen2:(x2.sub up).ks.length=u.ks.length:=by
   have h:=congrArg (fun z:T=>z.ks.length) hks;have h0:=HUK.out;have h1:=HIL.out.1;simp only[NT.er_ks,List.length_map,T.kids_ks,List.length_append,List.length_cons,List.length_take,List.length_drop] at h;omega
  have hsub2:(x2.sub up).pc∈x2.gb:=(r1.sub_ok hat2).2 _ (by rw[NT.gb_eq];exact List.mem_append_left _ (List.mem_cons_self ..))
  have hPW:IntsIn wc 0 B o.path.a o.path.c (up++[(i:Int)]):=IntsIn.agree (HPI.out w2 G2.out) (r8.agree (by have:=G2.out.size;omega) (fun k _ h2 e=>by
   rcases e with e | e
   ·have:=HXB.out k e;omega
   ·have:=HM1.out k e;omega))
  have k1:wc.cell? ⟨w.heap.size,1,none⟩=some (.slice o.path.a (up.length+1) o.path.c):=by
   have h1:=zcp (zcq HRO.out G12.out (by have:=HZ1.out;omega)) (j:=1) rfl;rw[HPL.out] at h1;refine (r8.cell (p:=⟨w.heap.size,1,none⟩) (by show w.heap.size < _;have h1:=HZ1.out;have h2:=G12.out.size;omega) (fun e=>?_)).trans h1
   rcases e with e | e
   ·have:=HX.out.lt _ e;exact absurd this (Nat.lt_irrefl _)
   ·have:=HM1.out _ e;exact absurd this (Nat.lt_irrefl _)
  have HCP:=zQ0 (fun(w4:World) (pb po vc:Nat) (g:Grew wc w4) (hI:IntsIn w4 0 w4.heap.size (some ⟨pb,po,none⟩) vc (up++[((i+1:Nat):Int)]))=>put12_any x2 (x2.sub up) m2 (some ⟨pb,po,none⟩) vc up (i+1) w4 (r1.grew g) hI hat2 rfl (by rw[hlen2];exact HIL.out.1) (r2.grew g) r3 HUL.out (by rw[hlen2];have:=HIL.out.2;omega));rw[r4,r5] at HCP
  have HFN:=zQ0 (fun(w4 w5:World) (g:Grew wc w4) (h:PutPost x2 (x2.sub up) m2 up (i+1) w4 (.returned (.tuple #[])) w5)=>(by
   obtain⟨_,x3,s1,s2,s3,s4,_⟩:=h;refine⟨rfl,x3,s1,s2.trans r4,?_,?_⟩
   ·show _=_
    rw[s3.out,List.map_append,List.map_cons,List.map_take,List.map_drop,r7,<- NT.er_ks,hks,T.kids_ks,T.kids_kids,r6];exact (HSE.out _ _).2
   ·have h1:Keeps (·∈x.gb) w wc:=((G2.out.keeps _).trans r8).wider fun j hj h=>h.elim id (fun hm=>absurd (HM1.out j hm) (by omega));have h2:Moves (·∈x.gb) w (·∈x2.gb) wc:=⟨h1,fun b hb=>(r9 b hb).imp id (fun h=>Nat.le_trans G2.out.size h)⟩
    exact (h2.trans (O'':=(·∈x2.gb)) ⟨(g.keeps _).trans (s4.wider fun j _ e=>by rw[show j=(x2.sub up).pc from e];exact hsub2),fun _ h=>.inl h⟩).1:DoPost x (T.setAt (u.er.kids (u.er.ks.take i++kd.er.gfirst q::kd.er.gsecond q::u.er.ks.drop (i+1))) x.er up) w (.returned (.tuple #[])) w5))
  have HI2:Hid (IntsIn wc 0 wc.heap.size o.path.a o.path.c (up++[(i:Int)])):=hPW.mono zQ1 (by have h1:=G2.out.size;omega);have hPL:(up++[(i:Int)]).length=up.length+1:=by rw[List.length_append];rfl
  have HPN:=zQ0 hPL;clear r1 r2 r3 r4 r5 r6 r7 r8 r9 r10 hks hat2 hlen2 hsub2 hPW hbx HSE HXB HAK HSK HKU HX HPI HPO HRO
  go_upto_region 24 with (at_builtin;go_loud (refine zdp (S:=fun _=>False) (B:=wc.heap.size) rfl (.const (.slice none 0 0)) (.tmp 161) rfl (some 162) rfl (.slice none 0 0) [] (up++[(i:Int)]) rfl Built.nil o.path.a o.path.c 0 wc.heap.size (congrArg (fun n:Nat=>Value.slice o.path.a n o.path.c) HPN.out.symm) (numRow HI2.out) (by rw[HPN.out,List.length_nil];have:=HUL.out;omega) zQ1 ?_);intro v3 w3 hB3 hk3)
  rw[List.nil_append] at hB3;have g3:Grew wc w3:=(Grew.refl _).own hk3 (fun j hj=>absurd hj zb5);have hown:=hB3.1;rw[zbc] at hown;rw[hPL] at hown;obtain⟨va,vc,rfl⟩:=zb9 hown;have hrow:=zb6 (f:=fun j _=>.int .i64 ((up++[(i:Int)]).getD j 0)) (by rw[hPL];exact hown) (ints_at (up++[(i:Int)]));have hin:IntsIn w3 wc.heap.size w3.heap.size va vc (up++[(i:Int)]):=hrow.1;obtain⟨pb,po,rfl,hb1,hb2,c0⟩:=hin.at (j:=up.length) (by rw[hPL];omega);have f0:=hrow.2 (by rw[hPL];omega) _ rfl (po+up.length);have hgd:(up++[(i:Int)]).getD up.length 0=(i:Int):=by simp[List.getD]
  rw[hgd] at c0;have hset:(up++[(i:Int)]).set up.length ((i+1:Nat):Int)=up++[((i+1:Nat):Int)]:=by simp
  have HS3:=zQ0 ((hin.set (j:=up.length) (by rw[hPL];omega) ((i+1:Nat):Int)).mono (Nat.zero_le _) (by rw[World.size_setCell];exact Nat.le_refl _:w3.heap.size<=(w3.setCell ⟨pb,po+up.length,none⟩ (.int .i64 ((i+1:Nat):Int))).heap.size));rw[hset] at HS3;have HG3:=zQ0 (g3.setCell (p:=⟨pb,po+up.length,none⟩) hb1 (.int .i64 ((i+1:Nat):Int)));obtain⟨zi,hzi⟩:∃ z:Int,z=((i+1:Nat):Int):=⟨_,rfl⟩
  have hw1:IntKind.i64.wrap (((up.length+1:Nat):Int) - 1)=(up.length:Int):=by have:=HUL.out;rw[IntKind.wrap_i64];omega
  have hw2:IntKind.i64.wrap ((i:Int)+1)=zi:=by have:=HIL.out;rw[hzi,IntKind.wrap_i64];omega
  have hw3:wrap64 (up.length:Int)=(up.length:Int):=by have:=HUL.out;exact zdx (by omega) (by omega)
  have hw4:wrap64 ((i:Int)+1)=zi:=by have:=HIL.out;rw[hzi,show ((i:Int)+1)=((i+1:Nat):Int) by omega];exact zdx (by omega) (by omega)
  rw[<- hzi] at HS3 HG3 HCP;clear hin hrow hown hB3 hk3 g3 hset hgd k1 hPL hzi;go_upto_region 25 with fail
  generalize World.setCell w3 _ _=w4 at *;have CP:=HCP.out w4 pb po vc HG3.out HS3.out;clear c0 f0 HCP HS3;go_wp2_with fail
  refine CP.mono ?_;intro e w5 h5;obtain⟨rfl,_⟩:=id h5;have HF:=zQ0 (HFN.out w4 w5 HG3.out h5);clear h5 CP HFN;go_wp2_with fail
  go_end0
  exact HF.out
end Go.Proofs.YtccobobnmpafbaaGreatDoor
