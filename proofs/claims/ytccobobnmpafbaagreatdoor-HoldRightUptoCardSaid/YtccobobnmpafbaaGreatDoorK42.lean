/- xrange.Move: where a range goes (draft: not whole). -/
import Derived.Test.YtccobobnmpafbaaGreatDoorK36
import Derived.Test.YtccobobnmpafbaaGreatDoorK37
import Derived.Test.YtccobobnmpafbaaGreatDoorK41
import Derived.Test.YtccobobnmpafbaaGreatDoorK40
set_option maxRecDepth 100000
set_option maxHeartbeats 100000000
namespace Go.Proofs.YtccobobnmpafbaaGreatDoor
open Go Go.RowKit
theorem infoPtS:(Tryz.prog.info? 29).map (·.size)=some 2:=by kernel_rfl
theorem infoRgS:(Tryz.prog.info? 31).map (·.size)=some 4:=by kernel_rfl
theorem exec_mid{P:Program}{T:TypeId}{x:Operand}{o:Oper}{a:Act}{b off:Nat}{cs:List Value}{w:World}{d:TypeDesc}(ho:o.op=.load T x)(hx:a.eval x=.pointer (some ⟨b,off,none⟩))(hc:w.rangeAt b off cs)(hu:P.underlying T=some d)(hd:d.isRow=true)(hi:(P.info? T).map (·.size)=some cs.length) :
  (execOp a.eval o).run P w=.ok (.value (.agg cs.toArray)) w:=by
 unfold execOp;simp only[ho,hx,Sem.run_bind,run_loadAt_mid w b off T cs d hc hu hd hi,Result.andThen_ok,Sem.run_pure]
def zcB(a f:PtE)(o:OpE)(aff:Int):(PtE × PtE) × Bool :=
 let s:=(ordT a f).1
 let e:=(ordT a f).2.1
 let k:=endsE aff (zcJ s e)
 let x:=zcf s o k.1
 let y:=zcf e o k.2.1
 if (k.2.2 && x.2) && y.2 then (if (ordT a f).2.2 then ((y.1,x.1),true) else ((x.1,y.1),true)) else ((PtE.nil,PtE.nil),false)
structure XrIn (bx bo bk:Nat) (x y:PtL) (o:OpL) (w':World):Prop where
 x0:w'.rangeAt bx 0 [.slice x.p.a x.p.l.length x.p.c,.int .i64 x.o]
 y0:w'.rangeAt (bx+1) 0 [.slice y.p.a y.p.l.length y.p.c,.int .i64 y.o]
 rO:w'.rangeAt bo 0 o.cells
 hx:x.In w' 0 bk
 hy:y.In w' 0 bk
 ho:o.In w' 0 bk
 zb:bx+1 < bk
 zo:bo < bk
 zk:bk < w'.heap.size
theorem XrIn.keeps{bx bo bk:Nat}{x y:PtL}{o:OpL}{w1 w2:World}(h:XrIn bx bo bk x y o w1)(k:Keeps (·=bk) w1 w2):XrIn bx bo bk x y o w2:=by
 have ag:Agree 0 bk w1 w2:=k.agree (Nat.le_of_lt h.zk) (fun j _ h2=>by show ¬ j=bk;omega);have:=h.zb;have:=h.zo;have:=h.zk;exact⟨zcl h.x0 k (by omega) (by omega),zcl h.y0 k (by omega) (by omega),zcl h.rO k (by omega) (by omega),IntsIn.agree h.hx ag,IntsIn.agree h.hy ag,h.ho.agree ag,h.zb,h.zo,Nat.lt_of_lt_of_le h.zk k.size⟩
def XrBox(r1 r2:PtE × Bool)(kok:Bool)(bk:Nat)(w5:World)(s15:Value)(wx:World):Prop:=∃(b15:Nat) (q1 q2:PtL),s15=.pointer (some ⟨b15,0,none⟩)/\Grew w5 wx/\wx.cell? ⟨bk,0,none⟩=some (.bool ((kok && r1.2) && r2.2)) /\
 wx.rangeAt b15 0 [.slice q1.p.a q1.p.l.length q1.p.c,.int .i64 q1.o,.slice q2.p.a q2.p.l.length q2.p.c,.int .i64 q2.o]/\wx.there b15 0 4/\(w5.heap.size<=b15/\b15 < wx.heap.size)/\(∀ w',Keeps (·=b15) wx w'->q1.In w' w5.heap.size w'.heap.size)/\(∀ w',Keeps (·=b15) wx w'->q2.In w' w5.heap.size w'.heap.size)/\Hid (q1.er=r1.1)/\Hid (q2.er=r2.1)
theorem xrBox_mk{w5 wz:World}{bk b15 lo1 hi1 lo2 hi2:Nat}{q1 q2:PtL}{r1 r2:PtE × Bool}{kok:Bool}(g:Grew w5 wz)(hc:wz.cell? ⟨bk,0,none⟩=some (.bool ((kok && r1.2) && r2.2)))(ht:wz.there b15 0 4)(hb:w5.heap.size<=b15/\b15 < wz.heap.size)(hbk:b15≠bk)(h1:q1.In wz lo1 hi1)(h2:q2.In wz lo2 hi2)(d1:hi1<=b15\/b15 < lo1)(d2:hi2<=b15\/b15 < lo2)(l1:w5.heap.size<=lo1)(l2:w5.heap.size<=lo2)(u1:hi1<=wz.heap.size)(u2:hi2<=wz.heap.size)(e1:Hid (q1.er=r1.1))(e2:Hid (q2.er=r2.1)) :
  XrBox r1 r2 kok bk w5 (.pointer (some ⟨b15,0,none⟩)) ((((wz.setCell ⟨b15,0,none⟩ (.slice q1.p.a q1.p.l.length q1.p.c)).setCell ⟨b15,1,none⟩ (.int .i64 q1.o)).setCell ⟨b15,2,none⟩ (.slice q2.p.a q2.p.l.length q2.p.c)).setCell ⟨b15,3,none⟩ (.int .i64 q2.o)):=by
 have k:Keeps (·=b15) wz ((((wz.setCell ⟨b15,0,none⟩ (.slice q1.p.a q1.p.l.length q1.p.c)).setCell ⟨b15,1,none⟩ (.int .i64 q1.o)).setCell ⟨b15,2,none⟩ (.slice q2.p.a q2.p.l.length q2.p.c)).setCell ⟨b15,3,none⟩ (.int .i64 q2.o)):=((((Keeps.refl _ _).own _ _).own _ _).own _ _).own _ _;have hr:=zcm (cs:=[.slice q1.p.a q1.p.l.length q1.p.c,.int .i64 q1.o,.slice q2.p.a q2.p.l.length q2.p.c,.int .i64 q2.o]) ht;have hth:=World.there_setCells ht b15 0 [.slice q1.p.a q1.p.l.length q1.p.c,.int .i64 q1.o,.slice q2.p.a q2.p.l.length q2.p.c,.int .i64 q2.o];have zk:=k.size
 by_cases hbz:bk < wz.heap.size
 case neg =>
  exfalso
  unfold World.cell? at hc
  simp[Array.getElem?_eq_none (Nat.not_lt.1 hbz)] at hc
 case pos =>
 refine⟨b15,q1,q2,rfl,g.keep k (fun j hj=>by rw[hj];exact hb.1),(k.cell (p:=⟨bk,0,none⟩) hbz (fun h=>hbk (by rw[<- h]))).trans hc,hr,hth,⟨hb.1,by omega⟩,?_,?_,e1,e2⟩
 ·intro w' k';have zk':=(k.trans k').size;exact IntsIn.mono (IntsIn.agree h1 ((k.trans k').agree u1 (fun j a1 a2=>by show ¬ j=b15;omega))) l1 (by omega)
 ·intro w' k';have zk':=(k.trans k').size;exact IntsIn.mono (IntsIn.agree h2 ((k.trans k').agree u2 (fun j a1 a2=>by show ¬ j=b15;omega))) l2 (by omega)
def zcA(p q:PtL):List Value:=[.slice p.p.a p.p.l.length p.p.c,.int .i64 p.o,.slice q.p.a q.p.l.length q.p.c,.int .i64 q.o]
theorem rgCells_all(p q:PtL):(zcA p q).toArray.all (·.oneCell')=true:=by
 rw[Array.all_eq_true_iff_forall_mem];intro v hv;have hu:v∈zcA p q:=by simpa using hv
 simp only[zcA,List.mem_cons,List.not_mem_nil,or_false] at hu
 rcases hu with rfl | rfl | rfl | rfl
 all_goals rfl
theorem xrMove_any(a f:PtL)(o:OpL)(aff:Int)(w:World)(ha:a.In w 0 w.heap.size)(hf:f.In w 0 w.heap.size)(ho:o.In w 0 w.heap.size)(hla:a.p.l.length<=1048576)(hlf:f.p.l.length<=1048576)(hol:o.path.l.length<=1048576)(hdl:o.dest.l.length<=1048576)(hxl:o.text.length<=1048576) :
  Calls Tryz.prog 140 #[.agg #[.slice a.p.a a.p.l.length a.p.c,.int .i64 a.o,.slice f.p.a f.p.l.length f.p.c,.int .i64 f.o],o.val,.int .i64 aff] w (RetRB (zcB a.er f.er o.er aff).1 (zcB a.er f.er o.er aff).2 w):=by
 have OR:=zQ0 (fun w1 (g:Grew w w1)=>order_any a f w1 (IntsIn.mono (IntsIn.grew ha g zQ1) zQ1 g.size) hla (IntsIn.mono (IntsIn.grew hf g zQ1) zQ1 g.size) hlf);have HO:=zQ0 (fun w1 (g:Grew w w1)=>((ho.grew g zQ1).mono zQ1 g.size:o.In w1 0 w1.heap.size));have HL:=zQ0 (⟨hla,hlf,hol,hdl,hxl⟩:_/\_/\_/\_/\_);clear ha hf ho hla hlf hol hdl hxl;unfold OpL.val
 go_enter Tryz.func140,Tryz.ntmps140
 go_upto_region 1 with fail
 generalize hW:((w.alloc _).alloc _).alloc _=w1;obtain⟨g1,rA,rO,rC,tC,z1⟩:=zas w [.slice a.p.a a.p.l.length a.p.c,.int .i64 a.o,.slice f.p.a f.p.l.length f.p.c,.int .i64 f.o] o.cells [.slice none 0 0,.int .i64 0,.slice none 0 0,.int .i64 0] _ _ _ w1 hW;clear hW;have k0:=zci rA (j:=0) rfl;have k1:=zci rA (j:=1) rfl;have k2:=zci rA (j:=2) rfl;have k3:=zci rA (j:=3) rfl;have CO:=OR.out w1 g1;go_wp2_with fail
 refine CO.mono ?_;rintro e w2 ⟨x,y,rfl,g2,hx,hy,hxe,hye⟩;clear k0 k1 k2 k3 CO OR;generalize htu:(ordT a.er f.er).2.2=turned at *;have HTU:=zQ0 htu;clear htu;go_upto_region 2 with fail
 generalize hW:(World.alloc (World.alloc w2 _) _)=w3;obtain⟨g3,rX,_,rY,_,z3⟩:=zar w2 [.slice x.p.a x.p.l.length x.p.c,.int .i64 x.o] [.slice y.p.a y.p.l.length y.p.c,.int .i64 y.o] _ _ w3 hW;clear hW;have z2:=g2.size;have HXE:=zQ0 hxe.out;have HYE:=zQ0 hye.out;have hx3:=IntsIn.grew hx g3 zQ1;have hy3:=IntsIn.grew hy g3 zQ1;have G3:=zQ0 (g1.trans (g2.trans g3));have HXI:=zQ0 hx3;have HYI:=zQ0 hy3
 have hxl:x.p.l.length<=1048576:=by
  have h1:x.p.l=(ordT a.er f.er).1.p:=congrArg PtE.p hxe.out;rw[h1];have h2:a.er.p.length<=1048576:=HL.out.1;have h3:f.er.p.length<=1048576:=HL.out.2.1;unfold ordT
  split <;> assumption
 have hyl:y.p.l.length<=1048576:=by
  have h1:y.p.l=(ordT a.er f.er).2.1.p:=congrArg PtE.p hye.out;rw[h1];have h2:a.er.p.length<=1048576:=HL.out.1;have h3:f.er.p.length<=1048576:=HL.out.2.1;unfold ordT
  split <;> assumption
 have SM:=zb9 x y w3 (IntsIn.mono hx3 (Nat.zero_le _) g3.size) hxl (IntsIn.mono hy3 (Nat.zero_le _) g3.size) hyl;have KX:=zQ0 (fun(w':World) (g:Grew w3 w')=>(⟨zci (zcj rX g (by omega)) (j:=0) rfl,zci (zcj rX g (by omega)) (j:=1) rfl,zci (zcj rY g (by omega)) (j:=0) rfl,zci (zcj rY g (by omega)) (j:=1) rfl⟩:w'.cell? ⟨w2.heap.size,0,none⟩=some (.slice x.p.a x.p.l.length x.p.c)/\w'.cell? ⟨w2.heap.size,1,none⟩=some (.int .i64 x.o)/\w'.cell? ⟨w2.heap.size+1,0,none⟩=some (.slice y.p.a y.p.l.length y.p.c)/\w'.cell? ⟨w2.heap.size+1,1,none⟩=some (.int .i64 y.o)));have KY:=zQ0 (fun(w':World) (g:Grew w3 w')=>(⟨zcj rX g (by omega),zcj rY g (by omega)⟩:w'.rangeAt w2.heap.size 0 [.slice x.p.a x.p.l.length x.p.c,.int .i64 x.o]/\w'.rangeAt (w2.heap.size+1) 0 [.slice y.p.a y.p.l.length y.p.c,.int .i64 y.o]));have G13:=zQ0 (g2.trans g3);obtain⟨k0,k1,k2,k3⟩:=KX.out w3 (Grew.refl _);generalize hcol:zcJ x.er y.er=col at *;have HCOL:=zQ0 hcol;clear hcol;clear hxe hye hx hy hx3 hy3 rX rY g2;go_wp2_with fail
 refine SM.mono ?_;rintro e w4 ⟨rfl,g4⟩;clear k0 k1 k2 k3 SM;go_wp2_with fail
 refine (ends_any aff col w4).mono ?_;rintro e w5 ⟨rfl,e5⟩;subst e5;obtain⟨⟨l1,l2,kok⟩,hends⟩:∃ z,endsE aff col=z:=⟨_,rfl⟩
 rw[hends];go_upto_region 4 with fail
 have z4:=g4.size;have HZ:Hid ((w1.heap.size=w.heap.size+3/\w1.heap.size<=w2.heap.size)/\w3.heap.size=w2.heap.size+2/\w3.heap.size<=w5.heap.size):=⟨⟨z1,z2⟩,z3,z4⟩
 have G35:=zQ0 g4;generalize hw6:World.alloc w5 _=w6;have g56:Grew w5 w6:=by rw[<- hw6];exact Grew.alloc1 _ _
 have z6:w6.heap.size=w5.heap.size+1:=by rw[<- hw6];simp
 have ck6:w6.cell? ⟨w5.heap.size,0,none⟩=some (.bool kok):=by rw[<- hw6];exact zap (Grew.refl _) (j:=0) rfl
 have fk6:w6.frozen? ⟨w5.heap.size,0,none⟩=false:=by rw[<- hw6];exact (zc5 (Grew.refl _) 0 (by simp)).2
 have X6:XrIn w2.heap.size (w.heap.size+1) w5.heap.size x y o w6:=by
  have g36:=g4.trans g56;obtain⟨c0,c1⟩:=KY.out w6 g36;exact⟨c0,c1,zcj rO (G13.out.trans g36) (by omega),IntsIn.mono (IntsIn.grew HXI.out g36 (by omega)) (Nat.zero_le _) (by omega),IntsIn.mono (IntsIn.grew HYI.out g36 (by omega)) (Nat.zero_le _) (by omega),(HO.out w5 (G3.out.trans g4)).grew g56 zQ1,by omega,by omega,by omega⟩
 have HXL:=zQ0 (⟨hxl,hyl⟩:_/\_);have G6:=zQ0 g56;have TC:=zQ0 (fun(w':World) (g:Grew w5 w')=>zc4 tC (G13.out.trans (g4.trans g)) (by omega));have Z6:=zQ0 z6;have CK6:=zQ0 (⟨ck6,fk6⟩:_/\_);have XX6:=zQ0 X6;have HENDS:=zQ0 hends;obtain⟨ov,hov⟩:∃ v,o.val=v:=⟨_,rfl⟩
 clear hw6 g4 g56 z4 z1 z2 z3 z6 ck6 fk6 X6 rA rO rC tC g1 g3 hxl hyl hends hov
 go_cut [15] (fun s15 wx=>XrBox (zcf x.er o.er l1) (zcf y.er o.er l2) kok w5.heap.size w5 s15 wx)
 case first =>
  have S0:Keeps (·=w5.heap.size) w6 w6.drew:=((Grew.refl w6).drew).keeps _;refine zdl (Keeps (·=w5.heap.size) w6) (fun _=>true) (by kernel_rfl) ?_;refine zdd (i:=0) (v:=.func (.func 176) #[] #[.pointer (some ⟨w.heap.size+1,0,none⟩),.pointer (some ⟨w5.heap.size,0,none⟩)]) (some 32) rfl rfl (by kernel_rfl) (Or.inl ⟨rfl,fun w' _=>by kernel_rfl⟩) S0 ?_;refine zdd (i:=1) (v:=.agg #[.slice x.p.a x.p.l.length x.p.c,.int .i64 x.o]) (some 33) rfl rfl (by kernel_rfl) (Or.inl ⟨rfl,fun w' hS=>exec_mid rfl rfl (XX6.out.keeps hS).x0 Tryz.underlying29 rfl infoPtS⟩) S0 ?_;refine zdd (i:=2) (v:=.int .i64 l1) (some 34) rfl rfl (by kernel_rfl) (Or.inl ⟨rfl,fun w' _=>by kernel_rfl⟩) S0 ?_;refine zdd (i:=4) (v:=.func (.func 176) #[] #[.pointer (some ⟨w.heap.size+1,0,none⟩),.pointer (some ⟨w5.heap.size,0,none⟩)]) (some 36) rfl rfl (by kernel_rfl) (Or.inl ⟨rfl,fun w' _=>by kernel_rfl⟩) S0 ?_;refine zdd (i:=5) (v:=.agg #[.slice y.p.a y.p.l.length y.p.c,.int .i64 y.o]) (some 37) rfl rfl (by kernel_rfl) (Or.inl ⟨rfl,fun w' hS=>exec_mid rfl rfl (XX6.out.keeps hS).y0 Tryz.underlying29 rfl infoPtS⟩) S0 ?_;refine zdd (i:=6) (v:=.int .i64 l2) (some 38) rfl rfl (by kernel_rfl) (Or.inl ⟨rfl,fun w' _=>by kernel_rfl⟩) S0 ?_
  try simp only[Act.put,List.setIfInBounds_toArray,List.set_cons_succ,List.set_cons_zero]
  have X0:=XX6.out.keeps S0;have ck0:w6.drew.cell? ⟨w5.heap.size,0,none⟩=some (.bool kok):=CK6.out.1;have fk0:w6.drew.frozen? ⟨w5.heap.size,0,none⟩=false:=CK6.out.2;have zd:w6.drew.heap.size=w6.heap.size:=rfl;have ZD:=zQ0 (⟨zd,Z6.out⟩:_/\_);clear zd;generalize w6.drew=wd at *;refine wpAnyN_two (i:=3) (j:=9) (by kernel_rfl) rfl rfl rfl rfl ?_ ?_
  case refine_1 =>
   intro K' hK';have CP:=zQ0 (zdm x o l1 (w.heap.size+1) w5.heap.size _ wd (IntsIn.mono X0.hx zQ1 (Nat.le_of_lt X0.zk)) (X0.ho.mono zQ1 (Nat.le_of_lt X0.zk)) HXL.out.1 HL.out.2.2.1 HL.out.2.2.2.1 HL.out.2.2.2.2 X0.rO (Nat.lt_trans X0.zo X0.zk) ck0 fk0 X0.zk);unfold OpL.val at CP;go_wp2_with fail
   refine CP.out.mono ?_;rintro e w7 ⟨q1,rfl,kw7,cw7,fw7,hq1,eq1⟩;have Sw7:=S0.trans kw7;have Xw7:=XX6.out.keeps Sw7;refine hK' _ _ ⟨fun _=>Sw7,?_⟩;clear hK' K' CP
   try simp only[Act.put,List.setIfInBounds_toArray,List.set_cons_succ,List.set_cons_zero]
   have zw7:=kw7.size;refine wpAnyN_two (i:=7) (j:=9) (by kernel_rfl) rfl rfl rfl rfl ?_ ?_
   case refine_1 =>
    intro K' hK';have CP:=zQ0 (zdm y o l2 (w.heap.size+1) w5.heap.size _ w7 (IntsIn.mono Xw7.hy zQ1 (Nat.le_of_lt Xw7.zk)) (Xw7.ho.mono zQ1 (Nat.le_of_lt Xw7.zk)) HXL.out.2 HL.out.2.2.1 HL.out.2.2.2.1 HL.out.2.2.2.2 Xw7.rO (Nat.lt_trans Xw7.zo Xw7.zk) cw7 fw7 Xw7.zk);unfold OpL.val at CP;go_wp2_with fail
    refine CP.out.mono ?_;rintro e w8 ⟨q2,rfl,kw8,cw8,fw8,hq2,eq2⟩;have Sw8:=Sw7.trans kw8;have Xw8:=XX6.out.keeps Sw8;refine hK' _ _ ⟨fun _=>Sw8,?_⟩;clear hK' K' CP
    try simp only[Act.put,List.setIfInBounds_toArray,List.set_cons_succ,List.set_cons_zero]
    have zw8:=kw8.size;refine zdd (i:=8) (v:=.agg #[.slice q1.p.a q1.p.l.length q1.p.c,.int .i64 q1.o,.slice q2.p.a q2.p.l.length q2.p.c,.int .i64 q2.o]) (some 40) rfl rfl (by kernel_rfl) (Or.inl ⟨rfl,fun w' _=>by kernel_rfl⟩) Sw8 ?_
    try simp only[Act.put,List.setIfInBounds_toArray,List.set_cons_succ,List.set_cons_zero]
    refine zdf (i:=9) (by kernel_rfl) rfl rfl ?_;intro K' hK';go_wp2_with fail
    generalize hA:World.alloc w8 _=wa;have HBwa:=zQ0 (zaq w8 [.slice none 0 0,.int .i64 0,.slice none 0 0,.int .i64 0] _ wa hA);have Swa:Keeps (·=w5.heap.size) w6 wa:=hA ▸ Sw8.alloc _;have Xwa:=XX6.out.keeps Swa;clear hA
    first | refine⟨fun _=>Swa,?_⟩ | refine⟨Swa,?_⟩
    try simp only[Act.put,List.setIfInBounds_toArray,List.set_cons_succ,List.set_cons_zero]
    obtain⟨gwa,_,twa,zwa⟩:=HBwa.out;refine zdf (i:=10) (by kernel_rfl) rfl rfl ?_;intro K' hK';obtain⟨zd,z6⟩:=ZD.out;have tz:wa.there w8.heap.size 0 4:=twa;obtain⟨u0,v0⟩:=Option.isSome_iff_exists.1 (tz 0 (by decide)).1;obtain⟨u1,v1⟩:=Option.isSome_iff_exists.1 (tz 1 (by decide)).1;obtain⟨u2,v2⟩:=Option.isSome_iff_exists.1 (tz 2 (by decide)).1;obtain⟨u3,v3⟩:=Option.isSome_iff_exists.1 (tz 3 (by decide)).1;have y0:=(tz 0 (by decide)).2;have y1:=(tz 1 (by decide)).2;have y2:=(tz 2 (by decide)).2;have y3:=(tz 3 (by decide)).2;simp only[Nat.zero_add] at v0 v1 v2 v3 y0 y1 y2 y3;have HM:=xrBox_mk (w5:=w5) (wz:=wa) (b15:=w8.heap.size) (G6.out.keep Swa (fun j hj=>by rw[hj];exact Nat.le_refl _)) ((gwa.cell (p:=⟨w5.heap.size,0,none⟩) (by show w5.heap.size < _;omega)).trans cw8) tz ⟨by omega,by omega⟩ (by omega) (IntsIn.grew (IntsIn.agree (hq1) (kw8.agree (by omega) (fun j a1 a2=>by show ¬ j=w5.heap.size;omega))) gwa (by omega)) (IntsIn.grew (hq2) gwa (by omega)) (Or.inl (by omega)) (Or.inl (by omega)) (by omega) (by omega) (by omega) (by omega) eq1 eq2;have HMH:=zQ0 HM;have HS:=zQ0 ((((Swa.setCell (p:=⟨w8.heap.size,0,none⟩) (Or.inl (by show w6.heap.size<=w8.heap.size;omega)) (.slice q1.p.a q1.p.l.length q1.p.c)).setCell (p:=⟨w8.heap.size,1,none⟩) (Or.inl (by show w6.heap.size<=w8.heap.size;omega)) (.int .i64 q1.o)).setCell (p:=⟨w8.heap.size,2,none⟩) (Or.inl (by show w6.heap.size<=w8.heap.size;omega)) (.slice q2.p.a q2.p.l.length q2.p.c)).setCell (p:=⟨w8.heap.size,3,none⟩) (Or.inl (by show w6.heap.size<=w8.heap.size;omega)) (.int .i64 q2.o));clear HM tz zd z6;go_wp2_with fail
    first | (refine⟨fun _=>HS.out,?_⟩;refine zde (by kernel_rfl) ?_ _) | (refine⟨HS.out,?_⟩;refine zde (by kernel_rfl) ?_ _) | (refine⟨by kernel_rfl,?_⟩) | skip
    try (go_wp2_with fail)
    go_meet
    exact HMH.out
   case refine_2 =>
    intro K' hK';go_wp2_with fail
    generalize hA:World.alloc w7 _=wa;have HBwa:=zQ0 (zaq w7 [.slice none 0 0,.int .i64 0,.slice none 0 0,.int .i64 0] _ wa hA);have Swa:Keeps (·=w5.heap.size) w6 wa:=hA ▸ Sw7.alloc _;have Xwa:=XX6.out.keeps Swa;clear hA
    first | refine⟨fun _=>Swa,?_⟩ | refine⟨Swa,?_⟩
    try simp only[Act.put,List.setIfInBounds_toArray,List.set_cons_succ,List.set_cons_zero]
    obtain⟨gwa,_,twa,zwa⟩:=HBwa.out;obtain⟨zd,z6⟩:=ZD.out;have ca:=(gwa.cell (p:=⟨w5.heap.size,0,none⟩) (by show w5.heap.size < _;omega)).trans cw7;have fa:=(gwa.frozen (p:=⟨w5.heap.size,0,none⟩) (by show w5.heap.size < _;omega)).trans fw7;clear zd z6;refine zdf (i:=7) (by kernel_rfl) rfl rfl ?_;intro K' hK';have CP:=zQ0 (zdm y o l2 (w.heap.size+1) w5.heap.size _ wa (IntsIn.mono Xwa.hy zQ1 (Nat.le_of_lt Xwa.zk)) (Xwa.ho.mono zQ1 (Nat.le_of_lt Xwa.zk)) HXL.out.2 HL.out.2.2.1 HL.out.2.2.2.1 HL.out.2.2.2.2 Xwa.rO (Nat.lt_trans Xwa.zo Xwa.zk) ca fa Xwa.zk);unfold OpL.val at CP;go_wp2_with fail
    refine CP.out.mono ?_;rintro e w8 ⟨q2,rfl,kw8,cw8,fw8,hq2,eq2⟩;have Sw8:=Swa.trans kw8;have Xw8:=XX6.out.keeps Sw8;refine hK' _ _ ⟨fun _=>Sw8,?_⟩;clear hK' K' CP
    try simp only[Act.put,List.setIfInBounds_toArray,List.set_cons_succ,List.set_cons_zero]
    have zw8:=kw8.size;refine zdd (i:=8) (v:=.agg #[.slice q1.p.a q1.p.l.length q1.p.c,.int .i64 q1.o,.slice q2.p.a q2.p.l.length q2.p.c,.int .i64 q2.o]) (some 40) rfl rfl (by kernel_rfl) (Or.inl ⟨rfl,fun w' _=>by kernel_rfl⟩) Sw8 ?_
    try simp only[Act.put,List.setIfInBounds_toArray,List.set_cons_succ,List.set_cons_zero]
    refine zdf (i:=10) (by kernel_rfl) rfl rfl ?_;intro K' hK';obtain⟨zd,z6⟩:=ZD.out;have tz:w8.there w7.heap.size 0 4:=fun j hj=>by rw[kw8.cell (p:=⟨w7.heap.size,0+j,none⟩) (by show w7.heap.size < _;omega) (by show ¬ w7.heap.size=w5.heap.size;omega),kw8.frozen (p:=⟨w7.heap.size,0+j,none⟩) (by show w7.heap.size < _;omega) (by show ¬ w7.heap.size=w5.heap.size;omega)];exact twa j hj
    obtain⟨u0,v0⟩:=Option.isSome_iff_exists.1 (tz 0 (by decide)).1;obtain⟨u1,v1⟩:=Option.isSome_iff_exists.1 (tz 1 (by decide)).1;obtain⟨u2,v2⟩:=Option.isSome_iff_exists.1 (tz 2 (by decide)).1;obtain⟨u3,v3⟩:=Option.isSome_iff_exists.1 (tz 3 (by decide)).1;have y0:=(tz 0 (by decide)).2;have y1:=(tz 1 (by decide)).2;have y2:=(tz 2 (by decide)).2;have y3:=(tz 3 (by decide)).2;simp only[Nat.zero_add] at v0 v1 v2 v3 y0 y1 y2 y3;have HM:=xrBox_mk (w5:=w5) (wz:=w8) (b15:=w7.heap.size) (G6.out.keep Sw8 (fun j hj=>by rw[hj];exact Nat.le_refl _)) cw8 tz ⟨by omega,by omega⟩ (by omega) (IntsIn.agree (IntsIn.grew (hq1) gwa (by omega)) (kw8.agree (by omega) (fun j a1 a2=>by show ¬ j=w5.heap.size;omega))) (hq2) (Or.inl (by omega)) (Or.inr (by omega)) (by omega) (by omega) (by omega) (by omega) eq1 eq2;have HMH:=zQ0 HM;have HS:=zQ0 ((((Sw8.setCell (p:=⟨w7.heap.size,0,none⟩) (Or.inl (by show w6.heap.size<=w7.heap.size;omega)) (.slice q1.p.a q1.p.l.length q1.p.c)).setCell (p:=⟨w7.heap.size,1,none⟩) (Or.inl (by show w6.heap.size<=w7.heap.size;omega)) (.int .i64 q1.o)).setCell (p:=⟨w7.heap.size,2,none⟩) (Or.inl (by show w6.heap.size<=w7.heap.size;omega)) (.slice q2.p.a q2.p.l.length q2.p.c)).setCell (p:=⟨w7.heap.size,3,none⟩) (Or.inl (by show w6.heap.size<=w7.heap.size;omega)) (.int .i64 q2.o));clear HM tz zd z6;go_wp2_with fail
    first | (refine⟨fun _=>HS.out,?_⟩;refine zde (by kernel_rfl) ?_ _) | (refine⟨HS.out,?_⟩;refine zde (by kernel_rfl) ?_ _) | (refine⟨by kernel_rfl,?_⟩) | skip
    try (go_wp2_with fail)
    go_meet
    exact HMH.out
  case refine_2 =>
   intro K' hK';go_wp2_with fail
   generalize hA:World.alloc wd _=wa;have HBwa:=zQ0 (zaq wd [.slice none 0 0,.int .i64 0,.slice none 0 0,.int .i64 0] _ wa hA);have Swa:Keeps (·=w5.heap.size) w6 wa:=hA ▸ S0.alloc _;have Xwa:=XX6.out.keeps Swa;clear hA
   first | refine⟨fun _=>Swa,?_⟩ | refine⟨Swa,?_⟩
   try simp only[Act.put,List.setIfInBounds_toArray,List.set_cons_succ,List.set_cons_zero]
   obtain⟨gwa,_,twa,zwa⟩:=HBwa.out;obtain⟨zd,z6⟩:=ZD.out;have ca:=(gwa.cell (p:=⟨w5.heap.size,0,none⟩) (by show w5.heap.size < _;omega)).trans ck0;have fa:=(gwa.frozen (p:=⟨w5.heap.size,0,none⟩) (by show w5.heap.size < _;omega)).trans fk0;clear zd z6;refine zdf (i:=3) (by kernel_rfl) rfl rfl ?_;intro K' hK';have CP:=zQ0 (zdm x o l1 (w.heap.size+1) w5.heap.size _ wa (IntsIn.mono Xwa.hx zQ1 (Nat.le_of_lt Xwa.zk)) (Xwa.ho.mono zQ1 (Nat.le_of_lt Xwa.zk)) HXL.out.1 HL.out.2.2.1 HL.out.2.2.2.1 HL.out.2.2.2.2 Xwa.rO (Nat.lt_trans Xwa.zo Xwa.zk) ca fa Xwa.zk);unfold OpL.val at CP;go_wp2_with fail
   refine CP.out.mono ?_;rintro e w7 ⟨q1,rfl,kw7,cw7,fw7,hq1,eq1⟩;have Sw7:=Swa.trans kw7;have Xw7:=XX6.out.keeps Sw7;refine hK' _ _ ⟨fun _=>Sw7,?_⟩;clear hK' K' CP
   try simp only[Act.put,List.setIfInBounds_toArray,List.set_cons_succ,List.set_cons_zero]
   have zw7:=kw7.size;refine zdf (i:=7) (by kernel_rfl) rfl rfl ?_;intro K' hK';have CP:=zQ0 (zdm y o l2 (w.heap.size+1) w5.heap.size _ w7 (IntsIn.mono Xw7.hy zQ1 (Nat.le_of_lt Xw7.zk)) (Xw7.ho.mono zQ1 (Nat.le_of_lt Xw7.zk)) HXL.out.2 HL.out.2.2.1 HL.out.2.2.2.1 HL.out.2.2.2.2 Xw7.rO (Nat.lt_trans Xw7.zo Xw7.zk) cw7 fw7 Xw7.zk);unfold OpL.val at CP;go_wp2_with fail
   refine CP.out.mono ?_;rintro e w8 ⟨q2,rfl,kw8,cw8,fw8,hq2,eq2⟩;have Sw8:=Sw7.trans kw8;have Xw8:=XX6.out.keeps Sw8;refine hK' _ _ ⟨fun _=>Sw8,?_⟩;clear hK' K' CP
   try simp only[Act.put,List.setIfInBounds_toArray,List.set_cons_succ,List.set_cons_zero]
   have zw8:=kw8.size;refine zdd (i:=8) (v:=.agg #[.slice q1.p.a q1.p.l.length q1.p.c,.int .i64 q1.o,.slice q2.p.a q2.p.l.length q2.p.c,.int .i64 q2.o]) (some 40) rfl rfl (by kernel_rfl) (Or.inl ⟨rfl,fun w' _=>by kernel_rfl⟩) Sw8 ?_
   try simp only[Act.put,List.setIfInBounds_toArray,List.set_cons_succ,List.set_cons_zero]
   have k78:=kw7.trans kw8;refine zdf (i:=10) (by kernel_rfl) rfl rfl ?_;intro K' hK';obtain⟨zd,z6⟩:=ZD.out;have tz:w8.there wd.heap.size 0 4:=fun j hj=>by rw[k78.cell (p:=⟨wd.heap.size,0+j,none⟩) (by show wd.heap.size < _;omega) (by show ¬ wd.heap.size=w5.heap.size;omega),k78.frozen (p:=⟨wd.heap.size,0+j,none⟩) (by show wd.heap.size < _;omega) (by show ¬ wd.heap.size=w5.heap.size;omega)];exact twa j hj
   obtain⟨u0,v0⟩:=Option.isSome_iff_exists.1 (tz 0 (by decide)).1;obtain⟨u1,v1⟩:=Option.isSome_iff_exists.1 (tz 1 (by decide)).1;obtain⟨u2,v2⟩:=Option.isSome_iff_exists.1 (tz 2 (by decide)).1;obtain⟨u3,v3⟩:=Option.isSome_iff_exists.1 (tz 3 (by decide)).1;have y0:=(tz 0 (by decide)).2;have y1:=(tz 1 (by decide)).2;have y2:=(tz 2 (by decide)).2;have y3:=(tz 3 (by decide)).2;simp only[Nat.zero_add] at v0 v1 v2 v3 y0 y1 y2 y3;have HM:=xrBox_mk (w5:=w5) (wz:=w8) (b15:=wd.heap.size) (G6.out.keep Sw8 (fun j hj=>by rw[hj];exact Nat.le_refl _)) cw8 tz ⟨by omega,by omega⟩ (by omega) (IntsIn.agree (hq1) (kw8.agree (by omega) (fun j a1 a2=>by show ¬ j=w5.heap.size;omega))) (hq2) (Or.inr (by omega)) (Or.inr (by omega)) (by omega) (by omega) (by omega) (by omega) eq1 eq2;have HMH:=zQ0 HM;have HS:=zQ0 ((((Sw8.setCell (p:=⟨wd.heap.size,0,none⟩) (Or.inl (by show w6.heap.size<=wd.heap.size;omega)) (.slice q1.p.a q1.p.l.length q1.p.c)).setCell (p:=⟨wd.heap.size,1,none⟩) (Or.inl (by show w6.heap.size<=wd.heap.size;omega)) (.int .i64 q1.o)).setCell (p:=⟨wd.heap.size,2,none⟩) (Or.inl (by show w6.heap.size<=wd.heap.size;omega)) (.slice q2.p.a q2.p.l.length q2.p.c)).setCell (p:=⟨wd.heap.size,3,none⟩) (Or.inl (by show w6.heap.size<=wd.heap.size;omega)) (.int .i64 q2.o));clear HM tz zd z6;go_wp2_with fail
   first | (refine⟨fun _=>HS.out,?_⟩;refine zde (by kernel_rfl) ?_ _) | (refine⟨HS.out,?_⟩;refine zde (by kernel_rfl) ?_ _) | (refine⟨by kernel_rfl,?_⟩) | skip
   try (go_wp2_with fail)
   go_meet
   exact HMH.out
 case rest =>
  obtain⟨b15,q1,q2,rfl,g5x,hck,hr,ht,⟨hb1,hb2⟩,hq1,hq2,he1,he2⟩:=hcut;have GX:=zQ0 (G3.out.trans (G35.out.trans g5x))
  have HRG:Hid (zcB a.er f.er o.er aff=if (kok && (zcf x.er o.er l1).2) && (zcf y.er o.er l2).2 then (if turned then (((zcf y.er o.er l2).1,(zcf x.er o.er l1).1),true) else (((zcf x.er o.er l1).1,(zcf y.er o.er l2).1),true)) else ((PtE.nil,PtE.nil),false)):=by
   show _=_
   unfold zcB
   dsimp only
   rw[<- HXE.out,<- HYE.out,HCOL.out,HENDS.out,HTU.out]
  generalize zcB a.er f.er o.er aff=res at *;generalize zcf x.er o.er l1=r1 at *;generalize zcf y.er o.er l2=r2 at *;obtain⟨v,hv⟩:∃ v,((kok && r1.2) && r2.2)=v:=⟨_,rfl⟩
  rw[hv] at hck HRG;have tC:=TC.out wc g5x;have HB:=zQ0 (⟨hb1,hb2,g5x.size,HZ.out,G35.out.size,G3.out.size⟩:_/\_/\_/\_/\_/\_);have HQ1:=zQ0 hq1;have HQ2:=zQ0 hq2;clear hv hb1 hb2 hq1 hq2 XX6 CK6 Z6 HENDS HTU HCOL HXE HYE HXI HYI KX KY TC HXL
  cases v with
  | false =>
   have HP:=zQ0 (zcm (cs:=zcA PtL.nil PtL.nil) tC);have HK:=zQ0 (zcM (w.heap.size+2) (zcA PtL.nil PtL.nil) 0 wc);clear hr ht
   go_wp2_with (show wpList _ _ _ (Oper.mk none (Op.store 31 (.tmp 6) (.tmp 43)) _ _ _ _::_) _ _;refine wpList_store_mid rfl 31 (.tmp 6) (.tmp 43) rfl (w.heap.size+2) 0 (zcA PtL.nil PtL.nil).toArray rfl rfl tC infoRgS (rgCells_all _ _) ?_;generalize hW:wc.setCells _ _ _=wz;have rz:wz.rangeAt (w.heap.size+2) 0 (zcA PtL.nil PtL.nil):=hW ▸ HP.out;have kz:Keeps (·=w.heap.size+2) wc wz:=hW ▸ HK.out;clear hW HP HK)
   have hres:res=((PtE.nil,PtE.nil),false):=by rw[HRG.out];rfl
   exact bodyPost_ret (v:=.tuple #[.agg (zcA PtL.nil PtL.nil).toArray,.bool false]) (zcq Tryz.results140 _ wz (w.heap.size+2) 0 (zcA PtL.nil PtL.nil) _ _ rfl rfl rz Tryz.underlying31 rfl infoRgS) rfl ⟨PtL.nil,PtL.nil,by rw[hres];rfl,GX.out.keep kz (fun j hj=>by rw[hj];omega),zbu,zbu,by show _=_;rw[hres];rfl,by show _=_;rw[hres];rfl⟩
  | true =>
   have e0:=zci hr (j:=0) rfl;have e1:=zci hr (j:=1) rfl;have e2:=zci hr (j:=2) rfl;have e3:=zci hr (j:=3) rfl;have y0:wc.frozen? ⟨b15,0,none⟩=false:=(ht 0 (by decide)).2;have y1:wc.frozen? ⟨b15,1,none⟩=false:=(ht 1 (by decide)).2;have y2:wc.frozen? ⟨b15,2,none⟩=false:=(ht 2 (by decide)).2;have y3:wc.frozen? ⟨b15,3,none⟩=false:=(ht 3 (by decide)).2
   cases turned with
   | true =>
    have HPV:=zQ0 (zcm (cs:=zcA q2 q1) ht);have HKV:=zQ0 (zcM b15 (zcA q2 q1) 0 wc);clear hr ht;go_upto_region 9 with fail
    generalize hW:(((wc.setCell ⟨b15,0,none⟩ (.slice q2.p.a q2.p.l.length q2.p.c)).setCell ⟨b15,1,none⟩ (.int .i64 q2.o)).setCell ⟨b15,2,none⟩ (.slice q1.p.a q1.p.l.length q1.p.c)).setCell ⟨b15,3,none⟩ (.int .i64 q1.o)=wv at *;have rv:wv.rangeAt b15 0 (zcA q2 q1):=hW ▸ HPV.out;have kv:Keeps (·=b15) wc wv:=hW ▸ HKV.out;clear hW HPV HKV e0 e1 e2 e3 y0 y1 y2 y3
    have tV:wv.there (w.heap.size+2) 0 4:=by
     have:=HB.out;exact fun j hj=>by rw[kv.cell (p:=⟨w.heap.size+2,0+j,none⟩) (by show w.heap.size+2 < _;omega) (by show ¬ w.heap.size+2=b15;omega),kv.frozen (p:=⟨w.heap.size+2,0+j,none⟩) (by show w.heap.size+2 < _;omega) (by show ¬ w.heap.size+2=b15;omega)];exact tC j hj
    have HP:=zQ0 (zcm (cs:=zcA q2 q1) tV);have HK:=zQ0 (zcM (w.heap.size+2) (zcA q2 q1) 0 wv);have KV:=zQ0 kv;clear kv tC hck
    go_wp2_with (first | (show wpList _ _ _ (Oper.mk (some 51) (Op.load 31 (.tmp 15)) _ _ _ _::_) _ _;refine wpList_load_mid rfl 31 (.tmp 15) rfl b15 0 rfl (zcA q2 q1) _ rv Tryz.underlying31 rfl infoRgS ?_) | (show wpList _ _ _ (Oper.mk none (Op.store 31 (.tmp 6) (.tmp 51)) _ _ _ _::_) _ _;refine wpList_store_mid rfl 31 (.tmp 6) (.tmp 51) rfl (w.heap.size+2) 0 (zcA q2 q1).toArray rfl rfl tV infoRgS (rgCells_all _ _) ?_;generalize hW:wv.setCells _ _ _=wz;have rz:wz.rangeAt (w.heap.size+2) 0 (zcA q2 q1):=hW ▸ HP.out;have kz:Keeps (·=w.heap.size+2) wv wz:=hW ▸ HK.out;clear hW HP HK))
    have hres:res=((r2.1,r1.1),true):=by rw[HRG.out];rfl
    have hbb:=HB.out;have zz:=kz.size;have zv:=KV.out.size;have gF:Grew w wz:=(GX.out.keep KV.out (fun j hj=>by rw[hj];omega)).keep kz (fun j hj=>by rw[hj];omega);exact bodyPost_ret (v:=.tuple #[.agg (zcA q2 q1).toArray,.bool true]) (zcq Tryz.results140 _ wz (w.heap.size+2) 0 (zcA q2 q1) _ _ rfl rfl rz Tryz.underlying31 rfl infoRgS) rfl ⟨q2,q1,by rw[hres];rfl,gF,IntsIn.mono (IntsIn.agree (HQ2.out wv KV.out) (kz.agree zQ1 (fun j a1 a2=>by show ¬ j=w.heap.size+2;omega))) (by omega) zz,IntsIn.mono (IntsIn.agree (HQ1.out wv KV.out) (kz.agree zQ1 (fun j a1 a2=>by show ¬ j=w.heap.size+2;omega))) (by omega) zz,by show _=_;rw[hres];exact he2.out,by show _=_;rw[hres];exact he1.out⟩
   | false =>
    have HP:=zQ0 (zcm (cs:=zcA q1 q2) tC);have HK:=zQ0 (zcM (w.heap.size+2) (zcA q1 q2) 0 wc);have rv:wc.rangeAt b15 0 (zcA q1 q2):=hr;clear hr ht e0 e1 e2 e3 y0 y1 y2 y3
    go_wp2_with (first | (show wpList _ _ _ (Oper.mk (some 51) (Op.load 31 (.tmp 15)) _ _ _ _::_) _ _;refine wpList_load_mid rfl 31 (.tmp 15) rfl b15 0 rfl (zcA q1 q2) _ rv Tryz.underlying31 rfl infoRgS ?_) | (show wpList _ _ _ (Oper.mk none (Op.store 31 (.tmp 6) (.tmp 51)) _ _ _ _::_) _ _;refine wpList_store_mid rfl 31 (.tmp 6) (.tmp 51) rfl (w.heap.size+2) 0 (zcA q1 q2).toArray rfl rfl tC infoRgS (rgCells_all _ _) ?_;generalize hW:wc.setCells _ _ _=wz;have rz:wz.rangeAt (w.heap.size+2) 0 (zcA q1 q2):=hW ▸ HP.out;have kz:Keeps (·=w.heap.size+2) wc wz:=hW ▸ HK.out;clear hW HP HK))
    have hres:res=((r1.1,r2.1),true):=by rw[HRG.out];rfl
    have hbb:=HB.out;have zz:=kz.size;exact bodyPost_ret (v:=.tuple #[.agg (zcA q1 q2).toArray,.bool true]) (zcq Tryz.results140 _ wz (w.heap.size+2) 0 (zcA q1 q2) _ _ rfl rfl rz Tryz.underlying31 rfl infoRgS) rfl ⟨q1,q2,by rw[hres];rfl,GX.out.keep kz (fun j hj=>by rw[hj];omega),IntsIn.mono (IntsIn.agree (HQ1.out wc (Keeps.refl _ _)) (kz.agree zQ1 (fun j a1 a2=>by show ¬ j=w.heap.size+2;omega))) (by omega) zz,IntsIn.mono (IntsIn.agree (HQ2.out wc (Keeps.refl _ _)) (kz.agree zQ1 (fun j a1 a2=>by show ¬ j=w.heap.size+2;omega))) (by omega) zz,by show _=_;rw[hres];exact he1.out,by show _=_;rw[hres];exact he2.out⟩
theorem path_right{n y:T}{s:SelE}{o:OpE}{P:List Int}(hb:n.bulk<=1048576)(ha:(zai n s o).2.2=0)(hp:n.at P=some y) :
  ((zbO P o.path o.dest o.kind o.pos).2=true->∃ h,(zai n s o).1.at (zbO P o.path o.dest o.kind o.pos).1=some h)/\((zbO P o.path o.dest o.kind o.pos).2=false->o.kind=2):=by
 have hg:=gh_like n 0;obtain⟨m1,_⟩:=ghost_move (g:=gh n 0) (by omega) hg ha hp;refine⟨fun hmv=>?_,fun h=>(m1 h).1⟩
 by_cases hpo:P=o.path/\(o.kind=3\/o.kind=4\/o.kind=7\/o.kind=8)
 case neg =>
  obtain⟨h,h1,_⟩:=(tree_row_all hb ha hp hpo).2 hmv;exact⟨h,h1⟩
 case pos =>
 obtain⟨hsq,hsd,hspos⟩:=op_small hb ha;have hsp:=at_small hp hb;obtain⟨hpe,hk⟩:=hpo;obtain⟨hm,h⟩:=apply_ok ha;obtain⟨hc,_,_,hf⟩:=may_ok hm
 rcases h with ⟨h9,_⟩ | ⟨_,hs,_,he⟩
 ·omega
 have hR:(zai n s o).1=(zcN n o).1:=by rw[he]
 rw[hR]
 rcases hk with hk | hk | hk | hk
 ·-- merged
  obtain⟨e1,_⟩:=move_merged (s:=s) hb ha hk;obtain⟨up,j,u,x,k,a,b,q1,q2,q3,q4,_,_,_,q8⟩:=done3 (by omega) hf hk hs
  have hjb:j < 4611686018427387:=by
   have h1:=zat q2;have h2:=u.ks_bulk;rw[q3,List.length_append] at h2;omega
  have hbk:(zam o.path).1=up++[(j:Int)]:=by rw[q1,back_at (by omega)]
  refine⟨x.join k,?_⟩;rw[hpe,e1]
  show (zcN n o).1.at (zam o.path).1=_
  rw[hbk,q8,T.at_on q2];have:=T.at_kid (u:=u.kids (a++x.join k::b)) (k:=x.join k) (a:=a) (b:=b) rfl;rw[q4] at this;exact this
 ·-- split
  obtain⟨up,j,u,k,a,b,q1,q2,_,q3,q4,p0,p1,_,q8⟩:=done4 hf hk hs
  have hmp:(zbO P o.path o.dest o.kind o.pos).1=P:=by
   rw[move_is hsp hsq hsd hspos,hpe,q1,if_neg (by simp)];unfold zbN;rw[if_neg (by omega),if_neg (by omega),if_neg (by omega),if_pos hk,zcZ,if_pos rfl,if_pos rfl,if_neg (fun h=>absurd h.1 (by decide)),if_neg (by decide)]
  refine⟨k.first o.pos.toNat,?_⟩;rw[hmp,hpe,q1,q8,T.at_on q2];have:=T.at_kid (u:=u.kids (a++k.first o.pos.toNat::k.second o.pos.toNat o.new::b)) (k:=k.first o.pos.toNat) (a:=a) (b:=k.second o.pos.toNat o.new::b) rfl;rw[q4] at this;exact this
 all_goals
  obtain⟨k,k',q1,q2,q3⟩:=done6 hf (by first | exact .inr (.inl hk) | exact .inr (.inr hk)) hs
  have hmp:(zbO P o.path o.dest o.kind o.pos).1=P:=by
   rw[move_is hsp hsq hsd hspos]
   split
   ·rfl
   ·unfold zbN;rw[if_neg (by omega),if_neg (by omega),if_neg (by omega),if_neg (by omega),if_neg (by omega)]
  exact⟨k',by rw[hmp,q2,hpe,T.at_setAt q1]⟩
def zc1(r:RefE)(o:OpE):RefE × Bool :=
 if r.kind=1 then ({ r.bare with path:=(zbO r.path o.path o.dest o.kind o.pos).1 },(zbO r.path o.path o.dest o.kind o.pos).2)
 else if r.kind=2 then ({ r.bare with pt:=(zcf r.pt o r.aff).1 },(zcf r.pt o r.aff).2)
 else ({ r.bare with a:=(zcB r.a r.f o r.aff).1.1,f:=(zcB r.a r.f o r.aff).1.2 },(zcB r.a r.f o r.aff).2)
theorem checkRef_zero{t:T}{r:RefE}:zaR t r=0 ↔ refIs r.kind=true/\0<=r.aff/\r.aff<=refMost r.kind/\(r.kind=1\/r.path=[])/\(r.kind=2\/zcJ r.pt PtE.nil=true)/\(r.kind=3\/emptyR r.a r.f=true)/\refMay t r=0:=by
 have hb:refBad (refIs r.kind) (decide (r.aff < 0)) (decide (refMost r.kind < r.aff)) (r.kind == 1 || decide (r.path.length=0)) (r.kind == 2 || zcJ r.pt PtE.nil) (r.kind == 3 || emptyR r.a r.f)=false ↔ refIs r.kind=true/\0<=r.aff/\r.aff<=refMost r.kind/\(r.kind=1\/r.path=[])/\(r.kind=2\/zcJ r.pt PtE.nil=true)/\(r.kind=3\/emptyR r.a r.f=true):=by
  unfold refBad;simp only[Bool.or_eq_false_iff,Bool.not_eq_false',decide_eq_false_iff_not,Bool.or_eq_true,beq_iff_eq,decide_eq_true_eq,List.length_eq_zero_iff,Int.not_lt]
 unfold zaR
 constructor
 ·intro h
  split at h
  ·cases h
  ·rename_i h1
   obtain⟨a1,a2,a3,a4,a5,a6⟩:=hb.1 (by simpa using h1);exact⟨a1,a2,a3,a4,a5,a6,h⟩
 ·rintro⟨a1,a2,a3,a4,a5,a6,h⟩;rw[hb.2 ⟨a1,a2,a3,a4,a5,a6⟩,if_neg (by decide)];exact h
theorem refIs_iff{k:Int}:refIs k=true ↔ k=1\/k=2\/k=3:=by
 unfold refIs;simp only[Bool.or_eq_true,beq_iff_eq]
theorem refMay1{t:T}{r:RefE}(h:r.kind=1):refMay t r=zbH t r:=by unfold refMay;rw[if_pos h]
theorem refMay2{t:T}{r:RefE}(h:r.kind=2):refMay t r=zaQ t r.pt:=by unfold refMay;rw[if_neg (by omega),if_pos h]
theorem refMay3{t:T}{r:RefE}(h:r.kind=3):refMay t r=zbI t r:=by unfold refMay;rw[if_neg (by omega),if_neg (by omega)]
theorem sameP_nil:zcJ PtE.nil PtE.nil=true:=by decide
theorem emptyR_nil:emptyR PtE.nil PtE.nil=true:=by decide
theorem pt_right0{n:T}{s:SelE}{o:OpE}{p:PtE}{aff:Int}(hb:n.bulk<=1048576)(ha:(zai n s o).2.2=0)(hc:zaQ n p=0)(haff:0<=aff/\aff<=2) :
  ((zcf p o aff).2=true->zaQ (zai n s o).1 (zcf p o aff).1=0) /\
  ((zcf p o aff).2=false->(o.kind=2\/(o.kind=4/\aff=0))):=by
 obtain⟨k,h1,h2,h3,h4⟩:=checkPt_iff0.1 hc
 have hl:k.ts.length<=1048576:=by
  have h5:=zat h1;have h6:=T.bulk_eq k;omega
 obtain⟨q1,q2⟩:=pt_right (off:=p.o) (P:=p.p) (aff:=aff) hb ha h1 h2 ⟨h3,h4⟩ hl haff;exact⟨q1,fun h=>(q2 h).2⟩
theorem ends_ok{aff:Int}{c:Bool}(h:0<=aff/\aff<=4):(endsE aff c).2.2=true/\(0<=(endsE aff c).1/\(endsE aff c).1<=2)/\(0<=(endsE aff c).2.1/\(endsE aff c).2.1<=2)/\((endsE aff c).1=0->aff=0)/\((endsE aff c).2.1=0->aff=0):=by
 unfold endsE
 by_cases h3:aff=3
 ·rw[if_pos h3]
  cases c
  ·rw[if_neg (by decide)];exact⟨rfl,by decide,by decide,fun h=>absurd h (by decide),fun h=>absurd h (by decide)⟩
  ·rw[if_pos rfl];exact⟨rfl,by decide,by decide,fun h=>absurd h (by decide),fun h=>absurd h (by decide)⟩
 ·rw[if_neg h3]
  by_cases h4:aff=4
  ·rw[if_pos h4];exact⟨rfl,by decide,by decide,fun h=>absurd h (by decide),fun h=>absurd h (by decide)⟩
  ·rw[if_neg h4];exact⟨by simp;omega,by show 0<=aff/\aff<=2;omega,by show 0<=aff/\aff<=2;omega,fun h=>h,fun h=>h⟩
theorem rg_right{n:T}{s:SelE}{o:OpE}{a f:PtE}{aff:Int}(hb:n.bulk<=1048576)(ha:(zai n s o).2.2=0)(hca:zaQ n a=0)(hcf:zaQ n f=0)(haff:0<=aff/\aff<=4) :
  ((zcB a f o aff).2=true->zaQ (zai n s o).1 (zcB a f o aff).1.1=0/\zaQ (zai n s o).1 (zcB a f o aff).1.2=0) /\
  ((zcB a f o aff).2=false->(o.kind=2\/(o.kind=4/\aff=0))):=by
 have key:∀(p q:PtE) (t:Bool),zaQ n p=0->zaQ n q=0->ordT a f=(p,q,t) ->
   ((zcB a f o aff).2=true->zaQ (zai n s o).1 (zcB a f o aff).1.1=0/\zaQ (zai n s o).1 (zcB a f o aff).1.2=0) /\
   ((zcB a f o aff).2=false->(o.kind=2\/(o.kind=4/\aff=0))):=by
  intro p q t hp hq ho;obtain⟨e1,e2,e3,e4,e5⟩:=ends_ok (c:=zcJ p q) haff;obtain⟨x1,x2⟩:=pt_right0 hb ha hp e2;obtain⟨y1,y2⟩:=pt_right0 hb ha hq e3;unfold zcB;rw[ho]
  dsimp only
  rw[e1];generalize zcf p o (endsE aff (zcJ p q)).1=X at *;generalize zcf q o (endsE aff (zcJ p q)).2.1=Y at *;obtain⟨X1,X2⟩:=X;obtain⟨Y1,Y2⟩:=Y
  cases X2 with
  | false=>exact⟨fun h=>(by cases h),fun _=>(x2 rfl).imp id (fun h=>⟨h.1,e4 h.2⟩)⟩
  | true =>
   cases Y2 with
   | false=>exact⟨fun h=>(by cases h),fun _=>(y2 rfl).imp id (fun h=>⟨h.1,e5 h.2⟩)⟩
   | true =>
    rw[if_pos (show (true && (X1,true).2 && (Y1,true).2)=true from rfl)];have hX:zaQ (zai n s o).1 X1=0:=x1 rfl;have hY:zaQ (zai n s o).1 Y1=0:=y1 rfl
    cases t with
    | true=>rw[if_pos rfl];exact⟨fun _=>⟨hY,hX⟩,fun h=>(by cases h)⟩
    | false=>rw[if_neg (by decide)];exact⟨fun _=>⟨hX,hY⟩,fun h=>(by cases h)⟩
 by_cases h:ptCmp f a < 0
 ·exact key f a true hcf hca (by unfold ordT;rw[if_pos h])
 ·exact key a f false hca hcf (by unfold ordT;rw[if_neg h])
theorem step_right{n:T}{s:SelE}{o:OpE}{r:RefE}(hb:n.bulk<=1048576)(ha:(zai n s o).2.2=0)(hc:zaR n r=0) :
  ((zc1 r o).2=true->zaR (zai n s o).1 { (zc1 r o).1 with live:=true }=0) /\
  ((zc1 r o).2=false->o.kind=2\/(o.kind=4/\r.kind≠1/\r.aff=0)) /\
  ((zc1 r o).1.id=r.id/\(zc1 r o).1.kind=r.kind/\(zc1 r o).1.aff=r.aff)/\(r.kind=1\/r.kind=2\/r.kind=3):=by
 obtain⟨h1,h2,h3,_,_,_,h7⟩:=checkRef_zero.1 hc;have hk:=refIs_iff.1 h1
 have hids:(zc1 r o).1.id=r.id/\(zc1 r o).1.kind=r.kind/\(zc1 r o).1.aff=r.aff:=by
  unfold zc1
  split
  ·exact⟨rfl,rfl,rfl⟩
  ·split <;> exact⟨rfl,rfl,rfl⟩
 have main:((zc1 r o).2=true->zaR (zai n s o).1 { (zc1 r o).1 with live:=true }=0) /\
  ((zc1 r o).2=false->o.kind=2\/(o.kind=4/\r.kind≠1/\r.aff=0)):=by
  unfold refMay at h7
  rcases hk with hk | hk | hk
  ·rw[if_pos hk] at h7;unfold zbH at h7;unfold zc1;rw[if_pos hk]
   cases hat:n.at r.path with
   | none=>rw[hat] at h7;cases h7
   | some y =>
    obtain⟨q1,q2⟩:=path_right hb ha hat;refine⟨fun h=>checkRef_zero.2 ⟨h1,h2,h3,.inl hk,.inr sameP_nil,.inr emptyR_nil,?_⟩,fun h=>.inl (q2 h)⟩;obtain⟨z,hz⟩:=q1 h;refine (refMay1 (by exact hk)).trans ?_;unfold zbH
    show (match T.at _ (zbO r.path o.path o.dest o.kind o.pos).1 with | none=>(5:Int) | some _=>0)=0
    rw[hz]
  ·have k1:¬ r.kind=1:=by omega
   rw[if_neg k1,if_pos hk] at h7;unfold zc1;rw[if_neg k1,if_pos hk];obtain⟨q1,q2⟩:=pt_right0 hb ha h7 ⟨h2,by rw[hk] at h3;exact h3⟩;refine⟨fun h=>checkRef_zero.2 ⟨h1,h2,h3,.inr rfl,.inl hk,.inr emptyR_nil,?_⟩,fun h=>(q2 h).imp id (fun h=>⟨h.1,k1,h.2⟩)⟩;exact (refMay2 (by exact hk)).trans (q1 h)
  ·have k1:¬ r.kind=1:=by omega
   have k2:¬ r.kind=2:=by omega
   rw[if_neg k1,if_neg k2] at h7;unfold zbI at h7;unfold zc1;rw[if_neg k1,if_neg k2]
   have ha0:zaQ n r.a=0:=by
    by_cases hz:zaQ n r.a=0
    ·exact hz
    ·rw[if_pos hz] at h7;exact h7
   rw[if_neg (fun h=>h ha0)] at h7;obtain⟨q1,q2⟩:=rg_right hb ha ha0 h7 ⟨h2,by rw[hk] at h3;exact h3⟩;refine⟨fun h=>checkRef_zero.2 ⟨h1,h2,h3,.inr rfl,.inr sameP_nil,.inl hk,?_⟩,fun h=>(q2 h).imp id (fun h=>⟨h.1,k1,h.2⟩)⟩;refine (refMay3 (by exact hk)).trans ?_;obtain⟨z1,z2⟩:=q1 h;unfold zbI
   show (if zaQ _ (zcB r.a r.f o r.aff).1.1≠0 then zaQ _ (zcB r.a r.f o r.aff).1.1 else zaQ _ (zcB r.a r.f o r.aff).1.2)=0
   rw[if_neg (fun h=>h z1)];exact z2
 exact⟨main.1,main.2,hids,hk⟩
end Go.Proofs.YtccobobnmpafbaaGreatDoor
