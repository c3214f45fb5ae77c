/- hold.rangeMove: a ref of a range goes by an operation. -/
import Derived.Test.YtccobobnmpafbaaGreatDoorK36
import Derived.Test.YtccobobnmpafbaaGreatDoorK34
set_option maxRecDepth 100000
set_option maxHeartbeats 100000000
namespace Go.Proofs.YtccobobnmpafbaaGreatDoor
open Go Go.RowKit
def RetRB(r:PtE × PtE)(ok:Bool)(w:World)(e:Ending)(w':World):Prop:=∃ q q2:PtL,e=.returned (.tuple #[.agg #[.slice q.p.a q.p.l.length q.p.c,.int .i64 q.o,.slice q2.p.a q2.p.l.length q2.p.c,.int .i64 q2.o],.bool ok])/\Grew w w'/\q.In w' w.heap.size w'.heap.size/\q2.In w' w.heap.size w'.heap.size/\Hid (q.er=r.1)/\Hid (q2.er=r.2)
theorem rangeMove_any(r:RefL)(o:OpL)(ma mf:PtE)(ok:Bool)(w:World)(hM:∀ w1,Grew w w1->Calls Tryz.prog 140 #[.agg #[.slice r.a.p.a r.a.p.l.length r.a.p.c,.int .i64 r.a.o,.slice r.f.p.a r.f.p.l.length r.f.p.c,.int .i64 r.f.o],o.val,.int .i64 r.aff] w1 (RetRB (ma,mf) ok w1)) :
  Calls Tryz.prog 100 #[r.val,o.val] w (RetMoved { r.er.bare with a:=ma,f:=mf } ok w):=by
 have HM:=zQ0 hM;clear hM;unfold RefL.val OpL.val at *
 go_enter Tryz.func100,Tryz.ntmps100
 go_upto_region 1 with fail
 generalize hW:((w.alloc _).alloc _).alloc _=w3;obtain⟨g3,rA,rB,rC,tC,z3⟩:=zas w r.cells o.cells RefL.nil.cells _ _ _ w3 hW;clear hW;have BR:=zQ0 (zbk r w3);unfold RefL.val at BR
 go_wp2_with (refine wpList_load_mid rfl 46 (.tmp 2) rfl w.heap.size 0 rfl r.cells _ rA Tryz.underlying46 rfl zbq ?_)
 refine BR.out.mono ?_;rintro e w4 ⟨rfl,g4⟩;have z4:=g4.size;have rA4:=zcj rA g4 (by omega);have rB4:=zcj rB g4 (by omega);have tC4:=zc4 tC g4 (by omega);have HP:=zQ0 (zcm (cs:=r.bare.cells) tC4);have HK:=zQ0 (zcM (w.heap.size+2) r.bare.cells 0 w4);have HT:=zQ0 (World.there_setCells tC4 (w.heap.size+2) 0 r.bare.cells);clear rA rB rC tC BR
 go_upto_region 2 with (refine wpList_store_mid rfl 46 (.tmp 4) (.tmp 7) rfl (w.heap.size+2) 0 r.bare.cells.toArray rfl rfl tC4 zbq r.bare.cells_all ?_;generalize hW:w4.setCells _ _ _=w5;have rC5:w5.rangeAt (w.heap.size+2) 0 r.bare.cells:=hW ▸ HP.out;have k5:Keeps (·=w.heap.size+2) w4 w5:=hW ▸ HK.out;have tC5:w5.there (w.heap.size+2) 0 11:=hW ▸ HT.out;clear hW HP HK HT)
 have z5:=k5.size;have rA5:=zcl rA4 k5 (by omega) (by omega);have rB5:=zcl rB4 k5 (by omega) (by omega);have G5:Hid (Grew w w5):=(g3.trans g4).keep k5 (fun j hj=>by rw[hj];omega);have a7:w5.cell? ⟨w.heap.size,7,none⟩=some (.slice r.a.p.a r.a.p.l.length r.a.p.c):=zci rA5 (j:=7) rfl;have a8:w5.cell? ⟨w.heap.size,8,none⟩=some (.int .i64 r.a.o):=zci rA5 (j:=8) rfl;have a9:w5.cell? ⟨w.heap.size,9,none⟩=some (.slice r.f.p.a r.f.p.l.length r.f.p.c):=zci rA5 (j:=9) rfl;have a10:w5.cell? ⟨w.heap.size,10,none⟩=some (.int .i64 r.f.o):=zci rA5 (j:=10) rfl;have a2:w5.cell? ⟨w.heap.size,2,none⟩=some (.int .i64 r.aff):=zci rA5 (j:=2) rfl;have MV:=zQ0 (HM.out w5 G5.out);clear rA4 rB4 tC4 HM
 go_wp2_with (refine wpList_load_mid rfl 35 (.tmp 3) rfl (w.heap.size+1) 0 rfl o.cells _ rB5 Tryz.underlying35 rfl infoOpS ?_)
 refine MV.out.mono ?_;rintro e w6 ⟨q,q2,rfl,g6,hq,hq2,he,he2⟩;have z6:=g6.size;have rC6:=zcj rC5 g6 (by omega);have tC6:=zc4 tC5 g6 (by omega);have f7:w6.frozen? ⟨w.heap.size+2,7,none⟩=false:=(tC6 7 (by omega)).2;have c7:w6.cell? ⟨w.heap.size+2,7,none⟩=some (.slice none 0 0):=zci rC6 (j:=7) rfl;have f8:w6.frozen? ⟨w.heap.size+2,8,none⟩=false:=(tC6 8 (by omega)).2;have c8:w6.cell? ⟨w.heap.size+2,8,none⟩=some (.int .i64 0):=zci rC6 (j:=8) rfl;have f9:w6.frozen? ⟨w.heap.size+2,9,none⟩=false:=(tC6 9 (by omega)).2;have c9:w6.cell? ⟨w.heap.size+2,9,none⟩=some (.slice none 0 0):=zci rC6 (j:=9) rfl;have f10:w6.frozen? ⟨w.heap.size+2,10,none⟩=false:=(tC6 10 (by omega)).2;have c10:w6.cell? ⟨w.heap.size+2,10,none⟩=some (.int .i64 0):=zci rC6 (j:=10) rfl;have hr7:=(zcn (zcn (zcn (zcn rC6 (j:=7) (by rw[RefL.cells_len];omega) (.slice q.p.a q.p.l.length q.p.c)) (j:=8) (by rw[List.length_set,RefL.cells_len];omega) (.int .i64 q.o)) (j:=9) (by rw[List.length_set,List.length_set,RefL.cells_len];omega) (.slice q2.p.a q2.p.l.length q2.p.c)) (j:=10) (by rw[List.length_set,List.length_set,List.length_set,RefL.cells_len];omega) (.int .i64 q2.o))
 have rC7:Hid (((((w6.setCell ⟨w.heap.size+2,7,none⟩ (.slice q.p.a q.p.l.length q.p.c)).setCell ⟨w.heap.size+2,8,none⟩ (.int .i64 q.o)).setCell ⟨w.heap.size+2,9,none⟩ (.slice q2.p.a q2.p.l.length q2.p.c)).setCell ⟨w.heap.size+2,10,none⟩ (.int .i64 q2.o)).rangeAt (w.heap.size+2) 0 ({ r.bare with a:=q,f:=q2 }:RefL).cells):=hr7
 have tC7:Hid (((((w6.setCell ⟨w.heap.size+2,7,none⟩ (.slice q.p.a q.p.l.length q.p.c)).setCell ⟨w.heap.size+2,8,none⟩ (.int .i64 q.o)).setCell ⟨w.heap.size+2,9,none⟩ (.slice q2.p.a q2.p.l.length q2.p.c)).setCell ⟨w.heap.size+2,10,none⟩ (.int .i64 q2.o)).there (w.heap.size+2) 0 11):=fun j hj=>by
  have h2:=tC6 j hj;refine⟨?_,by rw[World.frozen?_setCell,World.frozen?_setCell,World.frozen?_setCell,World.frozen?_setCell];exact h2.2⟩;rw[hr7 j _ (List.getElem?_eq_getElem (by rw[List.length_set,List.length_set,List.length_set,List.length_set,RefL.cells_len];exact hj))]
  rfl
 have k7:Hid (Keeps (·=w.heap.size+2) w6 ((((w6.setCell ⟨w.heap.size+2,7,none⟩ (.slice q.p.a q.p.l.length q.p.c)).setCell ⟨w.heap.size+2,8,none⟩ (.int .i64 q.o)).setCell ⟨w.heap.size+2,9,none⟩ (.slice q2.p.a q2.p.l.length q2.p.c)).setCell ⟨w.heap.size+2,10,none⟩ (.int .i64 q2.o))):=((((Keeps.refl _ _).own _ _).trans ((Keeps.refl _ _).own _ _)).trans ((Keeps.refl _ _).own _ _)).trans ((Keeps.refl _ _).own _ _);have HX:Hid (({ r.bare with a:=q,f:=q2 }:RefL).In w6 w5.heap.size w6.heap.size):=⟨zbu,zbu,hq,hq2⟩
 have HE:Hid (({ r.bare with a:=q,f:=q2 }:RefL).er={ r.er.bare with a:=ma,f:=mf }):=by
  show _=_
  have e1:q.er=ma:=he.out;have e2:q2.er=mf:=he2.out;rw[<- e1,<- e2];rfl
 have HV:Hid (({ r.bare with a:=q,f:=q2 }:RefL).val=.agg #[.int .i64 r.id,.int .i64 r.kind,.int .i64 r.aff,.bool false,.slice none 0 0,.slice none 0 0,.int .i64 0,.slice q.p.a q.p.l.length q.p.c,.int .i64 q.o,.slice q2.p.a q2.p.l.length q2.p.c,.int .i64 q2.o]):=rfl;clear hq hq2 he he2 rA5 rB5 a7 a8 a9 a10 a2 MV rC5 tC5 hr7;go_upto_region 3 with fail
 generalize (((w6.setCell ⟨w.heap.size+2,7,none⟩ (.slice q.p.a q.p.l.length q.p.c)).setCell ⟨w.heap.size+2,8,none⟩ (.int .i64 q.o)).setCell ⟨w.heap.size+2,9,none⟩ (.slice q2.p.a q2.p.l.length q2.p.c)).setCell ⟨w.heap.size+2,10,none⟩ (.int .i64 q2.o)=w7 at *;generalize ({ r.bare with a:=q,f:=q2 }:RefL)=y at *;clear f7 c7 f8 c8 f9 c9 f10 c10 rC6 tC6;have rC:=rC7.out;have tC:=tC7.out;have z7:=k7.out.size;have HP:=zQ0 (zcm (cs:=y.cells) tC);have HK:=zQ0 (zcM (w.heap.size+2) y.cells 0 w7);clear rC7 tC7
 go_wp2_with (first | (refine wpList_load_mid rfl 46 (.tmp 4) rfl (w.heap.size+2) 0 rfl y.cells _ rC Tryz.underlying46 rfl zbq ?_) | (refine wpList_store_mid rfl 46 (.tmp 4) (.tmp 18) rfl (w.heap.size+2) 0 y.cells.toArray rfl rfl tC zbq y.cells_all ?_;generalize hW:w7.setCells _ _ _=w8;have rC8:w8.rangeAt (w.heap.size+2) 0 y.cells:=hW ▸ HP.out;have k8:Keeps (·=w.heap.size+2) w7 w8:=hW ▸ HK.out;clear hW HP HK))
 have k68:=k7.out.trans k8;have hyW:y.In w8 w.heap.size w8.heap.size:=(HX.out.agree (k68.agree zQ1 (fun j h1 h2=>by show ¬ j=_;omega))).mono (by omega) k68.size;exact bodyPost_ret (v:=.tuple #[y.val,.bool ok]) (zcq Tryz.results100 _ w8 (w.heap.size+2) 0 y.cells _ _ rfl rfl rC8 Tryz.underlying46 rfl zbq) rfl ⟨y,rfl,(G5.out.trans g6).keep k68 (fun j hj=>by rw[hj];omega),hyW,HE⟩
theorem stepPoint_any(a:Option Addr)(c:Nat)(r:RefL)(o:OpL)(mv:RefE)(ok:Bool)(w:World)(hL:RefsIn w a c [r])(hs:r.er.Small)(hlive:r.live=true)(hk:r.kind=2)(PM:∀(y:RefL) (w1:World),y.er=r.er->y.In w1 0 w1.heap.size->Grew w w1->Calls Tryz.prog 98 #[y.val,o.val] w1 (RetMoved mv ok w1)) :
  Calls Tryz.prog 19 #[.slice a 1 c,o.val] w (RetOne (zbP r.er mv ok) w):=by
 have AL:=zQ0 (fun w1 (hg:Grew w w1)=>holdAll_any a c [r] w1 (hL.grew hg) (fun x hx=>by obtain rfl:=List.mem_singleton.1 hx;exact hs) (by simp));have PM:=zQ0 PM;have HR:Hid (zbP r.er mv ok=if ok then { mv with live:=true } else r.er.bare):=rfl;generalize zbP r.er mv ok=res at *;clear hL hs;unfold OpL.val at *
 go_enter Tryz.func19,Tryz.ntmps19
 go_upto_region 1 with fail
 generalize hW:w.alloc _=w1;obtain⟨g1,rO,_,z1⟩:=zaq w o.cells _ w1 hW;clear hW;have AL1:=AL.out w1 g1;rw[show ([r]:List RefL).length=1 from rfl] at AL1;clear AL;go_wp2_with fail
 refine AL1.mono ?_;rintro e w2 ⟨M,rfl,g2,hown,he⟩;have hlen:M.length=1:=by have:=congrArg List.length he.out;simpa using this
 obtain⟨y,rfl⟩:=one_of hlen
 have hye:Hid (y.er=r.er):=by
  have:=he.out;simp only[List.map_cons,List.map_nil,List.cons.injEq,and_true] at this;exact this
 have hyl:y.live=true:=by have:=congrArg RefE.live hye.out;exact this.trans hlive
 have hyk:y.kind=2:=by have:=congrArg RefE.kind hye.out;exact this.trans hk
 obtain⟨hro,hyin0⟩:=hown;have hyin:y.In w2 (w1.heap.size+1) w2.heap.size:=hyin0 y (by simp);obtain⟨rR,tR,zR⟩:=own_one hro;have z2:=g2.size;have rO2:=zcj rO g2 (by omega);clear hro hyin0 he hlen rO hlive hk;simp only[List.length_cons,List.length_nil,Nat.zero_add];have G12:=zQ0 (g1.trans g2);rw[z1] at rR tR zR hyin z2 ⊢;clear g1 g2 z1;go_wp2_with fail
 go_loopw [16] (fun i wr=>StepAt w w2 (w.heap.size+1) res i wr) (fun i _=>1 - (intOf i).toNat)
 case atStart=>exact .inl ⟨rfl,rfl⟩
 case round =>
  rcases hrel with ⟨rfl,rfl⟩ | ⟨rfl,x,hg,hx,hxe⟩
  ·have HNB:=zQ0 (fun(F:World) (hF:(wr.alloc (.cells #[.int .i64 0,.int .i64 0,.int .i64 0,.bool false,.slice none 0 0,.slice none 0 0,.int .i64 0,.slice none 0 0,.int .i64 0,.slice none 0 0,.int .i64 0] 46)).setCells wr.heap.size 0 y.cells=F)=>newBox hF rfl);have HTH:=zQ0 (zc5 (Grew.refl (wr.alloc (.cells #[.int .i64 0,.int .i64 0,.int .i64 0,.bool false,.slice none 0 0,.slice none 0 0,.int .i64 0,.slice none 0 0,.int .i64 0,.slice none 0 0,.int .i64 0] 46))))
   go_upto_region 5 with (first | (refine wpList_load_mid rfl 46 (.tmp 19) rfl (w.heap.size+1) 0 rfl y.cells _ rR Tryz.underlying46 rfl zbq ?_) | (refine wpList_store_mid rfl 46 (.tmp 7) (.tmp 20) rfl wr.heap.size 0 y.cells.toArray rfl rfl HTH.out zbq y.cells_all ?_;generalize hF:(wr.alloc _).setCells _ _ _=w3;obtain⟨r3,g3,z3⟩:=HNB.out w3 hF;clear hF HNB HTH))
   have BR:=zQ0 (zbk y w3);unfold RefL.val at BR;have gA:=zQ0 (G12.out.trans g3);have r3l:=zci r3 (j:=3) (v:=.bool y.live) rfl;rw[hyl] at r3l
   go_wp2_with (refine wpList_load_mid rfl 46 (.tmp 7) rfl wr.heap.size 0 rfl y.cells _ r3 Tryz.underlying46 rfl zbq ?_)
   refine BR.out.mono ?_;rintro e w4 ⟨rfl,g4⟩;have z3':=g3.size;have z4:=g4.size;have r4:=zcj r3 g4 z3;have rO4:=zcj rO2 (g3.trans g4) (by omega);have tR4:=zc4 tR (g3.trans g4) zR;have HP:=zQ0 (zcm (cs:=y.bare.cells) tR4);have HK:=zQ0 (zcM (w.heap.size+1) y.bare.cells 0 w4);have HT:=zQ0 (World.there_setCells tR4 (w.heap.size+1) 0 y.bare.cells);have hy4:Hid (y.In w4 (w.heap.size+1+1) w4.heap.size):=((hyin.grew (g3.trans g4) zQ1).mono zQ1 (g3.trans g4).size)
   clear r3 r3l tR rR rO2 BR
   go_upto_region 7 with (refine wpList_store_mid rfl 46 (.tmp 28) (.tmp 27) rfl (w.heap.size+1) 0 y.bare.cells.toArray rfl rfl tR4 zbq y.bare.cells_all ?_;generalize hW:w4.setCells _ _ _=w5;have rR5:w5.rangeAt (w.heap.size+1) 0 y.bare.cells:=hW ▸ HP.out;have k5:Keeps (·=w.heap.size+1) w4 w5:=hW ▸ HK.out;have tR5:w5.there (w.heap.size+1) 0 11:=hW ▸ HT.out;clear hW HP HK HT)
   have z5:=k5.size;have r5:=zcl r4 k5 (by omega) (by omega);have rO5:=zcl rO4 k5 (by omega) (by omega);have gB:Hid (Grew w w5):=(gA.out.trans g4).keep k5 (fun j hj=>by rw[hj];omega);have hy5:Hid (y.In w5 0 w5.heap.size):=(hy4.out.agree (k5.agree zQ1 (fun j h1 h2=>by show ¬ j=_;omega))).mono (Nat.zero_le _) k5.size;have hk5:w5.cell? ⟨wr.heap.size,1,none⟩=some (.int .i64 2):=by have:=zci r5 (j:=1) (v:=.int .i64 y.kind) rfl;rw[hyk] at this;exact this
   have zz:wr.heap.size < w5.heap.size:=by omega
   have KB:=fun w' (g:Grew w5 w')=>(g.cell (p:=⟨wr.heap.size,1,none⟩) zz).trans hk5;have g10:Grew w5 w5.drew:=(Grew.refl _).drew;have hlk:(Instr.lookup 89 (.map (some w5.heap.size)) (.int .i64 2) true).run Tryz.prog (w5.alloc zbz).drew=_:=zcG (w:=(w5.alloc zbz).drew) (b:=w5.heap.size) (heap_alloc_new w5 zbz) 2;have hlk2:(Instr.lookup 89 (.map (some w5.heap.size)) (.int .i64 2) true).run Tryz.prog ((w5.alloc zbz).alloc (.cells #[.int .i64 0,.nilFunc,.nilFunc] 87)).drew=_:=zcG (w:=((w5.alloc zbz).alloc (.cells #[.int .i64 0,.nilFunc,.nilFunc] 87)).drew) (b:=w5.heap.size) ((heap_alloc_old (w5.alloc zbz) _ (by simp)).trans (heap_alloc_new w5 zbz)) 2;have hlk3:(Instr.lookup 89 (.map (some (w5.heap.size+1))) (.int .i64 2) true).run Tryz.prog ((w5.alloc (.cells #[.int .i64 0,.nilFunc,.nilFunc] 87)).alloc zbz).drew=_:=zcG (w:=((w5.alloc (.cells #[.int .i64 0,.nilFunc,.nilFunc] 87)).alloc zbz).drew) (b:=w5.heap.size+1) (by have:=heap_alloc_new (w5.alloc (.cells #[.int .i64 0,.nilFunc,.nilFunc] 87)) zbz;rw[World.size_alloc] at this;exact this) 2;rw[if_neg (by decide),if_pos rfl] at hlk hlk2 hlk3;have RR5:=zQ0 rR5;have TR5:=zQ0 tR5;have R5:=zQ0 r5;have RO5:=zQ0 rO5;clear r4 rO4 tR4 hk5 rR5 tR5 r5 rO5 g3 g4 k5 hyin gA
   dsimp only [Act.put]
   go_cut [8,9] (fun s5 s6 wx=>KindAll w5 (.int .i64 2) (.func (.func 97) #[] #[]) (.func (.func 98) #[] #[]) true s5 s6 wx)
   case first =>
    go_region_held3 (fun w'=>Grew w5 w') ((first | with_reducible exact g10 | with_reducible assumption | exact (Grew.alloc1 _ _).drew | exact ((Grew.alloc1 _ _).alloc _).drew)) ((go_at_call 47;refine (zbA _).mono ?_;rintro e w2 ⟨rfl,rfl⟩))
    all_goals (go_wp2_with fail;go_meet)
    all_goals first | exact kindAll1 w5 _ _ _ _ | exact kindAll2 w5 _ _ _ _
   case rest =>
    obtain⟨KB2,rfl,rfl,g5c,b2,zb⟩:=hcut;clear hlk hlk2 hlk3 KB g10;have z5c:=g5c.size;have GC:=zQ0 (gB.out.trans g5c);have rc:=zcj R5.out g5c zz;have rOc:=zcj RO5.out g5c (by omega);have PM1:=zQ0 (PM.out y wc hye.out (hy5.out.later g5c) GC.out);unfold RefL.val at PM1
    go_wp2_with (first | (refine wpList_load_mid rfl 46 (.tmp 7) rfl wr.heap.size 0 rfl y.cells _ rc Tryz.underlying46 rfl zbq ?_) | (refine wpList_load_mid rfl 35 (.tmp 3) rfl w.heap.size 0 rfl o.cells _ rOc Tryz.underlying35 rfl infoOpS ?_))
    refine PM1.out.mono ?_;rintro e w6 ⟨x,rfl,g6,hx,hxe⟩;have z6:=g6.size;have HNB:=zQ0 (fun(F:World) (hF:(w6.alloc (.cells #[.int .i64 0,.int .i64 0,.int .i64 0,.bool false,.slice none 0 0,.slice none 0 0,.int .i64 0,.slice none 0 0,.int .i64 0,.slice none 0 0,.int .i64 0] 46)).setCells w6.heap.size 0 x.cells=F)=>newBox hF rfl);have HTH:=zQ0 (zc5 (Grew.refl (w6.alloc (.cells #[.int .i64 0,.int .i64 0,.int .i64 0,.bool false,.slice none 0 0,.slice none 0 0,.int .i64 0,.slice none 0 0,.int .i64 0,.slice none 0 0,.int .i64 0] 46))));have HTS:=zQ0 (World.there_setCells HTH.out w6.heap.size 0 x.cells);unfold RefL.val;clear b2 rc rOc PM1
    go_upto_region 10 with (refine wpList_store_mid rfl 46 (.tmp 10) (.tmp 43) rfl w6.heap.size 0 x.cells.toArray rfl rfl HTH.out zbq x.cells_all ?_;generalize hF:(w6.alloc _).setCells _ _ _=w7;obtain⟨r7,g7,z7⟩:=HNB.out w7 hF;have t7:w7.there w6.heap.size 0 11:=hF ▸ HTS.out;clear hF HNB HTH HTS)
    have z67:=g7.size;have tRc:=zc4 TR5.out (g5c.trans (g6.trans g7)) (by omega)
    cases ok with
    | false =>
     have rR7:=zcj RR5.out (g5c.trans (g6.trans g7)) (by omega)
     have HF:Hid (y.bare.er=res):=by
      show _=_
      rw[HR.out,if_neg (by decide),<- hye.out];rfl
     have GF:=zQ0 (GC.out.trans (g6.trans g7));have RF:Hid (RefsIn w7 (some ⟨w.heap.size+1,0,none⟩) 1 [y.bare]):=zco rR7 (by omega) ⟨zbu,zbu,zbu,zbu⟩;clear HR hx hxe r7 t7 rR7 tRc;go_wp2_with fail
     go_roundw
     case rel=>exact .inr ⟨rfl,_,GF.out,RF.out,HF⟩
     case measure=>simp[intOf]
    | true =>
     have HF:Hid (({ x with live:=true }:RefL).er=res):=by
      show _=_
      rw[HR.out,if_pos rfl,<- hxe.out];rfl
     have c3:=zci r7 (j:=3) (v:=.bool x.live) rfl;have f3:w7.frozen? ⟨w6.heap.size,3,none⟩=false:=(t7 3 (by omega)).2;have r8:Hid ((w7.setCell ⟨w6.heap.size,3,none⟩ (.bool true)).rangeAt w6.heap.size 0 ({ x with live:=true }:RefL).cells):=zcn r7 (j:=3) (by rw[RefL.cells_len];omega) _;have k8:Hid (Keeps (·=w6.heap.size) w7 (w7.setCell ⟨w6.heap.size,3,none⟩ (.bool true))):=(Keeps.refl _ _).own _ _;have HX:Hid (({ x with live:=true }  :RefL).In w7 wc.heap.size w6.heap.size):=hx.grew g7 zQ1;clear HR hx hxe;go_upto_region 12 with fail
     generalize w7.setCell ⟨w6.heap.size,3,none⟩ (.bool true)=w8 at *;generalize ({ x with live:=true }:RefL)=u at *;have z8:=k8.out.size;have r8:=r8.out
     have t8:w8.there (w.heap.size+1) 0 11:=fun j hj=>by
      rw[k8.out.cell (p:=⟨w.heap.size+1,0+j,none⟩) (by show w.heap.size+1 < _;omega) (by show ¬ w.heap.size+1=_;omega),k8.out.frozen (p:=⟨w.heap.size+1,0+j,none⟩) (by show w.heap.size+1 < _;omega) (by show ¬ w.heap.size+1=_;omega)];exact tRc j hj
     have HP:=zQ0 (zcm (cs:=u.cells) t8);have HK:=zQ0 (zcM (w.heap.size+1) u.cells 0 w8);clear r7 t7 c3 f3 tRc
     go_wp2_with (first | (refine wpList_load_mid rfl 46 (.tmp 10) rfl w6.heap.size 0 rfl u.cells _ r8 Tryz.underlying46 rfl zbq ?_) | (refine wpList_store_mid rfl 46 (.tmp 50) (.tmp 49) rfl (w.heap.size+1) 0 u.cells.toArray rfl rfl t8 zbq u.cells_all ?_;generalize hW:w8.setCells _ _ _=w9;have r9:w9.rangeAt (w.heap.size+1) 0 u.cells:=hW ▸ HP.out;have k9:Keeps (·=w.heap.size+1) w8 w9:=hW ▸ HK.out;clear hW HP HK))
     have z9:=k9.size;have GF:Hid (Grew w w9):=((GC.out.trans (g6.trans g7)).keep k8.out (fun j hj=>by rw[hj];omega)).keep k9 (fun j hj=>by rw[hj];omega);have hu9:u.In w9 0 w9.heap.size:=((HX.out.agree (k8.out.agree (by omega) (fun j h1 h2=>by show ¬ j=_;omega))).agree (k9.agree (by omega) (fun j h1 h2=>by show ¬ j=_;omega))).mono (Nat.zero_le _) (by omega)
     go_roundw
     case rel=>exact .inr ⟨rfl,u,GF.out,zco r9 (by omega) hu9,HF⟩
     case measure=>simp[intOf]
  ·go_wp2_with fail
   go_ret
   exact⟨_,x,rfl,hg,hx,hxe⟩
theorem stepRange_any(a:Option Addr)(c:Nat)(r:RefL)(o:OpL)(mv:RefE)(ok:Bool)(w:World)(hL:RefsIn w a c [r])(hs:r.er.Small)(hlive:r.live=true)(hk:r.kind=3)(PM:∀(y:RefL) (w1:World),y.er=r.er->y.In w1 0 w1.heap.size->Grew w w1->Calls Tryz.prog 100 #[y.val,o.val] w1 (RetMoved mv ok w1)) :
  Calls Tryz.prog 19 #[.slice a 1 c,o.val] w (RetOne (zbP r.er mv ok) w):=by
 have AL:=zQ0 (fun w1 (hg:Grew w w1)=>holdAll_any a c [r] w1 (hL.grew hg) (fun x hx=>by obtain rfl:=List.mem_singleton.1 hx;exact hs) (by simp));have PM:=zQ0 PM;have HR:Hid (zbP r.er mv ok=if ok then { mv with live:=true } else r.er.bare):=rfl;generalize zbP r.er mv ok=res at *;clear hL hs;unfold OpL.val at *
 go_enter Tryz.func19,Tryz.ntmps19
 go_upto_region 1 with fail
 generalize hW:w.alloc _=w1;obtain⟨g1,rO,_,z1⟩:=zaq w o.cells _ w1 hW;clear hW;have AL1:=AL.out w1 g1;rw[show ([r]:List RefL).length=1 from rfl] at AL1;clear AL;go_wp2_with fail
 refine AL1.mono ?_;rintro e w2 ⟨M,rfl,g2,hown,he⟩;have hlen:M.length=1:=by have:=congrArg List.length he.out;simpa using this
 obtain⟨y,rfl⟩:=one_of hlen
 have hye:Hid (y.er=r.er):=by
  have:=he.out;simp only[List.map_cons,List.map_nil,List.cons.injEq,and_true] at this;exact this
 have hyl:y.live=true:=by have:=congrArg RefE.live hye.out;exact this.trans hlive
 have hyk:y.kind=3:=by have:=congrArg RefE.kind hye.out;exact this.trans hk
 obtain⟨hro,hyin0⟩:=hown;have hyin:y.In w2 (w1.heap.size+1) w2.heap.size:=hyin0 y (by simp);obtain⟨rR,tR,zR⟩:=own_one hro;have z2:=g2.size;have rO2:=zcj rO g2 (by omega);clear hro hyin0 he hlen rO hlive hk;simp only[List.length_cons,List.length_nil,Nat.zero_add];have G12:=zQ0 (g1.trans g2);rw[z1] at rR tR zR hyin z2 ⊢;clear g1 g2 z1;go_wp2_with fail
 go_loopw [16] (fun i wr=>StepAt w w2 (w.heap.size+1) res i wr) (fun i _=>1 - (intOf i).toNat)
 case atStart=>exact .inl ⟨rfl,rfl⟩
 case round =>
  rcases hrel with ⟨rfl,rfl⟩ | ⟨rfl,x,hg,hx,hxe⟩
  ·have HNB:=zQ0 (fun(F:World) (hF:(wr.alloc (.cells #[.int .i64 0,.int .i64 0,.int .i64 0,.bool false,.slice none 0 0,.slice none 0 0,.int .i64 0,.slice none 0 0,.int .i64 0,.slice none 0 0,.int .i64 0] 46)).setCells wr.heap.size 0 y.cells=F)=>newBox hF rfl);have HTH:=zQ0 (zc5 (Grew.refl (wr.alloc (.cells #[.int .i64 0,.int .i64 0,.int .i64 0,.bool false,.slice none 0 0,.slice none 0 0,.int .i64 0,.slice none 0 0,.int .i64 0,.slice none 0 0,.int .i64 0] 46))))
   go_upto_region 5 with (first | (refine wpList_load_mid rfl 46 (.tmp 19) rfl (w.heap.size+1) 0 rfl y.cells _ rR Tryz.underlying46 rfl zbq ?_) | (refine wpList_store_mid rfl 46 (.tmp 7) (.tmp 20) rfl wr.heap.size 0 y.cells.toArray rfl rfl HTH.out zbq y.cells_all ?_;generalize hF:(wr.alloc _).setCells _ _ _=w3;obtain⟨r3,g3,z3⟩:=HNB.out w3 hF;clear hF HNB HTH))
   have BR:=zQ0 (zbk y w3);unfold RefL.val at BR;have gA:=zQ0 (G12.out.trans g3);have r3l:=zci r3 (j:=3) (v:=.bool y.live) rfl;rw[hyl] at r3l
   go_wp2_with (refine wpList_load_mid rfl 46 (.tmp 7) rfl wr.heap.size 0 rfl y.cells _ r3 Tryz.underlying46 rfl zbq ?_)
   refine BR.out.mono ?_;rintro e w4 ⟨rfl,g4⟩;have z3':=g3.size;have z4:=g4.size;have r4:=zcj r3 g4 z3;have rO4:=zcj rO2 (g3.trans g4) (by omega);have tR4:=zc4 tR (g3.trans g4) zR;have HP:=zQ0 (zcm (cs:=y.bare.cells) tR4);have HK:=zQ0 (zcM (w.heap.size+1) y.bare.cells 0 w4);have HT:=zQ0 (World.there_setCells tR4 (w.heap.size+1) 0 y.bare.cells);have hy4:Hid (y.In w4 (w.heap.size+1+1) w4.heap.size):=((hyin.grew (g3.trans g4) zQ1).mono zQ1 (g3.trans g4).size)
   clear r3 r3l tR rR rO2 BR
   go_upto_region 7 with (refine wpList_store_mid rfl 46 (.tmp 28) (.tmp 27) rfl (w.heap.size+1) 0 y.bare.cells.toArray rfl rfl tR4 zbq y.bare.cells_all ?_;generalize hW:w4.setCells _ _ _=w5;have rR5:w5.rangeAt (w.heap.size+1) 0 y.bare.cells:=hW ▸ HP.out;have k5:Keeps (·=w.heap.size+1) w4 w5:=hW ▸ HK.out;have tR5:w5.there (w.heap.size+1) 0 11:=hW ▸ HT.out;clear hW HP HK HT)
   have z5:=k5.size;have r5:=zcl r4 k5 (by omega) (by omega);have rO5:=zcl rO4 k5 (by omega) (by omega);have gB:Hid (Grew w w5):=(gA.out.trans g4).keep k5 (fun j hj=>by rw[hj];omega);have hy5:Hid (y.In w5 0 w5.heap.size):=(hy4.out.agree (k5.agree zQ1 (fun j h1 h2=>by show ¬ j=_;omega))).mono (Nat.zero_le _) k5.size;have hk5:w5.cell? ⟨wr.heap.size,1,none⟩=some (.int .i64 3):=by have:=zci r5 (j:=1) (v:=.int .i64 y.kind) rfl;rw[hyk] at this;exact this
   have zz:wr.heap.size < w5.heap.size:=by omega
   have KB:=fun w' (g:Grew w5 w')=>(g.cell (p:=⟨wr.heap.size,1,none⟩) zz).trans hk5;have g10:Grew w5 w5.drew:=(Grew.refl _).drew;have hlk:(Instr.lookup 89 (.map (some w5.heap.size)) (.int .i64 3) true).run Tryz.prog (w5.alloc zbz).drew=_:=zcG (w:=(w5.alloc zbz).drew) (b:=w5.heap.size) (heap_alloc_new w5 zbz) 3;have hlk2:(Instr.lookup 89 (.map (some w5.heap.size)) (.int .i64 3) true).run Tryz.prog ((w5.alloc zbz).alloc (.cells #[.int .i64 0,.nilFunc,.nilFunc] 87)).drew=_:=zcG (w:=((w5.alloc zbz).alloc (.cells #[.int .i64 0,.nilFunc,.nilFunc] 87)).drew) (b:=w5.heap.size) ((heap_alloc_old (w5.alloc zbz) _ (by simp)).trans (heap_alloc_new w5 zbz)) 3;have hlk3:(Instr.lookup 89 (.map (some (w5.heap.size+1))) (.int .i64 3) true).run Tryz.prog ((w5.alloc (.cells #[.int .i64 0,.nilFunc,.nilFunc] 87)).alloc zbz).drew=_:=zcG (w:=((w5.alloc (.cells #[.int .i64 0,.nilFunc,.nilFunc] 87)).alloc zbz).drew) (b:=w5.heap.size+1) (by have:=heap_alloc_new (w5.alloc (.cells #[.int .i64 0,.nilFunc,.nilFunc] 87)) zbz;rw[World.size_alloc] at this;exact this) 3;rw[if_neg (by decide),if_neg (by decide),if_pos rfl] at hlk hlk2 hlk3;have RR5:=zQ0 rR5;have TR5:=zQ0 tR5;have R5:=zQ0 r5;have RO5:=zQ0 rO5;clear r4 rO4 tR4 hk5 rR5 tR5 r5 rO5 g3 g4 k5 hyin gA
   dsimp only [Act.put]
   go_cut [8,9] (fun s5 s6 wx=>KindAll w5 (.int .i64 4) (.func (.func 99) #[] #[]) (.func (.func 100) #[] #[]) true s5 s6 wx)
   case first =>
    go_region_held3 (fun w'=>Grew w5 w') ((first | with_reducible exact g10 | with_reducible assumption | exact (Grew.alloc1 _ _).drew | exact ((Grew.alloc1 _ _).alloc _).drew)) ((go_at_call 47;refine (zbA _).mono ?_;rintro e w2 ⟨rfl,rfl⟩))
    all_goals (go_wp2_with fail;go_meet)
    all_goals first | exact kindAll1 w5 _ _ _ _ | exact kindAll2 w5 _ _ _ _
   case rest =>
    obtain⟨KB2,rfl,rfl,g5c,b2,zb⟩:=hcut;clear hlk hlk2 hlk3 KB g10;have z5c:=g5c.size;have GC:=zQ0 (gB.out.trans g5c);have rc:=zcj R5.out g5c zz;have rOc:=zcj RO5.out g5c (by omega);have PM1:=zQ0 (PM.out y wc hye.out (hy5.out.later g5c) GC.out);unfold RefL.val at PM1
    go_wp2_with (first | (refine wpList_load_mid rfl 46 (.tmp 7) rfl wr.heap.size 0 rfl y.cells _ rc Tryz.underlying46 rfl zbq ?_) | (refine wpList_load_mid rfl 35 (.tmp 3) rfl w.heap.size 0 rfl o.cells _ rOc Tryz.underlying35 rfl infoOpS ?_))
    refine PM1.out.mono ?_;rintro e w6 ⟨x,rfl,g6,hx,hxe⟩;have z6:=g6.size;have HNB:=zQ0 (fun(F:World) (hF:(w6.alloc (.cells #[.int .i64 0,.int .i64 0,.int .i64 0,.bool false,.slice none 0 0,.slice none 0 0,.int .i64 0,.slice none 0 0,.int .i64 0,.slice none 0 0,.int .i64 0] 46)).setCells w6.heap.size 0 x.cells=F)=>newBox hF rfl);have HTH:=zQ0 (zc5 (Grew.refl (w6.alloc (.cells #[.int .i64 0,.int .i64 0,.int .i64 0,.bool false,.slice none 0 0,.slice none 0 0,.int .i64 0,.slice none 0 0,.int .i64 0,.slice none 0 0,.int .i64 0] 46))));have HTS:=zQ0 (World.there_setCells HTH.out w6.heap.size 0 x.cells);unfold RefL.val;clear b2 rc rOc PM1
    go_upto_region 10 with (refine wpList_store_mid rfl 46 (.tmp 10) (.tmp 43) rfl w6.heap.size 0 x.cells.toArray rfl rfl HTH.out zbq x.cells_all ?_;generalize hF:(w6.alloc _).setCells _ _ _=w7;obtain⟨r7,g7,z7⟩:=HNB.out w7 hF;have t7:w7.there w6.heap.size 0 11:=hF ▸ HTS.out;clear hF HNB HTH HTS)
    have z67:=g7.size;have tRc:=zc4 TR5.out (g5c.trans (g6.trans g7)) (by omega)
    cases ok with
    | false =>
     have rR7:=zcj RR5.out (g5c.trans (g6.trans g7)) (by omega)
     have HF:Hid (y.bare.er=res):=by
      show _=_
      rw[HR.out,if_neg (by decide),<- hye.out];rfl
     have GF:=zQ0 (GC.out.trans (g6.trans g7));have RF:Hid (RefsIn w7 (some ⟨w.heap.size+1,0,none⟩) 1 [y.bare]):=zco rR7 (by omega) ⟨zbu,zbu,zbu,zbu⟩;clear HR hx hxe r7 t7 rR7 tRc;go_wp2_with fail
     go_roundw
     case rel=>exact .inr ⟨rfl,_,GF.out,RF.out,HF⟩
     case measure=>simp[intOf]
    | true =>
     have HF:Hid (({ x with live:=true }:RefL).er=res):=by
      show _=_
      rw[HR.out,if_pos rfl,<- hxe.out];rfl
     have c3:=zci r7 (j:=3) (v:=.bool x.live) rfl;have f3:w7.frozen? ⟨w6.heap.size,3,none⟩=false:=(t7 3 (by omega)).2;have r8:Hid ((w7.setCell ⟨w6.heap.size,3,none⟩ (.bool true)).rangeAt w6.heap.size 0 ({ x with live:=true }:RefL).cells):=zcn r7 (j:=3) (by rw[RefL.cells_len];omega) _;have k8:Hid (Keeps (·=w6.heap.size) w7 (w7.setCell ⟨w6.heap.size,3,none⟩ (.bool true))):=(Keeps.refl _ _).own _ _;have HX:Hid (({ x with live:=true }  :RefL).In w7 wc.heap.size w6.heap.size):=hx.grew g7 zQ1;clear HR hx hxe;go_upto_region 12 with fail
     generalize w7.setCell ⟨w6.heap.size,3,none⟩ (.bool true)=w8 at *;generalize ({ x with live:=true }:RefL)=u at *;have z8:=k8.out.size;have r8:=r8.out
     have t8:w8.there (w.heap.size+1) 0 11:=fun j hj=>by
      rw[k8.out.cell (p:=⟨w.heap.size+1,0+j,none⟩) (by show w.heap.size+1 < _;omega) (by show ¬ w.heap.size+1=_;omega),k8.out.frozen (p:=⟨w.heap.size+1,0+j,none⟩) (by show w.heap.size+1 < _;omega) (by show ¬ w.heap.size+1=_;omega)];exact tRc j hj
     have HP:=zQ0 (zcm (cs:=u.cells) t8);have HK:=zQ0 (zcM (w.heap.size+1) u.cells 0 w8);clear r7 t7 c3 f3 tRc
     go_wp2_with (first | (refine wpList_load_mid rfl 46 (.tmp 10) rfl w6.heap.size 0 rfl u.cells _ r8 Tryz.underlying46 rfl zbq ?_) | (refine wpList_store_mid rfl 46 (.tmp 50) (.tmp 49) rfl (w.heap.size+1) 0 u.cells.toArray rfl rfl t8 zbq u.cells_all ?_;generalize hW:w8.setCells _ _ _=w9;have r9:w9.rangeAt (w.heap.size+1) 0 u.cells:=hW ▸ HP.out;have k9:Keeps (·=w.heap.size+1) w8 w9:=hW ▸ HK.out;clear hW HP HK))
     have z9:=k9.size;have GF:Hid (Grew w w9):=((GC.out.trans (g6.trans g7)).keep k8.out (fun j hj=>by rw[hj];omega)).keep k9 (fun j hj=>by rw[hj];omega);have hu9:u.In w9 0 w9.heap.size:=((HX.out.agree (k8.out.agree (by omega) (fun j h1 h2=>by show ¬ j=_;omega))).agree (k9.agree (by omega) (fun j h1 h2=>by show ¬ j=_;omega))).mono (Nat.zero_le _) (by omega)
     go_roundw
     case rel=>exact .inr ⟨rfl,u,GF.out,zco r9 (by omega) hu9,HF⟩
     case measure=>simp[intOf]
  ·go_wp2_with fail
   go_ret
   exact⟨_,x,rfl,hg,hx,hxe⟩
theorem T.set_kid{v u z:T}{x y:List T}(hk:v.ks=x++u::y):T.setAt z v [(x.length:Int)]=v.kids (x++z::y):=by
 rw[T.setAt,T.setAt,Int.toNat_natCast,hk,List.set_append_right _ _ zQ1,Nat.sub_self];rfl
theorem T.setAt_kid{n v u z:T}{vp:List Int}{x y:List T}{i:Nat}(hv:n.at vp=some v)(hk:v.ks=x++u::y)(hi:x.length=i):T.setAt z n (vp++[(i:Int)])=T.setAt (v.kids (x++z::y)) n vp:=by
 subst hi;rw[T.setAt_append hv,T.set_kid hk]
theorem T.at_the_kid{n v u:T}{vp:List Int}{x y:List T}{i:Nat}(hv:n.at vp=some v)(hk:v.ks=x++u::y)(hi:x.length=i):n.at (vp++[(i:Int)])=some u:=by
 subst hi;rw[T.at_up hv];exact T.at_kid hk
end Go.Proofs.YtccobobnmpafbaaGreatDoor
