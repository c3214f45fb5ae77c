/- hold.pathMove: the contract, where xpath.Move's is told. -/
import Derived.Test.YtccobobnmpafbaaGreatDoorK07
import Derived.Test.YtccobobnmpafbaaGreatDoorK08
import Derived.Test.YtccobobnmpafbaaGreatDoorK34
import Derived.Laws.EntriesVeiled
import Derived.Deep.DeepCutAuto
import Derived.Test.YtccobobnmpafbaaGreatDoorK05
set_option maxRecDepth 100000
set_option maxHeartbeats 100000000
namespace Go.Proofs.YtccobobnmpafbaaGreatDoor
open Go Go.RowKit
theorem infoOpS:(Tryz.prog.info? 35).map (·.size)=some 21:=by kernel_rfl
def RetMoved(r:RefE)(ok:Bool)(w:World)(e:Ending)(w':World):Prop:=∃ x:RefL,e=.returned (.tuple #[x.val,.bool ok])/\Grew w w'/\x.In w' w.heap.size w'.heap.size/\Hid (x.er=r)
def RefE.bare(r:RefE):RefE:={ RefE.nil with id:=r.id,kind:=r.kind,aff:=r.aff }
theorem pathMove_any(r:RefL)(o:OpL)(mv:List Int)(ok:Bool)(w:World)(hM:∀ w1,Grew w w1->Calls Tryz.prog 130 #[.slice r.path.a r.path.l.length r.path.c,o.val] w1 (RetMove mv ok w1)) :
  Calls Tryz.prog 96 #[r.val,o.val] w (RetMoved { r.er.bare with path:=mv } ok w):=by
 have HM:=zQ0 hM;clear hM;unfold RefL.val OpL.val at *
 go_enter Tryz.func96,Tryz.ntmps96
 go_upto_region 1 with fail
 generalize hW:((w.alloc _).alloc _).alloc _=w3;obtain⟨g3,rA,rB,rC,tC,z3⟩:=zas w r.cells o.cells RefL.nil.cells _ _ _ w3 hW;clear hW;have BR:=zQ0 (zbk r w3);unfold RefL.val at BR
 go_wp2_with (refine wpList_load_mid rfl 46 (.tmp 2) rfl w.heap.size 0 rfl r.cells _ rA Tryz.underlying46 rfl zbq ?_)
 refine BR.out.mono ?_;rintro e w4 ⟨rfl,g4⟩;have z4:=g4.size;have rA4:=zcj rA g4 (by omega);have rB4:=zcj rB g4 (by omega);have tC4:=zc4 tC g4 (by omega);have HP:=zQ0 (zcm (cs:=r.bare.cells) tC4);have HK:=zQ0 (zcM (w.heap.size+2) r.bare.cells 0 w4);have HT:=zQ0 (World.there_setCells tC4 (w.heap.size+2) 0 r.bare.cells);clear rA rB rC tC BR
 go_upto_region 2 with (refine wpList_store_mid rfl 46 (.tmp 4) (.tmp 7) rfl (w.heap.size+2) 0 r.bare.cells.toArray rfl rfl tC4 zbq r.bare.cells_all ?_;generalize hW:w4.setCells _ _ _=w5;have rC5:w5.rangeAt (w.heap.size+2) 0 r.bare.cells:=hW ▸ HP.out;have k5:Keeps (·=w.heap.size+2) w4 w5:=hW ▸ HK.out;have tC5:w5.there (w.heap.size+2) 0 11:=hW ▸ HT.out;clear hW HP HK HT)
 have z5:=k5.size;have rA5:=zcl rA4 k5 (by omega) (by omega);have rB5:=zcl rB4 k5 (by omega) (by omega);have G5:Hid (Grew w w5):=(g3.trans g4).keep k5 (fun j hj=>by rw[hj];omega);have a4:w5.cell? ⟨w.heap.size,4,none⟩=some (.slice r.path.a r.path.l.length r.path.c):=zci rA5 (j:=4) rfl;have MV:=zQ0 (HM.out w5 G5.out);clear rA4 rB4 tC4 HM
 go_wp2_with (refine wpList_load_mid rfl 35 (.tmp 3) rfl (w.heap.size+1) 0 rfl o.cells _ rB5 Tryz.underlying35 rfl infoOpS ?_)
 refine MV.out.mono ?_;rintro e w6 ⟨q,rfl,g6,hq,he⟩;have z6:=g6.size;have rC6:=zcj rC5 g6 (by omega);have tC6:=zc4 tC5 g6 (by omega);have f4:w6.frozen? ⟨w.heap.size+2,4,none⟩=false:=(tC6 4 (by omega)).2;have c4:w6.cell? ⟨w.heap.size+2,4,none⟩=some (.slice none 0 0):=zci rC6 (j:=4) rfl;have rC7:Hid ((w6.setCell ⟨w.heap.size+2,4,none⟩ (.slice q.a q.l.length q.c)).rangeAt (w.heap.size+2) 0 ({ r.bare with path:=q }:RefL).cells):=zcn rC6 (j:=4) (by rw[RefL.cells_len];omega) _
 have tC7:Hid ((w6.setCell ⟨w.heap.size+2,4,none⟩ (.slice q.a q.l.length q.c)).there (w.heap.size+2) 0 11):=fun j hj=>by
  have h1:=zcn rC6 (j:=4) (by rw[RefL.cells_len];omega) (.slice q.a q.l.length q.c);have h2:=tC6 j hj;refine⟨?_,by rw[World.frozen?_setCell];exact h2.2⟩;rw[h1 j _ (List.getElem?_eq_getElem (by rw[List.length_set,RefL.cells_len];exact hj))]
  rfl
 have k7:Hid (Keeps (·=w.heap.size+2) w6 (w6.setCell ⟨w.heap.size+2,4,none⟩ (.slice q.a q.l.length q.c))):=(Keeps.refl _ _).own _ _;have HX:Hid (({ r.bare with path:=q }:RefL).In w6 w5.heap.size w6.heap.size):=⟨hq,zbu,zbu,zbu⟩
 have HE:Hid (({ r.bare with path:=q }:RefL).er={ r.er.bare with path:=mv }):=by
  show _=_
  rw[<- he.out];rfl
 have HV:Hid (({ r.bare with path:=q }:RefL).val=.agg #[.int .i64 r.id,.int .i64 r.kind,.int .i64 r.aff,.bool false,.slice q.a q.l.length q.c,.slice none 0 0,.int .i64 0,.slice none 0 0,.int .i64 0,.slice none 0 0,.int .i64 0]):=rfl;clear hq he rA5 rB5 a4 MV rC5 tC5;go_upto_region 3 with fail
 generalize w6.setCell ⟨w.heap.size+2,4,none⟩ (.slice q.a q.l.length q.c)=w7 at *;generalize ({ r.bare with path:=q }:RefL)=y at *;clear f4 c4 rC6 tC6;have rC:=rC7.out;have tC:=tC7.out;have z7:=k7.out.size;have HP:=zQ0 (zcm (cs:=y.cells) tC);have HK:=zQ0 (zcM (w.heap.size+2) y.cells 0 w7);clear rC7 tC7
 go_wp2_with (first | (refine wpList_load_mid rfl 46 (.tmp 4) rfl (w.heap.size+2) 0 rfl y.cells _ rC Tryz.underlying46 rfl zbq ?_) | (refine wpList_store_mid rfl 46 (.tmp 4) (.tmp 16) rfl (w.heap.size+2) 0 y.cells.toArray rfl rfl tC zbq y.cells_all ?_;generalize hW:w7.setCells _ _ _=w8;have rC8:w8.rangeAt (w.heap.size+2) 0 y.cells:=hW ▸ HP.out;have k8:Keeps (·=w.heap.size+2) w7 w8:=hW ▸ HK.out;clear hW HP HK))
 have k68:=k7.out.trans k8;have hyW:y.In w8 w.heap.size w8.heap.size:=(HX.out.agree (k68.agree zQ1 (fun j h1 h2=>by show ¬ j=_;omega))).mono (by omega) k68.size;exact bodyPost_ret (v:=.tuple #[y.val,.bool ok]) (zcq Tryz.results96 _ w8 (w.heap.size+2) 0 y.cells _ _ rfl rfl rC8 Tryz.underlying46 rfl zbq) rfl ⟨y,rfl,(G5.out.trans g6).keep k68 (fun j hj=>by rw[hj];omega),hyW,HE⟩
/- hold.Step, of one ref of a path that is live: the contract, where pathMove's is told. -/
def KindAll(w1:World)(_m _F1 F2:Value)(b:Bool)(s5 s6:Value)(wx:World):Prop:=∃ B:Nat,s5=.pointer (some ⟨B,0,none⟩)/\s6=.bool b/\Grew w1 wx/\wx.cell? ⟨B,2,none⟩=some F2/\B < wx.heap.size
theorem kindAll1(w1:World)(m F1 F2:Value)(b:Bool):KindAll w1 m F1 F2 b (.pointer (some ⟨w1.heap.size+1,0,none⟩)) (.bool b) ((w1.alloc zbz).alloc (.cells #[m,F1,F2] 87)).drew:=by
 have b2:=zap (Grew.refl ((w1.alloc zbz).alloc (.cells #[m,F1,F2] 87))) (j:=2) (v:=F2) rfl;rw[World.size_alloc] at b2;exact⟨_,rfl,rfl,((Grew.alloc1 _ _).alloc _).drew,b2,by simp⟩
theorem kindAll2(w1:World)(m F1 F2:Value)(b:Bool):KindAll w1 m F1 F2 b (.pointer (some ⟨w1.heap.size,0,none⟩)) (.bool b) ((w1.alloc (.cells #[m,F1,F2] 87)).alloc zbz).drew:=by
 have g:=Grew.alloc1 (w1.alloc (.cells #[m,F1,F2] 87)) zbz;exact⟨_,rfl,rfl,((Grew.alloc1 _ _).alloc _).drew,zap g (j:=2) rfl,by simp;omega⟩
theorem one_of{α:Type}{L:List α}(h:L.length=1):∃ o,L=[o]:=by
 match L,h with
 | [o],_=>exact⟨o,rfl⟩
theorem own_one{w:World}{base g cap:Nat}{e:TypeId}{y:RefL}(h:w.ownsRow base e 11 (.slice (some ⟨g,0,none⟩) 1 cap) 1 ([y].flatMap RefL.cells)):w.rangeAt g 0 y.cells/\w.there g 0 11/\g < w.heap.size:=by
 have e1:[y].flatMap RefL.cells=y.cells:=by simp
 rw[e1] at h;refine⟨fun j v hj=>?_,by have:=own_there h;simpa using this,(h.lt g rfl).2⟩;obtain⟨h1,rfl⟩:=List.getElem?_eq_some_iff.1 hj;rw[RefL.cells_len] at h1;rw[Nat.zero_add,h.cellAt j (by omega)];exact List.getElem?_eq_getElem _
theorem zco{w:World}{b:Nat}{x:RefL}(hr:w.rangeAt b 0 x.cells)(hb:b < w.heap.size)(hx:x.In w 0 w.heap.size):RefsIn w (some ⟨b,0,none⟩) 1 [x]:=by
 refine⟨⟨⟨by simp,by simp,by unfold maxLen;omega⟩,fun _=>⟨b,0,rfl,Nat.zero_le _,hb,fun i hi j hj=>?_⟩⟩,fun r hr'=>by obtain rfl:=List.mem_singleton.1 hr';exact hx⟩;have hi':i=0:=by simpa using hi
 subst hi';have:=hr j _ (List.getElem?_eq_getElem (by rw[RefL.cells_len];exact hj));simp only[Nat.zero_add,Nat.zero_mul] at this ⊢;rw[this]
 simp[List.getD,List.getElem?_eq_getElem (show j < x.cells.length by rw[RefL.cells_len];exact hj)]
def RetOne(r:RefE)(w:World)(e:Ending)(w':World):Prop:=∃(b:Nat) (x:RefL),e=.returned (.slice (some ⟨b,0,none⟩) 1 1)/\Grew w w'/\RefsIn w' (some ⟨b,0,none⟩) 1 [x]/\Hid (x.er=r)
def zbP(r mv:RefE)(ok:Bool):RefE:=if ok then { mv with live:=true } else r.bare
def StepAt(w w2:World)(B:Nat)(res:RefE)(i:Value)(wr:World):Prop:=(i=.int .i64 0/\wr=w2)\/(i=.int .i64 1/\∃ x:RefL,Grew w wr/\RefsIn wr (some ⟨B,0,none⟩) 1 [x]/\Hid (x.er=res))
theorem stepPath_any(a:Option Addr)(c:Nat)(r:RefL)(o:OpL)(mv:RefE)(ok:Bool)(w:World)(hL:RefsIn w a c [r])(hs:r.er.Small)(hlive:r.live=true)(hk:r.kind=1)(PM:∀(y:RefL) (w1:World),y.er=r.er->y.In w1 0 w1.heap.size->Grew w w1->Calls Tryz.prog 96 #[y.val,o.val] w1 (RetMoved mv ok w1)) :
  Calls Tryz.prog 19 #[.slice a 1 c,o.val] w (RetOne (zbP r.er mv ok) w):=by
 have AL:=zQ0 (fun w1 (hg:Grew w w1)=>holdAll_any a c [r] w1 (hL.grew hg) (fun x hx=>by obtain rfl:=List.mem_singleton.1 hx;exact hs) (by simp));have PM:=zQ0 PM;have HR:Hid (zbP r.er mv ok=if ok then { mv with live:=true } else r.er.bare):=rfl;generalize zbP r.er mv ok=res at *;clear hL hs;unfold OpL.val at *
 go_enter Tryz.func19,Tryz.ntmps19
 go_upto_region 1 with fail
 generalize hW:w.alloc _=w1;obtain⟨g1,rO,_,z1⟩:=zaq w o.cells _ w1 hW;clear hW;have AL1:=AL.out w1 g1;rw[show ([r]:List RefL).length=1 from rfl] at AL1;clear AL;go_wp2_with fail
 refine AL1.mono ?_;rintro e w2 ⟨M,rfl,g2,hown,he⟩;have hlen:M.length=1:=by have:=congrArg List.length he.out;simpa using this
 obtain⟨y,rfl⟩:=one_of hlen
 have hye:Hid (y.er=r.er):=by
  have:=he.out;simp only[List.map_cons,List.map_nil,List.cons.injEq,and_true] at this;exact this
 have hyl:y.live=true:=by have:=congrArg RefE.live hye.out;exact this.trans hlive
 have hyk:y.kind=1:=by have:=congrArg RefE.kind hye.out;exact this.trans hk
 obtain⟨hro,hyin0⟩:=hown;have hyin:y.In w2 (w1.heap.size+1) w2.heap.size:=hyin0 y (by simp);obtain⟨rR,tR,zR⟩:=own_one hro;have z2:=g2.size;have rO2:=zcj rO g2 (by omega);clear hro hyin0 he hlen rO hlive hk;simp only[List.length_cons,List.length_nil,Nat.zero_add];have G12:=zQ0 (g1.trans g2);rw[z1] at rR tR zR hyin z2 ⊢;clear g1 g2 z1;go_wp2_with fail
 go_loopw [16] (fun i wr=>StepAt w w2 (w.heap.size+1) res i wr) (fun i _=>1 - (intOf i).toNat)
 case atStart=>exact .inl ⟨rfl,rfl⟩
 case round =>
  rcases hrel with ⟨rfl,rfl⟩ | ⟨rfl,x,hg,hx,hxe⟩
  ·have HNB:=zQ0 (fun(F:World) (hF:(wr.alloc (.cells #[.int .i64 0,.int .i64 0,.int .i64 0,.bool false,.slice none 0 0,.slice none 0 0,.int .i64 0,.slice none 0 0,.int .i64 0,.slice none 0 0,.int .i64 0] 46)).setCells wr.heap.size 0 y.cells=F)=>newBox hF rfl);have HTH:=zQ0 (zc5 (Grew.refl (wr.alloc (.cells #[.int .i64 0,.int .i64 0,.int .i64 0,.bool false,.slice none 0 0,.slice none 0 0,.int .i64 0,.slice none 0 0,.int .i64 0,.slice none 0 0,.int .i64 0] 46))))
   go_upto_region 5 with (first | (refine wpList_load_mid rfl 46 (.tmp 19) rfl (w.heap.size+1) 0 rfl y.cells _ rR Tryz.underlying46 rfl zbq ?_) | (refine wpList_store_mid rfl 46 (.tmp 7) (.tmp 20) rfl wr.heap.size 0 y.cells.toArray rfl rfl HTH.out zbq y.cells_all ?_;generalize hF:(wr.alloc _).setCells _ _ _=w3;obtain⟨r3,g3,z3⟩:=HNB.out w3 hF;clear hF HNB HTH))
   have BR:=zQ0 (zbk y w3);unfold RefL.val at BR;have gA:=zQ0 (G12.out.trans g3);have r3l:=zci r3 (j:=3) (v:=.bool y.live) rfl;rw[hyl] at r3l
   go_wp2_with (refine wpList_load_mid rfl 46 (.tmp 7) rfl wr.heap.size 0 rfl y.cells _ r3 Tryz.underlying46 rfl zbq ?_)
   refine BR.out.mono ?_;rintro e w4 ⟨rfl,g4⟩;have z3':=g3.size;have z4:=g4.size;have r4:=zcj r3 g4 z3;have rO4:=zcj rO2 (g3.trans g4) (by omega);have tR4:=zc4 tR (g3.trans g4) zR;have HP:=zQ0 (zcm (cs:=y.bare.cells) tR4);have HK:=zQ0 (zcM (w.heap.size+1) y.bare.cells 0 w4);have HT:=zQ0 (World.there_setCells tR4 (w.heap.size+1) 0 y.bare.cells);have hy4:Hid (y.In w4 (w.heap.size+1+1) w4.heap.size):=((hyin.grew (g3.trans g4) zQ1).mono zQ1 (g3.trans g4).size)
   clear r3 r3l tR rR rO2 BR
   go_upto_region 7 with (refine wpList_store_mid rfl 46 (.tmp 28) (.tmp 27) rfl (w.heap.size+1) 0 y.bare.cells.toArray rfl rfl tR4 zbq y.bare.cells_all ?_;generalize hW:w4.setCells _ _ _=w5;have rR5:w5.rangeAt (w.heap.size+1) 0 y.bare.cells:=hW ▸ HP.out;have k5:Keeps (·=w.heap.size+1) w4 w5:=hW ▸ HK.out;have tR5:w5.there (w.heap.size+1) 0 11:=hW ▸ HT.out;clear hW HP HK HT)
   have z5:=k5.size;have r5:=zcl r4 k5 (by omega) (by omega);have rO5:=zcl rO4 k5 (by omega) (by omega);have gB:Hid (Grew w w5):=(gA.out.trans g4).keep k5 (fun j hj=>by rw[hj];omega);have hy5:Hid (y.In w5 0 w5.heap.size):=(hy4.out.agree (k5.agree zQ1 (fun j h1 h2=>by show ¬ j=_;omega))).mono (Nat.zero_le _) k5.size;have hk5:w5.cell? ⟨wr.heap.size,1,none⟩=some (.int .i64 1):=by have:=zci r5 (j:=1) (v:=.int .i64 y.kind) rfl;rw[hyk] at this;exact this
   have zz:wr.heap.size < w5.heap.size:=by omega
   have KB:=fun w' (g:Grew w5 w')=>(g.cell (p:=⟨wr.heap.size,1,none⟩) zz).trans hk5;have g10:Grew w5 w5.drew:=(Grew.refl _).drew;have hlk:(Instr.lookup 89 (.map (some w5.heap.size)) (.int .i64 1) true).run Tryz.prog (w5.alloc zbz).drew=_:=zcG (w:=(w5.alloc zbz).drew) (b:=w5.heap.size) (heap_alloc_new w5 zbz) 1;have hlk2:(Instr.lookup 89 (.map (some w5.heap.size)) (.int .i64 1) true).run Tryz.prog ((w5.alloc zbz).alloc (.cells #[.int .i64 0,.nilFunc,.nilFunc] 87)).drew=_:=zcG (w:=((w5.alloc zbz).alloc (.cells #[.int .i64 0,.nilFunc,.nilFunc] 87)).drew) (b:=w5.heap.size) ((heap_alloc_old (w5.alloc zbz) _ (by simp)).trans (heap_alloc_new w5 zbz)) 1;have hlk3:(Instr.lookup 89 (.map (some (w5.heap.size+1))) (.int .i64 1) true).run Tryz.prog ((w5.alloc (.cells #[.int .i64 0,.nilFunc,.nilFunc] 87)).alloc zbz).drew=_:=zcG (w:=((w5.alloc (.cells #[.int .i64 0,.nilFunc,.nilFunc] 87)).alloc zbz).drew) (b:=w5.heap.size+1) (by have:=heap_alloc_new (w5.alloc (.cells #[.int .i64 0,.nilFunc,.nilFunc] 87)) zbz;rw[World.size_alloc] at this;exact this) 1;rw[if_pos rfl] at hlk hlk2 hlk3;have RR5:=zQ0 rR5;have TR5:=zQ0 tR5;have R5:=zQ0 r5;have RO5:=zQ0 rO5;clear r4 rO4 tR4 hk5 rR5 tR5 r5 rO5 g3 g4 k5 hyin gA
   dsimp only [Act.put]
   go_cut [8,9] (fun s5 s6 wx=>KindAll w5 (.int .i64 0) (.func (.func 95) #[] #[]) (.func (.func 96) #[] #[]) true s5 s6 wx)
   case first =>
    go_region_held3 (fun w'=>Grew w5 w') ((first | with_reducible exact g10 | with_reducible assumption | exact (Grew.alloc1 _ _).drew | exact ((Grew.alloc1 _ _).alloc _).drew)) ((go_at_call 47;refine (zbA _).mono ?_;rintro e w2 ⟨rfl,rfl⟩))
    all_goals (go_wp2_with fail;go_meet)
    all_goals first | exact kindAll1 w5 _ _ _ _ | exact kindAll2 w5 _ _ _ _
   case rest =>
    obtain⟨KB2,rfl,rfl,g5c,b2,zb⟩:=hcut;clear hlk hlk2 hlk3 KB g10;have z5c:=g5c.size;have GC:=zQ0 (gB.out.trans g5c);have rc:=zcj R5.out g5c zz;have rOc:=zcj RO5.out g5c (by omega);have PM1:=zQ0 (PM.out y wc hye.out (hy5.out.later g5c) GC.out);unfold RefL.val at PM1
    go_wp2_with (first | (refine wpList_load_mid rfl 46 (.tmp 7) rfl wr.heap.size 0 rfl y.cells _ rc Tryz.underlying46 rfl zbq ?_) | (refine wpList_load_mid rfl 35 (.tmp 3) rfl w.heap.size 0 rfl o.cells _ rOc Tryz.underlying35 rfl infoOpS ?_))
    refine PM1.out.mono ?_;rintro e w6 ⟨x,rfl,g6,hx,hxe⟩;have z6:=g6.size;have HNB:=zQ0 (fun(F:World) (hF:(w6.alloc (.cells #[.int .i64 0,.int .i64 0,.int .i64 0,.bool false,.slice none 0 0,.slice none 0 0,.int .i64 0,.slice none 0 0,.int .i64 0,.slice none 0 0,.int .i64 0] 46)).setCells w6.heap.size 0 x.cells=F)=>newBox hF rfl);have HTH:=zQ0 (zc5 (Grew.refl (w6.alloc (.cells #[.int .i64 0,.int .i64 0,.int .i64 0,.bool false,.slice none 0 0,.slice none 0 0,.int .i64 0,.slice none 0 0,.int .i64 0,.slice none 0 0,.int .i64 0] 46))));have HTS:=zQ0 (World.there_setCells HTH.out w6.heap.size 0 x.cells);unfold RefL.val;clear b2 rc rOc PM1
    go_upto_region 10 with (refine wpList_store_mid rfl 46 (.tmp 10) (.tmp 43) rfl w6.heap.size 0 x.cells.toArray rfl rfl HTH.out zbq x.cells_all ?_;generalize hF:(w6.alloc _).setCells _ _ _=w7;obtain⟨r7,g7,z7⟩:=HNB.out w7 hF;have t7:w7.there w6.heap.size 0 11:=hF ▸ HTS.out;clear hF HNB HTH HTS)
    have z67:=g7.size;have tRc:=zc4 TR5.out (g5c.trans (g6.trans g7)) (by omega)
    cases ok with
    | false =>
     have rR7:=zcj RR5.out (g5c.trans (g6.trans g7)) (by omega)
     have HF:Hid (y.bare.er=res):=by
      show _=_
      rw[HR.out,if_neg (by decide),<- hye.out];rfl
     have GF:=zQ0 (GC.out.trans (g6.trans g7));have RF:Hid (RefsIn w7 (some ⟨w.heap.size+1,0,none⟩) 1 [y.bare]):=zco rR7 (by omega) ⟨zbu,zbu,zbu,zbu⟩;clear HR hx hxe r7 t7 rR7 tRc;go_wp2_with fail
     go_roundw
     case rel=>exact .inr ⟨rfl,_,GF.out,RF.out,HF⟩
     case measure=>simp[intOf]
    | true =>
     have HF:Hid (({ x with live:=true }:RefL).er=res):=by
      show _=_
      rw[HR.out,if_pos rfl,<- hxe.out];rfl
     have c3:=zci r7 (j:=3) (v:=.bool x.live) rfl;have f3:w7.frozen? ⟨w6.heap.size,3,none⟩=false:=(t7 3 (by omega)).2;have r8:Hid ((w7.setCell ⟨w6.heap.size,3,none⟩ (.bool true)).rangeAt w6.heap.size 0 ({ x with live:=true }:RefL).cells):=zcn r7 (j:=3) (by rw[RefL.cells_len];omega) _;have k8:Hid (Keeps (·=w6.heap.size) w7 (w7.setCell ⟨w6.heap.size,3,none⟩ (.bool true))):=(Keeps.refl _ _).own _ _;have HX:Hid (({ x with live:=true }  :RefL).In w7 wc.heap.size w6.heap.size):=hx.grew g7 zQ1;clear HR hx hxe;go_upto_region 12 with fail
     generalize w7.setCell ⟨w6.heap.size,3,none⟩ (.bool true)=w8 at *;generalize ({ x with live:=true }:RefL)=u at *;have z8:=k8.out.size;have r8:=r8.out
     have t8:w8.there (w.heap.size+1) 0 11:=fun j hj=>by
      rw[k8.out.cell (p:=⟨w.heap.size+1,0+j,none⟩) (by show w.heap.size+1 < _;omega) (by show ¬ w.heap.size+1=_;omega),k8.out.frozen (p:=⟨w.heap.size+1,0+j,none⟩) (by show w.heap.size+1 < _;omega) (by show ¬ w.heap.size+1=_;omega)];exact tRc j hj
     have HP:=zQ0 (zcm (cs:=u.cells) t8);have HK:=zQ0 (zcM (w.heap.size+1) u.cells 0 w8);clear r7 t7 c3 f3 tRc
     go_wp2_with (first | (refine wpList_load_mid rfl 46 (.tmp 10) rfl w6.heap.size 0 rfl u.cells _ r8 Tryz.underlying46 rfl zbq ?_) | (refine wpList_store_mid rfl 46 (.tmp 50) (.tmp 49) rfl (w.heap.size+1) 0 u.cells.toArray rfl rfl t8 zbq u.cells_all ?_;generalize hW:w8.setCells _ _ _=w9;have r9:w9.rangeAt (w.heap.size+1) 0 u.cells:=hW ▸ HP.out;have k9:Keeps (·=w.heap.size+1) w8 w9:=hW ▸ HK.out;clear hW HP HK))
     have z9:=k9.size;have GF:Hid (Grew w w9):=((GC.out.trans (g6.trans g7)).keep k8.out (fun j hj=>by rw[hj];omega)).keep k9 (fun j hj=>by rw[hj];omega);have hu9:u.In w9 0 w9.heap.size:=((HX.out.agree (k8.out.agree (by omega) (fun j h1 h2=>by show ¬ j=_;omega))).agree (k9.agree (by omega) (fun j h1 h2=>by show ¬ j=_;omega))).mono (Nat.zero_le _) (by omega)
     go_roundw
     case rel=>exact .inr ⟨rfl,u,GF.out,zco r9 (by omega) hu9,HF⟩
     case measure=>simp[intOf]
  ·go_wp2_with fail
   go_ret
   exact⟨_,x,rfl,hg,hx,hxe⟩
/- redlinelaw14.live: the contract. -/
theorem ints_box{w:World}{b:Nat}{x:Int}(h:w.rangeAt b 0 [.int .i64 x])(hb:b < w.heap.size):IntsIn w 0 w.heap.size (some ⟨b,0,none⟩) 1 [x] :=
 ⟨⟨by simp,by simp,by unfold maxLen;omega⟩,fun _=>⟨b,0,rfl,Nat.zero_le _,hb,fun i hi j hj=>by
  obtain rfl:j=0:=by omega
  have hi':i=0:=by simpa using hi
  subst hi'
  exact h 0 _ rfl⟩⟩
theorem live14_any(w:World):Calls Tryz.prog 14 #[] w fun e w'=>e=.returned (.bool true)/\Grew w w':=by
 go_enter Tryz.func14,Tryz.ntmps14
 go_wp2_with fail
 generalize hW:((w.alloc _).alloc _).alloc _=w3;obtain⟨g3,rA,rB,rC,tC,z3⟩:=zas w [.int .i64 0] (RefL.cells ⟨4,1,0,true,⟨some ⟨w.heap.size,0,none⟩,1,[0]⟩,PtL.nil,PtL.nil,PtL.nil⟩) [.int .i64 0] _ _ _ w3 hW;clear hW;have i0:=ints_box rA (by omega);have i2:=ints_box rC (by omega);have hL:=zco rB (by omega) ⟨i0,zbu,zbu,zbu⟩
 have ST:=zQ0 (stepPath_any _ 1 ⟨4,1,0,true,⟨some ⟨w.heap.size,0,none⟩,1,[0]⟩,PtL.nil,PtL.nil,PtL.nil⟩ (OpL.of 1 ⟨some ⟨w.heap.size+2,0,none⟩,1,[0]⟩ PN.nil 0 NT.zero none 0 []) ⟨4,1,0,false,[1],PtE.nil,PtE.nil,PtE.nil⟩ true w3 hL (by refine⟨?_,?_,?_,?_⟩ <;> simp[RefL.er,PtL.er,PtL.nil,PN.nil]) rfl rfl (fun y w1 he hy hg=>by
  have hyl:y.path.l=[0]:=congrArg RefE.path he;have hyi:y.id=4:=congrArg RefE.id he;have hyk:y.kind=1:=congrArg RefE.kind he;have hya:y.aff=0:=congrArg RefE.aff he
  have:=pathMove_any y (OpL.of 1 ⟨some ⟨w.heap.size+2,0,none⟩,1,[0]⟩ PN.nil 0 NT.zero none 0 []) [1] true w1 (fun w2 hg2=>by
   have hM:=move_any y.path.a y.path.c y.path.l (OpL.of 1 ⟨some ⟨w.heap.size+2,0,none⟩,1,[0]⟩ PN.nil 0 NT.zero none 0 []) w2 (hy.later hg2).1 ((i2.grew (hg.trans hg2) zQ1).mono zQ1 (hg.trans hg2).size) zbu (by rw[hyl];simp) (by simp[OpL.of]) (by simp[OpL.of,PN.nil]);have e:zbO y.path.l [0] [] 1 0=([1],true):=by rw[hyl];kernel_rfl
   have hM:Calls Tryz.prog 130 _ w2 (RetMv (zbO y.path.l [0] [] 1 0) w2):=hM;rw[e] at hM
   exact hM)
  have e2:({ y.er.bare with path:=[1] }:RefE)=⟨4,1,0,false,[1],PtE.nil,PtE.nil,PtE.nil⟩:=by
   rw[he];rfl
  rw[e2] at this
  exact this))
 clear hL i0 i2 rA rB rC tC;refine ST.out.mono ?_;rintro e w4 ⟨b,x,rfl,g4,hx,hxe⟩;have G4:=zQ0 (g3.trans g4);have xl:x.live=true:=congrArg RefE.live hxe.out;have xi:x.id=4:=congrArg RefE.id hxe.out;have xp:x.path.l=[1]:=congrArg RefE.path hxe.out;obtain⟨b',o',hbo,_,hbb,hr⟩:=hx.1.at (i:=0) (by simp);obtain⟨rfl,rfl⟩:b=b'/\0=o':=by injection hbo with e;injection e with e1 e2;exact⟨e1,e2⟩
 have hr0:w4.rangeAt b 0 x.cells:=by simpa using hr
 have c3:=zci hr0 (j:=3) (v:=.bool x.live) rfl;have c0:=zci hr0 (j:=0) (v:=.int .i64 x.id) rfl;have c4:=zci hr0 (j:=4) (v:=.slice x.path.a x.path.l.length x.path.c) rfl;have hxp:=(hx.2 x (by simp)).1;rw[xl] at c3;rw[xi] at c0;rw[xp] at c4 hxp;rw[show ([1]:List Int).length=1 from rfl] at c4;have SM:=zQ0 (fun w1 (hg:Grew w4 w1)=>trailSame_any x.path.a (some ⟨w1.heap.size,0,none⟩) x.path.c 1 [1] [1] (w1.alloc (.cells #[.int .i64 1] 3)) _ _ _ _ ((hxp.grew (hg.trans (Grew.alloc1 _ _)) zQ1).mono zQ1 (hg.trans (Grew.alloc1 _ _)).size) ints_one (by simp) (by simp) zQ1 zQ1);have SM4:=SM.out w4 (Grew.refl _);rw[decide_eq_true (rfl:([1]:List Int)=[1]),show ([1]:List Int).length=1 from rfl] at SM4;have SM5:=zQ0 SM4;clear hx hxe hr hr0 hbo hxp xl xi xp SM SM4 ST g3 g4;go_wp2_with fail
 refine SM5.out.mono ?_;rintro e w5 ⟨rfl,g5⟩;go_wp2_with fail
 go_ret
 exact⟨zcy rfl,G4.out.trans ((Grew.alloc1 _ _).trans g5)⟩
end Go.Proofs.YtccobobnmpafbaaGreatDoor
