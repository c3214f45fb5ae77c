/- hold.pathMove: the contract, where xpath.Move's is told. -/
import Derived.Test.YtbhbekocmpmjfaaGreatDoorK07
import Derived.Test.YtbhbekocmpmjfaaGreatDoorK08
import Derived.Test.YtbhbekocmpmjfaaGreatDoorK34
import Derived.Laws.EntriesVeiled
import Derived.Deep.DeepCutAuto
import Derived.Test.YtbhbekocmpmjfaaGreatDoorK05
set_option maxRecDepth 100000
set_option maxHeartbeats 100000000
namespace Go.Proofs.YtbhbekocmpmjfaaGreatDoor
open Go Go.RowKit
theorem infoOpS:(Tryz.prog.info? 35).map (·.size)=some 21:=by kernel_rfl
def RetMoved(r:RefE)(ok:Bool)(w:World)(e:Ending)(w':World):Prop:=∃ x:RefL,e=.returned (.tuple #[x.val,.bool ok])∧Grew w w'∧x.In w' w.heap.size w'.heap.size∧Hid (x.er=r)
def RefE.bare(r:RefE):RefE:={ RefE.nil with id:=r.id,kind:=r.kind,aff:=r.aff }
theorem pathMove_any(r:RefL)(o:OpL)(mv:List Int)(ok:Bool)(w:World)(hM:∀ w1,Grew w w1→Calls Tryz.prog 26 #[.slice r.path.a r.path.l.length r.path.c,o.val] w1 (RetMove mv ok w1)) :
  Calls Tryz.prog 164 #[r.val,o.val] w (RetMoved { r.er.bare with path:=mv } ok w):=by
 have HM:=zQ0 hM;clear hM;unfold RefL.val OpL.val at *
 go_enter Tryz.func164,Tryz.ntmps164
 go_upto_region 1 with fail
 generalize hW:((w.alloc _).alloc _).alloc _=w3;obtain⟨g3,rA,rB,rC,tC,z3⟩:=zav w r.cells o.cells RefL.nil.cells _ _ _ w3 hW;clear hW;have BR:=zQ0 (holdBare_any r w3);unfold RefL.val at BR
 go_wp2_with (refine wpList_load_mid rfl 81 (.tmp 2) rfl w.heap.size 0 rfl r.cells _ rA Tryz.underlying81 rfl zbt ?_)
 refine BR.out.mono ?_;rintro e w4 ⟨rfl,g4⟩;have z4:=g4.size;have rA4:=zco rA g4 (by omega);have rB4:=zco rB g4 (by omega);have tC4:=zc7 tC g4 (by omega);have HP:=zQ0 (zcr (cs:=r.bare.cells) tC4);have HK:=zQ0 (zcP (w.heap.size+2) r.bare.cells 0 w4);have HT:=zQ0 (World.there_setCells tC4 (w.heap.size+2) 0 r.bare.cells);clear rA rB rC tC BR
 go_upto_region 2 with (refine wpList_store_mid rfl 81 (.tmp 4) (.tmp 7) rfl (w.heap.size+2) 0 r.bare.cells.toArray rfl rfl tC4 zbt r.bare.cells_all ?_;generalize hW:w4.setCells _ _ _=w5;have rC5:w5.rangeAt (w.heap.size+2) 0 r.bare.cells:=hW ▸ HP.out;have k5:Keeps (·=w.heap.size+2) w4 w5:=hW ▸ HK.out;have tC5:w5.there (w.heap.size+2) 0 11:=hW ▸ HT.out;clear hW HP HK HT)
 have z5:=k5.size;have rA5:=zcq rA4 k5 (by omega) (by omega);have rB5:=zcq rB4 k5 (by omega) (by omega);have G5:Hid (Grew w w5):=(g3.trans g4).keep k5 (fun j hj=>by rw[hj];omega);have a4:w5.cell? ⟨w.heap.size,4,none⟩=some (.slice r.path.a r.path.l.length r.path.c):=zcn rA5 (j:=4) rfl;have MV:=zQ0 (HM.out w5 G5.out);clear rA4 rB4 tC4 HM
 go_wp2_with (refine wpList_load_mid rfl 35 (.tmp 3) rfl (w.heap.size+1) 0 rfl o.cells _ rB5 Tryz.underlying35 rfl infoOpS ?_)
 refine MV.out.mono ?_;rintro e w6 ⟨q,rfl,g6,hq,he⟩;have z6:=g6.size;have rC6:=zco rC5 g6 (by omega);have tC6:=zc7 tC5 g6 (by omega);have f4:w6.frozen? ⟨w.heap.size+2,4,none⟩=false:=(tC6 4 (by omega)).2;have c4:w6.cell? ⟨w.heap.size+2,4,none⟩=some (.slice none 0 0):=zcn rC6 (j:=4) rfl;have rC7:Hid ((w6.setCell ⟨w.heap.size+2,4,none⟩ (.slice q.a q.l.length q.c)).rangeAt (w.heap.size+2) 0 ({ r.bare with path:=q }:RefL).cells):=zcs rC6 (j:=4) (by rw[RefL.cells_len];omega) _
 have tC7:Hid ((w6.setCell ⟨w.heap.size+2,4,none⟩ (.slice q.a q.l.length q.c)).there (w.heap.size+2) 0 11):=fun j hj=>by
  have h1:=zcs rC6 (j:=4) (by rw[RefL.cells_len];omega) (.slice q.a q.l.length q.c);have h2:=tC6 j hj;refine⟨?_,by rw[World.frozen?_setCell];exact h2.2⟩;rw[h1 j _ (List.getElem?_eq_getElem (by rw[List.length_set,RefL.cells_len];exact hj))]
  rfl
 have k7:Hid (Keeps (·=w.heap.size+2) w6 (w6.setCell ⟨w.heap.size+2,4,none⟩ (.slice q.a q.l.length q.c))):=(Keeps.refl _ _).own _ _;have HX:Hid (({ r.bare with path:=q }:RefL).In w6 w5.heap.size w6.heap.size):=⟨hq,zby,zby,zby⟩
 have HE:Hid (({ r.bare with path:=q }:RefL).er={ r.er.bare with path:=mv }):=by
  show _=_
  rw[← he.out];rfl
 have HV:Hid (({ r.bare with path:=q }:RefL).val=.agg #[.int .i64 r.id,.int .i64 r.kind,.int .i64 r.aff,.bool false,.slice q.a q.l.length q.c,.slice none 0 0,.int .i64 0,.slice none 0 0,.int .i64 0,.slice none 0 0,.int .i64 0]):=rfl;clear hq he rA5 rB5 a4 MV rC5 tC5;go_upto_region 3 with fail
 generalize w6.setCell ⟨w.heap.size+2,4,none⟩ (.slice q.a q.l.length q.c)=w7 at *;generalize ({ r.bare with path:=q }:RefL)=y at *;clear f4 c4 rC6 tC6;have rC:=rC7.out;have tC:=tC7.out;have z7:=k7.out.size;have HP:=zQ0 (zcr (cs:=y.cells) tC);have HK:=zQ0 (zcP (w.heap.size+2) y.cells 0 w7);clear rC7 tC7
 go_wp2_with (first | (refine wpList_load_mid rfl 81 (.tmp 4) rfl (w.heap.size+2) 0 rfl y.cells _ rC Tryz.underlying81 rfl zbt ?_) | (refine wpList_store_mid rfl 81 (.tmp 4) (.tmp 16) rfl (w.heap.size+2) 0 y.cells.toArray rfl rfl tC zbt y.cells_all ?_;generalize hW:w7.setCells _ _ _=w8;have rC8:w8.rangeAt (w.heap.size+2) 0 y.cells:=hW ▸ HP.out;have k8:Keeps (·=w.heap.size+2) w7 w8:=hW ▸ HK.out;clear hW HP HK))
 have k68:=k7.out.trans k8;have hyW:y.In w8 w.heap.size w8.heap.size:=(HX.out.agree (k68.agree zQ1 (fun j h1 h2=>by show ¬ j=_;omega))).mono (by omega) k68.size;exact bodyPost_ret (v:=.tuple #[y.val,.bool ok]) (zcv Tryz.results164 _ w8 (w.heap.size+2) 0 y.cells _ _ rfl rfl rC8 Tryz.underlying81 rfl zbt) rfl ⟨y,rfl,(G5.out.trans g6).keep k68 (fun j hj=>by rw[hj];omega),hyW,HE⟩
/- hold.Step, of one ref of a path that is live: the contract, where pathMove's is told. -/
def KindAll(w1:World)(_m _F1 F2:Value)(b:Bool)(s5 s6:Value)(wx:World):Prop:=∃ B:Nat,s5=.pointer (some ⟨B,0,none⟩)∧s6=.bool b∧Grew w1 wx∧wx.cell? ⟨B,2,none⟩=some F2∧B < wx.heap.size
theorem kindAll1(w1:World)(m F1 F2:Value)(b:Bool):KindAll w1 m F1 F2 b (.pointer (some ⟨w1.heap.size+1,0,none⟩)) (.bool b) ((w1.alloc zbD).alloc (.cells #[m,F1,F2] 135)).drew:=by
 have b2:=zas (Grew.refl ((w1.alloc zbD).alloc (.cells #[m,F1,F2] 135))) (j:=2) (v:=F2) rfl;rw[World.size_alloc] at b2;exact⟨_,rfl,rfl,((Grew.alloc1 _ _).alloc _).drew,b2,by simp⟩
theorem kindAll2(w1:World)(m F1 F2:Value)(b:Bool):KindAll w1 m F1 F2 b (.pointer (some ⟨w1.heap.size,0,none⟩)) (.bool b) ((w1.alloc (.cells #[m,F1,F2] 135)).alloc zbD).drew:=by
 have g:=Grew.alloc1 (w1.alloc (.cells #[m,F1,F2] 135)) zbD;exact⟨_,rfl,rfl,((Grew.alloc1 _ _).alloc _).drew,zas g (j:=2) rfl,by simp;omega⟩
theorem one_of{α:Type}{L:List α}(h:L.length=1):∃ o,L=[o]:=by
 match L,h with
 | [o],_=>exact⟨o,rfl⟩
theorem own_one{w:World}{base g cap:Nat}{e:TypeId}{y:RefL}(h:w.ownsRow base e 11 (.slice (some ⟨g,0,none⟩) 1 cap) 1 ([y].flatMap RefL.cells)):w.rangeAt g 0 y.cells∧w.there g 0 11∧g < w.heap.size:=by
 have e1:[y].flatMap RefL.cells=y.cells:=by simp
 rw[e1] at h;refine⟨fun j v hj=>?_,by have:=own_there h;simpa using this,(h.lt g rfl).2⟩;obtain⟨h1,rfl⟩:=List.getElem?_eq_some_iff.1 hj;rw[RefL.cells_len] at h1;rw[Nat.zero_add,h.cellAt j (by omega)];exact List.getElem?_eq_getElem _
theorem refs_one{w:World}{b:Nat}{x:RefL}(hr:w.rangeAt b 0 x.cells)(hb:b < w.heap.size)(hx:x.In w 0 w.heap.size):RefsIn w (some ⟨b,0,none⟩) 1 [x]:=by
 refine⟨⟨⟨by simp,by simp,by unfold maxLen;omega⟩,fun _=>⟨b,0,rfl,Nat.zero_le _,hb,fun i hi j hj=>?_⟩⟩,fun r hr'=>by obtain rfl:=List.mem_singleton.1 hr';exact hx⟩;have hi':i=0:=by simpa using hi
 subst hi';have:=hr j _ (List.getElem?_eq_getElem (by rw[RefL.cells_len];exact hj));simp only[Nat.zero_add,Nat.zero_mul] at this ⊢;rw[this]
 simp[List.getD,List.getElem?_eq_getElem (show j < x.cells.length by rw[RefL.cells_len];exact hj)]
def RetOne(r:RefE)(w:World)(e:Ending)(w':World):Prop:=∃(b:Nat) (x:RefL),e=.returned (.slice (some ⟨b,0,none⟩) 1 1)∧Grew w w'∧RefsIn w' (some ⟨b,0,none⟩) 1 [x]∧Hid (x.er=r)
def movedR(r mv:RefE)(ok:Bool):RefE:=if ok then { mv with live:=true } else r.bare
def StepAt(w w2:World)(B:Nat)(res:RefE)(i:Value)(wr:World):Prop:=(i=.int .i64 0∧wr=w2)∨(i=.int .i64 1∧∃ x:RefL,Grew w wr∧RefsIn wr (some ⟨B,0,none⟩) 1 [x]∧Hid (x.er=res))
theorem stepPath_any(a:Option Addr)(c:Nat)(r:RefL)(o:OpL)(mv:RefE)(ok:Bool)(w:World)(hL:RefsIn w a c [r])(hs:r.er.Small)(hlive:r.live=true)(hk:r.kind=1)(PM:∀(y:RefL) (w1:World),y.er=r.er→y.In w1 0 w1.heap.size→Grew w w1→Calls Tryz.prog 164 #[y.val,o.val] w1 (RetMoved mv ok w1)) :
  Calls Tryz.prog 49 #[.slice a 1 c,o.val] w (RetOne (movedR r.er mv ok) w):=by
 have AL:=zQ0 (fun w1 (hg:Grew w w1)=>holdAll_any a c [r] w1 (hL.grew hg) (fun x hx=>by obtain rfl:=List.mem_singleton.1 hx;exact hs) (by simp));have PM:=zQ0 PM;have HR:Hid (movedR r.er mv ok=if ok then { mv with live:=true } else r.er.bare):=rfl;generalize movedR r.er mv ok=res at *;clear hL hs;unfold OpL.val at *
 go_enter Tryz.func49,Tryz.ntmps49
 go_upto_region 1 with fail
 generalize hW:w.alloc _=w1;obtain⟨g1,rO,_,z1⟩:=zat w o.cells _ w1 hW;clear hW;have AL1:=AL.out w1 g1;rw[show ([r]:List RefL).length=1 from rfl] at AL1;clear AL;go_wp2_with fail
 refine AL1.mono ?_;rintro e w2 ⟨M,rfl,g2,hown,he⟩;have hlen:M.length=1:=by have:=congrArg List.length he.out;simpa using this
 obtain⟨y,rfl⟩:=one_of hlen
 have hye:Hid (y.er=r.er):=by
  have:=he.out;simp only[List.map_cons,List.map_nil,List.cons.injEq,and_true] at this;exact this
 have hyl:y.live=true:=by have:=congrArg RefE.live hye.out;exact this.trans hlive
 have hyk:y.kind=1:=by have:=congrArg RefE.kind hye.out;exact this.trans hk
 obtain⟨hro,hyin0⟩:=hown;have hyin:y.In w2 (w1.heap.size+1) w2.heap.size:=hyin0 y (by simp);obtain⟨rR,tR,zR⟩:=own_one hro;have z2:=g2.size;have rO2:=zco rO g2 (by omega);clear hro hyin0 he hlen rO hlive hk;simp only[List.length_cons,List.length_nil,Nat.zero_add];have G12:=zQ0 (g1.trans g2);rw[z1] at rR tR zR hyin z2 ⊢;clear g1 g2 z1;go_wp2_with fail
 go_loopw [16] (fun i wr=>StepAt w w2 (w.heap.size+1) res i wr) (fun i _=>1 - (intOf i).toNat)
 case atStart=>exact .inl ⟨rfl,rfl⟩
 case round =>
  rcases hrel with ⟨rfl,rfl⟩ | ⟨rfl,x,hg,hx,hxe⟩
  ·have HNB:=zQ0 (fun(F:World) (hF:(wr.alloc (.cells #[.int .i64 0,.int .i64 0,.int .i64 0,.bool false,.slice none 0 0,.slice none 0 0,.int .i64 0,.slice none 0 0,.int .i64 0,.slice none 0 0,.int .i64 0] 81)).setCells wr.heap.size 0 y.cells=F)=>newBox hF rfl);have HTH:=zQ0 (zc8 (Grew.refl (wr.alloc (.cells #[.int .i64 0,.int .i64 0,.int .i64 0,.bool false,.slice none 0 0,.slice none 0 0,.int .i64 0,.slice none 0 0,.int .i64 0,.slice none 0 0,.int .i64 0] 81))))
   go_upto_region 5 with (first | (refine wpList_load_mid rfl 81 (.tmp 19) rfl (w.heap.size+1) 0 rfl y.cells _ rR Tryz.underlying81 rfl zbt ?_) | (refine wpList_store_mid rfl 81 (.tmp 7) (.tmp 20) rfl wr.heap.size 0 y.cells.toArray rfl rfl HTH.out zbt y.cells_all ?_;generalize hF:(wr.alloc _).setCells _ _ _=w3;obtain⟨r3,g3,z3⟩:=HNB.out w3 hF;clear hF HNB HTH))
   have BR:=zQ0 (holdBare_any y w3);unfold RefL.val at BR;have gA:=zQ0 (G12.out.trans g3);have r3l:=zcn r3 (j:=3) (v:=.bool y.live) rfl;rw[hyl] at r3l
   go_wp2_with (refine wpList_load_mid rfl 81 (.tmp 7) rfl wr.heap.size 0 rfl y.cells _ r3 Tryz.underlying81 rfl zbt ?_)
   refine BR.out.mono ?_;rintro e w4 ⟨rfl,g4⟩;have z3':=g3.size;have z4:=g4.size;have r4:=zco r3 g4 z3;have rO4:=zco rO2 (g3.trans g4) (by omega);have tR4:=zc7 tR (g3.trans g4) zR;have HP:=zQ0 (zcr (cs:=y.bare.cells) tR4);have HK:=zQ0 (zcP (w.heap.size+1) y.bare.cells 0 w4);have HT:=zQ0 (World.there_setCells tR4 (w.heap.size+1) 0 y.bare.cells);have hy4:Hid (y.In w4 (w.heap.size+1+1) w4.heap.size):=((hyin.grew (g3.trans g4) zQ1).mono zQ1 (g3.trans g4).size)
   clear r3 r3l tR rR rO2 BR
   go_upto_region 7 with (refine wpList_store_mid rfl 81 (.tmp 28) (.tmp 27) rfl (w.heap.size+1) 0 y.bare.cells.toArray rfl rfl tR4 zbt y.bare.cells_all ?_;generalize hW:w4.setCells _ _ _=w5;have rR5:w5.rangeAt (w.heap.size+1) 0 y.bare.cells:=hW ▸ HP.out;have k5:Keeps (·=w.heap.size+1) w4 w5:=hW ▸ HK.out;have tR5:w5.there (w.heap.size+1) 0 11:=hW ▸ HT.out;clear hW HP HK HT)
   have z5:=k5.size;have r5:=zcq r4 k5 (by omega) (by omega);have rO5:=zcq rO4 k5 (by omega) (by omega);have gB:Hid (Grew w w5):=(gA.out.trans g4).keep k5 (fun j hj=>by rw[hj];omega);have hy5:Hid (y.In w5 0 w5.heap.size):=(hy4.out.agree (k5.agree zQ1 (fun j h1 h2=>by show ¬ j=_;omega))).mono (Nat.zero_le _) k5.size;have hk5:w5.cell? ⟨wr.heap.size,1,none⟩=some (.int .i64 1):=by have:=zcn r5 (j:=1) (v:=.int .i64 y.kind) rfl;rw[hyk] at this;exact this
   have zz:wr.heap.size < w5.heap.size:=by omega
   have KB:=fun w' (g:Grew w5 w')=>(g.cell (p:=⟨wr.heap.size,1,none⟩) zz).trans hk5;have g10:Grew w5 w5.drew:=(Grew.refl _).drew;have hlk:(Instr.lookup 137 (.map (some w5.heap.size)) (.int .i64 1) true).run Tryz.prog (w5.alloc zbD).drew=_:=run_kind (w:=(w5.alloc zbD).drew) (b:=w5.heap.size) (heap_alloc_new w5 zbD) 1;have hlk2:(Instr.lookup 137 (.map (some w5.heap.size)) (.int .i64 1) true).run Tryz.prog ((w5.alloc zbD).alloc (.cells #[.int .i64 0,.nilFunc,.nilFunc] 135)).drew=_:=run_kind (w:=((w5.alloc zbD).alloc (.cells #[.int .i64 0,.nilFunc,.nilFunc] 135)).drew) (b:=w5.heap.size) ((heap_alloc_old (w5.alloc zbD) _ (by simp)).trans (heap_alloc_new w5 zbD)) 1;have hlk3:(Instr.lookup 137 (.map (some (w5.heap.size+1))) (.int .i64 1) true).run Tryz.prog ((w5.alloc (.cells #[.int .i64 0,.nilFunc,.nilFunc] 135)).alloc zbD).drew=_:=run_kind (w:=((w5.alloc (.cells #[.int .i64 0,.nilFunc,.nilFunc] 135)).alloc zbD).drew) (b:=w5.heap.size+1) (by have:=heap_alloc_new (w5.alloc (.cells #[.int .i64 0,.nilFunc,.nilFunc] 135)) zbD;rw[World.size_alloc] at this;exact this) 1;rw[if_pos rfl] at hlk hlk2 hlk3;have RR5:=zQ0 rR5;have TR5:=zQ0 tR5;have R5:=zQ0 r5;have RO5:=zQ0 rO5;clear r4 rO4 tR4 hk5 rR5 tR5 r5 rO5 g3 g4 k5 hyin gA
   dsimp only [Act.put]
   go_cut [8,9] (fun s5 s6 wx=>KindAll w5 (.int .i64 0) (.func (.func 163) #[] #[]) (.func (.func 164) #[] #[]) true s5 s6 wx)
   case first =>
    go_region_held3 (fun w'=>Grew w5 w') ((first | with_reducible exact g10 | with_reducible assumption | exact (Grew.alloc1 _ _).drew | exact ((Grew.alloc1 _ _).alloc _).drew)) ((go_at_call 109;refine (kinds_any _).mono ?_;rintro e w2 ⟨rfl,rfl⟩))
    all_goals (go_wp2_with fail;go_meet)
    all_goals first | exact kindAll1 w5 _ _ _ _ | exact kindAll2 w5 _ _ _ _
   case rest =>
    obtain⟨KB2,rfl,rfl,g5c,b2,zb⟩:=hcut;clear hlk hlk2 hlk3 KB g10;have z5c:=g5c.size;have GC:=zQ0 (gB.out.trans g5c);have rc:=zco R5.out g5c zz;have rOc:=zco RO5.out g5c (by omega);have PM1:=zQ0 (PM.out y wc hye.out (hy5.out.later g5c) GC.out);unfold RefL.val at PM1
    go_wp2_with (first | (refine wpList_load_mid rfl 81 (.tmp 7) rfl wr.heap.size 0 rfl y.cells _ rc Tryz.underlying81 rfl zbt ?_) | (refine wpList_load_mid rfl 35 (.tmp 3) rfl w.heap.size 0 rfl o.cells _ rOc Tryz.underlying35 rfl infoOpS ?_))
    refine PM1.out.mono ?_;rintro e w6 ⟨x,rfl,g6,hx,hxe⟩;have z6:=g6.size;have HNB:=zQ0 (fun(F:World) (hF:(w6.alloc (.cells #[.int .i64 0,.int .i64 0,.int .i64 0,.bool false,.slice none 0 0,.slice none 0 0,.int .i64 0,.slice none 0 0,.int .i64 0,.slice none 0 0,.int .i64 0] 81)).setCells w6.heap.size 0 x.cells=F)=>newBox hF rfl);have HTH:=zQ0 (zc8 (Grew.refl (w6.alloc (.cells #[.int .i64 0,.int .i64 0,.int .i64 0,.bool false,.slice none 0 0,.slice none 0 0,.int .i64 0,.slice none 0 0,.int .i64 0,.slice none 0 0,.int .i64 0] 81))));have HTS:=zQ0 (World.there_setCells HTH.out w6.heap.size 0 x.cells);unfold RefL.val;clear b2 rc rOc PM1
    go_upto_region 10 with (refine wpList_store_mid rfl 81 (.tmp 10) (.tmp 43) rfl w6.heap.size 0 x.cells.toArray rfl rfl HTH.out zbt x.cells_all ?_;generalize hF:(w6.alloc _).setCells _ _ _=w7;obtain⟨r7,g7,z7⟩:=HNB.out w7 hF;have t7:w7.there w6.heap.size 0 11:=hF ▸ HTS.out;clear hF HNB HTH HTS)
    have z67:=g7.size;have tRc:=zc7 TR5.out (g5c.trans (g6.trans g7)) (by omega)
    cases ok with
    | false =>
     have rR7:=zco RR5.out (g5c.trans (g6.trans g7)) (by omega)
     have HF:Hid (y.bare.er=res):=by
      show _=_
      rw[HR.out,if_neg (by decide),← hye.out];rfl
     have GF:=zQ0 (GC.out.trans (g6.trans g7));have RF:Hid (RefsIn w7 (some ⟨w.heap.size+1,0,none⟩) 1 [y.bare]):=refs_one rR7 (by omega) ⟨zby,zby,zby,zby⟩;clear HR hx hxe r7 t7 rR7 tRc;go_wp2_with fail
     go_roundw
     case rel=>exact .inr ⟨rfl,_,GF.out,RF.out,HF⟩
     case measure=>simp[intOf]
    | true =>
     have HF:Hid (({ x with live:=true }:RefL).er=res):=by
      show _=_
      rw[HR.out,if_pos rfl,← hxe.out];rfl
     have c3:=zcn r7 (j:=3) (v:=.bool x.live) rfl;have f3:w7.frozen? ⟨w6.heap.size,3,none⟩=false:=(t7 3 (by omega)).2;have r8:Hid ((w7.setCell ⟨w6.heap.size,3,none⟩ (.bool true)).rangeAt w6.heap.size 0 ({ x with live:=true }:RefL).cells):=zcs r7 (j:=3) (by rw[RefL.cells_len];omega) _;have k8:Hid (Keeps (·=w6.heap.size) w7 (w7.setCell ⟨w6.heap.size,3,none⟩ (.bool true))):=(Keeps.refl _ _).own _ _;have HX:Hid (({ x with live:=true }  :RefL).In w7 wc.heap.size w6.heap.size):=hx.grew g7 zQ1;clear HR hx hxe;go_upto_region 12 with fail
     generalize w7.setCell ⟨w6.heap.size,3,none⟩ (.bool true)=w8 at *;generalize ({ x with live:=true }:RefL)=u at *;have z8:=k8.out.size;have r8:=r8.out
     have t8:w8.there (w.heap.size+1) 0 11:=fun j hj=>by
      rw[k8.out.cell (p:=⟨w.heap.size+1,0+j,none⟩) (by show w.heap.size+1 < _;omega) (by show ¬ w.heap.size+1=_;omega),k8.out.frozen (p:=⟨w.heap.size+1,0+j,none⟩) (by show w.heap.size+1 < _;omega) (by show ¬ w.heap.size+1=_;omega)];exact tRc j hj
     have HP:=zQ0 (zcr (cs:=u.cells) t8);have HK:=zQ0 (zcP (w.heap.size+1) u.cells 0 w8);clear r7 t7 c3 f3 tRc
     go_wp2_with (first | (refine wpList_load_mid rfl 81 (.tmp 10) rfl w6.heap.size 0 rfl u.cells _ r8 Tryz.underlying81 rfl zbt ?_) | (refine wpList_store_mid rfl 81 (.tmp 50) (.tmp 49) rfl (w.heap.size+1) 0 u.cells.toArray rfl rfl t8 zbt u.cells_all ?_;generalize hW:w8.setCells _ _ _=w9;have r9:w9.rangeAt (w.heap.size+1) 0 u.cells:=hW ▸ HP.out;have k9:Keeps (·=w.heap.size+1) w8 w9:=hW ▸ HK.out;clear hW HP HK))
     have z9:=k9.size;have GF:Hid (Grew w w9):=((GC.out.trans (g6.trans g7)).keep k8.out (fun j hj=>by rw[hj];omega)).keep k9 (fun j hj=>by rw[hj];omega);have hu9:u.In w9 0 w9.heap.size:=((HX.out.agree (k8.out.agree (by omega) (fun j h1 h2=>by show ¬ j=_;omega))).agree (k9.agree (by omega) (fun j h1 h2=>by show ¬ j=_;omega))).mono (Nat.zero_le _) (by omega)
     go_roundw
     case rel=>exact .inr ⟨rfl,u,GF.out,refs_one r9 (by omega) hu9,HF⟩
     case measure=>simp[intOf]
  ·go_wp2_with fail
   go_ret
   exact⟨_,x,rfl,hg,hx,hxe⟩
/- redlinelaw14.live: the contract. -/
theorem ints_box{w:World}{b:Nat}{x:Int}(h:w.rangeAt b 0 [.int .i64 x])(hb:b < w.heap.size):IntsIn w 0 w.heap.size (some ⟨b,0,none⟩) 1 [x] :=
 ⟨⟨by simp,by simp,by unfold maxLen;omega⟩,fun _=>⟨b,0,rfl,Nat.zero_le _,hb,fun i hi j hj=>by
  obtain rfl:j=0:=by omega
  have hi':i=0:=by simpa using hi
  subst hi'
  exact h 0 _ rfl⟩⟩
theorem live14_any(w:World):Calls Tryz.prog 42 #[] w fun e w'=>e=.returned (.bool true)∧Grew w w':=by
 go_enter Tryz.func42,Tryz.ntmps42
 go_wp2_with fail
 generalize hW:((w.alloc _).alloc _).alloc _=w3;obtain⟨g3,rA,rB,rC,tC,z3⟩:=zav w [.int .i64 0] (RefL.cells ⟨4,1,0,true,⟨some ⟨w.heap.size,0,none⟩,1,[0]⟩,PtL.nil,PtL.nil,PtL.nil⟩) [.int .i64 0] _ _ _ w3 hW;clear hW;have i0:=ints_box rA (by omega);have i2:=ints_box rC (by omega);have hL:=refs_one rB (by omega) ⟨i0,zby,zby,zby⟩
 have ST:=zQ0 (stepPath_any _ 1 ⟨4,1,0,true,⟨some ⟨w.heap.size,0,none⟩,1,[0]⟩,PtL.nil,PtL.nil,PtL.nil⟩ (OpL.of 1 ⟨some ⟨w.heap.size+2,0,none⟩,1,[0]⟩ PN.nil 0 NT.zero none 0 []) ⟨4,1,0,false,[1],PtE.nil,PtE.nil,PtE.nil⟩ true w3 hL (by refine⟨?_,?_,?_,?_⟩ <;> simp[RefL.er,PtL.er,PtL.nil,PN.nil]) rfl rfl (fun y w1 he hy hg=>by
  have hyl:y.path.l=[0]:=congrArg RefE.path he;have hyi:y.id=4:=congrArg RefE.id he;have hyk:y.kind=1:=congrArg RefE.kind he;have hya:y.aff=0:=congrArg RefE.aff he
  have:=pathMove_any y (OpL.of 1 ⟨some ⟨w.heap.size+2,0,none⟩,1,[0]⟩ PN.nil 0 NT.zero none 0 []) [1] true w1 (fun w2 hg2=>by
   have hM:=move_any y.path.a y.path.c y.path.l (OpL.of 1 ⟨some ⟨w.heap.size+2,0,none⟩,1,[0]⟩ PN.nil 0 NT.zero none 0 []) w2 (hy.later hg2).1 ((i2.grew (hg.trans hg2) zQ1).mono zQ1 (hg.trans hg2).size) zby (by rw[hyl];simp) (by simp[OpL.of]) (by simp[OpL.of,PN.nil]);have e:zbR y.path.l [0] [] 1 0=([1],true):=by rw[hyl];kernel_rfl
   have hM:Calls Tryz.prog 26 _ w2 (RetMv (zbR y.path.l [0] [] 1 0) w2):=hM;rw[e] at hM
   exact hM)
  have e2:({ y.er.bare with path:=[1] }:RefE)=⟨4,1,0,false,[1],PtE.nil,PtE.nil,PtE.nil⟩:=by
   rw[he];rfl
  rw[e2] at this
  exact this))
 clear hL i0 i2 rA rB rC tC;refine ST.out.mono ?_;rintro e w4 ⟨b,x,rfl,g4,hx,hxe⟩;have G4:=zQ0 (g3.trans g4);have xl:x.live=true:=congrArg RefE.live hxe.out;have xi:x.id=4:=congrArg RefE.id hxe.out;have xp:x.path.l=[1]:=congrArg RefE.path hxe.out;obtain⟨b',o',hbo,_,hbb,hr⟩:=hx.1.at (i:=0) (by simp);obtain⟨rfl,rfl⟩:b=b'∧0=o':=by injection hbo with e;injection e with e1 e2;exact⟨e1,e2⟩
 have hr0:w4.rangeAt b 0 x.cells:=by simpa using hr
 have c3:=zcn hr0 (j:=3) (v:=.bool x.live) rfl;have c0:=zcn hr0 (j:=0) (v:=.int .i64 x.id) rfl;have c4:=zcn hr0 (j:=4) (v:=.slice x.path.a x.path.l.length x.path.c) rfl;have hxp:=(hx.2 x (by simp)).1;rw[xl] at c3;rw[xi] at c0;rw[xp] at c4 hxp;rw[show ([1]:List Int).length=1 from rfl] at c4;have SM:=zQ0 (fun w1 (hg:Grew w4 w1)=>trailSame_any x.path.a (some ⟨w1.heap.size,0,none⟩) x.path.c 1 [1] [1] (w1.alloc (.cells #[.int .i64 1] 3)) _ _ _ _ ((hxp.grew (hg.trans (Grew.alloc1 _ _)) zQ1).mono zQ1 (hg.trans (Grew.alloc1 _ _)).size) ints_one (by simp) (by simp) zQ1 zQ1);have SM4:=SM.out w4 (Grew.refl _);rw[decide_eq_true (rfl:([1]:List Int)=[1]),show ([1]:List Int).length=1 from rfl] at SM4;have SM5:=zQ0 SM4;clear hx hxe hr hr0 hbo hxp xl xi xp SM SM4 ST g3 g4;go_wp2_with fail
 refine SM5.out.mono ?_;rintro e w5 ⟨rfl,g5⟩;go_wp2_with fail
 go_ret
 exact⟨zcD rfl,G4.out.trans ((Grew.alloc1 _ _).trans g5)⟩
theorem T.set_kid{v u z:T}{x y:List T}(hk:v.ks=x++u::y):T.setAt z v [(x.length:Int)]=v.kids (x++z::y):=by
 rw[T.setAt,T.setAt,Int.toNat_natCast,hk,List.set_append_right _ _ zQ1,Nat.sub_self];rfl
theorem T.setAt_kid{n v u z:T}{vp:List Int}{x y:List T}{i:Nat}(hv:n.at vp=some v)(hk:v.ks=x++u::y)(hi:x.length=i):T.setAt z n (vp++[(i:Int)])=T.setAt (v.kids (x++z::y)) n vp:=by
 subst hi;rw[T.setAt_append hv,T.set_kid hk]
theorem T.at_the_kid{n v u:T}{vp:List Int}{x y:List T}{i:Nat}(hv:n.at vp=some v)(hk:v.ks=x++u::y)(hi:x.length=i):n.at (vp++[(i:Int)])=some u:=by
 subst hi;rw[T.at_up hv];exact T.at_kid hk
mutual
/-- a tree labelled,from a number on -/
def gh:T→Int→T
 | .mk _ _ ts ks,f=>.mk false [] (f::(List.range ts.length).map (fun i:Nat=>f+1+(i:Int))) (ghs ks (f+1+ts.length))
def ghs:List T→Int→List T
 | [],_=>[]
 | k::r,f=>gh k f::ghs r (f+k.size)
end
mutual
/-- all labels taken away -/
def fgt:T→T
 | .mk _ _ ts ks=>.mk false [] (ts.map fun _=>-2) (fgts ks)
def fgts:List T→List T
 | []=>[]
 | k::r=>fgt k::fgts r
end
mutual
/-- a ghost stands as a tree does -/
def like:T→T→Prop
 | .mk lf _ gs gk,n=>lf=false∧gs.length=n.ts.length+1∧likes gk n.ks
def likes:List T→List T→Prop
 | [],l=>l=[]
 | g::r,l=>∃ k l',l=k::l'∧like g k∧likes r l'
end
theorem like_iff{g n:T}:like g n ↔ g.lf=false∧g.ts.length=n.ts.length+1∧likes g.ks n.ks:=by cases g;rfl
theorem likes_cons{g k:T}{r l:List T}:likes (g::r) (k::l) ↔ like g k∧likes r l:=by
 rw[likes]
 constructor
 ·rintro⟨k',l',e,h1,h2⟩;injection e with e1 e2
  subst e1 e2;exact⟨h1,h2⟩
 ·rintro⟨h1,h2⟩;exact⟨k,l,rfl,h1,h2⟩
theorem zbI:∀ {a b:List T},likes a b→a.length=b.length
 | [],b,h=>by rw[likes] at h;rw[h]
 | g::r,b,h=>by
  rw[likes] at h;obtain⟨k,l,rfl,_,h2⟩:=h;rw[List.length_cons,List.length_cons,zbI h2]
theorem zbG:∀ {a b c d:List T},likes a b→likes c d→likes (a++c) (b++d)
 | [],b,c,d,h,h'=>by rw[likes] at h;rw[h];exact h'
 | g::r,b,c,d,h,h'=>by
  rw[likes] at h;obtain⟨k,l,rfl,h1,h2⟩:=h;exact likes_cons.2 ⟨h1,zbG h2 h'⟩
theorem zbJ:∀ {L a b:List T},likes L (a++b)→∃ c d,L=c++d∧c.length=a.length∧likes c a∧likes d b
 | L,[],b,h=>⟨[],L,rfl,rfl,rfl,h⟩
 | [],x::a,b,h=>by rw[likes] at h;cases h
 | g::L,x::a,b,h=>by
  rw[List.cons_append,likes_cons] at h;obtain⟨c,d,rfl,h1,h2,h3⟩:=zbJ h.2;exact⟨g::c,d,rfl,by simp[h1],likes_cons.2 ⟨h.1,h2⟩,h3⟩
theorem likes_getD:∀ {L M:List T} (i:Nat),likes L M→i < M.length→like (L.getD i default) (M.getD i default)
 | [],M,i,h,hi=>by rw[likes] at h;rw[h] at hi;exact absurd hi (Nat.not_lt_zero _)
 | g::L,M,0,h,hi=>by
  rw[likes] at h;obtain⟨k,l,rfl,h1,_⟩:=h;exact h1
 | g::L,M,i+1,h,hi=>by
  rw[likes] at h;obtain⟨k,l,rfl,_,h2⟩:=h;simp only[List.getD_cons_succ];exact likes_getD i h2 (by simpa using hi)
theorem likes_set:∀ {L M:List T} (i:Nat) {x y:T},likes L M→like x y→likes (L.set i x) (M.set i y)
 | [],M,i,x,y,h,_=>by rw[likes] at h;rw[h];exact rfl
 | g::L,M,0,x,y,h,h'=>by
  rw[likes] at h;obtain⟨k,l,rfl,_,h2⟩:=h;exact likes_cons.2 ⟨h',h2⟩
 | g::L,M,i+1,x,y,h,h'=>by
  rw[likes] at h;obtain⟨k,l,rfl,h1,h2⟩:=h;exact likes_cons.2 ⟨h1,likes_set i h2 h'⟩
theorem like_at{k:T}:∀ {p:List Int} {g n:T},like g n→n.at p=some k→∃ h,g.at p=some h∧like h k:=by
 intro p
 induction p with
 | nil=>intro g n h e;injection e with e;subst e;exact⟨g,rfl,h⟩
 | cons i r ih =>
  intro g n h e;obtain⟨h0,h1,h2⟩:=T.at_of e;have hl:=like_iff.1 h;have hlen:=zbI hl.2.2;obtain⟨x,hx,hxk⟩:=ih (likes_getD i.toNat hl.2.2 (by omega)) h2;exact⟨x,by rw[T.at_go h0 (by omega)];exact hx,hxk⟩
theorem zbF{h' k' k:T}(hh:like h' k'):∀ {p:List Int} {g n:T},like g n→n.at p=some k→like (T.setAt h' g p) (T.setAt k' n p):=by
 intro p
 induction p with
 | nil=>intro g n _ _;exact hh
 | cons i r ih =>
  intro g n h e;obtain⟨h0,h1,h2⟩:=T.at_of e;have hl:=like_iff.1 h;have:=ih (likes_getD i.toNat hl.2.2 (by omega)) h2;exact like_iff.2 ⟨hl.1,hl.2.1,likes_set i.toNat hl.2.2 this⟩
theorem like_kids{g n:T}{L M:List T}(h:like g n)(hL:likes L M):like (g.kids L) (n.kids M):=by
 have:=like_iff.1 h;exact like_iff.2 ⟨this.1,this.2.1,hL⟩
theorem like_lf{g n:T}(h:like g n):g.lf=false:=(like_iff.1 h).1
theorem like_ts{g n:T}(h:like g n):∃ l r,g.ts=l::r∧r.length=n.ts.length:=by
 have:=(like_iff.1 h).2.1
 cases hg:g.ts with
 | nil=>rw[hg] at this;simp at this
 | cons l r=>rw[hg] at this;exact⟨l,r,rfl,by simpa using this⟩
theorem gh_like(n:T):∀ f,like (gh n f) n:=by
 induction n using T.ind with
 | h n ih =>
  intro f;obtain⟨lf,ps,ts,ks⟩:=n;rw[gh];refine⟨rfl,by simp,?_⟩
  have:∀(l:List T) (f:Int),(∀ k∈l,∀ f,like (gh k f) k)→likes (ghs l f) l:=by
   intro l
   induction l with
   | nil=>intro f _;rfl
   | cons k r ihl =>
    intro f h;rw[ghs];exact likes_cons.2 ⟨h k (by simp) f,ihl _ (fun x hx=>h x (by simp[hx]))⟩
  exact this ks _ ih
theorem fgt_like(g:T):∀ n,like g n→like (fgt g) n:=by
 induction g using T.ind with
 | h g ih =>
  intro n h;obtain⟨lf,ps,ts,ks⟩:=g;have hl:=like_iff.1 h;rw[fgt];refine like_iff.2 ⟨rfl,by simpa using hl.2.1,?_⟩
  have:∀(l m:List T),(∀ k∈l,∀ n,like k n→like (fgt k) n)→likes l m→likes (fgts l) m:=by
   intro l
   induction l with
   | nil=>intro m _ h;exact h
   | cons k r ihl =>
    intro m h hm;rw[likes] at hm;obtain⟨x,l',rfl,h1,h2⟩:=hm;rw[fgts];exact likes_cons.2 ⟨h k (by simp) x h1,ihl l' (fun y hy=>h y (by simp[hy])) h2⟩
  exact this ks n.ks ih hl.2.2
def T.gjoin(x k:T):T:=.mk false [] (x.ts++k.ts.tail) (x.ks++k.ks)
def T.gfirst(k:T)(pos:Nat):T:=if pos≤k.ts.length - 1∧k.ks=[] then .mk false [] (k.ts.take (pos+1)) k.ks else .mk false [] k.ts (k.ks.take pos)
def T.gsecond(k:T)(pos:Nat):T:=if pos≤k.ts.length - 1∧k.ks=[] then .mk false [] (-2::k.ts.drop (pos+1)) [] else .mk false [] [-2] (k.ks.drop pos)
def doG(o:OpE)(g:T):T :=
 if o.kind=1 then (addT g o.path (fgt (gh o.node 0))).1
 else if o.kind=2 then (cutT g o.path).1
 else if o.kind=3 then (match (cutT g o.path).1.at (zap o.path).1 with
  | none=>(cutT g o.path).1
  | some x=>T.setAt (x.gjoin (cutT g o.path).2.1) (cutT g o.path).1 (zap o.path).1)
 else if o.kind=4 then (match g.at o.path with
  | none=>g
  | some k=>(addT (T.setAt (k.gfirst o.pos.toNat) g o.path) (zbT o.path).1 (k.gsecond o.pos.toNat)).1)
 else if o.kind=5 then (addT (cutT g o.path).1 o.dest (cutT g o.path).2.1).1
 else if o.kind=7 then (match g.at o.path with
  | none=>g
  | some k=>T.setAt (.mk false [] (k.ts.take (o.pos.toNat+1)++List.replicate o.text.length (-2)++k.ts.drop (o.pos.toNat+1)) k.ks) g o.path)
 else if o.kind=8 then (match g.at o.path with
  | none=>g
  | some k=>T.setAt (.mk false [] (k.ts.take (o.pos.toNat+1)++k.ts.drop (o.pos.toNat+1+o.text.length)) k.ks) g o.path)
 else g
theorem ghost1{n g u:T}{o:OpE}{up:List Int}{i:Nat}{a b:List T}(hk:o.kind=1)(hg:like g n)(e1:o.path=up++[(i:Int)])(e2:n.at up=some u)(e3:u.ks=a++b)(e4:a.length=i) :
  ∃(v:T) (c d:List T),g.at up=some v∧like v u∧v.ks=c++d∧c.length=i∧likes c a∧likes d b∧doG o g=T.setAt (v.kids (c++fgt (gh o.node 0)::d)) g up:=by
 obtain⟨v,hv,hvu⟩:=like_at hg e2;have hl:=like_iff.1 hvu;rw[e3] at hl;obtain⟨c,d,h1,h2,h3,h4⟩:=zbJ hl.2.2;refine⟨v,c,d,hv,hvu,h1,by omega,h3,h4,?_⟩;unfold doG;rw[if_pos hk,e1,add_at hv hl.1 h1 (by omega)]
theorem ghostcut{n g u k:T}{up:List Int}{i:Nat}{a b:List T}(hg:like g n)(e2:n.at up=some u)(e3:u.ks=a++k::b)(e4:a.length=i) :
  ∃(v h:T) (c d:List T),g.at up=some v∧like v u∧v.ks=c++h::d∧c.length=i∧likes c a∧like h k∧likes d b∧cutT g (up++[(i:Int)])=(T.setAt (v.kids (c++d)) g up,h,0):=by
 obtain⟨v,hv,hvu⟩:=like_at hg e2;have hl:=like_iff.1 hvu;rw[e3] at hl;obtain⟨c,d,h1,h2,h3,h4⟩:=zbJ hl.2.2
 cases d with
 | nil=>rw[likes] at h4;cases h4
 | cons h d =>
  rw[likes_cons] at h4;exact⟨v,h,c,d,hv,hvu,h1,by omega,h3,h4.1,h4.2,cut_at hv h1 (by omega)⟩
theorem like_join{x k hx hk:T}(h1:like hx x)(h2:like hk k):like (hx.gjoin hk) (x.join k):=by
 have a1:=like_iff.1 h1;have a2:=like_iff.1 h2;refine like_iff.2 ⟨rfl,?_,zbG a1.2.2 a2.2.2⟩
 show (hx.ts++hk.ts.tail).length=(x.ts++k.ts).length+1
 rw[List.length_append,List.length_append,List.length_tail];omega
theorem ghost3{n g u x k:T}{o:OpE}{up:List Int}{i:Nat}{a b:List T}(hk:o.kind=3)(hg:like g n)(e1:o.path=up++[((i+1:Nat):Int)])(e2:n.at up=some u)(e3:u.ks=a++x::k::b)(e4:a.length=i)(hi:i < 4611686018427387) :
  ∃(v hx hk:T) (c d:List T),g.at up=some v∧like v u∧v.ks=c++hx::hk::d∧c.length=i∧likes c a∧like hx x∧like hk k∧likes d b∧doG o g=T.setAt (v.kids (c++hx.gjoin hk::d)) g up:=by
 obtain⟨v,h,c',d,hv,hvu,h1,h2,h3,h4,h5,h6⟩:=ghostcut (i:=i+1) hg e2 (a:=a++[x]) (b:=b) (k:=k) (by rw[e3];simp) (by simp;omega);obtain⟨c,d',h7,h8,h9,h10⟩:=zbJ h3
 cases d' with
 | nil=>rw[likes] at h10;cases h10
 | cons hx d' =>
  rw[likes_cons] at h10;obtain⟨h11,h12⟩:=h10;have hd':d'=[]:=List.eq_nil_of_length_eq_zero (by have:=zbI h12;simpa using this);subst hd';subst h7;refine⟨v,hx,h,c,d,hv,hvu,by rw[h1];simp,by omega,h9,h11,h4,h5,?_⟩;unfold doG;rw[if_neg (by omega),if_neg (by omega),if_pos hk,e1,h6,back_at (by omega)]
  have hat:(T.setAt (v.kids (c++[hx]++d)) g up).at (up++[(i:Int)])=some hx:=by
   rw[T.at_on hv];have hci:c.length=i:=by omega
   rw[← hci];exact T.at_kid (by rw[T.kids_ks,List.append_assoc];rfl)
  simp only[hat];rw[T.setAt_append (T.at_setAt hv),T.setAt_setAt hv]
  have hset:T.setAt (hx.gjoin h) (v.kids (c++[hx]++d)) [(i:Int)]=v.kids (c++hx.gjoin h::d):=by
   rw[T.setAt,T.setAt,T.kids_ks,Int.toNat_natCast];have hci:c.length=i:=by omega
   rw[← hci]
   have:(c++[hx]++d).set c.length (hx.gjoin h)=c++hx.gjoin h::d:=by
    rw[List.append_assoc,List.set_append_right _ _ zQ1,Nat.sub_self];rfl
   rw[this];rfl
  rw[hset]
theorem ghost4{n g u k:T}{o:OpE}{up:List Int}{i:Nat}{a b:List T}(hk:o.kind=4)(hg:like g n)(e1:o.path=up++[(i:Int)])(e2:n.at up=some u)(e3:u.ks=a++k::b)(e4:a.length=i)(hi:i < 4611686018427387) :
  ∃(v h:T) (c d:List T),g.at up=some v∧like v u∧v.ks=c++h::d∧c.length=i∧likes c a∧like h k∧likes d b∧doG o g=T.setAt (v.kids (c++h.gfirst o.pos.toNat::h.gsecond o.pos.toNat::d)) g up:=by
 obtain⟨v,h,c,d,hv,hvu,h1,h2,h3,h4,h5,_⟩:=ghostcut hg e2 e3 e4;refine⟨v,h,c,d,hv,hvu,h1,h2,h3,h4,h5,?_⟩;unfold doG;rw[if_neg (by omega),if_neg (by omega),if_neg (by omega),if_pos hk,e1,T.at_the_kid hv h1 h2];simp only;rw[T.setAt_kid hv h1 h2,next_at (by omega)];have hadd:=add_at (m:=h.gsecond o.pos.toNat) (a:=c++[h.gfirst o.pos.toNat]) (b:=d) (i:=i+1) (T.at_setAt (y':=v.kids (c++h.gfirst o.pos.toNat::d)) hv) (show v.lf=false from like_lf hvu) (by rw[T.kids_ks];simp) (by simp;omega);rw[T.kids_kids,T.setAt_setAt hv] at hadd;rw[hadd]
 simp
theorem ghost5{n g u v k r:T}{o:OpE}{up vp:List Int}{i j:Nat}{a b c d:List T}(hk:o.kind=5)(hg:like g n)(e1:o.path=up++[(i:Int)])(e2:n.at up=some u)(e3:u.ks=a++k::b)(e4:a.length=i)(er:r=T.setAt (u.kids (a++b)) n up)(f1:o.dest=vp++[(j:Int)])(f2:r.at vp=some v)(f4:v.ks=c++d)(f5:c.length=j) :
  ∃(gu h gr gv:T) (a' b' c' d':List T),g.at up=some gu∧like gu u∧gu.ks=a'++h::b'∧a'.length=i∧like h k∧gr=T.setAt (gu.kids (a'++b')) g up∧like gr r∧gr.at vp=some gv∧like gv v∧gv.ks=c'++d'∧c'.length=j∧likes c' c∧likes d' d∧doG o g=T.setAt (gv.kids (c'++h::d')) gr vp:=by
 obtain⟨gu,h,a',b',hv,hvu,h1,h2,h3,h4,h5,h6⟩:=ghostcut hg e2 e3 e4
 have hr:like (T.setAt (gu.kids (a'++b')) g up) r:=by
  rw[er];exact zbF (like_kids hvu (zbG h3 h5)) hg e2
 obtain⟨gv,hgv,hgvl⟩:=like_at hr f2;have hl:=like_iff.1 hgvl;rw[f4] at hl;obtain⟨c',d',h7,h8,h9,h10⟩:=zbJ hl.2.2;refine⟨gu,h,_,gv,a',b',c',d',hv,hvu,h1,h2,h4,rfl,hr,hgv,hgvl,h7,by omega,h9,h10,?_⟩;unfold doG;rw[if_neg (by omega),if_neg (by omega),if_neg (by omega),if_neg (by omega),if_pos hk,e1,h6,f1]
 show (addT _ (vp++[(j:Int)]) h).1=_
 rw[add_at hgv hl.1 h7 (by omega)]
theorem ghost7{n g k:T}{o:OpE}(hk:o.kind=7)(hg:like g n)(e1:n.at o.path=some k):∃ h,g.at o.path=some h∧like h k∧doG o g=T.setAt (.mk false [] (h.ts.take (o.pos.toNat+1)++List.replicate o.text.length (-2)++h.ts.drop (o.pos.toNat+1)) h.ks) g o.path:=by
 obtain⟨h,hh,hl⟩:=like_at hg e1;refine⟨h,hh,hl,?_⟩;unfold doG;rw[if_neg (by omega),if_neg (by omega),if_neg (by omega),if_neg (by omega),if_neg (by omega),if_pos hk,hh]
theorem ghost8{n g k:T}{o:OpE}(hk:o.kind=8)(hg:like g n)(e1:n.at o.path=some k):∃ h,g.at o.path=some h∧like h k∧doG o g=T.setAt (.mk false [] (h.ts.take (o.pos.toNat+1)++h.ts.drop (o.pos.toNat+1+o.text.length)) h.ks) g o.path:=by
 obtain⟨h,hh,hl⟩:=like_at hg e1;refine⟨h,hh,hl,?_⟩;unfold doG;rw[if_neg (by omega),if_neg (by omega),if_neg (by omega),if_neg (by omega),if_neg (by omega),if_neg (by omega),if_pos hk,hh]
theorem doG_own{g:T}{o:OpE}(hk:o.kind=6∨o.kind=9):doG o g=g:=by
 unfold doG;rw[if_neg (by omega),if_neg (by omega),if_neg (by omega),if_neg (by omega),if_neg (by omega),if_neg (by omega),if_neg (by omega)]
theorem doG_like{n g:T}{s:SelE}{o:OpE}(hb:n.bulk≤4611686018427387)(hg:like g n)(h:(zak n s o).2.2=0)(h4:o.kind≠4):like (doG o g) (zak n s o).1:=by
 obtain⟨hm,h⟩:=zal h;obtain⟨hc,hl,_,hf⟩:=may_ok hm
 rcases h with ⟨h9,_,_,he⟩ | ⟨h9,hs,_,he⟩
 ·rw[he,doG_own (.inr h9)];exact hg
 ·have hkk:=zbf hf;rw[he]
  show like _ (zcR n o).1
  rcases (show o.kind=1∨o.kind=2∨o.kind=3∨o.kind=5∨o.kind=6∨o.kind=7∨o.kind=8 by omega) with h1 | h1 | h1 | h1 | h1 | h1 | h1
  ·obtain⟨up,i,u,a,b,e1,e2,_,e3,e4,_,e8⟩:=done1 hf h1 hs;obtain⟨v,c,d,g1,g2,g3,g4,g5,g6,g7⟩:=ghost1 h1 hg e1 e2 e3 e4;rw[g7,e8];exact zbF (like_kids g2 (zbG g5 (likes_cons.2 ⟨fgt_like _ _ (gh_like _ _),g6⟩))) hg e2
  ·obtain⟨up,i,u,a,b,e1,e2,e3,e4,e8⟩:=done2 hf h1 hs;obtain⟨v,h,c,d,g1,g2,g3,g4,g5,g6,g7,g8⟩:=ghostcut hg e2 e3 e4
   have:doG o g=T.setAt (v.kids (c++d)) g up:=by
    unfold doG;rw[if_neg (by omega),if_pos h1,e1,g8]
   rw[this,e8];exact zbF (like_kids g2 (zbG g5 g7)) hg e2
  ·obtain⟨up,i,u,x,k,a,b,e1,e2,e3,e4,_,_,_,e8⟩:=done3 (by omega) hf h1 hs
   obtain⟨v,hx,hk,c,d,g1,g2,g3,g4,g5,g6,g7,g8,g9⟩:=ghost3 h1 hg e1 e2 e3 e4 (by
    have h1:=zaw e2;have h2:=u.ks_bulk;rw[e3,List.length_append] at h2
    omega)
   rw[g9,e8];exact zbF (like_kids g2 (zbG g5 (likes_cons.2 ⟨like_join g6 g7,g8⟩))) hg e2
  ·obtain⟨up,vp,i,j,u,v,k,r,a,b,c,d,e1,e2,e3,e4,er,f1,f2,f3,f4,f5,e8⟩:=done5 hf h1 hs;obtain⟨gu,h,gr,gv,a',b',c',d',g1,g2,g3,g4,g5,g6,g7,g8,g9,g10,g11,g12,g13,g14⟩:=ghost5 h1 hg e1 e2 e3 e4 er f1 f2 f4 f5;rw[g14,e8];exact zbF (like_kids g9 (zbG g12 (likes_cons.2 ⟨g5,g13⟩))) g7 f2
  ·obtain⟨k,k',e1,e2,e3⟩:=done6 hf (.inl h1) hs;rw[doG_own (.inl h1),e2];obtain⟨h,hh,hhl⟩:=like_at hg e1
   have:=zbF (h':=h) (k':=k') (by
    rcases e3 with ⟨_,_,_,rfl⟩ | ⟨h,_⟩ | ⟨h,_⟩
    ·have:=like_iff.1 hhl;exact like_iff.2 this
    ·omega
    ·omega) hg e1
   rw[T.setAt_same hh] at this;exact this
  ·obtain⟨k,k',e1,e2,e3⟩:=done6 hf (.inr (.inl h1)) hs;obtain⟨h,hh,hhl,hd⟩:=ghost7 h1 hg e1;rw[hd,e2];refine zbF ?_ hg e1;have hl':=like_iff.1 hhl
   rcases e3 with ⟨h,_⟩ | ⟨_,_,hi,rfl⟩ | ⟨h,_⟩
   ·omega
   ·obtain⟨h0,h1',_,_,h5⟩:=zbx hi;rw[h5];refine like_iff.2 ⟨rfl,?_,hl'.2.2⟩;simp only[T.ts_mk,List.length_append,List.length_take,List.length_drop,List.length_replicate];omega
   ·omega
  ·obtain⟨k,k',e1,e2,e3⟩:=done6 hf (.inr (.inr h1)) hs;obtain⟨h,hh,hhl,hd⟩:=ghost8 h1 hg e1;rw[hd,e2];refine zbF ?_ hg e1;have hl':=like_iff.1 hhl
   rcases e3 with ⟨h,_⟩ | ⟨h,_⟩ | ⟨_,_,hi,rfl⟩
   ·omega
   ·omega
   ·obtain⟨h0,h1',_,h5⟩:=zcu hi;rw[h5];refine like_iff.2 ⟨rfl,?_,hl'.2.2⟩;simp only[T.ts_mk,List.length_append,List.length_take,List.length_drop];omega
end Go.Proofs.YtbhbekocmpmjfaaGreatDoor
