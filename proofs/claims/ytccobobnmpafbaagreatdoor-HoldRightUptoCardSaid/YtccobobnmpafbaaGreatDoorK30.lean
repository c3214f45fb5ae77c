/- back.Inverse: the contract. -/
import Derived.Test.YtccobobnmpafbaaGreatDoorK13
import Derived.Test.YtccobobnmpafbaaGreatDoorK08
set_option maxRecDepth 100000
set_option maxHeartbeats 100000000
namespace Go.Proofs.YtccobobnmpafbaaGreatDoor
open Go Go.RowKit
def RetOE(r:OpE × Int)(w:World)(e:Ending)(w':World):Prop:=∃ x:OpL,e=.returned (.tuple #[x.val,.int .i64 r.2])/\Grew w w'/\x.In w' w.heap.size w'.heap.size/\Hid (x.er=r.1)
def OpL.nil:OpL:=OpL.of 0 PN.nil PN.nil 0 NT.zero none 0 []
theorem opNil_in{w:World}{lo hi:Nat}:OpL.nil.In w lo hi:=OpL.of_in zbu zbu NT.zero_in propsIn_nil
theorem opNil_er:OpL.nil.er=OpE.nil:=by unfold OpL.nil OpE.nil;rw[OpL.of_er,NT.zero_er];rfl
def sets(w:World)(B:Nat)(l:List (Nat × Value)):World:=l.foldl (fun w p=>w.setCell ⟨B,p.1,none⟩ p.2) w
def setsL(cs:List Value)(l:List (Nat × Value)):List Value:=l.foldl (fun c p=>c.set p.1 p.2) cs
theorem out_sets{B:Nat}:∀(l:List (Nat × Value)) {w:World} {cs:List Value},cs.length=21->(∀ p∈l,p.1 < 21)->w.rangeAt B 0 cs->w.there B 0 21 ->
  (sets w B l).rangeAt B 0 (setsL cs l)/\(sets w B l).there B 0 21/\Keeps (·=B) w (sets w B l)/\(sets w B l).heap.size=w.heap.size
 | [],w,cs,_,_,hr,ht=>⟨hr,ht,Keeps.refl _ _,rfl⟩
 | p::l,w,cs,hl,hp,hr,ht=>by
  have h:=out_sets l (w:=w.setCell ⟨B,p.1,none⟩ p.2) (cs:=cs.set p.1 p.2) (by rw[List.length_set];exact hl) (fun q hq=>hp q (List.mem_cons_of_mem _ hq)) (zcn hr (by rw[hl];exact hp p (List.mem_cons_self ..)) p.2) (zc6 ht _ _);exact⟨h.1,h.2.1,((Keeps.refl _ _).own _ _).trans h.2.2.1,h.2.2.2.trans (World.size_setCell ..)⟩
def OpL.undone(x:OpL)(k:Int):OpL:=⟨k,x.path,x.dest,x.pos,x.node,x.na,x.nc,x.new,x.oa,x.oc,x.old,x.xa,x.xc,x.text,x.dst,x.src⟩
theorem undone_er(x:OpL)(k:Int):(x.undone k).er=⟨k,x.er.path,x.er.dest,x.er.pos,x.er.node,x.er.new,x.er.old,x.er.text,x.er.dst,x.er.src⟩:=rfl
theorem undone_in{x:OpL}{k:Int}{w:World}{lo hi:Nat}(h:x.In w lo hi):(x.undone k).In w lo hi:=⟨h.1,h.2.1,h.2.2.2.1,h.2.2.1,h.2.2.2.2.1,h.2.2.2.2.2.2,h.2.2.2.2.2.1⟩
def turnL(x:OpL):List (Nat × Value):=[(8,.slice x.na x.new.length x.nc),(9,.slice x.oa x.old.length x.oc),(11,.bool x.dst.is),(12,.slice x.dst.a.p.a x.dst.a.p.l.length x.dst.a.p.c),(13,.int .i64 x.dst.a.o),(14,.slice x.dst.f.p.a x.dst.f.p.l.length x.dst.f.p.c),(15,.int .i64 x.dst.f.o),(16,.bool x.src.is),(17,.slice x.src.a.p.a x.src.a.p.l.length x.src.a.p.c),(18,.int .i64 x.src.a.o),(19,.slice x.src.f.p.a x.src.f.p.l.length x.src.f.p.c),(20,.int .i64 x.src.f.o)]
theorem turn_cells(x:OpL)(k:Int):setsL (x.cells.set 0 (.int .i64 k)) (turnL x)=(x.undone k).cells:=rfl
theorem OBox.keep{w wr w2:World}{cs:List Value}{B:Nat}(h:OBox w cs wr)(k:Keeps (·=B) wr w2)(hB:w.heap.size+2<=B):OBox w cs w2:=by
 obtain⟨h1,h2,h3,h4,h5⟩:=h
 have th:∀(b n:Nat),b < w.heap.size+2->wr.there b 0 n->w2.there b 0 n:=fun b n hb ht j hj=>by
  obtain⟨q1,q2⟩:=ht j hj;exact⟨by rw[k.cell (p:=⟨b,0+j,none⟩) (by show b < _;omega) (by show ¬ b=B;omega)];exact q1,by rw[k.frozen (p:=⟨b,0+j,none⟩) (by show b < _;omega) (by show ¬ b=B;omega)];exact q2⟩
 exact⟨zck h1 k (by omega) (by show ¬ _=B;omega),th _ _ (by omega) h2,th _ _ (by omega) h3,h4.keep k (fun j hj=>by show _<=j;rw[hj];omega),Nat.le_trans h5 k.size⟩
theorem turn_lt(x:OpL):∀ p∈turnL x,p.1 < 21:=by
 intro p hp;simp only[turnL,List.mem_cons,List.not_mem_nil,or_false] at hp
 rcases hp with rfl | rfl | rfl | rfl | rfl | rfl | rfl | rfl | rfl | rfl | rfl | rfl <;> simp
theorem inv_end{w wz W:World}{y:OpL}(hg:Grew w wz)(_hz:w.heap.size+2<=wz.heap.size)(hy:y.In wz (w.heap.size+2) wz.heap.size)(hk:Keeps (·=w.heap.size+1) wz W):Grew w W/\y.In W w.heap.size W.heap.size:=by
 have zW:=hk.size;exact⟨hg.keep hk (fun j hj=>by show _<=j;rw[hj];omega),(OpL.In.agree hy (hk.agree zQ1 (fun j h1 h2=>by show ¬ j=_;omega))).mono (by omega) zW⟩
theorem inverse_any(o:OpL)(w:World)(ho:o.In w 0 w.heap.size)(hs:o.er.Small):Calls Tryz.prog 75 #[o.val] w (RetOE (invT o.er) w):=by
 have later:∀ {w1},Grew w w1->o.In w1 0 w1.heap.size:=fun g=>(ho.grew g zQ1).mono zQ1 g.size;have CF:=zQ0 (fun w1 (g:Grew w w1)=>form_any o w1 (later g) hs);have CO:=zQ0 (fun w1 (g:Grew w w1)=>backOwn_any o w1 (later g) hs);have CU:=zQ0 (fun(w1:World)=>undoes_any w1);have CN:=zQ0 (fun w1 (g:Grew w w1)=>trailNext_any o.path.a o.path.c o.path.l w1 (later g).1.1 hs.1.1);have CB:=zQ0 (fun w1 (g:Grew w w1)=>trailBack_any o.path.a o.path.c o.path.l w1 (later g).1.1 hs.1.1)
 have HI:Hid (invT o.er=if zba o.er≠0 then (OpE.nil,zba o.er)
  else if o.kind=5 then ({ o.er.turned with path:=o.dest.l,dest:=o.path.l },0)
  else if o.kind=3 then (if (zam o.path.l).2≠0 then (OpE.nil,(zam o.path.l).2) else ({ o.er.turned with path:=(zam o.path.l).1 },0))
  else if o.kind=4 then (if (zbR o.path.l).2≠0 then (OpE.nil,(zbR o.path.l).2) else ({ o.er.turned with path:=(zbR o.path.l).1 },0))
  else (o.er.turned,0)):=rfl
 generalize invT o.er=res at *;generalize zba o.er=fe at *;clear later ho hs;unfold OpL.val at CF CO ⊢
 go_enter Tryz.func75,Tryz.ntmps75
 go_upto_region 1 with fail
 generalize hW:(w.alloc _).alloc _=w1;obtain⟨g1,rO,tO,_,tR,z1⟩:=zar w o.cells OpL.zcells _ _ w1 hW;clear hW;obtain⟨ov,hov⟩:∃ v,o.val=v:=⟨_,rfl⟩
 unfold OpL.val at hov;rw[hov];clear hov;have hb1:OBox w o.cells w1:=⟨rO,tO,tR,g1,by omega⟩
 have HB1:=zQ0 hb1;clear tO tR g1 z1 hb1
 go_wp2_with (refine wpList_load_mid rfl 35 (.tmp 1) rfl w.heap.size 0 rfl o.cells _ rO Tryz.underlying35 rfl zbp ?_)
 refine (CF.out w1 HB1.out.2.2.2.1).mono ?_;rintro e w2 ⟨rfl,g2⟩;have HB2:Hid (OBox w o.cells w2):=OBox.grew HB1.out g2;clear g2 HB1 rO
 by_cases hf:fe=0
 ·subst hf
  have HI1:Hid (res=if o.kind=5 then ({ o.er.turned with path:=o.dest.l,dest:=o.path.l },0)
   else if o.kind=3 then (if (zam o.path.l).2≠0 then (OpE.nil,(zam o.path.l).2) else ({ o.er.turned with path:=(zam o.path.l).1 },0))
   else if o.kind=4 then (if (zbR o.path.l).2≠0 then (OpE.nil,(zbR o.path.l).2) else ({ o.er.turned with path:=(zbR o.path.l).1 },0))
   else (o.er.turned,0)):=by show _=_;rw[HI.out,if_neg (by simp)]
  clear HI;have rO:=HB2.out.1
  go_wp2_with (refine wpList_load_mid rfl 35 (.tmp 1) rfl w.heap.size 0 rfl o.cells _ rO Tryz.underlying35 rfl zbp ?_)
  refine (CO.out w2 HB2.out.2.2.2.1).mono ?_;rintro e w3 ⟨x,rfl,g3,hx,hxe⟩;have HB3:Hid (OBox w o.cells w3):=OBox.grew HB2.out g3;have HX3:Hid (x.In w3 (w.heap.size+2) w3.heap.size):=OpL.In.mono hx HB2.out.2.2.2.2 zQ1;have HXE:=zQ0 hxe.out;clear g3 hx hxe HB2 rO;obtain⟨xv,hxv⟩:∃ v,x.val=v:=⟨_,rfl⟩
  have hxa:xv=.agg x.cells.toArray:=hxv.symm.trans rfl;rw[hxv];clear hxv;subst hxa;obtain⟨gz,rz,tz,zz⟩:=zaq w3 OpL.zcells 35 _ rfl;have HXP:=zQ0 (zcm (cs:=x.cells) tz);have HXK:=zQ0 (zcM w3.heap.size x.cells 0 (w3.alloc (.cells OpL.zcells.toArray 35)));have HXT:=zQ0 (World.there_setCells tz w3.heap.size 0 x.cells);have HGZ:=zQ0 gz;have HZZ:=zQ0 zz;clear gz rz zz
  go_upto_region 5 with (refine wpList_store_mid rfl 35 (.tmp 5) (.tmp 16) rfl w3.heap.size 0 x.cells.toArray rfl rfl tz zbp (all_oneCell_toArray x.cells_one) ?_)
  clear tz;generalize hW:World.setCells _ w3.heap.size 0 _=w4;have k4:Keeps (·=w3.heap.size) (w3.alloc (.cells OpL.zcells.toArray 35)) w4:=by rw[<- hW];exact HXK.out
  have rX:w4.rangeAt w3.heap.size 0 x.cells:=by rw[<- hW];exact HXP.out
  have tX:w4.there w3.heap.size 0 21:=by rw[<- hW];exact HXT.out
  have z4:w3.heap.size < w4.heap.size:=Nat.lt_of_lt_of_le (by rw[HZZ.out];omega) k4.size;have g4:Grew w3 w4:=HGZ.out.keep k4 (fun j hj=>by show _<=j;rw[hj];exact Nat.le_refl _);clear hW k4 HXP HXK HXT HGZ HZZ;have HB4:Hid (OBox w o.cells w4):=OBox.grew HB3.out g4;have HX4:Hid (x.In w4 (w.heap.size+2) w3.heap.size):=OpL.In.agree HX3.out ((g4.agree zQ1).mono (Nat.zero_le _) zQ1);have HZ4:Hid (w.heap.size+2<=w3.heap.size):=HB3.out.2.2.2.2;generalize w3.heap.size=B at *;have hBz:B < w4.heap.size:=by omega
  have HRX:=zQ0 rX;have HTX:=zQ0 tX;clear g4 rX tX z4 HX3 HB3;have KB:=zQ0 (fun(w':World) (g:Grew w4 w')=>(zci (OBox.grew HB4.out g).1 (j:=0) rfl:w'.cell? ⟨w.heap.size,0,none⟩=some (.int .i64 o.kind)));have hS:Grew w4 w4.drew:=(Grew.refl _).drew;refine zdl (Grew w4) (fun j=>j.blt 4) (by kernel_rfl) ?_;refine zdh (i:=1) (v:=.pointer (some ⟨w.heap.size,0,none⟩)) rfl (by kernel_rfl) (Or.inl ⟨rfl,fun w' hS=>by go_simp⟩) hS ?_;refine zdh (i:=2) (v:=.int .i64 o.kind) rfl (by kernel_rfl) (Or.inl ⟨rfl,fun w' hS=>by have k0:=KB.out w' hS;go_simp⟩) hS ?_;refine zdf (i:=0) (by kernel_rfl) rfl rfl ?_;intro K' hK';go_wp2_with fail
  refine (CU.out w4.drew).mono ?_;rintro e w5 ⟨rfl,h5⟩;have h5':w5=(w4.alloc zdb).drew:=h5.trans rfl;clear h5;subst h5';have gM:Grew w4 (w4.alloc zdb).drew:=(Grew.alloc1 _ _).drew;refine hK' _ _ ⟨fun _=>gM,?_⟩;clear hK' K';have hlk:=run_undoes (w:=(w4.alloc zdb).drew) (b:=w4.heap.size) (heap_alloc_new w4 zdb) o.kind;refine zdf (i:=3) (by kernel_rfl) rfl rfl ?_;intro K' hK';go_wp2_with fail
  first | refine⟨fun _=>gM,?_⟩ | skip
  clear hlk;have hc0:=(gM.cell (p:=⟨B,0,none⟩) hBz).trans (zci HRX.out (j:=0) rfl);have hf0:(w4.alloc zdb).drew.frozen? ⟨B,0,none⟩=false:=(gM.frozen (p:=⟨B,0,none⟩) hBz).trans (by have:=(HTX.out 0 (by decide)).2;simpa using this);refine zdf (i:=4) (by kernel_rfl) rfl rfl ?_;intro K' hK';go_wp2_with fail
  first | refine⟨fun h=>(by cases h),?_⟩ | skip
  refine zdf (i:=5) (by kernel_rfl) rfl rfl ?_;intro K' hK';go_wp2_with fail
  refine⟨fun h=>(by cases h),?_⟩;refine zde (by kernel_rfl) ?_ _;have gA:Grew (w4.setCell ⟨B,0,none⟩ (.int .i64 (zda o.kind))) ((w4.setCell ⟨B,0,none⟩ (.int .i64 (zda o.kind))).alloc zdb).drew:=(Grew.alloc1 _ _).drew;have hBA:B < (w4.setCell ⟨B,0,none⟩ (.int .i64 (zda o.kind))).heap.size:=by rw[World.size_setCell];exact hBz
  have rX:=zcj (zcn HRX.out (j:=0) (by rw[OpL.cells_len];decide) (.int .i64 (zda o.kind))) gA hBA;have tX:=zc4 (zc6 HTX.out ⟨B,0,none⟩ (.int .i64 (zda o.kind))) gA hBA;have HB5:Hid (OBox w o.cells ((w4.setCell ⟨B,0,none⟩ (.int .i64 (zda o.kind))).alloc zdb).drew):=OBox.grew (OBox.keep HB4.out ((Keeps.refl _ _).own _ _) HZ4.out) gA;have HX5:Hid (x.In ((w4.setCell ⟨B,0,none⟩ (.int .i64 (zda o.kind))).alloc zdb).drew (w.heap.size+2) B):=OpL.In.agree (OpL.In.agree HX4.out (zaf (Or.inr zQ1))) ((gA.agree (Nat.le_of_lt hBA)).mono (Nat.zero_le _) zQ1);have HS5:Hid (B < ((w4.setCell ⟨B,0,none⟩ (.int .i64 (zda o.kind))).alloc zdb).drew.heap.size):=Nat.lt_of_lt_of_le hBA gA.size;clear hc0 hf0 gM gA hBA hBz HRX HTX HX4 HB4 KB hS CU CO CF;generalize ((w4.setCell ⟨B,0,none⟩ (.int .i64 (zda o.kind))).alloc zdb).drew=w5 at *;have c8:=zci rX (j:=8) rfl;have c9:=zci rX (j:=9) rfl;have c11:=zci rX (j:=11) rfl;have c12:=zci rX (j:=12) rfl;have c13:=zci rX (j:=13) rfl;have c14:=zci rX (j:=14) rfl;have c15:=zci rX (j:=15) rfl;have c16:=zci rX (j:=16) rfl;have c17:=zci rX (j:=17) rfl;have c18:=zci rX (j:=18) rfl;have c19:=zci rX (j:=19) rfl;have c20:=zci rX (j:=20) rfl;have f8:w5.frozen? ⟨B,8,none⟩=false:=by have:=(tX 8 (by decide)).2;simpa using this
  have f9:w5.frozen? ⟨B,9,none⟩=false:=by have:=(tX 9 (by decide)).2;simpa using this
  have f11:w5.frozen? ⟨B,11,none⟩=false:=by have:=(tX 11 (by decide)).2;simpa using this
  have f12:w5.frozen? ⟨B,12,none⟩=false:=by have:=(tX 12 (by decide)).2;simpa using this
  have f13:w5.frozen? ⟨B,13,none⟩=false:=by have:=(tX 13 (by decide)).2;simpa using this
  have f14:w5.frozen? ⟨B,14,none⟩=false:=by have:=(tX 14 (by decide)).2;simpa using this
  have f15:w5.frozen? ⟨B,15,none⟩=false:=by have:=(tX 15 (by decide)).2;simpa using this
  have f16:w5.frozen? ⟨B,16,none⟩=false:=by have:=(tX 16 (by decide)).2;simpa using this
  have f17:w5.frozen? ⟨B,17,none⟩=false:=by have:=(tX 17 (by decide)).2;simpa using this
  have f18:w5.frozen? ⟨B,18,none⟩=false:=by have:=(tX 18 (by decide)).2;simpa using this
  have f19:w5.frozen? ⟨B,19,none⟩=false:=by have:=(tX 19 (by decide)).2;simpa using this
  have f20:w5.frozen? ⟨B,20,none⟩=false:=by have:=(tX 20 (by decide)).2;simpa using this
  have HRX:=zQ0 rX;have HTX:=zQ0 tX;clear rX tX;go_upto_region 8 with fail
  generalize hW:World.setCell _ ⟨B,20,none⟩ _=w7;have hW':sets w5 B (turnL x)=w7:=hW;clear hW;clear c8 c9 c11 c12 c13 c14 c15 c16 c17 c18 c19 c20 f8 f9 f11 f12 f13 f14 f15 f16 f17 f18 f19 f20;have hS7:=out_sets (turnL x) (by rw[List.length_set,OpL.cells_len]) (turn_lt x) HRX.out HTX.out;rw[hW',turn_cells] at hS7;obtain⟨rX,tX,kX,zX⟩:=hS7;have HB7:Hid (OBox w o.cells w7):=OBox.keep HB5.out kX HZ4.out;have HX7:Hid ((x.undone (zda o.kind)).In w7 (w.heap.size+2) B):=undone_in (OpL.In.agree HX5.out (kX.agree (Nat.le_of_lt HS5.out) (fun j h1 h2=>by show ¬ j=_;omega)));have HS7:Hid (B < w7.heap.size):=by show _ < _;rw[zX];exact HS5.out
  have HUE:Hid ((x.undone (zda o.kind)).er=o.er.turned):=by show _=_;rw[undone_er,HXE.out];rfl
  generalize x.undone (zda o.kind)=y at *;clear hW' kX zX HRX HTX HB5 HX5 HS5 HXE;have k0:=zci HB7.out.1 (j:=0) rfl
  by_cases k5:o.kind=5
  ·have t5:(o.kind == 5)=true:=by simpa using k5
   have HN:Hid (res=({ o.er.turned with path:=o.dest.l,dest:=o.path.l },0)):=by show _=_;rw[HI1.out,if_pos k5]
   have c1:=zci rX (j:=1) rfl;have c2:=zci rX (j:=2) rfl;have f1:w7.frozen? ⟨B,1,none⟩=false:=by have:=(tX 1 (by decide)).2;simpa using this
   have f2:w7.frozen? ⟨B,2,none⟩=false:=by have:=(tX 2 (by decide)).2;simpa using this
   have HR7:=zQ0 rX;have HT7:=zQ0 tX;clear rX tX HI1 CN CB;go_upto_region 19 with fail
   generalize hW:World.setCell _ ⟨B,2,none⟩ _=w9;have hW':sets w7 B [(1,.slice y.dest.a y.dest.l.length y.dest.c),(2,.slice y.path.a y.path.l.length y.path.c)]=w9:=hW;clear hW c1 c2 f1 f2 k0;have hS9:=out_sets [(1,.slice y.dest.a y.dest.l.length y.dest.c),(2,.slice y.path.a y.path.l.length y.path.c)] (OpL.cells_len y) (by intro p hp;simp only[List.mem_cons,List.not_mem_nil,or_false] at hp;rcases hp with rfl | rfl <;> simp) HR7.out HT7.out;rw[hW'] at hS9;obtain⟨hx,_,kX,zX⟩:=hS9;have hx:w9.rangeAt B 0 ({ y with path:=y.dest,dest:=y.path }:OpL).cells:=hx;have HBZ:OBox w o.cells w9:=OBox.keep HB7.out kX HZ4.out
   have HY:Hid (({ y with path:=y.dest,dest:=y.path }:OpL).In w9 (w.heap.size+2) w9.heap.size):=by
    have h:=(OpL.In.agree HX7.out (kX.agree (Nat.le_of_lt HS7.out) (fun j h1 h2=>by show ¬ j=_;omega))).mono zQ1 (show B<=w9.heap.size by have:=HS7.out;omega);exact⟨⟨h.1.2,h.1.1⟩,h.2⟩
   have HEE:Hid (({ y with path:=y.dest,dest:=y.path }:OpL).er={ o.er.turned with path:=o.dest.l,dest:=o.path.l }):=by
    show (⟨y.er.kind,y.er.dest,y.er.path,y.er.pos,y.er.node,y.er.old,y.er.new,y.er.text,y.er.src,y.er.dst⟩:OpE)=_
    rw[HUE.out];rfl
   clear hW' kX zX HR7 HT7 HB7 HX7 HS7 HUE;have ht:=HBZ.2.2.1;have HO:=zQ0 (zcm (cs:=(({ y with path:=y.dest,dest:=y.path }:OpL)).cells) ht);have HK:=zQ0 (zcM (w.heap.size+1) (({ y with path:=y.dest,dest:=y.path }:OpL)).cells 0 w9);have HG:=zQ0 HBZ.2.2.2.1;have HZ:=zQ0 HBZ.2.2.2.2;clear HBZ;generalize hyy:({ y with path:=y.dest,dest:=y.path }:OpL)=y at *
   go_wp2_with (first | (refine wpList_load_mid rfl 35 (.tmp 5) rfl B 0 rfl y.cells _ hx Tryz.underlying35 rfl zbp ?_) | (refine wpList_store_mid rfl 35 (.tmp 2) (.tmp 61) rfl (w.heap.size+1) 0 y.cells.toArray rfl rfl ht zbp (all_oneCell_toArray y.cells_one) ?_;generalize w9.setCells (w.heap.size+1) 0 y.cells.toArray.toList=W at *))
   obtain⟨hGW,hIW⟩:=inv_end (y:=y) HG.out HZ.out HY.out HK.out;refine bodyPost_ret (v:=.tuple #[y.val,.int .i64 0]) (zcq Tryz.results75 _ W (w.heap.size+1) 0 y.cells _ _ rfl rfl HO.out Tryz.underlying35 rfl zbp) rfl ?_;rw[HN.out];exact⟨y,rfl,hGW,hIW,by exact HEE.out⟩
  have t5:(o.kind == 5)=false:=by simpa using k5
  by_cases k3:o.kind=3
  ·have t3:(o.kind == 3)=true:=by simpa using k3
   have HI2:Hid (res=if (zam o.path.l).2≠0 then (OpE.nil,(zam o.path.l).2) else ({ o.er.turned with path:=(zam o.path.l).1 },0)):=by
    show _=_
    rw[HI1.out,if_neg (by omega)];rw[if_pos k3]
   clear HI1;have HCC:=zQ0 (CB.out w7 HB7.out.2.2.2.1);generalize zam o.path.l=nr at *;obtain⟨rl,rk⟩:=nr;have k1:=zci HB7.out.1 (j:=1) rfl;go_wp2_with fail
   refine HCC.out.mono ?_;rintro e w8 ⟨q,rfl,g8,hq,hqe⟩;have HB8:Hid (OBox w o.cells w8):=OBox.grew HB7.out g8;clear k0 k1 HCC CN CB
   by_cases hk:rk=0
   ·subst hk;have HN:Hid (res=({ o.er.turned with path:=rl },0)):=by show _=_;rw[HI2.out];rfl
    have rX8:=zcj rX g8 HS7.out;have tX8:=zc4 tX g8 HS7.out;have c1:=zci rX8 (j:=1) rfl;have f1:w8.frozen? ⟨B,1,none⟩=false:=by have:=(tX8 1 (by decide)).2;simpa using this
    have HX8:Hid (y.In w8 (w.heap.size+2) B):=OpL.In.agree HX7.out ((g8.agree (Nat.le_of_lt HS7.out)).mono (Nat.zero_le _) zQ1);have HR8:=zQ0 rX8;have HT8:=zQ0 tX8;have HQ:=zQ0 hq;have HQE:=zQ0 hqe.out;have HS8:Hid (B < w8.heap.size):=Nat.lt_of_lt_of_le HS7.out g8.size;clear rX8 tX8 rX tX hq hqe HB7 HX7 HI2;go_upto_region 19 with fail
    generalize hW:World.setCell _ ⟨B,1,none⟩ _=w9;have hW':sets w8 B [(1,.slice q.a q.l.length q.c)]=w9:=hW;clear hW c1 f1;have hS9:=out_sets [(1,.slice q.a q.l.length q.c)] (OpL.cells_len y) (by intro p hp;simp only[List.mem_singleton] at hp;subst hp;simp) HR8.out HT8.out;rw[hW'] at hS9;obtain⟨hx,_,kX,zX⟩:=hS9;have hx:w9.rangeAt B 0 ({ y with path:=q }:OpL).cells:=hx;have HBZ:OBox w o.cells w9:=OBox.keep HB8.out kX HZ4.out
    have HY:Hid (({ y with path:=q }:OpL).In w9 (w.heap.size+2) w9.heap.size):=by
     have h:=(OpL.In.agree HX8.out (kX.agree (Nat.le_of_lt HS8.out) (fun j h1 h2=>by show ¬ j=_;omega))).mono zQ1 (show B<=w9.heap.size by have:=HS8.out;omega);have hB:=HZ4.out;have h7:=HS7.out;exact⟨⟨(IntsIn.agree HQ.out (kX.agree zQ1 (fun j h1 h2=>by show ¬ j=_;omega))).mono (by omega) (by omega),h.1.2⟩,h.2⟩
    have HEE:Hid (({ y with path:=q }:OpL).er={ o.er.turned with path:=rl }):=by show _=_;rw[<- HQE.out,<- HUE.out];rfl
    clear hW' kX zX HR8 HT8 HB8 HX8 HQ HQE HS8 HS7 HUE;have ht:=HBZ.2.2.1;have HO:=zQ0 (zcm (cs:=(({ y with path:=q }:OpL)).cells) ht);have HK:=zQ0 (zcM (w.heap.size+1) (({ y with path:=q }:OpL)).cells 0 w9);have HG:=zQ0 HBZ.2.2.2.1;have HZ:=zQ0 HBZ.2.2.2.2;clear HBZ;generalize hyy:({ y with path:=q }:OpL)=y at *
    go_wp2_with (first | (refine wpList_load_mid rfl 35 (.tmp 5) rfl B 0 rfl y.cells _ hx Tryz.underlying35 rfl zbp ?_) | (refine wpList_store_mid rfl 35 (.tmp 2) (.tmp 61) rfl (w.heap.size+1) 0 y.cells.toArray rfl rfl ht zbp (all_oneCell_toArray y.cells_one) ?_;generalize w9.setCells (w.heap.size+1) 0 y.cells.toArray.toList=W at *))
    obtain⟨hGW,hIW⟩:=inv_end (y:=y) HG.out HZ.out HY.out HK.out;refine bodyPost_ret (v:=.tuple #[y.val,.int .i64 0]) (zcq Tryz.results75 _ W (w.heap.size+1) 0 y.cells _ _ rfl rfl HO.out Tryz.underlying35 rfl zbp) rfl ?_;rw[HN.out];exact⟨y,rfl,hGW,hIW,by exact HEE.out⟩
   ·have t9:(rk != 0)=true:=by simpa using hk
    have HN:Hid (res=(OpE.nil,rk)):=by show _=_;rw[HI2.out,if_pos hk]
    have HBZ:=HB8.out;clear rX tX HB7 HB8;have ht:=HBZ.2.2.1;have HO:=zQ0 (zcm (cs:=OpL.zcells) ht);have HK:=zQ0 (zcM (w.heap.size+1) OpL.zcells 0 w8);have HG:=zQ0 HBZ.2.2.2.1;have HZ:=zQ0 HBZ.2.2.2.2;clear HBZ
    go_wp2_with (refine wpList_store_mid rfl 35 (.tmp 2) (.tmp 57) rfl (w.heap.size+1) 0 OpL.zcells.toArray rfl rfl ht zbp (all_oneCell_toArray (OpL.cells_one OpL.nil)) ?_;generalize w8.setCells (w.heap.size+1) 0 OpL.zcells.toArray.toList=W at *)
    obtain⟨hGW,hIW⟩:=inv_end (y:=OpL.nil) HG.out HZ.out opNil_in HK.out;refine bodyPost_ret (v:=.tuple #[OpL.nil.val,.int .i64 rk]) (zcq Tryz.results75 _ W (w.heap.size+1) 0 OpL.zcells _ _ rfl rfl HO.out Tryz.underlying35 rfl zbp) rfl ?_;rw[HN.out];exact⟨OpL.nil,rfl,hGW,hIW,opNil_er⟩
  have t3:(o.kind == 3)=false:=by simpa using k3
  by_cases k4:o.kind=4
  ·have t4:(o.kind == 4)=true:=by simpa using k4
   have HI2:Hid (res=if (zbR o.path.l).2≠0 then (OpE.nil,(zbR o.path.l).2) else ({ o.er.turned with path:=(zbR o.path.l).1 },0)):=by
    show _=_
    rw[HI1.out,if_neg (by omega)];rw[if_neg (by omega),if_pos k4]
   clear HI1;have HCC:=zQ0 (CN.out w7 HB7.out.2.2.2.1);generalize zbR o.path.l=nr at *;obtain⟨rl,rk⟩:=nr;have k1:=zci HB7.out.1 (j:=1) rfl;go_wp2_with fail
   refine HCC.out.mono ?_;rintro e w8 ⟨q,rfl,g8,hq,hqe⟩;have HB8:Hid (OBox w o.cells w8):=OBox.grew HB7.out g8;clear k0 k1 HCC CN CB
   by_cases hk:rk=0
   ·subst hk;have HN:Hid (res=({ o.er.turned with path:=rl },0)):=by show _=_;rw[HI2.out];rfl
    have rX8:=zcj rX g8 HS7.out;have tX8:=zc4 tX g8 HS7.out;have c1:=zci rX8 (j:=1) rfl;have f1:w8.frozen? ⟨B,1,none⟩=false:=by have:=(tX8 1 (by decide)).2;simpa using this
    have HX8:Hid (y.In w8 (w.heap.size+2) B):=OpL.In.agree HX7.out ((g8.agree (Nat.le_of_lt HS7.out)).mono (Nat.zero_le _) zQ1);have HR8:=zQ0 rX8;have HT8:=zQ0 tX8;have HQ:=zQ0 hq;have HQE:=zQ0 hqe.out;have HS8:Hid (B < w8.heap.size):=Nat.lt_of_lt_of_le HS7.out g8.size;clear rX8 tX8 rX tX hq hqe HB7 HX7 HI2;go_upto_region 19 with fail
    generalize hW:World.setCell _ ⟨B,1,none⟩ _=w9;have hW':sets w8 B [(1,.slice q.a q.l.length q.c)]=w9:=hW;clear hW c1 f1;have hS9:=out_sets [(1,.slice q.a q.l.length q.c)] (OpL.cells_len y) (by intro p hp;simp only[List.mem_singleton] at hp;subst hp;simp) HR8.out HT8.out;rw[hW'] at hS9;obtain⟨hx,_,kX,zX⟩:=hS9;have hx:w9.rangeAt B 0 ({ y with path:=q }:OpL).cells:=hx;have HBZ:OBox w o.cells w9:=OBox.keep HB8.out kX HZ4.out
    have HY:Hid (({ y with path:=q }:OpL).In w9 (w.heap.size+2) w9.heap.size):=by
     have h:=(OpL.In.agree HX8.out (kX.agree (Nat.le_of_lt HS8.out) (fun j h1 h2=>by show ¬ j=_;omega))).mono zQ1 (show B<=w9.heap.size by have:=HS8.out;omega);have hB:=HZ4.out;have h7:=HS7.out;exact⟨⟨(IntsIn.agree HQ.out (kX.agree zQ1 (fun j h1 h2=>by show ¬ j=_;omega))).mono (by omega) (by omega),h.1.2⟩,h.2⟩
    have HEE:Hid (({ y with path:=q }:OpL).er={ o.er.turned with path:=rl }):=by show _=_;rw[<- HQE.out,<- HUE.out];rfl
    clear hW' kX zX HR8 HT8 HB8 HX8 HQ HQE HS8 HS7 HUE;have ht:=HBZ.2.2.1;have HO:=zQ0 (zcm (cs:=(({ y with path:=q }:OpL)).cells) ht);have HK:=zQ0 (zcM (w.heap.size+1) (({ y with path:=q }:OpL)).cells 0 w9);have HG:=zQ0 HBZ.2.2.2.1;have HZ:=zQ0 HBZ.2.2.2.2;clear HBZ;generalize hyy:({ y with path:=q }:OpL)=y at *
    go_wp2_with (first | (refine wpList_load_mid rfl 35 (.tmp 5) rfl B 0 rfl y.cells _ hx Tryz.underlying35 rfl zbp ?_) | (refine wpList_store_mid rfl 35 (.tmp 2) (.tmp 61) rfl (w.heap.size+1) 0 y.cells.toArray rfl rfl ht zbp (all_oneCell_toArray y.cells_one) ?_;generalize w9.setCells (w.heap.size+1) 0 y.cells.toArray.toList=W at *))
    obtain⟨hGW,hIW⟩:=inv_end (y:=y) HG.out HZ.out HY.out HK.out;refine bodyPost_ret (v:=.tuple #[y.val,.int .i64 0]) (zcq Tryz.results75 _ W (w.heap.size+1) 0 y.cells _ _ rfl rfl HO.out Tryz.underlying35 rfl zbp) rfl ?_;rw[HN.out];exact⟨y,rfl,hGW,hIW,by exact HEE.out⟩
   ·have t9:(rk != 0)=true:=by simpa using hk
    have HN:Hid (res=(OpE.nil,rk)):=by show _=_;rw[HI2.out,if_pos hk]
    have HBZ:=HB8.out;clear rX tX HB7 HB8;have ht:=HBZ.2.2.1;have HO:=zQ0 (zcm (cs:=OpL.zcells) ht);have HK:=zQ0 (zcM (w.heap.size+1) OpL.zcells 0 w8);have HG:=zQ0 HBZ.2.2.2.1;have HZ:=zQ0 HBZ.2.2.2.2;clear HBZ
    go_wp2_with (refine wpList_store_mid rfl 35 (.tmp 2) (.tmp 57) rfl (w.heap.size+1) 0 OpL.zcells.toArray rfl rfl ht zbp (all_oneCell_toArray (OpL.cells_one OpL.nil)) ?_;generalize w8.setCells (w.heap.size+1) 0 OpL.zcells.toArray.toList=W at *)
    obtain⟨hGW,hIW⟩:=inv_end (y:=OpL.nil) HG.out HZ.out opNil_in HK.out;refine bodyPost_ret (v:=.tuple #[OpL.nil.val,.int .i64 rk]) (zcq Tryz.results75 _ W (w.heap.size+1) 0 OpL.zcells _ _ rfl rfl HO.out Tryz.underlying35 rfl zbp) rfl ?_;rw[HN.out];exact⟨OpL.nil,rfl,hGW,hIW,opNil_er⟩
  have t4:(o.kind == 4)=false:=by simpa using k4
  have HN:Hid (res=(o.er.turned,0)):=by show _=_;rw[HI1.out,if_neg k5,if_neg k3,if_neg k4]
  have hx:=rX;have HBZ:=HB7.out;have HY:Hid (y.In w7 (w.heap.size+2) w7.heap.size):=OpL.In.mono HX7.out zQ1 (Nat.le_of_lt HS7.out);clear rX tX HB7 HX7 HS7 CN CB;have ht:=HBZ.2.2.1;have HO:=zQ0 (zcm (cs:=(y).cells) ht);have HK:=zQ0 (zcM (w.heap.size+1) (y).cells 0 w7);have HG:=zQ0 HBZ.2.2.2.1;have HZ:=zQ0 HBZ.2.2.2.2;clear HBZ
  go_wp2_with (first | (refine wpList_load_mid rfl 35 (.tmp 5) rfl B 0 rfl y.cells _ hx Tryz.underlying35 rfl zbp ?_) | (refine wpList_store_mid rfl 35 (.tmp 2) (.tmp 61) rfl (w.heap.size+1) 0 y.cells.toArray rfl rfl ht zbp (all_oneCell_toArray y.cells_one) ?_;generalize w7.setCells (w.heap.size+1) 0 y.cells.toArray.toList=W at *))
  obtain⟨hGW,hIW⟩:=inv_end (y:=y) HG.out HZ.out HY.out HK.out;refine bodyPost_ret (v:=.tuple #[y.val,.int .i64 0]) (zcq Tryz.results75 _ W (w.heap.size+1) 0 y.cells _ _ rfl rfl HO.out Tryz.underlying35 rfl zbp) rfl ?_;rw[HN.out];exact⟨y,rfl,hGW,hIW,HUE.out⟩
 ·have hfn:(fe != 0)=true:=by simpa using hf
  have HN:Hid (res=(OpE.nil,fe)):=by show _=_;rw[HI.out,if_pos hf]
  have HBZ:=HB2.out;have ht:=HBZ.2.2.1;have HO:=zQ0 (zcm (cs:=OpL.zcells) ht);have HK:=zQ0 (zcM (w.heap.size+1) OpL.zcells 0 w2);have HG:=zQ0 HBZ.2.2.2.1;have HZ:=zQ0 HBZ.2.2.2.2;clear HBZ
  go_wp2_with (refine wpList_store_mid rfl 35 (.tmp 2) (.tmp 13) rfl (w.heap.size+1) 0 OpL.zcells.toArray rfl rfl ht zbp (all_oneCell_toArray (OpL.cells_one OpL.nil)) ?_;generalize w2.setCells (w.heap.size+1) 0 OpL.zcells.toArray.toList=W at *)
  obtain⟨hGW,hIW⟩:=inv_end (y:=OpL.nil) HG.out HZ.out opNil_in HK.out;refine bodyPost_ret (v:=.tuple #[OpL.nil.val,.int .i64 fe]) (zcq Tryz.results75 _ W (w.heap.size+1) 0 OpL.zcells _ _ rfl rfl HO.out Tryz.underlying35 rfl zbp) rfl ?_;rw[HN.out];exact⟨OpL.nil,rfl,hGW,hIW,opNil_er⟩
end Go.Proofs.YtccobobnmpafbaaGreatDoor
