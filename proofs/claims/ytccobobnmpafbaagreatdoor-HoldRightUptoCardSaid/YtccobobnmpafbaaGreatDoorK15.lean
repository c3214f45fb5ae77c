/- xpoint.Move: the contract, whatever the point, the operation and the affinity. -/
import Derived.Test.YtccobobnmpafbaaGreatDoorK08
import Derived.Test.YtccobobnmpafbaaGreatDoorK05
import Derived.Test.YtccobobnmpafbaaGreatDoorK03
set_option maxRecDepth 100000
set_option maxHeartbeats 100000000
namespace Go.Proofs.YtccobobnmpafbaaGreatDoor
open Go Go.RowKit
theorem infoOpP:(Tryz.prog.info? 35).map (·.size)=some 21:=by kernel_rfl
def zce(m:List Int)(po kind pos:Int)(tl:Nat)(aff:Int):PtE × Bool :=
 if kind=7/\(pos < po\/(pos=po/\aff=1)) then (⟨m,po+tl⟩,true)
 else if kind=8/\pos < po then (⟨m,po - min (tl:Int) (po - pos)⟩,true)
 else if kind=3/\¬ m.length=0 then (⟨m,po+pos⟩,true)
 else if kind=4/\¬ m.length=0/\pos=po/\aff=0 then (PtE.nil,false)
 else if kind=4/\¬ m.length=0/\(pos < po\/(pos=po/\aff=1)) then (if (zbR m).2=0 then (⟨(zbR m).1,po - pos⟩,true) else (PtE.nil,false))
 else (⟨m,po⟩,true)
def ptGo(m:List Int)(p:PtE)(o:OpE)(aff:Int):PtE × Bool:=if ¬ o.path=p.p then (⟨m,p.o⟩,true) else zce m p.o o.kind o.pos o.text.length aff
def zcf(p:PtE)(o:OpE)(aff:Int):PtE × Bool :=
 if (zbO p.p o.path o.dest o.kind o.pos).2=false\/aff < 0\/2 < aff\/p.o < 0\/1048576 < p.o then (PtE.nil,false) else ptGo (zbO p.p o.path o.dest o.kind o.pos).1 p o aff
def RetPB(r:PtE × Bool)(w:World)(e:Ending)(w':World):Prop:=∃ q:PtL,e=.returned (.tuple #[.agg #[.slice q.p.a q.p.l.length q.p.c,.int .i64 q.o],.bool r.2])/\Grew w w'/\q.In w' w.heap.size w'.heap.size/\Hid (q.er=r.1)
theorem move_pos{p q d:List Int}{k n:Int}(h:(zbO p q d k n).2=true):0<=n/\n<=1048576:=by
 unfold zbO at h
 split at h
 ·rename_i hs
  exact badN_bound (by cases hb:badN n with | false=>rfl | true=>(have h2:=hs.2.2.2;simp[zcS,zbl,List.findIdx?_cons,hb] at h2))
 ·cases h
theorem zcg{w Wx W:World}{B lo:Nat}{v0 v1 u0 u1:Value}{a:Option Addr}{c:Nat}{l:List Int}(hg:Grew w Wx)(hB:w.heap.size<=B)(hlo:B < lo)(r0:Wx.cell? ⟨B,0,none⟩=some u0)(r1:Wx.cell? ⟨B,1,none⟩=some u1)(hq:IntsIn Wx lo Wx.heap.size a c l)(hW:W=(Wx.setCell ⟨B,0,none⟩ v0).setCell ⟨B,1,none⟩ v1):Grew w W/\W.cell? ⟨B,0,none⟩=some v0/\W.cell? ⟨B,1,none⟩=some v1/\IntsIn W w.heap.size W.heap.size a c l:=by
 subst hW;refine⟨(hg.setCell (by simpa using hB) _).setCell (by simpa using hB) _,?_,?_,?_⟩
 ·rw[zau (by simp)];exact zaw r0
 ·exact zaw (by rw[zau (by simp)];exact r1)
 ·have h:=IntsIn.agree hq ((zaf (u:=v0) (p:=⟨B,0,none⟩) (Or.inl (by simpa using hlo))).trans (zaf (u:=v1) (p:=⟨B,1,none⟩) (Or.inl (by simpa using hlo))));exact h.mono (by omega) (by simp)
theorem pt_mid{w w1 w2 w5:World}{B:Nat}{u u0 u1:Value}{a:Option Addr}{c:Nat}{l:List Int}(g01:Grew w w1)(g15:Grew w1 w5)(g25:Grew w2 w5)(z:w1.heap.size<=w2.heap.size)(hq:IntsIn w2 w1.heap.size w2.heap.size a c l)(k0:w5.cell? ⟨B,0,none⟩=some u0)(k1:w5.cell? ⟨B,1,none⟩=some u1)(hB:B < w2.heap.size) :
  Grew w (w5.setCell ⟨w2.heap.size,1,none⟩ u)/\(w5.setCell ⟨w2.heap.size,1,none⟩ u).cell? ⟨B,0,none⟩=some u0/\(w5.setCell ⟨w2.heap.size,1,none⟩ u).cell? ⟨B,1,none⟩=some u1/\IntsIn (w5.setCell ⟨w2.heap.size,1,none⟩ u) w1.heap.size (w5.setCell ⟨w2.heap.size,1,none⟩ u).heap.size a c l:=by
 have z1:=g01.size;refine⟨(g01.trans g15).setCell (by show w.heap.size<=w2.heap.size;omega) _,?_,?_,?_⟩
 ·rw[zav (fun he=>by injection he with h1;omega)];exact k0
 ·rw[zav (fun he=>by injection he with h1;omega)];exact k1
 ·have h:=IntsIn.agree (IntsIn.agree hq (g25.agree zQ1)) (zaf (u:=u) (p:=⟨w2.heap.size,1,none⟩) (Or.inr zQ1));exact h.mono zQ1 (by rw[World.size_setCell];exact g25.size)
theorem pt_mid2{w w1 w2 w5 w6:World}{B:Nat}{u v u0 u1:Value}{a:Option Addr}{c:Nat}{l:List Int}(g01:Grew w w1)(g16:Grew w1 w6)(z:w1.heap.size<=w2.heap.size)(z2:w2.heap.size < w5.heap.size)(z3:w1.heap.size<=w5.heap.size)(hr:IntsIn w6 w5.heap.size w6.heap.size a c l)(k0:w6.cell? ⟨B,0,none⟩=some u0)(k1:w6.cell? ⟨B,1,none⟩=some u1)(hB:B < w2.heap.size) :
  Grew w ((w6.setCell ⟨w2.heap.size,0,none⟩ u).setCell ⟨w2.heap.size,1,none⟩ v)/\((w6.setCell ⟨w2.heap.size,0,none⟩ u).setCell ⟨w2.heap.size,1,none⟩ v).cell? ⟨B,0,none⟩=some u0/\((w6.setCell ⟨w2.heap.size,0,none⟩ u).setCell ⟨w2.heap.size,1,none⟩ v).cell? ⟨B,1,none⟩=some u1 /\
   IntsIn ((w6.setCell ⟨w2.heap.size,0,none⟩ u).setCell ⟨w2.heap.size,1,none⟩ v) w1.heap.size ((w6.setCell ⟨w2.heap.size,0,none⟩ u).setCell ⟨w2.heap.size,1,none⟩ v).heap.size a c l:=by
 have z1:=g01.size;refine⟨((g01.trans g16).setCell (by show w.heap.size<=w2.heap.size;omega) _).setCell (by show w.heap.size<=w2.heap.size;omega) _,?_,?_,?_⟩
 ·rw[zav (fun he=>by injection he with h1;omega),zav (fun he=>by injection he with h1;omega)];exact k0
 ·rw[zav (fun he=>by injection he with h1;omega),zav (fun he=>by injection he with h1;omega)];exact k1
 ·have h:=IntsIn.agree hr ((zaf (u:=u) (p:=⟨w2.heap.size,0,none⟩) (Or.inl z2)).trans (zaf (u:=v) (p:=⟨w2.heap.size,1,none⟩) (Or.inl z2)));exact h.mono z3 (by rw[World.size_setCell,World.size_setCell];exact Nat.le_refl _)
theorem move_len4(p q d:List Int)(n:Int):(zbO p q d 4 n).1.length<=p.length:=by
 unfold zbO zbN
 repeat' split
 all_goals first | (simp[zcP];done) | omega
theorem ptMove_any(p:PtL)(o:OpL)(aff:Int)(w:World)(hp:p.In w 0 w.heap.size)(ho:o.In w 0 w.heap.size)(hl:p.p.l.length<=1048576)(hol:o.path.l.length<=1048576)(hdl:o.dest.l.length<=1048576)(hxl:o.text.length<=1048576) :
  Calls Tryz.prog 76 #[.agg #[.slice p.p.a p.p.l.length p.p.c,.int .i64 p.o],o.val,.int .i64 aff] w (RetPB (zcf p.er o.er aff) w):=by
 have later:∀ {a c l w1},IntsIn w 0 w.heap.size a c l->Grew w w1->IntsIn w1 0 w1.heap.size a c l:=fun h g=>(IntsIn.agree h (g.agree zQ1)).mono zQ1 g.size;have CM:=zQ0 (fun w1 (g:Grew w w1)=>move_any p.p.a p.p.c p.p.l o w1 (later hp g) (later ho.1.1 g) (later ho.1.2 g) hl hol hdl);have CS:=zQ0 (fun w1 (g:Grew w w1)=>trailSame_any o.path.a p.p.a o.path.c p.p.c o.path.l p.p.l w1 _ _ _ _ (later ho.1.1 g) (later hp g) hol hl zQ1 zQ1);have HMe:Hid (zcf p.er o.er aff=if (zbO p.p.l o.path.l o.dest.l o.kind o.pos).2=false\/aff < 0\/2 < aff\/p.o < 0\/1048576 < p.o then (PtE.nil,false) else ptGo (zbO p.p.l o.path.l o.dest.l o.kind o.pos).1 p.er o.er aff):=rfl;have HM4:Hid (o.kind=4->(zbO p.p.l o.path.l o.dest.l o.kind o.pos).1.length<=1048576):=fun h=>by rw[h];exact Nat.le_trans (move_len4 _ _ _ _) hl
 have HPOS:=zQ0 (fun h=>move_pos (p:=p.p.l) (q:=o.path.l) (d:=o.dest.l) (k:=o.kind) (n:=o.pos) h);generalize zcf p.er o.er aff=res at *;generalize zbO p.p.l o.path.l o.dest.l o.kind o.pos=mv at *;obtain⟨m,mb⟩:=mv;have HL1:=zQ0 (⟨hl,hol,hdl,hxl⟩:_/\_/\_/\_);have hpe:p.er=⟨p.p.l,p.o⟩:=rfl
 have HM:Hid (res=if mb=false\/aff < 0\/2 < aff\/p.o < 0\/1048576 < p.o then (PtE.nil,false) else if ¬ o.path.l=p.p.l then (⟨m,p.o⟩,true) else zce m p.o o.kind o.pos o.text.length aff):=by
  show _=_
  rw[HMe.out];rfl
 have HPOS0:=HPOS;have HPOS:Hid (mb=true->0<=o.pos/\o.pos<=1048576):=fun h=>HPOS0.out h;clear HMe HPOS0 hp ho later hl hol hdl hxl hpe;unfold OpL.val at *
 go_enter Tryz.func76,Tryz.ntmps76
 go_upto_region 1 with fail
 generalize hW:((w.alloc _).alloc _).alloc _=w1;obtain⟨g1,rP,rO,rR,tR,z1⟩:=zas w [.slice p.p.a p.p.l.length p.p.c,.int .i64 p.o] o.cells [.slice none 0 0,.int .i64 0] _ _ _ w1 hW;clear hW;generalize p.o=po at *;have g01:=zQ0 g1;have HZ:=zQ0 z1;have KB:=zQ0 (fun(w':World) (g:Grew w1 w')=>(have h:=zcj rP g (by omega);have h2:=zcj rO g (by omega);⟨zci h (j:=0) rfl,zci h (j:=1) rfl,zci h2 (j:=0) rfl,zci h2 (j:=1) rfl,zci h2 (j:=3) rfl,zci h2 (j:=10) rfl⟩:w'.cell? ⟨w.heap.size,0,none⟩=some (.slice p.p.a p.p.l.length p.p.c)/\w'.cell? ⟨w.heap.size,1,none⟩=some (.int .i64 po)/\w'.cell? ⟨w.heap.size+1,0,none⟩=some (.int .i64 o.kind)/\w'.cell? ⟨w.heap.size+1,1,none⟩=some (.slice o.path.a o.path.l.length o.path.c)/\w'.cell? ⟨w.heap.size+1,3,none⟩=some (.int .i64 o.pos)/\w'.cell? ⟨w.heap.size+1,10,none⟩=some (.slice o.xa o.text.length o.xc)));have KR:=zQ0 (fun(w':World) (g:Grew w1 w')=>(have h:=zcj rR g (by omega);⟨zci h (j:=0) rfl,zci h (j:=1) rfl,(g.frozen (p:=⟨w.heap.size+2,0,none⟩) (show w.heap.size+2 < w1.heap.size by omega)).trans (tR 0 (by decide)).2,(g.frozen (p:=⟨w.heap.size+2,1,none⟩) (show w.heap.size+2 < w1.heap.size by omega)).trans (tR 1 (by decide)).2⟩:w'.cell? ⟨w.heap.size+2,0,none⟩=some (.slice none 0 0)/\w'.cell? ⟨w.heap.size+2,1,none⟩=some (.int .i64 0)/\w'.frozen? ⟨w.heap.size+2,0,none⟩=false/\w'.frozen? ⟨w.heap.size+2,1,none⟩=false));clear rP rR tR g1 z1;obtain⟨p0,p1,o0,o1,o3,o10⟩:=KB.out w1 (Grew.refl _)
 go_wp2_with (refine wpList_load_mid rfl 35 (.tmp 4) rfl (w.heap.size+1) 0 rfl o.cells _ rO Tryz.underlying35 rfl infoOpP ?_)
 refine (CM.out w1 g01.out).mono ?_;rintro e w2 ⟨q,rfl,g2,hq,he⟩;have G12:=zQ0 g2;have HQ:=zQ0 hq;have HE:=zQ0 he;clear p0 p1 o0 o1 o3 o10 hq he rO;obtain⟨p0,p1,o0,o1,o3,o10⟩:=KB.out w2 g2;clear g2
 cases mb with
 | false =>
  have HN:Hid (res=(PtE.nil,false)):=by show _=_;rw[HM.out,if_pos (Or.inl rfl)]
  obtain⟨k0,k1,k2,k3⟩:=KR.out w2 G12.out;go_wp2_with fail
  have hW:=zcg (w:=w) (Wx:=w2) (B:=w.heap.size+2) (v0:=.slice none 0 0) (v1:=.int .i64 0) (l:=[]) (a:=none) (c:=0) (lo:=w1.heap.size) ((g01.out.trans G12.out)) (by omega) (by have:=HZ.out;omega) (by exact k0) (by exact k1) (zbu) rfl;generalize ((w2).setCell ⟨w.heap.size+2,0,none⟩ (.slice none 0 0)).setCell ⟨w.heap.size+2,1,none⟩ (.int .i64 0)=W' at *;obtain⟨hg',f0,f1,hq'⟩:=hW;refine bodyPost_ret (v:=.tuple #[.agg #[.slice none 0 0,.int .i64 0],.bool false]) (by simp[results,Tryz.results76,go_sem,f0,f1]) rfl ?_;rw[HN.out];exact⟨⟨⟨none,0,[]⟩,0⟩,rfl,hg',hq',rfl⟩
 | true =>
 by_cases hb:aff < 0
 ·have t0:decide (aff < 0)=true:=by simpa using hb
  have HN:Hid (res=(PtE.nil,false)):=by show _=_;rw[HM.out,if_pos (Or.inr (Or.inl hb))]
  obtain⟨k0,k1,k2,k3⟩:=KR.out w2 G12.out;go_wp2_with fail
  have hW:=zcg (w:=w) (Wx:=w2) (B:=w.heap.size+2) (v0:=.slice none 0 0) (v1:=.int .i64 0) (l:=[]) (a:=none) (c:=0) (lo:=w1.heap.size) ((g01.out.trans G12.out)) (by omega) (by have:=HZ.out;omega) (by exact k0) (by exact k1) (zbu) rfl;generalize ((w2).setCell ⟨w.heap.size+2,0,none⟩ (.slice none 0 0)).setCell ⟨w.heap.size+2,1,none⟩ (.int .i64 0)=W' at *;obtain⟨hg',f0,f1,hq'⟩:=hW;refine bodyPost_ret (v:=.tuple #[.agg #[.slice none 0 0,.int .i64 0],.bool false]) (by simp[results,Tryz.results76,go_sem,f0,f1]) rfl ?_;rw[HN.out];exact⟨⟨⟨none,0,[]⟩,0⟩,rfl,hg',hq',rfl⟩
 have b1:decide (aff < 0)=false:=by simpa using hb
 have b1':Hid (¬ aff < 0):=hb;clear hb
 by_cases hb:2 < aff
 ·have t0:decide (2 < aff)=true:=by simpa using hb
  have HN:Hid (res=(PtE.nil,false)):=by show _=_;rw[HM.out,if_pos (Or.inr (Or.inr (Or.inl hb)))]
  obtain⟨k0,k1,k2,k3⟩:=KR.out w2 G12.out;go_wp2_with fail
  have hW:=zcg (w:=w) (Wx:=w2) (B:=w.heap.size+2) (v0:=.slice none 0 0) (v1:=.int .i64 0) (l:=[]) (a:=none) (c:=0) (lo:=w1.heap.size) ((g01.out.trans G12.out)) (by omega) (by have:=HZ.out;omega) (by exact k0) (by exact k1) (zbu) rfl;generalize ((w2).setCell ⟨w.heap.size+2,0,none⟩ (.slice none 0 0)).setCell ⟨w.heap.size+2,1,none⟩ (.int .i64 0)=W' at *;obtain⟨hg',f0,f1,hq'⟩:=hW;refine bodyPost_ret (v:=.tuple #[.agg #[.slice none 0 0,.int .i64 0],.bool false]) (by simp[results,Tryz.results76,go_sem,f0,f1]) rfl ?_;rw[HN.out];exact⟨⟨⟨none,0,[]⟩,0⟩,rfl,hg',hq',rfl⟩
 have b2:decide (2 < aff)=false:=by simpa using hb
 have b2':Hid (¬ 2 < aff):=hb;clear hb
 by_cases hb:po < 0
 ·have t0:decide (po < 0)=true:=by simpa using hb
  have HN:Hid (res=(PtE.nil,false)):=by show _=_;rw[HM.out,if_pos (Or.inr (Or.inr (Or.inr (Or.inl hb))))]
  obtain⟨k0,k1,k2,k3⟩:=KR.out w2 G12.out;go_wp2_with fail
  have hW:=zcg (w:=w) (Wx:=w2) (B:=w.heap.size+2) (v0:=.slice none 0 0) (v1:=.int .i64 0) (l:=[]) (a:=none) (c:=0) (lo:=w1.heap.size) ((g01.out.trans G12.out)) (by omega) (by have:=HZ.out;omega) (by exact k0) (by exact k1) (zbu) rfl;generalize ((w2).setCell ⟨w.heap.size+2,0,none⟩ (.slice none 0 0)).setCell ⟨w.heap.size+2,1,none⟩ (.int .i64 0)=W' at *;obtain⟨hg',f0,f1,hq'⟩:=hW;refine bodyPost_ret (v:=.tuple #[.agg #[.slice none 0 0,.int .i64 0],.bool false]) (by simp[results,Tryz.results76,go_sem,f0,f1]) rfl ?_;rw[HN.out];exact⟨⟨⟨none,0,[]⟩,0⟩,rfl,hg',hq',rfl⟩
 have b3:decide (po < 0)=false:=by simpa using hb
 have b3':Hid (¬ po < 0):=hb;clear hb
 by_cases hb:1048576 < po
 ·have t0:decide (1048576 < po)=true:=by simpa using hb
  have HN:Hid (res=(PtE.nil,false)):=by show _=_;rw[HM.out,if_pos (Or.inr (Or.inr (Or.inr (Or.inr hb))))]
  obtain⟨k0,k1,k2,k3⟩:=KR.out w2 G12.out;go_wp2_with fail
  have hW:=zcg (w:=w) (Wx:=w2) (B:=w.heap.size+2) (v0:=.slice none 0 0) (v1:=.int .i64 0) (l:=[]) (a:=none) (c:=0) (lo:=w1.heap.size) ((g01.out.trans G12.out)) (by omega) (by have:=HZ.out;omega) (by exact k0) (by exact k1) (zbu) rfl;generalize ((w2).setCell ⟨w.heap.size+2,0,none⟩ (.slice none 0 0)).setCell ⟨w.heap.size+2,1,none⟩ (.int .i64 0)=W' at *;obtain⟨hg',f0,f1,hq'⟩:=hW;refine bodyPost_ret (v:=.tuple #[.agg #[.slice none 0 0,.int .i64 0],.bool false]) (by simp[results,Tryz.results76,go_sem,f0,f1]) rfl ?_;rw[HN.out];exact⟨⟨⟨none,0,[]⟩,0⟩,rfl,hg',hq',rfl⟩
 have b4:decide (1048576 < po)=false:=by simpa using hb
 have b4':Hid (¬ 1048576 < po):=hb;clear hb
 have HM1:Hid (res=if ¬ o.path.l=p.p.l then (⟨m,po⟩,true) else zce m po o.kind o.pos o.text.length aff):=by
  show _=_
  rw[HM.out,if_neg (by have h1:=b1'.out;have h2:=b2'.out;have h3:=b3'.out;have h4:=b4'.out;rintro (h | h | h | h | h) <;> first | exact Bool.noConfusion h | omega)]
 clear HM;have HB:Hid ((0<=po/\po<=1048576)/\0<=o.pos/\o.pos<=1048576):=⟨by have h3:=b3'.out;have h4:=b4'.out;omega,HPOS.out rfl⟩
 obtain⟨k0,k1,k2,k3⟩:=KR.out w2 G12.out;go_upto_region 5 with fail
 generalize hW3:w2.alloc _=w3;obtain⟨g23,rQ,tQ,_⟩:=zaq w2 [.slice q.a q.l.length q.c,.int .i64 po] _ w3 hW3;have z3:w3.heap.size=w2.heap.size+1:=by rw[<- hW3];exact World.size_alloc _ _
 have z12:=G12.out.size;have KO:=zQ0 (fun(w':World) (g:Grew w3 w')=>(have h:=zcj rQ g (by omega);⟨zci h (j:=0) rfl,zci h (j:=1) rfl,(g.frozen (p:=⟨w2.heap.size,0,none⟩) (show w2.heap.size < w3.heap.size by omega)).trans (tQ 0 (by simp)).2,(g.frozen (p:=⟨w2.heap.size,1,none⟩) (show w2.heap.size < w3.heap.size by omega)).trans (tQ 1 (by simp)).2⟩:w'.cell? ⟨w2.heap.size,0,none⟩=some (.slice q.a q.l.length q.c)/\w'.cell? ⟨w2.heap.size,1,none⟩=some (.int .i64 po)/\w'.frozen? ⟨w2.heap.size,0,none⟩=false/\w'.frozen? ⟨w2.heap.size,1,none⟩=false));have HZ3:=zQ0 (⟨z3,z12⟩:_/\_);have G23:=zQ0 g23;clear hW3 g23 rQ tQ z3 z12 p0 p1 o0 o1 o3 o10 k0 k1 k2 k3;obtain⟨p0,p1,o0,o1,o3,o10⟩:=KB.out w3 (G12.out.trans G23.out);go_wp2_with fail
 refine (CS.out w3 (g01.out.trans (G12.out.trans G23.out))).mono ?_;rintro e w4 ⟨rfl,g4⟩;clear p0 p1 o0 o1 o3 o10;have G34:=zQ0 g4;have G24:=zQ0 (G23.out.trans g4);have G14:=zQ0 (G12.out.trans (G23.out.trans g4));clear g4 G23 CS;obtain⟨p0,p1,o0,o1,o3,o10⟩:=KB.out w4 G14.out;obtain⟨k0,k1,k2,k3⟩:=KR.out w4 G14.out;obtain⟨x0,x1,x2,x3⟩:=KO.out w4 G34.out
 by_cases hs:o.path.l=p.p.l
 ·have t5:decide (o.path.l=p.p.l)=true:=by simpa using hs
  have HM2:Hid (res=zce m po o.kind o.pos o.text.length aff):=by show _=_;rw[HM1.out,if_neg (by simpa using hs)]
  clear HM1 hs;generalize o.path.l=opl at *;generalize p.p.l=ppl at *;obtain⟨rt,hrt⟩:∃ b,((q.l.length:Int) == 0)=b:=⟨_,rfl⟩
  obtain⟨ab,hab⟩:∃ b,(o.pos == po)=b:=⟨_,rfl⟩
  go_upto_region 7 with fail
  go_quiet (fail)
  generalize hD:World.drewN w4 _=w5;have G15:Hid (Grew w1 w5):=by show Grew _ _;rw[<- hD];exact G14.out.drewN _
  have G25:Hid (Grew w2 w5):=by show Grew _ _;rw[<- hD];exact G24.out.drewN _
  have G35:Hid (Grew w3 w5):=by show Grew _ _;rw[<- hD];exact G34.out.drewN _
  clear hD p0 p1 o0 o1 o3 o10 k0 k1 k2 k3 x0 x1 x2 x3 G14 G24 G34;obtain⟨p0,p1,o0,o1,o3,o10⟩:=KB.out w5 G15.out;obtain⟨k0,k1,k2,k3⟩:=KR.out w5 G15.out;obtain⟨x0,x1,x2,x3⟩:=KO.out w5 G35.out;obtain⟨pu,hpu⟩:∃ b,decide (o.pos < po\/(o.pos=po/\aff=1))=b:=⟨_,rfl⟩
  have HAB:Hid (ab=decide (o.pos=po)):=by show _=_;rw[<- hab];by_cases h:o.pos=po <;> simp[h]
  go_upto_region 8 with fail
  go_cut [13] (fun s13 wx=>s13=.bool pu/\wx=w5)
  case first =>
   by_cases h1:o.pos < po
   ·have t6:decide (o.pos < po)=true:=by simpa using h1
    have HP:Hid (pu=true):=by show _=_;rw[<- hpu];simp[h1]
    clear h1;clear hpu;go_wp2_with fail
    go_meet
    exact⟨by rw[HP.out],rfl⟩
   ·have t6:decide (o.pos < po)=false:=by simpa using h1
    cases ab with
    | false =>
     have HP:Hid (pu=false):=by
      show _=_
      rw[<- hpu];have h2:¬ o.pos=po:=by have:=HAB.out;simpa using this.symm
      simp[h1,h2]
     clear h1;clear hpu;go_wp2_with fail
     go_meet
     exact⟨by rw[HP.out],rfl⟩
    | true =>
     have h2:o.pos=po:=by have:=HAB.out;simpa using this.symm
     by_cases h3:aff=1
     ·have t7:(aff == 1)=true:=by simpa using h3
      have HP:Hid (pu=true):=by show _=_;rw[<- hpu];simp[h2,h3]
      clear h1 h2 h3;clear hpu;go_wp2_with fail
      go_meet
      exact⟨by rw[HP.out],rfl⟩
     ·have t7:(aff == 1)=false:=by simpa using h3
      have HP:Hid (pu=false):=by show _=_;rw[<- hpu];simp[h1,h3]
      clear h1 h2 h3;clear hpu;go_wp2_with fail
      go_meet
      exact⟨by rw[HP.out],rfl⟩
  case rest =>
   obtain⟨rfl,hwc⟩:=hcut;rw[hwc];clear hwc;have HPU:Hid (pu=true ↔ (o.pos < po\/(o.pos=po/\aff=1))):=by show _ ↔ _;rw[<- hpu];simp
   have HRT:Hid (rt=true ↔ m.length=0):=by show _ ↔ _;rw[<- hrt,<- HE.out];simp
   have HW0:Hid (IntKind.i64.wrap (po - o.pos)=po - o.pos):=by show _=_;have h1:=HB.out;rw[IntKind.wrap_i64];omega
   have hne1:¬ w2.heap.size=w.heap.size+1+1:=by have h1:=HZ.out;have h2:=HZ3.out.2;omega
   have hne2:¬ w.heap.size+1+1=w2.heap.size:=fun h=>hne1 h.symm
   by_cases k7:o.kind=7
   ·have t7:(o.kind == 7)=true:=by simpa using k7
    cases pu with
    | true =>
     have hwr:IntKind.i64.wrap (po+(o.text.length:Int))=po+o.text.length:=by have h1:=HB.out;have h2:=HL1.out.2.2.2;rw[IntKind.wrap_i64];omega
     have HN:Hid (res=(⟨m,po+o.text.length⟩,true)):=by show _=_;rw[HM2.out];unfold zce;rw[if_pos ⟨k7,HPU.out.1 rfl⟩]
     have HX:=zQ0 (pt_mid (u:=.int .i64 (po+o.text.length)) g01.out G15.out G25.out HZ3.out.2 HQ.out k0 k1 (by have h1:=HZ.out;have h2:=HZ3.out.2;omega));clear hpu hrt hab;go_wp2_with fail
     have hW:=zcg (w:=w) (Wx:=w5.setCell ⟨w2.heap.size,1,none⟩ (.int .i64 (po+o.text.length))) (B:=w.heap.size+2) (v0:=.slice q.a q.l.length q.c) (v1:=.int .i64 (po+o.text.length)) (l:=q.l) (a:=q.a) (c:=q.c) (lo:=w1.heap.size) (HX.out.1) (by omega) (by have:=HZ.out;omega) (by exact HX.out.2.1) (by exact HX.out.2.2.1) (HX.out.2.2.2) rfl;generalize ((w5.setCell ⟨w2.heap.size,1,none⟩ (.int .i64 (po+o.text.length))).setCell ⟨w.heap.size+2,0,none⟩ (.slice q.a q.l.length q.c)).setCell ⟨w.heap.size+2,1,none⟩ (.int .i64 (po+o.text.length))=W' at *;obtain⟨hg',f0,f1,hq'⟩:=hW;refine bodyPost_ret (v:=.tuple #[.agg #[.slice q.a q.l.length q.c,.int .i64 (po+o.text.length)],.bool true]) (by simp[results,Tryz.results76,go_sem,f0,f1]) rfl ?_;rw[HN.out];exact⟨⟨⟨q.a,q.c,q.l⟩,(po+o.text.length)⟩,rfl,hg',hq',by show (⟨q.l,po+o.text.length⟩:PtE)=⟨m,po+o.text.length⟩;rw[HE.out]⟩
    | false =>
     have HN:Hid (res=(⟨m,po⟩,true)):=by
      show _=_
      rw[HM2.out];unfold zce;rw[if_neg (fun h=>Bool.noConfusion (HPU.out.2 h.2)),if_neg (fun h=>by omega),if_neg (fun h=>by omega),if_neg (fun h=>by omega),if_neg (fun h=>by omega)]
     clear hpu hrt hab;go_wp2_with fail
     have hW:=zcg (w:=w) (Wx:=w5) (B:=w.heap.size+2) (v0:=.slice q.a q.l.length q.c) (v1:=.int .i64 po) (l:=q.l) (a:=q.a) (c:=q.c) (lo:=w1.heap.size) ((g01.out.trans G15.out)) (by omega) (by have:=HZ.out;omega) (by exact k0) (by exact k1) ((IntsIn.agree HQ.out (G25.out.agree zQ1)).mono zQ1 G25.out.size) rfl;generalize ((w5).setCell ⟨w.heap.size+2,0,none⟩ (.slice q.a q.l.length q.c)).setCell ⟨w.heap.size+2,1,none⟩ (.int .i64 po)=W' at *;obtain⟨hg',f0,f1,hq'⟩:=hW;refine bodyPost_ret (v:=.tuple #[.agg #[.slice q.a q.l.length q.c,.int .i64 po],.bool true]) (by simp[results,Tryz.results76,go_sem,f0,f1]) rfl ?_;rw[HN.out];exact⟨⟨⟨q.a,q.c,q.l⟩,po⟩,rfl,hg',hq',by show (⟨q.l,po⟩:PtE)=⟨m,po⟩;rw[HE.out]⟩
   have t7:(o.kind == 7)=false:=by simpa using k7
   by_cases k8:o.kind=8
   ·have t8:(o.kind == 8)=true:=by simpa using k8
    by_cases hlt:o.pos < po
    ·have t6:decide (o.pos < po)=true:=by simpa using hlt
     have hw0:=HW0.out;have hwr:IntKind.i64.wrap (po - min (o.text.length:Int) (po - o.pos))=po - min (o.text.length:Int) (po - o.pos):=by have h1:=HB.out;have h2:=HL1.out.2.2.2;rw[IntKind.wrap_i64];omega
     have HN:Hid (res=(⟨m,po - min (o.text.length:Int) (po - o.pos)⟩,true)):=by show _=_;rw[HM2.out];unfold zce;rw[if_neg (fun h=>by omega),if_pos ⟨k8,hlt⟩]
     clear hlt;have HX:=zQ0 (pt_mid (u:=.int .i64 (po - min (o.text.length:Int) (po - o.pos))) g01.out G15.out G25.out HZ3.out.2 HQ.out k0 k1 (by have h1:=HZ.out;have h2:=HZ3.out.2;omega));clear hpu hrt hab;go_wp2_with fail
     have hW:=zcg (w:=w) (Wx:=w5.setCell ⟨w2.heap.size,1,none⟩ (.int .i64 (po - min (o.text.length:Int) (po - o.pos)))) (B:=w.heap.size+2) (v0:=.slice q.a q.l.length q.c) (v1:=.int .i64 (po - min (o.text.length:Int) (po - o.pos))) (l:=q.l) (a:=q.a) (c:=q.c) (lo:=w1.heap.size) (HX.out.1) (by omega) (by have:=HZ.out;omega) (by exact HX.out.2.1) (by exact HX.out.2.2.1) (HX.out.2.2.2) rfl;generalize ((w5.setCell ⟨w2.heap.size,1,none⟩ (.int .i64 (po - min (o.text.length:Int) (po - o.pos)))).setCell ⟨w.heap.size+2,0,none⟩ (.slice q.a q.l.length q.c)).setCell ⟨w.heap.size+2,1,none⟩ (.int .i64 (po - min (o.text.length:Int) (po - o.pos)))=W' at *;obtain⟨hg',f0,f1,hq'⟩:=hW;refine bodyPost_ret (v:=.tuple #[.agg #[.slice q.a q.l.length q.c,.int .i64 (po - min (o.text.length:Int) (po - o.pos))],.bool true]) (by simp[results,Tryz.results76,go_sem,f0,f1]) rfl ?_;rw[HN.out];exact⟨⟨⟨q.a,q.c,q.l⟩,(po - min (o.text.length:Int) (po - o.pos))⟩,rfl,hg',hq',by show (⟨q.l,po - min (o.text.length:Int) (po - o.pos)⟩:PtE)=⟨m,po - min (o.text.length:Int) (po - o.pos)⟩;rw[HE.out]⟩
    ·have t6:decide (o.pos < po)=false:=by simpa using hlt
     have HN:Hid (res=(⟨m,po⟩,true)):=by
      show _=_
      rw[HM2.out];unfold zce;rw[if_neg (fun h=>by omega),if_neg (fun h=>hlt h.2),if_neg (fun h=>by omega),if_neg (fun h=>by omega),if_neg (fun h=>by omega)]
     clear hlt;clear hpu hrt hab;go_wp2_with fail
     have hW:=zcg (w:=w) (Wx:=w5) (B:=w.heap.size+2) (v0:=.slice q.a q.l.length q.c) (v1:=.int .i64 po) (l:=q.l) (a:=q.a) (c:=q.c) (lo:=w1.heap.size) ((g01.out.trans G15.out)) (by omega) (by have:=HZ.out;omega) (by exact k0) (by exact k1) ((IntsIn.agree HQ.out (G25.out.agree zQ1)).mono zQ1 G25.out.size) rfl;generalize ((w5).setCell ⟨w.heap.size+2,0,none⟩ (.slice q.a q.l.length q.c)).setCell ⟨w.heap.size+2,1,none⟩ (.int .i64 po)=W' at *;obtain⟨hg',f0,f1,hq'⟩:=hW;refine bodyPost_ret (v:=.tuple #[.agg #[.slice q.a q.l.length q.c,.int .i64 po],.bool true]) (by simp[results,Tryz.results76,go_sem,f0,f1]) rfl ?_;rw[HN.out];exact⟨⟨⟨q.a,q.c,q.l⟩,po⟩,rfl,hg',hq',by show (⟨q.l,po⟩:PtE)=⟨m,po⟩;rw[HE.out]⟩
   have t8:(o.kind == 8)=false:=by simpa using k8
   by_cases k3:o.kind=3
   ·have t3:(o.kind == 3)=true:=by simpa using k3
    cases rt with
    | true =>
     have HN:Hid (res=(⟨m,po⟩,true)):=by
      show _=_
      rw[HM2.out];unfold zce;rw[if_neg (fun h=>by omega),if_neg (fun h=>by omega),if_neg (fun h=>h.2 (HRT.out.1 rfl)),if_neg (fun h=>by omega),if_neg (fun h=>by omega)]
     clear hpu hrt hab;go_wp2_with fail
     have hW:=zcg (w:=w) (Wx:=w5) (B:=w.heap.size+2) (v0:=.slice q.a q.l.length q.c) (v1:=.int .i64 po) (l:=q.l) (a:=q.a) (c:=q.c) (lo:=w1.heap.size) ((g01.out.trans G15.out)) (by omega) (by have:=HZ.out;omega) (by exact k0) (by exact k1) ((IntsIn.agree HQ.out (G25.out.agree zQ1)).mono zQ1 G25.out.size) rfl;generalize ((w5).setCell ⟨w.heap.size+2,0,none⟩ (.slice q.a q.l.length q.c)).setCell ⟨w.heap.size+2,1,none⟩ (.int .i64 po)=W' at *;obtain⟨hg',f0,f1,hq'⟩:=hW;refine bodyPost_ret (v:=.tuple #[.agg #[.slice q.a q.l.length q.c,.int .i64 po],.bool true]) (by simp[results,Tryz.results76,go_sem,f0,f1]) rfl ?_;rw[HN.out];exact⟨⟨⟨q.a,q.c,q.l⟩,po⟩,rfl,hg',hq',by show (⟨q.l,po⟩:PtE)=⟨m,po⟩;rw[HE.out]⟩
    | false =>
     have hwr:IntKind.i64.wrap (po+o.pos)=po+o.pos:=by have h1:=HB.out;rw[IntKind.wrap_i64];omega
     have HN:Hid (res=(⟨m,po+o.pos⟩,true)):=by show _=_;rw[HM2.out];unfold zce;rw[if_neg (fun h=>by omega),if_neg (fun h=>by omega),if_pos ⟨k3,fun h=>Bool.noConfusion (HRT.out.2 h)⟩]
     have HX:=zQ0 (pt_mid (u:=.int .i64 (po+o.pos)) g01.out G15.out G25.out HZ3.out.2 HQ.out k0 k1 (by have h1:=HZ.out;have h2:=HZ3.out.2;omega));clear hpu hrt hab;go_wp2_with fail
     have hW:=zcg (w:=w) (Wx:=w5.setCell ⟨w2.heap.size,1,none⟩ (.int .i64 (po+o.pos))) (B:=w.heap.size+2) (v0:=.slice q.a q.l.length q.c) (v1:=.int .i64 (po+o.pos)) (l:=q.l) (a:=q.a) (c:=q.c) (lo:=w1.heap.size) (HX.out.1) (by omega) (by have:=HZ.out;omega) (by exact HX.out.2.1) (by exact HX.out.2.2.1) (HX.out.2.2.2) rfl;generalize ((w5.setCell ⟨w2.heap.size,1,none⟩ (.int .i64 (po+o.pos))).setCell ⟨w.heap.size+2,0,none⟩ (.slice q.a q.l.length q.c)).setCell ⟨w.heap.size+2,1,none⟩ (.int .i64 (po+o.pos))=W' at *;obtain⟨hg',f0,f1,hq'⟩:=hW;refine bodyPost_ret (v:=.tuple #[.agg #[.slice q.a q.l.length q.c,.int .i64 (po+o.pos)],.bool true]) (by simp[results,Tryz.results76,go_sem,f0,f1]) rfl ?_;rw[HN.out];exact⟨⟨⟨q.a,q.c,q.l⟩,(po+o.pos)⟩,rfl,hg',hq',by show (⟨q.l,po+o.pos⟩:PtE)=⟨m,po+o.pos⟩;rw[HE.out]⟩
   have t3:(o.kind == 3)=false:=by simpa using k3
   by_cases k4:o.kind=4
   ·have t4:(o.kind == 4)=true:=by simpa using k4
    cases rt with
    | true =>
     have HN:Hid (res=(⟨m,po⟩,true)):=by
      show _=_
      rw[HM2.out];unfold zce;rw[if_neg (fun h=>by omega),if_neg (fun h=>by omega),if_neg (fun h=>by omega),if_neg (fun h=>h.2.1 (HRT.out.1 rfl)),if_neg (fun h=>h.2.1 (HRT.out.1 rfl))]
     clear hpu hrt hab;go_wp2_with fail
     have hW:=zcg (w:=w) (Wx:=w5) (B:=w.heap.size+2) (v0:=.slice q.a q.l.length q.c) (v1:=.int .i64 po) (l:=q.l) (a:=q.a) (c:=q.c) (lo:=w1.heap.size) ((g01.out.trans G15.out)) (by omega) (by have:=HZ.out;omega) (by exact k0) (by exact k1) ((IntsIn.agree HQ.out (G25.out.agree zQ1)).mono zQ1 G25.out.size) rfl;generalize ((w5).setCell ⟨w.heap.size+2,0,none⟩ (.slice q.a q.l.length q.c)).setCell ⟨w.heap.size+2,1,none⟩ (.int .i64 po)=W' at *;obtain⟨hg',f0,f1,hq'⟩:=hW;refine bodyPost_ret (v:=.tuple #[.agg #[.slice q.a q.l.length q.c,.int .i64 po],.bool true]) (by simp[results,Tryz.results76,go_sem,f0,f1]) rfl ?_;rw[HN.out];exact⟨⟨⟨q.a,q.c,q.l⟩,po⟩,rfl,hg',hq',by show (⟨q.l,po⟩:PtE)=⟨m,po⟩;rw[HE.out]⟩
    | false =>
     have HR0:Hid (¬ m.length=0):=fun h=>Bool.noConfusion (HRT.out.2 h)
     have HM3:Hid (res=if o.pos=po/\aff=0 then (PtE.nil,false) else if (o.pos < po\/(o.pos=po/\aff=1)) then (if (zbR m).2=0 then (⟨(zbR m).1,po - o.pos⟩,true) else (PtE.nil,false)) else (⟨m,po⟩,true)):=by
      show _=_
      have h0:=HR0.out;rw[HM2.out];unfold zce;rw[if_neg (fun h=>by omega),if_neg (fun h=>by omega),if_neg (fun h=>by omega)];simp only[k4,h0,not_false_eq_true,true_and]
     clear HM2
     cases ab with
     | true =>
      have h2:Hid (o.pos=po):=by show _=_;have:=HAB.out;simpa using this.symm
      by_cases h3:aff=0
      ·have t8:(aff == 0)=true:=by simpa using h3
       have HN:Hid (res=(PtE.nil,false)):=by show _=_;rw[HM3.out,if_pos ⟨h2.out,h3⟩]
       clear hpu hrt hab h3;go_wp2_with fail
       have hW:=zcg (w:=w) (Wx:=w5) (B:=w.heap.size+2) (v0:=.slice none 0 0) (v1:=.int .i64 0) (l:=[]) (a:=none) (c:=0) (lo:=w1.heap.size) ((g01.out.trans G15.out)) (by omega) (by have:=HZ.out;omega) (by exact k0) (by exact k1) (zbu) rfl;generalize ((w5).setCell ⟨w.heap.size+2,0,none⟩ (.slice none 0 0)).setCell ⟨w.heap.size+2,1,none⟩ (.int .i64 0)=W' at *;obtain⟨hg',f0,f1,hq'⟩:=hW;refine bodyPost_ret (v:=.tuple #[.agg #[.slice none 0 0,.int .i64 0],.bool false]) (by simp[results,Tryz.results76,go_sem,f0,f1]) rfl ?_;rw[HN.out];exact⟨⟨⟨none,0,[]⟩,0⟩,rfl,hg',hq',rfl⟩
      ·have t8:(aff == 0)=false:=by simpa using h3
       cases pu with
       | true =>
        have HM5:Hid (res=if (zbR m).2=0 then (⟨(zbR m).1,po - o.pos⟩,true) else (PtE.nil,false)):=by show _=_;rw[HM3.out,if_neg (fun h=>h3 h.2),if_pos (HPU.out.1 rfl)]
        have CN:Hid (Calls Tryz.prog 129 #[.slice q.a q.l.length q.c] w5 (RetPN (zbR m) w5)):=by
         show Calls _ _ _ _ _
         have h:=trailNext_any q.a q.c q.l w5 ((IntsIn.agree HQ.out (G25.out.agree zQ1)).mono (Nat.zero_le _) G25.out.size) (by rw[HE.out];exact HM4.out k4);rw[HE.out] at h;rw[HE.out];exact h
        clear hpu hrt hab HM3;generalize zbR m=nr at *;obtain⟨rl,rk⟩:=nr;go_wp2_with fail
        refine CN.out.mono ?_;rintro e w6 ⟨r,rfl,g6,hr,hre⟩;have HRR:=zQ0 hr;have HRE:=zQ0 hre;have G16:=zQ0 (G15.out.trans g6);have G36:=zQ0 (G35.out.trans g6);clear g6 hr hre p0 p1 o0 o1 o3 o10 k0 k1 k2 k3 x0 x1 x2 x3 CN;obtain⟨p0,p1,o0,o1,o3,o10⟩:=KB.out w6 G16.out;obtain⟨k0,k1,k2,k3⟩:=KR.out w6 G16.out;obtain⟨x0,x1,x2,x3⟩:=KO.out w6 G36.out
        by_cases hk:rk=0
        ·subst hk;have HN:Hid (res=(⟨rl,po - o.pos⟩,true)):=by show _=_;rw[HM5.out];rfl
         have HX:=zQ0 (pt_mid2 (u:=.slice r.a r.l.length r.c) (v:=.int .i64 (po - o.pos)) g01.out G16.out HZ3.out.2 (show w2.heap.size < w5.heap.size by have h1:=HZ3.out.1;have h2:=G35.out.size;omega) (show w1.heap.size<=w5.heap.size from G15.out.size) HRR.out k0 k1 (by have h1:=HZ.out;have h2:=HZ3.out.2;omega));have hw0:=HW0.out;go_wp2_with fail
         have hW:=zcg (w:=w) (Wx:=(w6.setCell ⟨w2.heap.size,0,none⟩ (.slice r.a r.l.length r.c)).setCell ⟨w2.heap.size,1,none⟩ (.int .i64 (po - o.pos))) (B:=w.heap.size+2) (v0:=.slice r.a r.l.length r.c) (v1:=.int .i64 (po - o.pos)) (l:=r.l) (a:=r.a) (c:=r.c) (lo:=w1.heap.size) (HX.out.1) (by omega) (by have:=HZ.out;omega) (by exact HX.out.2.1) (by exact HX.out.2.2.1) (HX.out.2.2.2) rfl;generalize (((w6.setCell ⟨w2.heap.size,0,none⟩ (.slice r.a r.l.length r.c)).setCell ⟨w2.heap.size,1,none⟩ (.int .i64 (po - o.pos))).setCell ⟨w.heap.size+2,0,none⟩ (.slice r.a r.l.length r.c)).setCell ⟨w.heap.size+2,1,none⟩ (.int .i64 (po - o.pos))=W' at *;obtain⟨hg',f0,f1,hq'⟩:=hW;refine bodyPost_ret (v:=.tuple #[.agg #[.slice r.a r.l.length r.c,.int .i64 (po - o.pos)],.bool true]) (by simp[results,Tryz.results76,go_sem,f0,f1]) rfl ?_;rw[HN.out];exact⟨⟨⟨r.a,r.c,r.l⟩,(po - o.pos)⟩,rfl,hg',hq',by show (⟨r.l,po - o.pos⟩:PtE)=⟨rl,po - o.pos⟩;rw[HRE.out]⟩
        ·have t9:(rk != 0)=true:=by simpa using hk
         have HN:Hid (res=(PtE.nil,false)):=by show _=_;rw[HM5.out,if_neg hk]
         go_wp2_with fail
         have hW:=zcg (w:=w) (Wx:=w6) (B:=w.heap.size+2) (v0:=.slice none 0 0) (v1:=.int .i64 0) (l:=[]) (a:=none) (c:=0) (lo:=w1.heap.size) ((g01.out.trans G16.out)) (by omega) (by have:=HZ.out;omega) (by exact k0) (by exact k1) (zbu) rfl;generalize ((w6).setCell ⟨w.heap.size+2,0,none⟩ (.slice none 0 0)).setCell ⟨w.heap.size+2,1,none⟩ (.int .i64 0)=W' at *;obtain⟨hg',f0,f1,hq'⟩:=hW;refine bodyPost_ret (v:=.tuple #[.agg #[.slice none 0 0,.int .i64 0],.bool false]) (by simp[results,Tryz.results76,go_sem,f0,f1]) rfl ?_;rw[HN.out];exact⟨⟨⟨none,0,[]⟩,0⟩,rfl,hg',hq',rfl⟩
       | false =>
        have HN:Hid (res=(⟨m,po⟩,true)):=by show _=_;rw[HM3.out,if_neg (fun h=>h3 h.2),if_neg (fun h=>Bool.noConfusion (HPU.out.2 h))]
        clear hpu hrt hab;go_wp2_with fail
        have hW:=zcg (w:=w) (Wx:=w5) (B:=w.heap.size+2) (v0:=.slice q.a q.l.length q.c) (v1:=.int .i64 po) (l:=q.l) (a:=q.a) (c:=q.c) (lo:=w1.heap.size) ((g01.out.trans G15.out)) (by omega) (by have:=HZ.out;omega) (by exact k0) (by exact k1) ((IntsIn.agree HQ.out (G25.out.agree zQ1)).mono zQ1 G25.out.size) rfl;generalize ((w5).setCell ⟨w.heap.size+2,0,none⟩ (.slice q.a q.l.length q.c)).setCell ⟨w.heap.size+2,1,none⟩ (.int .i64 po)=W' at *;obtain⟨hg',f0,f1,hq'⟩:=hW;refine bodyPost_ret (v:=.tuple #[.agg #[.slice q.a q.l.length q.c,.int .i64 po],.bool true]) (by simp[results,Tryz.results76,go_sem,f0,f1]) rfl ?_;rw[HN.out];exact⟨⟨⟨q.a,q.c,q.l⟩,po⟩,rfl,hg',hq',by show (⟨q.l,po⟩:PtE)=⟨m,po⟩;rw[HE.out]⟩
     | false =>
      have h2:Hid (¬ o.pos=po):=by show ¬ _;have:=HAB.out;simpa using this.symm
      cases pu with
      | true =>
       have HM5:Hid (res=if (zbR m).2=0 then (⟨(zbR m).1,po - o.pos⟩,true) else (PtE.nil,false)):=by show _=_;rw[HM3.out,if_neg (fun h=>h2.out h.1),if_pos (HPU.out.1 rfl)]
       have CN:Hid (Calls Tryz.prog 129 #[.slice q.a q.l.length q.c] w5 (RetPN (zbR m) w5)):=by
        show Calls _ _ _ _ _
        have h:=trailNext_any q.a q.c q.l w5 ((IntsIn.agree HQ.out (G25.out.agree zQ1)).mono (Nat.zero_le _) G25.out.size) (by rw[HE.out];exact HM4.out k4);rw[HE.out] at h;rw[HE.out];exact h
       clear hpu hrt hab HM3;generalize zbR m=nr at *;obtain⟨rl,rk⟩:=nr;go_wp2_with fail
       refine CN.out.mono ?_;rintro e w6 ⟨r,rfl,g6,hr,hre⟩;have HRR:=zQ0 hr;have HRE:=zQ0 hre;have G16:=zQ0 (G15.out.trans g6);have G36:=zQ0 (G35.out.trans g6);clear g6 hr hre p0 p1 o0 o1 o3 o10 k0 k1 k2 k3 x0 x1 x2 x3 CN;obtain⟨p0,p1,o0,o1,o3,o10⟩:=KB.out w6 G16.out;obtain⟨k0,k1,k2,k3⟩:=KR.out w6 G16.out;obtain⟨x0,x1,x2,x3⟩:=KO.out w6 G36.out
       by_cases hk:rk=0
       ·subst hk;have HN:Hid (res=(⟨rl,po - o.pos⟩,true)):=by show _=_;rw[HM5.out];rfl
        have HX:=zQ0 (pt_mid2 (u:=.slice r.a r.l.length r.c) (v:=.int .i64 (po - o.pos)) g01.out G16.out HZ3.out.2 (show w2.heap.size < w5.heap.size by have h1:=HZ3.out.1;have h2:=G35.out.size;omega) (show w1.heap.size<=w5.heap.size from G15.out.size) HRR.out k0 k1 (by have h1:=HZ.out;have h2:=HZ3.out.2;omega));have hw0:=HW0.out;go_wp2_with fail
        have hW:=zcg (w:=w) (Wx:=(w6.setCell ⟨w2.heap.size,0,none⟩ (.slice r.a r.l.length r.c)).setCell ⟨w2.heap.size,1,none⟩ (.int .i64 (po - o.pos))) (B:=w.heap.size+2) (v0:=.slice r.a r.l.length r.c) (v1:=.int .i64 (po - o.pos)) (l:=r.l) (a:=r.a) (c:=r.c) (lo:=w1.heap.size) (HX.out.1) (by omega) (by have:=HZ.out;omega) (by exact HX.out.2.1) (by exact HX.out.2.2.1) (HX.out.2.2.2) rfl;generalize (((w6.setCell ⟨w2.heap.size,0,none⟩ (.slice r.a r.l.length r.c)).setCell ⟨w2.heap.size,1,none⟩ (.int .i64 (po - o.pos))).setCell ⟨w.heap.size+2,0,none⟩ (.slice r.a r.l.length r.c)).setCell ⟨w.heap.size+2,1,none⟩ (.int .i64 (po - o.pos))=W' at *;obtain⟨hg',f0,f1,hq'⟩:=hW;refine bodyPost_ret (v:=.tuple #[.agg #[.slice r.a r.l.length r.c,.int .i64 (po - o.pos)],.bool true]) (by simp[results,Tryz.results76,go_sem,f0,f1]) rfl ?_;rw[HN.out];exact⟨⟨⟨r.a,r.c,r.l⟩,(po - o.pos)⟩,rfl,hg',hq',by show (⟨r.l,po - o.pos⟩:PtE)=⟨rl,po - o.pos⟩;rw[HRE.out]⟩
       ·have t9:(rk != 0)=true:=by simpa using hk
        have HN:Hid (res=(PtE.nil,false)):=by show _=_;rw[HM5.out,if_neg hk]
        go_wp2_with fail
        have hW:=zcg (w:=w) (Wx:=w6) (B:=w.heap.size+2) (v0:=.slice none 0 0) (v1:=.int .i64 0) (l:=[]) (a:=none) (c:=0) (lo:=w1.heap.size) ((g01.out.trans G16.out)) (by omega) (by have:=HZ.out;omega) (by exact k0) (by exact k1) (zbu) rfl;generalize ((w6).setCell ⟨w.heap.size+2,0,none⟩ (.slice none 0 0)).setCell ⟨w.heap.size+2,1,none⟩ (.int .i64 0)=W' at *;obtain⟨hg',f0,f1,hq'⟩:=hW;refine bodyPost_ret (v:=.tuple #[.agg #[.slice none 0 0,.int .i64 0],.bool false]) (by simp[results,Tryz.results76,go_sem,f0,f1]) rfl ?_;rw[HN.out];exact⟨⟨⟨none,0,[]⟩,0⟩,rfl,hg',hq',rfl⟩
      | false =>
       have HN:Hid (res=(⟨m,po⟩,true)):=by show _=_;rw[HM3.out,if_neg (fun h=>h2.out h.1),if_neg (fun h=>Bool.noConfusion (HPU.out.2 h))]
       clear hpu hrt hab;go_wp2_with fail
       have hW:=zcg (w:=w) (Wx:=w5) (B:=w.heap.size+2) (v0:=.slice q.a q.l.length q.c) (v1:=.int .i64 po) (l:=q.l) (a:=q.a) (c:=q.c) (lo:=w1.heap.size) ((g01.out.trans G15.out)) (by omega) (by have:=HZ.out;omega) (by exact k0) (by exact k1) ((IntsIn.agree HQ.out (G25.out.agree zQ1)).mono zQ1 G25.out.size) rfl;generalize ((w5).setCell ⟨w.heap.size+2,0,none⟩ (.slice q.a q.l.length q.c)).setCell ⟨w.heap.size+2,1,none⟩ (.int .i64 po)=W' at *;obtain⟨hg',f0,f1,hq'⟩:=hW;refine bodyPost_ret (v:=.tuple #[.agg #[.slice q.a q.l.length q.c,.int .i64 po],.bool true]) (by simp[results,Tryz.results76,go_sem,f0,f1]) rfl ?_;rw[HN.out];exact⟨⟨⟨q.a,q.c,q.l⟩,po⟩,rfl,hg',hq',by show (⟨q.l,po⟩:PtE)=⟨m,po⟩;rw[HE.out]⟩
   have t4:(o.kind == 4)=false:=by simpa using k4
   have HN:Hid (res=(⟨m,po⟩,true)):=by
    show _=_
    rw[HM2.out];unfold zce;rw[if_neg (fun h=>k7 h.1),if_neg (fun h=>k8 h.1),if_neg (fun h=>k3 h.1),if_neg (fun h=>k4 h.1),if_neg (fun h=>k4 h.1)]
   clear hpu hrt hab;go_wp2_with fail
   have hW:=zcg (w:=w) (Wx:=w5) (B:=w.heap.size+2) (v0:=.slice q.a q.l.length q.c) (v1:=.int .i64 po) (l:=q.l) (a:=q.a) (c:=q.c) (lo:=w1.heap.size) ((g01.out.trans G15.out)) (by omega) (by have:=HZ.out;omega) (by exact k0) (by exact k1) ((IntsIn.agree HQ.out (G25.out.agree zQ1)).mono zQ1 G25.out.size) rfl;generalize ((w5).setCell ⟨w.heap.size+2,0,none⟩ (.slice q.a q.l.length q.c)).setCell ⟨w.heap.size+2,1,none⟩ (.int .i64 po)=W' at *;obtain⟨hg',f0,f1,hq'⟩:=hW;refine bodyPost_ret (v:=.tuple #[.agg #[.slice q.a q.l.length q.c,.int .i64 po],.bool true]) (by simp[results,Tryz.results76,go_sem,f0,f1]) rfl ?_;rw[HN.out];exact⟨⟨⟨q.a,q.c,q.l⟩,po⟩,rfl,hg',hq',by show (⟨q.l,po⟩:PtE)=⟨m,po⟩;rw[HE.out]⟩
 ·have t5:decide (o.path.l=p.p.l)=false:=by simpa using hs
  have HN:Hid (res=(⟨m,po⟩,true)):=by show _=_;rw[HM1.out,if_pos (by simpa using hs)]
  clear HM1 hs;go_wp2_with fail
  have hW:=zcg (w:=w) (Wx:=w4) (B:=w.heap.size+2) (v0:=.slice q.a q.l.length q.c) (v1:=.int .i64 po) (l:=q.l) (a:=q.a) (c:=q.c) (lo:=w1.heap.size) ((g01.out.trans G14.out)) (by omega) (by have:=HZ.out;omega) (by exact k0) (by exact k1) ((IntsIn.agree HQ.out (G24.out.agree zQ1)).mono zQ1 G24.out.size) rfl;generalize ((w4).setCell ⟨w.heap.size+2,0,none⟩ (.slice q.a q.l.length q.c)).setCell ⟨w.heap.size+2,1,none⟩ (.int .i64 po)=W' at *;obtain⟨hg',f0,f1,hq'⟩:=hW;refine bodyPost_ret (v:=.tuple #[.agg #[.slice q.a q.l.length q.c,.int .i64 po],.bool true]) (by simp[results,Tryz.results76,go_sem,f0,f1]) rfl ?_;rw[HN.out];exact⟨⟨⟨q.a,q.c,q.l⟩,po⟩,rfl,hg',hq',by show (⟨q.l,po⟩:PtE)=⟨m,po⟩;rw[HE.out]⟩
end Go.Proofs.YtccobobnmpafbaaGreatDoor
