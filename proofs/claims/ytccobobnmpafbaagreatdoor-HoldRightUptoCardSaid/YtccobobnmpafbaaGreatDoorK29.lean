/- op.shaped: the contract, kind 5. -/
import Derived.Test.YtccobobnmpafbaaGreatDoorK27
import Derived.Test.YtccobobnmpafbaaGreatDoorK28
import Derived.Test.YtccobobnmpafbaaGreatDoorK21
import Derived.Test.YtccobobnmpafbaaGreatDoorK12
import Derived.Test.YtccobobnmpafbaaGreatDoorK14
set_option maxRecDepth 100000
set_option maxHeartbeats 100000000
namespace Go.Proofs.YtccobobnmpafbaaGreatDoor
open Go Go.RowKit
theorem shaped5_any(n:NT)(o:OpL)(w:World)(hn:n.Ok w)(ho:o.In w 0 w.heap.size)(hb:n.er.bulk<=262144)(ht:o.er.Tiny)(k5:o.kind=5) :
  Calls Tryz.prog 36 #[n.val,o.val] w (zac (zcN n.er o.er) w):=by
 have Hk5:=zQ0 k5;clear k5;have later:∀ {w1},Grew w w1->o.In w1 0 w1.heap.size:=fun g=>(ho.grew g zQ1).mono zQ1 g.size;have CC:=zQ0 (fun w1 (g:Grew w w1)=>zaO o.node w1 (NT.In.ok (later g).2.1 zQ1) ht.1.2.1);have CPC:=zQ0 (fun w1 (g:Grew w w1)=>zaN o.new o.na o.nc w1 0 w1.heap.size (later g).2.2.2.1 zQ1 (Nat.le_trans ht.2.1.2 (by omega)));have CCU:=zQ0 (fun w1 (g:Grew w w1)=>zc9 n o.path.a o.path.c o.path.l w1 (NT.Ok.grew hn g) (by omega) (later g).1.1 ht.1.1.1);have CA:=zQ0 (fun w1 (g:Grew w w1)=>zc8 n o.node o.path.a o.path.c o.path.l w1 (NT.Ok.grew hn g) (by omega) (NT.In.ok (later g).2.1 zQ1) ht.1.2.1 (later g).1.1 ht.1.1.1);have CS:=zQ0 (fun(y:NT) w1 (g:Grew w w1) (hy:y.Ok w1) (hyb:y.er.bulk<=1048576)=>zbT y o.node w1 hy (NT.In.ok (later g).2.1 zQ1) hyb ht.1.2.1);have CM:=zQ0 (fun(x y:NT) w1 (g:Grew w w1) (hx:x.Ok w1) (hy:y.Ok w1) (hbb:x.er.bulk+y.er.bulk<=1048576)=>zbK x y o w1 hx hy (later g) hbb ht.1);have CSP:=zQ0 (fun(x y:NT) w1 (g:Grew w w1) (hx:x.Ok w1) (hy:y.Ok w1) (hbb:x.er.bulk+y.er.bulk<=262144)=>zbW x y o w1 hx hy (later g) (by have h:zcb o.new<=262144:=ht.2.1.2;omega) ht.1);have CMV:=zQ0 (fun(x y:NT) w1 (g:Grew w w1) (hx:x.Ok w1) (hy:y.Ok w1) (h1:x.er.bulk<=1048576) (h2:y.er.bulk<=1048576)=>zc8 x y o.dest.a o.dest.c o.dest.l w1 hx h1 hy h2 (later g).1.2 ht.1.1.2);have CCT:=zQ0 (fun w1 (g:Grew w w1)=>zbV n o w1 (NT.Ok.grew hn g) (later g) hb ht);have HB:=zQ0 hb;have HCB:=zQ0 (fun h=>cut_bulk (t:=n.er) (p:=o.path.l) h)
 have HM:Hid (zcN n.er o.er=if o.kind=1 then (if o.node.er.chk≠0 then (T.nilT,o.node.er.chk) else addT n.er o.path.l o.node.er)
  else if o.kind=4/\zaP o.new≠0 then (T.nilT,zaP o.new)
  else if (o.kind=2\/o.kind=3\/o.kind=4\/o.kind=5)/\(cutT n.er o.path.l).2.2≠0 then (T.nilT,(cutT n.er o.path.l).2.2)
  else if o.kind=2 then (if (cutT n.er o.path.l).2.1=o.node.er then ((cutT n.er o.path.l).1,0) else (T.nilT,9))
  else if o.kind=3 then zbJ (cutT n.er o.path.l).1 (cutT n.er o.path.l).2.1 o.er
  else if o.kind=4 then zcW (cutT n.er o.path.l).1 (cutT n.er o.path.l).2.1 o.er
  else if o.kind=5 then addT (cutT n.er o.path.l).1 o.dest.l (cutT n.er o.path.l).2.1
  else zaX n.er o.er):=rfl
 generalize zcN n.er o.er=res at *;generalize zaX n.er o.er=ctr at *;generalize addT n.er o.path.l o.node.er=adr at *;generalize cutT n.er o.path.l=cu at *;obtain⟨cx,cy,ce⟩:=cu;clear later hn ho hb ht;unfold NT.val at CC CA CS CCU CM CSP CMV CCT ⊢;unfold OpL.val at CM CSP CCT ⊢
 go_enter Tryz.func36,Tryz.ntmps36
 go_upto_region 2 with fail
 generalize hW:((((w.alloc _).alloc _).alloc _).alloc _).alloc _=w1;obtain⟨g0,rN,rO,_,tF,z0⟩:=zas w n.cells4 o.cells NT.nil.cells4 26 35 26 _ rfl;obtain⟨g1,_,tX,_,tY,z1⟩:=zar (((w.alloc (.cells n.cells4.toArray 26)).alloc (.cells o.cells.toArray 35)).alloc (.cells NT.nil.cells4.toArray 26)) NT.nil.cells4 NT.nil.cells4 _ _ w1 hW;clear hW;rw[z0] at tX tY z1;have hb1:Base w n o w1:=⟨zcj rN g1 (by omega),zcj rO g1 (by omega),zc4 tF g1 (by omega),g0.trans g1,by omega⟩
 obtain⟨ov,hov⟩:∃ v,o.val=v:=⟨_,rfl⟩
 unfold OpL.val at hov;rw[hov];clear hov;have HB1:=zQ0 hb1;have TX:Hid (w1.there (w.heap.size+3) 0 4):=tX;have TY:Hid (w1.there (w.heap.size+4) 0 4):=by show w1.there _ 0 4;exact tY
 have HZ1:Hid (w1.heap.size=w.heap.size+5):=by show _=_;omega
 clear g0 rN rO tF z0 g1 tX tY z1 hb1;have k0:=zci HB1.out.2.1 (j:=0) rfl;have k5:=Hk5.out;have t5:(o.kind == 5)=true:=by simpa using k5
 have t1:(o.kind == 1)=false:=by simpa using (show ¬ o.kind=1 by omega)
 have t2:(o.kind == 2)=false:=by simpa using (show ¬ o.kind=2 by omega)
 have t3:(o.kind == 3)=false:=by simpa using (show ¬ o.kind=3 by omega)
 have t4:(o.kind == 4)=false:=by simpa using (show ¬ o.kind=4 by omega)
 have HMx:Hid True:=trivial
 have HMc:Hid (res=if ce≠0 then (T.nilT,ce) else addT cx o.dest.l cy):=by
  show _=_
  rw[HM.out,if_neg (by omega),if_neg (fun h=>by omega)]
  by_cases hc:ce≠0
  ·rw[if_pos ⟨by omega,hc⟩,if_pos hc]
  ·rw[if_neg (fun h=>hc h.2),if_neg hc];rw[if_neg (by omega),if_neg (by omega),if_neg (by omega),if_pos k5]
 have HB2:=zQ0 HB1.out;have TX2:=zQ0 TX.out;have TY2:=zQ0 TY.out;clear HM;obtain⟨n0,n1,n2,n3⟩:=HB2.out.n;have k1:=zci HB2.out.2.1 (j:=1) rfl;have HCx:=zQ0 (CCU.out w1 HB2.out.2.2.2.1);unfold RetCut NT.val at HCx;have hst3:=TX2.out;have hst4:=TY2.out;go_wp2_with fail
 refine HCx.out.mono ?_;rintro e w3 ⟨x,y,rfl,g3,hx,hy,hxy⟩;have HB3:Hid (Base w n o w3):=Base.grew HB2.out g3;have hne:w.heap.size+3≠w.heap.size+4:=by omega
 have tx3:w3.there (w.heap.size+3) 0 4:=zc4 TX2.out g3 (by have:=HB2.out.2.2.2.2;omega);have ty3:w3.there (w.heap.size+4) 0 4:=zc4 TY2.out g3 (by have:=HB2.out.2.2.2.2;omega);obtain⟨rx,ry,ty3',kS⟩:=put_two hne tx3 ty3 x y;have HRX:=zQ0 rx;have HRY:=zQ0 ry;have HKS:=zQ0 kS;have HXY:=zQ0 (⟨hx,hy.1⟩:_/\_);have HXE:=zQ0 hxy.out;have HZ2:Hid (w.heap.size+5<=w1.heap.size):=HB2.out.2.2.2.2;clear n0 n1 n2 n3 k1 HCx hst3 hst4 rx ry kS hx hy hxy g3 HB2 TX2 TY2 k0;have HT4:=zQ0 ty3';clear ty3'
 go_upto_region 12 with (first | (refine wpList_store_mid rfl 26 (.tmp 7) (.tmp 32) rfl (w.heap.size+4) 0 y.cells4.toArray rfl rfl ty3b zbm (NT.cells4_all _) ?_) | (refine wpList_store_mid rfl 26 (.tmp 6) (.tmp 31) rfl (w.heap.size+3) 0 x.cells4.toArray rfl rfl tx3 zbm (NT.cells4_all _) ?_;generalize hF1:World.setCells w3 (w.heap.size+3) 0 _=w3b;have ty3b:w3b.there (w.heap.size+4) 0 4:=hF1 ▸ HT4.out))
 subst hF1;generalize hF:World.setCells _ (w.heap.size+4) 0 _=w4;have rX:w4.rangeAt (w.heap.size+3) 0 x.cells4:=hF ▸ HRX.out;have rY:w4.rangeAt (w.heap.size+4) 0 y.cells4:=hF ▸ HRY.out;have kS:Keeps (fun k=>k=w.heap.size+3\/k=w.heap.size+4) w3 w4:=hF ▸ HKS.out;have HB4:Hid (Base w n o w4):=Base.keep HB3.out kS
 have HXO:Hid (x.Ok w4/\y.Ok w4):=by
  have ha:Agree w1.heap.size w3.heap.size w3 w4:=kS.agree zQ1 (fun j h1 h2 hj=>by have:=HZ2.out;omega);exact⟨(NT.In.agree HXY.out.1 ha).mono (Nat.zero_le _) kS.size,(NT.In.agree HXY.out.2 ha).mono (Nat.zero_le _) kS.size⟩
 have HXI:Hid (x.In w4 w1.heap.size w4.heap.size):=(NT.In.agree HXY.out.1 (kS.agree zQ1 (fun j h1 h2 hj=>by have:=HZ2.out;omega))).mono zQ1 kS.size;have KX:=NT.cells4_at.1 rX;have KY:=NT.cells4_at.1 rY;unfold NodeAt at KX KY;simp only[Nat.zero_add] at KX KY;have KXH:=zQ0 KX;have KYH:=zQ0 KY;clear hF HRX HRY HKS tx3 ty3 ty3b HT4 hne rX rY kS KX KY HB3 HXY
 by_cases hce:ce=0
 ·subst hce;have HMd:=zQ0 (HMc.out.trans (if_neg (by simp)));have HBB:=zQ0 (HCB.out rfl);clear HMc HCB;have HXB:Hid (x.er.bulk+y.er.bulk<=262144):=by show _<=_;rw[HXE.out.1,HXE.out.2];have h1:cx.bulk+cy.bulk=n.er.bulk:=HBB.out;have h2:=HB.out;omega
  obtain⟨x0,x1,x2,x3⟩:=KXH.out;obtain⟨y0,y1,y2,y3⟩:=KYH.out;have k0:=zci HB4.out.2.1 (j:=0) rfl;have hBZ:=HB4.out;have HRR:=HMd.out;rw[<- HXE.out.1,<- HXE.out.2] at HRR;have HCC:=zQ0 (CMV.out x y w4 hBZ.2.2.2.1 HXO.out.1 HXO.out.2 (by have:=HXB.out;omega) (by have:=HXB.out;omega));rw[<- HRR] at HCC;have j2:=zci hBZ.2.1 (j:=2) rfl;clear HMd HRR HXO HXI;go_wp2_with fail
  refine HCC.out.mono ?_;rintro e wB ⟨y,rfl,gB,hy,hye⟩;have hBB:=hBZ.grew gB;have t3:=hBB.2.2.1;have HP:=zQ0 (zcm (cs:=y.cells4) t3);have HK:=zQ0 (zcM (w.heap.size+2) y.cells4 0 wB);have HFIN:=zQ0 (fun wf (k3:Keeps (·=w.heap.size+2) wB wf)=>zcv (x:=y) (r:=res) (bx:=w.heap.size+2) (by omega) (by have:=hBZ.2.2.2.2;omega) hBZ.2.2.2.1 gB hy hye k3);clear hy hye gB hBB hBZ
  go_wp2_with (refine wpList_store_mid rfl 26 (.tmp 4) (.tmp 89) rfl (w.heap.size+2) 0 y.cells4.toArray rfl rfl t3 zbm (NT.cells4_all _) ?_;generalize hF:World.setCells wB _ _ _=wf;have r3:wf.rangeAt (w.heap.size+2) 0 y.cells4:=hF ▸ HP.out;have k3:Keeps (·=w.heap.size+2) wB wf:=hF ▸ HK.out;clear hF HP HK)
  exact bodyPost_ret (v:=.tuple #[y.val,.int .i64 res.2]) (zcq Tryz.results36 _ wf (w.heap.size+2) 0 y.cells4 _ _ rfl rfl r3 Tryz.underlying26 rfl zbm) rfl (HFIN.out wf k3)
 ·have tce:(ce != 0)=true:=by simpa using hce
  have HN:Hid (res=(T.nilT,ce)):=by show _=_;rw[HMc.out,if_pos hce]
  have hBZ:=HB4.out;clear hce HMc HCB HMx;have t3:=hBZ.2.2.1;have HP:=zQ0 (zcm (cs:=NT.nil.cells4) t3);have HK:=zQ0 (zcM (w.heap.size+2) NT.nil.cells4 0 w4);have FIN:=zQ0 (fun wq (k3:Keeps (·=w.heap.size+2) w4 wq)=>zcw hBZ.2.2.2.1 k3 HN.out);clear hBZ
  go_wp2_with (refine wpList_store_mid rfl 26 (.tmp 4) (.tmp 36) rfl (w.heap.size+2) 0 NT.nil.cells4.toArray rfl rfl t3 zbm (NT.cells4_all _) ?_;generalize hF:World.setCells w4 _ _ _=wf;have r3:wf.rangeAt (w.heap.size+2) 0 NT.nil.cells4:=hF ▸ HP.out;have k3:Keeps (·=w.heap.size+2) w4 wf:=hF ▸ HK.out;clear hF HP HK)
  exact bodyPost_ret (v:=.tuple #[NT.nil.val,.int .i64 ce]) (zcq Tryz.results36 _ wf (w.heap.size+2) 0 NT.nil.cells4 _ _ rfl rfl r3 Tryz.underlying26 rfl zbm) rfl (FIN.out wf k3)
theorem shapedO_any(n:NT)(o:OpL)(w:World)(hn:n.Ok w)(ho:o.In w 0 w.heap.size)(hb:n.er.bulk<=262144)(ht:o.er.Tiny)(k1:¬ o.kind=1)(k2:¬ o.kind=2)(k3:¬ o.kind=3)(k4:¬ o.kind=4)(k5:¬ o.kind=5) :
  Calls Tryz.prog 36 #[n.val,o.val] w (zac (zcN n.er o.er) w):=by
 have Hk1:=zQ0 k1;have Hk2:=zQ0 k2;have Hk3:=zQ0 k3;have Hk4:=zQ0 k4;have Hk5:=zQ0 k5;clear k1 k2 k3 k4 k5;have later:∀ {w1},Grew w w1->o.In w1 0 w1.heap.size:=fun g=>(ho.grew g zQ1).mono zQ1 g.size;have CC:=zQ0 (fun w1 (g:Grew w w1)=>zaO o.node w1 (NT.In.ok (later g).2.1 zQ1) ht.1.2.1);have CPC:=zQ0 (fun w1 (g:Grew w w1)=>zaN o.new o.na o.nc w1 0 w1.heap.size (later g).2.2.2.1 zQ1 (Nat.le_trans ht.2.1.2 (by omega)));have CCU:=zQ0 (fun w1 (g:Grew w w1)=>zc9 n o.path.a o.path.c o.path.l w1 (NT.Ok.grew hn g) (by omega) (later g).1.1 ht.1.1.1);have CA:=zQ0 (fun w1 (g:Grew w w1)=>zc8 n o.node o.path.a o.path.c o.path.l w1 (NT.Ok.grew hn g) (by omega) (NT.In.ok (later g).2.1 zQ1) ht.1.2.1 (later g).1.1 ht.1.1.1);have CS:=zQ0 (fun(y:NT) w1 (g:Grew w w1) (hy:y.Ok w1) (hyb:y.er.bulk<=1048576)=>zbT y o.node w1 hy (NT.In.ok (later g).2.1 zQ1) hyb ht.1.2.1);have CM:=zQ0 (fun(x y:NT) w1 (g:Grew w w1) (hx:x.Ok w1) (hy:y.Ok w1) (hbb:x.er.bulk+y.er.bulk<=1048576)=>zbK x y o w1 hx hy (later g) hbb ht.1);have CSP:=zQ0 (fun(x y:NT) w1 (g:Grew w w1) (hx:x.Ok w1) (hy:y.Ok w1) (hbb:x.er.bulk+y.er.bulk<=262144)=>zbW x y o w1 hx hy (later g) (by have h:zcb o.new<=262144:=ht.2.1.2;omega) ht.1);have CMV:=zQ0 (fun(x y:NT) w1 (g:Grew w w1) (hx:x.Ok w1) (hy:y.Ok w1) (h1:x.er.bulk<=1048576) (h2:y.er.bulk<=1048576)=>zc8 x y o.dest.a o.dest.c o.dest.l w1 hx h1 hy h2 (later g).1.2 ht.1.1.2);have CCT:=zQ0 (fun w1 (g:Grew w w1)=>zbV n o w1 (NT.Ok.grew hn g) (later g) hb ht);have HB:=zQ0 hb;have HCB:=zQ0 (fun h=>cut_bulk (t:=n.er) (p:=o.path.l) h)
 have HM:Hid (zcN n.er o.er=if o.kind=1 then (if o.node.er.chk≠0 then (T.nilT,o.node.er.chk) else addT n.er o.path.l o.node.er)
  else if o.kind=4/\zaP o.new≠0 then (T.nilT,zaP o.new)
  else if (o.kind=2\/o.kind=3\/o.kind=4\/o.kind=5)/\(cutT n.er o.path.l).2.2≠0 then (T.nilT,(cutT n.er o.path.l).2.2)
  else if o.kind=2 then (if (cutT n.er o.path.l).2.1=o.node.er then ((cutT n.er o.path.l).1,0) else (T.nilT,9))
  else if o.kind=3 then zbJ (cutT n.er o.path.l).1 (cutT n.er o.path.l).2.1 o.er
  else if o.kind=4 then zcW (cutT n.er o.path.l).1 (cutT n.er o.path.l).2.1 o.er
  else if o.kind=5 then addT (cutT n.er o.path.l).1 o.dest.l (cutT n.er o.path.l).2.1
  else zaX n.er o.er):=rfl
 generalize zcN n.er o.er=res at *;generalize zaX n.er o.er=ctr at *;generalize addT n.er o.path.l o.node.er=adr at *;generalize cutT n.er o.path.l=cu at *;obtain⟨cx,cy,ce⟩:=cu;clear later hn ho hb ht;unfold NT.val at CC CA CS CCU CM CSP CMV CCT ⊢;unfold OpL.val at CM CSP CCT ⊢
 go_enter Tryz.func36,Tryz.ntmps36
 go_upto_region 2 with fail
 generalize hW:((((w.alloc _).alloc _).alloc _).alloc _).alloc _=w1;obtain⟨g0,rN,rO,_,tF,z0⟩:=zas w n.cells4 o.cells NT.nil.cells4 26 35 26 _ rfl;obtain⟨g1,_,tX,_,tY,z1⟩:=zar (((w.alloc (.cells n.cells4.toArray 26)).alloc (.cells o.cells.toArray 35)).alloc (.cells NT.nil.cells4.toArray 26)) NT.nil.cells4 NT.nil.cells4 _ _ w1 hW;clear hW;rw[z0] at tX tY z1;have hb1:Base w n o w1:=⟨zcj rN g1 (by omega),zcj rO g1 (by omega),zc4 tF g1 (by omega),g0.trans g1,by omega⟩
 obtain⟨ov,hov⟩:∃ v,o.val=v:=⟨_,rfl⟩
 unfold OpL.val at hov;rw[hov];clear hov;have HB1:=zQ0 hb1;have TX:Hid (w1.there (w.heap.size+3) 0 4):=tX;have TY:Hid (w1.there (w.heap.size+4) 0 4):=by show w1.there _ 0 4;exact tY
 have HZ1:Hid (w1.heap.size=w.heap.size+5):=by show _=_;omega
 clear g0 rN rO tF z0 g1 tX tY z1 hb1;have k0:=zci HB1.out.2.1 (j:=0) rfl;have k1:=Hk1.out;have k2:=Hk2.out;have k3:=Hk3.out;have k4:=Hk4.out;have k5:=Hk5.out;have t1:(o.kind == 1)=false:=by simpa using k1
 have t2:(o.kind == 2)=false:=by simpa using k2
 have t3:(o.kind == 3)=false:=by simpa using k3
 have t4:(o.kind == 4)=false:=by simpa using k4
 have t5:(o.kind == 5)=false:=by simpa using k5
 have HRR:Hid (res=ctr):=by
  show _=_
  rw[HM.out,if_neg k1,if_neg (fun h=>k4 h.1),if_neg (fun h=>by omega),if_neg k2,if_neg k3,if_neg k4,if_neg k5]
 have hBZ:=HB1.out;have HCC:=zQ0 (CCT.out w1 hBZ.2.2.2.1);rw[<- HRR.out] at HCC;obtain⟨n0,n1,n2,n3⟩:=hBZ.n;have rO:=hBZ.2.1;clear HM
 go_wp2_with (refine wpList_load_mid rfl 35 (.tmp 3) rfl (w.heap.size+1) 0 rfl o.cells _ rO Tryz.underlying35 rfl zbp ?_)
 refine HCC.out.mono ?_;rintro e wB ⟨y,rfl,gB,hy,hye⟩;have hBB:=hBZ.grew gB;have t3:=hBB.2.2.1;have HP:=zQ0 (zcm (cs:=y.cells4) t3);have HK:=zQ0 (zcM (w.heap.size+2) y.cells4 0 wB);have HFIN:=zQ0 (fun wf (k3:Keeps (·=w.heap.size+2) wB wf)=>zcv (x:=y) (r:=res) (bx:=w.heap.size+2) (by omega) (by have:=hBZ.2.2.2.2;omega) hBZ.2.2.2.1 gB hy hye k3);clear hy hye gB hBB hBZ
 go_wp2_with (refine wpList_store_mid rfl 26 (.tmp 4) (.tmp 94) rfl (w.heap.size+2) 0 y.cells4.toArray rfl rfl t3 zbm (NT.cells4_all _) ?_;generalize hF:World.setCells wB _ _ _=wf;have r3:wf.rangeAt (w.heap.size+2) 0 y.cells4:=hF ▸ HP.out;have k3:Keeps (·=w.heap.size+2) wB wf:=hF ▸ HK.out;clear hF HP HK)
 exact bodyPost_ret (v:=.tuple #[y.val,.int .i64 res.2]) (zcq Tryz.results36 _ wf (w.heap.size+2) 0 y.cells4 _ _ rfl rfl r3 Tryz.underlying26 rfl zbm) rfl (HFIN.out wf k3)
theorem shaped_any(n:NT)(o:OpL)(w:World)(hn:n.Ok w)(ho:o.In w 0 w.heap.size)(hb:n.er.bulk<=262144)(ht:o.er.Tiny) :
  Calls Tryz.prog 36 #[n.val,o.val] w (zac (zcN n.er o.er) w):=by
 by_cases k1:o.kind=1
 ·exact shaped1_any n o w hn ho hb ht k1
 by_cases k2:o.kind=2
 ·exact shaped2_any n o w hn ho hb ht k2
 by_cases k3:o.kind=3
 ·exact shaped3_any n o w hn ho hb ht k3
 by_cases k4:o.kind=4
 ·exact shaped4_any n o w hn ho hb ht k4
 by_cases k5:o.kind=5
 ·exact shaped5_any n o w hn ho hb ht k5
 exact shapedO_any n o w hn ho hb ht k1 k2 k3 k4 k5
theorem may_any(n:NT)(s:SelL)(o:OpL)(w:World)(hn:n.Ok w)(hs:s.In w 0 w.heap.size)(ho:o.In w 0 w.heap.size)(hb:n.er.bulk<=1048576)(h1:s.a.p.l.length<=1048576)(h2:s.f.p.l.length<=1048576)(ht:o.er.Small) :
  Calls Tryz.prog 31 #[n.val,s.val,o.val] w fun e w'=>e=.returned (.int .i64 (mayT n.er s.er o.er))/\Grew w w':=by
 have CC:=zQ0 (fun w1 (g:Grew w w1)=>zaO n w1 (NT.Ok.grew hn g) hb);have CS:=zQ0 (fun w1 (g:Grew w w1)=>checkSel_any n s w1 (NT.Ok.grew hn g) hb ⟨hs.1.later g,hs.2.later g⟩ h1 h2);have CF:=zQ0 (fun w1 (g:Grew w w1)=>form_any o w1 ((ho.grew g zQ1).mono zQ1 g.size) ht)
 have HM:Hid (mayT n.er s.er o.er=if n.er.chk≠0 then n.er.chk else if n.lf=true then 7 else if zaT n.er s.er≠0 then zaT n.er s.er else zba o.er):=by
  show _=_
  unfold mayT;rw[NT.er_lf]
 generalize mayT n.er s.er o.er=res at *;generalize n.er.chk=ck at *;generalize zaT n.er s.er=cs at *;generalize zba o.er=fo at *;clear hn hs ho hb h1 h2 ht;unfold NT.val at CC CS ⊢;unfold OpL.val at CF ⊢;unfold SelL.val
 go_enter Tryz.func31,Tryz.ntmps31
 go_upto_region 1 with fail
 generalize hW:((w.alloc _).alloc _).alloc _=w1;obtain⟨g1,rN,rS,rO,_,z1⟩:=zas w n.cells4 s.cells o.cells _ _ _ w1 hW;clear hW;obtain⟨ov,hov⟩:∃ v,o.val=v:=⟨_,rfl⟩
 unfold OpL.val at hov;rw[hov];clear hov;have G1:=zQ0 g1;have KN:=zQ0 (fun(w':World) (g:Grew w1 w')=>(have h:=NT.cells4_at.1 (zcj rN g (by omega));⟨h.1,by have:=h.2.1;rwa [Nat.zero_add] at this,by have:=h.2.2.1;rwa [Nat.zero_add] at this,by have:=h.2.2.2;rwa [Nat.zero_add] at this⟩:w'.cell? ⟨w.heap.size,0,none⟩=some (.bool n.lf)/\w'.cell? ⟨w.heap.size,1,none⟩=some (.slice n.pa n.ps.length n.pc)/\w'.cell? ⟨w.heap.size,2,none⟩=some (.slice n.ta n.ts.length n.tc)/\w'.cell? ⟨w.heap.size,3,none⟩=some (.slice n.ka n.ks.length n.kc)));have KS:=zQ0 (fun(w':World) (g:Grew w1 w')=>(have h:=zcj rS g (by omega);⟨zci h (j:=0) rfl,zci h (j:=1) rfl,zci h (j:=2) rfl,zci h (j:=3) rfl,zci h (j:=4) rfl⟩:w'.cell? ⟨w.heap.size+1,0,none⟩=some (.bool s.is)/\w'.cell? ⟨w.heap.size+1,1,none⟩=some (.slice s.a.p.a s.a.p.l.length s.a.p.c)/\w'.cell? ⟨w.heap.size+1,2,none⟩=some (.int .i64 s.a.o)/\w'.cell? ⟨w.heap.size+1,3,none⟩=some (.slice s.f.p.a s.f.p.l.length s.f.p.c)/\w'.cell? ⟨w.heap.size+1,4,none⟩=some (.int .i64 s.f.o)));have KO:=zQ0 (fun(w':World) (g:Grew w1 w')=>zcj rO g (by omega));clear rN rS rO z1 g1;obtain⟨n0,n1,n2,n3⟩:=KN.out w1 (Grew.refl _);go_wp2_with fail
 refine (CC.out w1 G1.out).mono ?_;rintro e w2 ⟨rfl,g2⟩;have G2:=zQ0 (G1.out.trans g2);have G12:=zQ0 g2;clear g2 n0 n1 n2 n3
 by_cases hck:ck=0
 ·have t1:(ck != 0)=false:=by simp[hck]
  have HM1:Hid (res=if n.lf=true then 7 else if cs≠0 then cs else fo):=by show _=_;rw[HM.out,if_neg (by simp[hck])]
  clear hck HM;obtain⟨n0,n1,n2,n3⟩:=KN.out w2 G12.out;obtain⟨s0,s1,s2,s3,s4⟩:=KS.out w2 G12.out
  rcases Bool.eq_false_or_eq_true n.lf with hlf | hlf
  ·have HN:Hid (res=7):=by show _=_;rw[HM1.out,if_pos hlf]
   rw[hlf] at n0;clear hlf HM1;go_wp2_with fail
   go_ret
   exact⟨by rw[HN.out];rfl,G2.out⟩
  ·have HM2:Hid (res=if cs≠0 then cs else fo):=by show _=_;rw[HM1.out,if_neg (by simp[hlf])]
   have CSx:=CS.out w2 G2.out;rw[hlf] at n0 CSx;have CSy:=zQ0 CSx;clear hlf HM1 CSx;go_wp2_with fail
   refine CSy.out.mono ?_;rintro e w3 ⟨rfl,g3⟩;have G3:=zQ0 (G2.out.trans g3);have rO:=KO.out w3 (G12.out.trans g3);clear g3 n0 n1 n2 n3 s0 s1 s2 s3 s4 CSy
   by_cases hcs:cs=0
   ·have t2:(cs != 0)=false:=by simp[hcs]
    have HN:Hid (res=fo):=by show _=_;rw[HM2.out,if_neg (by simp[hcs])]
    clear hcs HM2
    go_wp2_with (refine wpList_load_mid rfl 35 (.tmp 5) rfl (w.heap.size+2) 0 rfl o.cells _ rO Tryz.underlying35 rfl zbp ?_)
    refine (CF.out w3 G3.out).mono ?_;rintro e w4 ⟨rfl,g4⟩;have G4:=zQ0 (G3.out.trans g4);clear g4 rO;go_wp2_with fail
    go_ret
    exact⟨by rw[HN.out];rfl,G4.out⟩
   ·have t2:(cs != 0)=true:=by simpa using hcs
    have HN:Hid (res=cs):=by show _=_;rw[HM2.out,if_pos hcs]
    clear hcs HM2 rO;go_wp2_with fail
    go_ret
    exact⟨by rw[HN.out];rfl,G3.out⟩
 ·have t1:(ck != 0)=true:=by simpa using hck
  have HN:Hid (res=ck):=by show _=_;rw[HM.out,if_pos hck]
  clear hck HM;go_wp2_with fail
  go_ret
  exact⟨by rw[HN.out];rfl,G2.out⟩
end Go.Proofs.YtccobobnmpafbaaGreatDoor
