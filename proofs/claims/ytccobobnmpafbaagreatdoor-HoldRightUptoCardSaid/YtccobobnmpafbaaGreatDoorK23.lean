/- op.length, op.merged: the contracts. -/
import Derived.Test.YtccobobnmpafbaaGreatDoorK21
import Derived.Test.YtccobobnmpafbaaGreatDoorK22
import Derived.Test.YtccobobnmpafbaaGreatDoorK13
import Derived.Deep.RegionHeld3
import Derived.Deep.DeepCutAuto
import Derived.Test.YtccobobnmpafbaaGreatDoorK20
import Derived.Test.YtccobobnmpafbaaGreatDoorK09
import Derived.Test.YtccobobnmpafbaaGreatDoorK19
import Derived.Test.YtccobobnmpafbaaGreatDoorK18
set_option maxRecDepth 100000
set_option maxHeartbeats 100000000
namespace Go.Proofs.YtccobobnmpafbaaGreatDoor
open Go Go.RowKit
theorem boxes4(w:World)(cs ds es fs:List Value)(tA tB tC tD:TypeId)(W:World)(hW:(((w.alloc (.cells cs.toArray tA)).alloc (.cells ds.toArray tB)).alloc (.cells es.toArray tC)).alloc (.cells fs.toArray tD)=W):Grew w W/\W.rangeAt w.heap.size 0 cs/\W.rangeAt (w.heap.size+1) 0 ds/\W.rangeAt (w.heap.size+2) 0 es/\W.there (w.heap.size+3) 0 fs.length/\W.heap.size=w.heap.size+4:=by
 obtain⟨g1,r1,r2,r3,_,z1⟩:=zas w cs ds es tA tB tC _ rfl;obtain⟨g2,_,t2,z2⟩:=zaq _ fs tD _ hW;rw[z1] at t2 z2;exact⟨g1.trans g2,zcj r1 g2 (by omega),zcj r2 g2 (by omega),zcj r3 g2 (by omega),t2,z2⟩
theorem opLength_any(n:NT)(w:World):Calls Tryz.prog 122 #[n.val] w fun e w'=>e=.returned (.int .i64 n.er.len)/\Grew w w':=by
 unfold NT.val
 have hlen:n.er.len=if n.lf=true then n.ts.length else n.ks.length:=by
  unfold T.len;rw[NT.er_eq]
  simp
 have HL:=zQ0 hlen;clear hlen;generalize n.er.len=r at *
 go_enter Tryz.func122,Tryz.ntmps122
 have g1:=zQ0 (Grew.alloc1 w (.cells #[.bool n.lf,.slice n.pa n.ps.length n.pc,.slice n.ta n.ts.length n.tc,.slice n.ka n.ks.length n.kc] 26))
 rcases Bool.eq_false_or_eq_true n.lf with hlf | hlf
 ·have HX:Hid (r=n.ts.length):=by show _=_;rw[HL.out,if_pos hlf]
  rw[hlf] at g1 ⊢;go_wp2_with fail
  go_ret
  exact⟨by rw[HX.out];rfl,g1.out⟩
 ·have HX:Hid (r=n.ks.length):=by show _=_;rw[HL.out,if_neg (by simp[hlf])]
  rw[hlf] at g1 ⊢;go_wp2_with fail
  go_ret
  exact⟨by rw[HX.out];rfl,g1.out⟩
theorem cellsOfNodes_append(a b:List NT):zaB (a++b)=zaB a++zaB b:=List.flatMap_append
theorem T.join_bulk(x k:T):(T.mk x.lf x.ps (x.ts++k.ts) (x.ks++k.ks)).bulk<=x.bulk+k.bulk:=by
 rw[T.bulk_eq,T.bulk_eq x,T.bulk_eq k];simp only[T.bulkAll_append,List.length_append,T.ps,T.ts,T.ks];omega
theorem zbK(r k:NT)(o:OpL)(w:World)(hr:r.Ok w)(hk:k.Ok w)(ho:o.In w 0 w.heap.size)(hrb:r.er.bulk+k.er.bulk<=1048576)(hs:o.er.Small) :
  Calls Tryz.prog 72 #[r.val,k.val,o.val] w (zac (zbJ r.er k.er o.er) w):=by
 have later:∀ {w1},Grew w w1->o.In w1 0 w1.heap.size:=fun g=>(ho.grew g zQ1).mono zQ1 g.size;have CB:=zQ0 (fun w1 (g:Grew w w1)=>trailBack_any o.path.a o.path.c o.path.l w1 (later g).1.1 hs.1.1);have CG:=zQ0 (fun(q:PN) w1 (g:Grew w w1) (hq:IntsIn w1 0 w1.heap.size q.a q.c q.l) (hl:q.l.length<=1048576)=>treeGetR_any r q.a q.c q.l w1 (NT.Ok.grew hr g) (by omega) hq hl);have CL:=zQ0 (fun(x:NT) (w1:World)=>opLength_any x w1);have CS:=zQ0 (fun(x:List zab) (a:Option Addr) (c:Nat) w1 (g:Grew w w1) (hx:x=k.ps/\a=k.pa/\c=k.pc)=>propSame_any k.pa o.oa k.pc o.oc k.ps o.old w1 0 w1.heap.size 0 w1.heap.size ((NT.In_iff.1 (NT.Ok.grew hk g)).1) (later g).2.2.1 (by have:=k.lens;omega) hs.2.2.1 zQ1 zQ1);have CP:=zQ0 (fun(q:PN) (m:NT) w1 (g:Grew w w1) (hm:m.Ok w1) (hmb:m.er.bulk<=1048576) (hq:IntsIn w1 0 w1.heap.size q.a q.c q.l) (hl:q.l.length<=1048576)=>treePut_any r m q.a q.c q.l w1 (NT.Ok.grew hr g) (by omega) hm hmb hq hl);have HK0:=zQ0 hk;have HLK:=zQ0 k.lens;have HRB:=zQ0 hrb;have HPL:=zQ0 hs.1.1
 have HM:Hid (zbJ r.er k.er o.er=if (zam o.path.l).2≠0 then (T.nilT,8)
  else match r.er.at (zam o.path.l).1 with
  | none=>(T.nilT,5)
  | some x=>if x.lf≠k.er.lf then (T.nilT,7) else if (x.len:Int)≠o.pos then (T.nilT,8) else if k.er.ps≠o.old then (T.nilT,9)
   else zch r.er (zam o.path.l).1 (.mk x.lf x.ps (x.ts++k.er.ts) (x.ks++k.er.ks))):=rfl
 generalize zbJ r.er k.er o.er=res at *
 have HBL:Hid ((zam o.path.l).1.length<=1048576):=by
  show _<=_
  have:=hs.1.1;unfold zam zao
  repeat' split
  all_goals first | (simp[zcP];exact this) | simp
 generalize zam o.path.l=nr at *;obtain⟨rl,rk⟩:=nr;clear later hr hk ho hs hrb;unfold NT.val at CG CP ⊢;unfold OpL.val
 go_enter Tryz.func72,Tryz.ntmps72
 go_upto_region 1 with fail
 generalize hW:(((w.alloc _).alloc _).alloc _).alloc _=w1;obtain⟨g1,rR,rK,rO,tF,z1⟩:=boxes4 w r.cells4 k.cells4 o.cells NT.nil.cells4 _ _ _ _ w1 hW;clear hW;obtain⟨ov,hov⟩:∃ v,o.val=v:=⟨_,rfl⟩
 unfold OpL.val at hov;rw[hov];clear hov;have G01:=zQ0 g1;have HZ:=zQ0 z1;have TF:=zQ0 tF;have KR:=zQ0 (fun(w':World) (g:Grew w1 w')=>NT.cells4_at.1 (zcj rR g (by omega)));have KK:=zQ0 (fun(w':World) (g:Grew w1 w')=>NT.cells4_at.1 (zcj rK g (by omega)));have KO:=zQ0 (fun(w':World) (g:Grew w1 w')=>(have h:=zcj rO g (by omega);⟨zci h (j:=1) rfl,zci h (j:=3) rfl,zci h (j:=8) rfl⟩:w'.cell? ⟨w.heap.size+2,1,none⟩=some (.slice o.path.a o.path.l.length o.path.c)/\w'.cell? ⟨w.heap.size+2,3,none⟩=some (.int .i64 o.pos)/\w'.cell? ⟨w.heap.size+2,8,none⟩=some (.slice o.oa o.old.length o.oc)));clear rR rK rO tF g1 z1;obtain⟨p1,p3,p8⟩:=KO.out w1 (Grew.refl _);go_wp2_with fail
 refine (CB.out w1 G01.out).mono ?_;rintro e w2 ⟨q,rfl,g2,hq,hqe⟩;have G12:=zQ0 g2;clear p1 p3 p8 CB
 by_cases hk0:rk=0
 ·subst hk0
  have HM1:Hid (res=match r.er.at rl with
   | none=>(T.nilT,5)
   | some x=>if x.lf≠k.er.lf then (T.nilT,7) else if (x.len:Int)≠o.pos then (T.nilT,8) else if k.er.ps≠o.old then (T.nilT,9)
    else zch r.er rl (.mk x.lf x.ps (x.ts++k.er.ts) (x.ks++k.er.ks))):=by show _=_;rw[HM.out];rfl
  have hql:q.l.length<=1048576:=by rw[hqe.out];exact HBL.out
  have HG:=zQ0 (CG.out q w2 (G01.out.trans g2) (hq.mono (Nat.zero_le _) zQ1) hql);have HPQ:=zQ0 (fun(m:NT) w3 (g:Grew w2 w3) (hm:m.Ok w3) (hmb:m.er.bulk<=1048576)=>CP.out q m w3 ((G01.out.trans g2).trans g) hm hmb ((hq.agree (g.agree zQ1)).mono (Nat.zero_le _) g.size) hql);have HQE:=zQ0 hqe.out;obtain⟨n0,n1,n2,n3⟩:=KR.out w2 g2;rw[Nat.zero_add] at n1 n2 n3;clear g2 hq hqe hql CG CP HM HBL;unfold GetEndsR NT.val at HG;go_wp2_with fail
  refine HG.out.mono ?_;rintro e w3 ⟨x,k2,rfl,g3,hx,hxs,hxr,hxe⟩;clear n0 n1 n2 n3 HG;have G23:=zQ0 g3;have G13:=zQ0 (G12.out.trans g3);rw[HQE.out] at hxe;go_upto_region 5 with fail
  generalize hW:w3.alloc _=w4;obtain⟨g4,rX,tX,z4⟩:=zaq w3 x.cells4 _ w4 hW;clear hW;have HX3:=zQ0 (⟨hx.1,hxs,hxr⟩:_/\_/\_);have G34:=zQ0 g4;have G14:=zQ0 (G13.out.trans g4);have KX:=zQ0 (fun(w':World) (g:Grew w4 w')=>NT.cells4_at.1 (zcj rX g (by omega)));have TX:=zQ0 tX;have HZ4:=zQ0 z4;have hx2:=HQE.out;clear g3 g4 rX tX z4 hx hxs hxr
  rcases hxe.out with ⟨rfl,hat⟩ | ⟨rfl,hat,_⟩
  rotate_left
  ·have HN:Hid (res=(T.nilT,5)):=by show _=_;rw[HM1.out,hat]
   clear hxe hat HM1 HPQ HX3 KX TX HQE;have t3:w4.there (w.heap.size+3) 0 4:=zc4 TF.out G14.out (by have:=HZ.out;omega);have HP:=zQ0 (zcm (cs:=NT.nil.cells4) t3);have HK:=zQ0 (zcM (w.heap.size+3) NT.nil.cells4 0 w4);have FIN:=zQ0 (fun w3 (k3:Keeps (·=w.heap.size+3) w4 w3)=>zcv (x:=NT.nil) (r:=res) (bx:=w.heap.size+3) (by omega) (by have:=HZ.out;omega) G01.out G14.out NT.nil_in (by show _=_;rw[HN.out];exact zbS) k3)
   go_wp2_with (refine wpList_store_mid rfl 26 (.tmp 6) (.tmp 29) rfl (w.heap.size+3) 0 NT.nil.cells4.toArray rfl rfl t3 zbm (NT.cells4_all _) ?_;generalize hF:w4.setCells _ _ _=wf;have r3:wf.rangeAt (w.heap.size+3) 0 NT.nil.cells4:=hF ▸ HP.out;have k3:Keeps (·=w.heap.size+3) w4 wf:=hF ▸ HK.out;clear hF HP HK)
   have hfin:=FIN.out wf k3;rw[HN.out] at hfin;exact bodyPost_ret (v:=.tuple #[NT.nil.val,.int .i64 5]) (zcq Tryz.results72 _ wf (w.heap.size+3) 0 NT.nil.cells4 _ _ rfl rfl r3 Tryz.underlying26 rfl zbm) rfl (by rw[HN.out];exact hfin)
  ·have HM2:Hid (res=if x.lf≠k.lf then (T.nilT,7) else if (x.er.len:Int)≠o.pos then (T.nilT,8) else if k.ps≠o.old then (T.nilT,9)
     else zch r.er rl (NT.mk x.lf x.pa x.pc x.ps none 0 (x.ts++k.ts) none 0 (x.ks++k.ks)).er):=by
    show _=_
    rw[HM1.out,hat,NT.er_eq (NT.mk _ _ _ _ _ _ _ _ _ _)];simp only[NT.er_lf,NT.er_ps,NT.er_ts,NT.er_ks,NT.lf_mk,NT.ps_mk,NT.ts_mk,NT.ks_mk,List.map_append]
   have HXB:Hid (x.er.bulk<=r.er.bulk):=zat hat
   have HBN:Hid ((x.ts.length+k.ts.length<=1048576/\x.ks.length+k.ks.length<=1048576)/\x.er.bulk+k.er.bulk<=1048576):=by
    have h1:=x.lens;have h2:=HLK.out;have h3:=HXB.out;have h4:=HRB.out;exact⟨⟨by omega,by omega⟩,by omega⟩
   clear hxe hat HM1;obtain⟨x0,x1,x2,x3⟩:=KX.out w4 (Grew.refl _);rw[Nat.zero_add] at x1 x2 x3;obtain⟨y0,y1,y2,y3⟩:=KK.out w4 G14.out;rw[Nat.zero_add] at y1 y2 y3
   by_cases hlf:x.lf=k.lf
   rotate_left
   ·have t1:(x.lf == k.lf)=false:=by simpa using hlf
    have HN:Hid (res=(T.nilT,7)):=by show _=_;rw[HM2.out,if_pos hlf]
    clear hlf HM2 HPQ HX3 KX TX HQE HXB;have t3:w4.there (w.heap.size+3) 0 4:=zc4 TF.out G14.out (by have:=HZ.out;omega);have HP:=zQ0 (zcm (cs:=NT.nil.cells4) t3);have HK:=zQ0 (zcM (w.heap.size+3) NT.nil.cells4 0 w4);have FIN:=zQ0 (fun w3 (k3:Keeps (·=w.heap.size+3) w4 w3)=>zcv (x:=NT.nil) (r:=res) (bx:=w.heap.size+3) (by omega) (by have:=HZ.out;omega) G01.out G14.out NT.nil_in (by show _=_;rw[HN.out];exact zbS) k3)
    go_wp2_with (refine wpList_store_mid rfl 26 (.tmp 6) (.tmp 37) rfl (w.heap.size+3) 0 NT.nil.cells4.toArray rfl rfl t3 zbm (NT.cells4_all _) ?_;generalize hF:w4.setCells _ _ _=wf;have r3:wf.rangeAt (w.heap.size+3) 0 NT.nil.cells4:=hF ▸ HP.out;have k3:Keeps (·=w.heap.size+3) w4 wf:=hF ▸ HK.out;clear hF HP HK)
    have hfin:=FIN.out wf k3;rw[HN.out] at hfin;exact bodyPost_ret (v:=.tuple #[NT.nil.val,.int .i64 7]) (zcq Tryz.results72 _ wf (w.heap.size+3) 0 NT.nil.cells4 _ _ rfl rfl r3 Tryz.underlying26 rfl zbm) rfl (by rw[HN.out];exact hfin)
   ·have t1:(x.lf == k.lf)=true:=by simpa using hlf
    have HM3:Hid (res=if (x.er.len:Int)≠o.pos then (T.nilT,8) else if k.ps≠o.old then (T.nilT,9)
     else zch r.er rl (NT.mk x.lf x.pa x.pc x.ps none 0 (x.ts++k.ts) none 0 (x.ks++k.ks)).er):=by show _=_;rw[HM2.out,if_neg (by simpa using hlf)]
    clear hlf HM2;have CLx:=zQ0 (fun w1=>CL.out x w1);unfold NT.val at CLx;generalize hxl:x.er.len=xl at *;clear hxl CL;obtain⟨lb,hlb⟩:∃ b,((xl:Int) != o.pos)=b:=⟨_,rfl⟩
    go_upto_region 9 with fail
    have KF:=fun(w':World) (g:Grew w4 w')=>(⟨(KX.out w' g).1,by have:=(KX.out w' g).2.1;rwa [Nat.zero_add] at this,by have:=(KX.out w' g).2.2.1;rwa [Nat.zero_add] at this,by have:=(KX.out w' g).2.2.2;rwa [Nat.zero_add] at this,(KO.out w' (G14.out.trans g)).2.1⟩:w'.cell? ⟨w3.heap.size,0,none⟩=some (.bool x.lf)/\w'.cell? ⟨w3.heap.size,1,none⟩=some (.slice x.pa x.ps.length x.pc)/\w'.cell? ⟨w3.heap.size,2,none⟩=some (.slice x.ta x.ts.length x.tc)/\w'.cell? ⟨w3.heap.size,3,none⟩=some (.slice x.ka x.ks.length x.kc)/\w'.cell? ⟨w.heap.size+2,3,none⟩=some (.int .i64 o.pos))
    have g40:Grew w4 w4.drew:=(Grew.refl _).drew;clear x0 x1 x2 x3 y0 y1 y2 y3
    go_region_held3 (fun w'=>Grew w4 w') ((first | assumption | exact Grew.trans (by assumption) (by assumption) | exact Grew.trans (by assumption) (Grew.alloc1 _ _)))
     ((first | (go_at_call 122;refine (CLx.out _).mono ?_;rintro e w5 ⟨rfl,g5⟩)))
    have G45:=zQ0 (g40.trans g5);have G15:=zQ0 (G14.out.trans (g40.trans g5));clear KF g40 g5 CLx
    cases lb with
    | true =>
     have HN:Hid (res=(T.nilT,8)):=by show _=_;rw[HM3.out,if_pos (by simpa using hlb)]
     clear HM3 HPQ HX3 KX TX HQE HXB;have t3:w5.there (w.heap.size+3) 0 4:=zc4 TF.out G15.out (by have:=HZ.out;omega);have HP:=zQ0 (zcm (cs:=NT.nil.cells4) t3);have HK:=zQ0 (zcM (w.heap.size+3) NT.nil.cells4 0 w5);have FIN:=zQ0 (fun w3 (k3:Keeps (·=w.heap.size+3) w5 w3)=>zcv (x:=NT.nil) (r:=res) (bx:=w.heap.size+3) (by omega) (by have:=HZ.out;omega) G01.out G15.out NT.nil_in (by show _=_;rw[HN.out];exact zbS) k3)
     go_wp2_with (refine wpList_store_mid rfl 26 (.tmp 6) (.tmp 44) rfl (w.heap.size+3) 0 NT.nil.cells4.toArray rfl rfl t3 zbm (NT.cells4_all _) ?_;generalize hF:w5.setCells _ _ _=wf;have r3:wf.rangeAt (w.heap.size+3) 0 NT.nil.cells4:=hF ▸ HP.out;have k3:Keeps (·=w.heap.size+3) w5 wf:=hF ▸ HK.out;clear hF HP HK)
     have hfin:=FIN.out wf k3;rw[HN.out] at hfin;exact bodyPost_ret (v:=.tuple #[NT.nil.val,.int .i64 8]) (zcq Tryz.results72 _ wf (w.heap.size+3) 0 NT.nil.cells4 _ _ rfl rfl r3 Tryz.underlying26 rfl zbm) rfl (by rw[HN.out];exact hfin)
    | false =>
     have HM4:Hid (res=if k.ps≠o.old then (T.nilT,9) else zch r.er rl (NT.mk x.lf x.pa x.pc x.ps none 0 (x.ts++k.ts) none 0 (x.ks++k.ks)).er):=by show _=_;rw[HM3.out,if_neg (by simpa using hlb)]
     clear HM3 hlb;obtain⟨y0,y1,y2,y3⟩:=KK.out w5 G15.out;rw[Nat.zero_add] at y1 y2 y3;obtain⟨p1,p3,p8⟩:=KO.out w5 G15.out;have CSx:=zQ0 (CS.out k.ps k.pa k.pc w5 (G01.out.trans G15.out) ⟨rfl,rfl,rfl⟩);go_wp2_with fail
     refine CSx.out.mono ?_;rintro e w6 ⟨rfl,g6⟩;have G46:=zQ0 (G45.out.trans g6);have G16:=zQ0 (G15.out.trans g6);clear y0 y1 y2 y3 p1 p3 p8 g6 CSx CS G45
     by_cases hps:k.ps=o.old
     rotate_left
     ·have t2:decide (k.ps=o.old)=false:=by simpa using hps
      have HN:Hid (res=(T.nilT,9)):=by show _=_;rw[HM4.out,if_pos hps]
      clear hps HM4 HPQ HX3 KX TX HQE HXB;have t3:w6.there (w.heap.size+3) 0 4:=zc4 TF.out G16.out (by have:=HZ.out;omega);have HP:=zQ0 (zcm (cs:=NT.nil.cells4) t3);have HK:=zQ0 (zcM (w.heap.size+3) NT.nil.cells4 0 w6);have FIN:=zQ0 (fun w3 (k3:Keeps (·=w.heap.size+3) w6 w3)=>zcv (x:=NT.nil) (r:=res) (bx:=w.heap.size+3) (by omega) (by have:=HZ.out;omega) G01.out G16.out NT.nil_in (by show _=_;rw[HN.out];exact zbS) k3)
      go_wp2_with (refine wpList_store_mid rfl 26 (.tmp 6) (.tmp 52) rfl (w.heap.size+3) 0 NT.nil.cells4.toArray rfl rfl t3 zbm (NT.cells4_all _) ?_;generalize hF:w6.setCells _ _ _=wf;have r3:wf.rangeAt (w.heap.size+3) 0 NT.nil.cells4:=hF ▸ HP.out;have k3:Keeps (·=w.heap.size+3) w6 wf:=hF ▸ HK.out;clear hF HP HK)
      have hfin:=FIN.out wf k3;rw[HN.out] at hfin;exact bodyPost_ret (v:=.tuple #[NT.nil.val,.int .i64 9]) (zcq Tryz.results72 _ wf (w.heap.size+3) 0 NT.nil.cells4 _ _ rfl rfl r3 Tryz.underlying26 rfl zbm) rfl (by rw[HN.out];exact hfin)
     ·have t2:decide (k.ps=o.old)=true:=by simpa using hps
      have HM5:Hid (res=zch r.er rl (NT.mk x.lf x.pa x.pc x.ps none 0 (x.ts++k.ts) none 0 (x.ks++k.ks)).er):=by show _=_;rw[HM4.out,if_neg (by simpa using hps)]
      clear hps HM4;go_upto_region 13 with fail
      have G36:=zQ0 (G34.out.trans G46.out);have gd:Grew w6 w6.drew:=(Grew.refl _).drew;have HX7:Hid (x.In w6.drew w2.heap.size w3.heap.size/\x.Sep w2.heap.size w3.heap.size/\x.Room w6.drew):=⟨NT.In.agree HX3.out.1 (((G36.out.trans gd).agree zQ1).mono (Nat.zero_le _) zQ1),HX3.out.2.1,NT.Room.agree (((G36.out.trans gd).agree zQ1).mono (Nat.zero_le _) zQ1) HX3.out.2.2 HX3.out.1⟩
      have HK7:Hid (k.In w6.drew 0 w.heap.size):=NT.In.grew HK0.out (G01.out.trans (G16.out.trans gd)) zQ1;have G17:=zQ0 (G16.out.trans gd);have G47:=zQ0 (G46.out.trans gd);have G27:Hid (Grew w2 w6.drew):=G23.out.trans (G36.out.trans gd);have HB4:Hid (w3.heap.size < w4.heap.size):=by show _ < _;have:=HZ4.out;omega
      have HSZ:Hid ((w.heap.size+4=w1.heap.size/\w1.heap.size<=w2.heap.size)/\w2.heap.size<=w3.heap.size/\w3.heap.size < w6.drew.heap.size):=⟨⟨HZ.out.symm,G12.out.size⟩,G23.out.size,by have h1:=HZ4.out;have h2:=G47.out.size;omega⟩
      have HOlo:Hid (∀ j,(zaa x.ta x.ts.length j\/zaa x.ka x.ks.length j\/j=w3.heap.size)->w2.heap.size<=j):=fun j hj=>by
       have h:=NT.In_iff.1 HX7.out.1
       rcases hj with hj | hj | hj
       ·exact (own_blk h.2.1.1 hj).1
       ·exact (own_blk h.2.2.1 hj).1
       ·rw[hj];exact HSZ.out.2.1
      have c3:w6.drew.cell? ⟨w3.heap.size,3,none⟩=some (.slice x.ka x.ks.length x.kc):=by have:=(KX.out w6.drew G47.out).2.2.2;rwa [Nat.zero_add] at this
      have hK0:Keeps (fun j=>zaa x.ta x.ts.length j\/zaa x.ka x.ks.length j\/j=w3.heap.size) w6.drew w6.drew:=Keeps.refl _ _;refine zdl (fun w'=>Keeps (fun j=>zaa x.ta x.ts.length j\/zaa x.ka x.ks.length j\/j=w3.heap.size) w6.drew w'/\w'.cell? ⟨w3.heap.size,3,none⟩=some (.slice x.ka x.ks.length x.kc)) (fun j=>j.blt 12 && j != 0 && j != 2 && j != 5 && j != 7) (by kernel_rfl) ?_;clear gd G16 G46 G36 HX3 G34 HZ4 G23;generalize w6.drew=w7 at *;have KS:=zQ0 (fun w' (hS:Keeps (fun j=>zaa x.ta x.ts.length j\/zaa x.ka x.ks.length j\/j=w3.heap.size) w7 w'/\w'.cell? ⟨w3.heap.size,3,none⟩=some (.slice x.ka x.ks.length x.kc))=>(have hb:∀ j,w'.cell? ⟨w.heap.size+1,j,none⟩=w7.cell? ⟨w.heap.size+1,j,none⟩:=fun j=>hS.1.cell (p:=⟨w.heap.size+1,j,none⟩) (by show w.heap.size+1 < _;have h1:=HSZ.out;omega) (fun ho=>by have h1:=HOlo.out _ ho;have h2:=HSZ.out;exact absurd h1 (by show ¬ w2.heap.size<=w.heap.size+1;omega));have hn:=KK.out w7 G17.out;⟨(hb 2).trans (by have:=hn.2.2.1;rwa [Nat.zero_add] at this),(hb 3).trans (by have:=hn.2.2.2;rwa [Nat.zero_add] at this),hS.2⟩:w'.cell? ⟨w.heap.size+1,2,none⟩=some (.slice k.ta k.ts.length k.tc)/\w'.cell? ⟨w.heap.size+1,3,none⟩=some (.slice k.ka k.ks.length k.kc)/\w'.cell? ⟨w3.heap.size,3,none⟩=some (.slice x.ka x.ks.length x.kc)));have hS:Keeps (fun j=>zaa x.ta x.ts.length j\/zaa x.ka x.ks.length j\/j=w3.heap.size) w7 w7/\w7.cell? ⟨w3.heap.size,3,none⟩=some (.slice x.ka x.ks.length x.kc):=⟨hK0,c3⟩
      clear hK0 c3;refine zdg (i:=0) (v:=.pointer (some ⟨w3.heap.size,2,none⟩)) rfl (by kernel_rfl) (by kernel_rfl) (by kernel_rfl) (by kernel_rfl) (fun _ _ _ h=>h) (Or.inl ⟨rfl,fun w' hS=>by go_simp⟩) ?_;refine zdg (i:=2) (v:=.pointer (some ⟨w.heap.size+1,2,none⟩)) rfl (by kernel_rfl) (by kernel_rfl) (by kernel_rfl) (by kernel_rfl) (fun _ _ _ h=>h) (Or.inl ⟨rfl,fun w' hS=>by go_simp⟩) ?_;refine zdg (i:=5) (v:=.pointer (some ⟨w3.heap.size,3,none⟩)) rfl (by kernel_rfl) (by kernel_rfl) (by kernel_rfl) (by kernel_rfl) (fun _ _ _ h=>h) (Or.inl ⟨rfl,fun w' hS=>by go_simp⟩) ?_;refine zdg (i:=7) (v:=.pointer (some ⟨w.heap.size+1,3,none⟩)) rfl (by kernel_rfl) (by kernel_rfl) (by kernel_rfl) (by kernel_rfl) (fun _ _ _ h=>h) (Or.inl ⟨rfl,fun w' hS=>by go_simp⟩) ?_;refine zdh (i:=3) (v:=.slice k.ta k.ts.length k.tc) rfl (by kernel_rfl) (Or.inl ⟨rfl,fun w' hS=>by obtain⟨q1,q2,q3⟩:=KS.out w' hS;go_simp⟩) hS ?_;refine zdh (i:=6) (v:=.slice x.ka x.ks.length x.kc) rfl (by kernel_rfl) (Or.inl ⟨rfl,fun w' hS=>by obtain⟨q1,q2,q3⟩:=KS.out w' hS;go_simp⟩) hS ?_;refine zdh (i:=8) (v:=.slice k.ka k.ks.length k.kc) rfl (by kernel_rfl) (Or.inl ⟨rfl,fun w' hS=>by obtain⟨q1,q2,q3⟩:=KS.out w' hS;go_simp⟩) hS ?_;have c2:w7.cell? ⟨w3.heap.size,2,none⟩=some (.slice x.ta x.ts.length x.tc):=by have:=(KX.out w7 G47.out).2.2.1;rwa [Nat.zero_add] at this
      refine zdf (i:=1) (by kernel_rfl) rfl rfl ?_;intro K' hK';go_wp2_with fail
      first | refine⟨fun _=>hS,?_⟩ | skip
      clear c2;refine zdf (i:=4) (by kernel_rfl) rfl rfl ?_;intro K' hK';refine wp_append_roomy rfl (.tmp 54) (.tmp 56) 23 rfl 21 Tryz.underlying23 infoRune rfl (by decide) w2.heap.size w3.heap.size x.ta x.ts.length x.tc (fun i _=>.int .i32 (x.ts.getD i 0)) rfl (NT.In_iff.1 HX7.out.1).2.1.1 (NT.Room_iff.1 HX7.out.2.2).1 (by have:=HSZ.out;omega) (by have:=HSZ.out;omega) (x.ts.map (Value.int .i32)) (by simp) (ints_at32 x.ts) k.ta k.ts.length k.tc 0 w.heap.size (fun i _=>.int .i32 (k.ts.getD i 0)) rfl (NT.In_iff.1 HK7.out).2.1.1 (k.ts.map (Value.int .i32)) (by simp) (ints_at32 k.ts) (ints_oneCell _ _) (fun i _=>.int .i32 ((x.ts++k.ts).getD i 0)) (by rw[<- List.map_append];intro i hi j hj;exact ints_at32 (x.ts++k.ts) i (by rw[List.length_append];exact hi) j hj) (by have:=HBN.out;unfold maxLen;omega) (by have:=HBN.out;omega) (fun va vc w8 rT K1 bT=>?_);have K1:Keeps (zaa x.ta x.ts.length) w7 w8:=K1;have hS8:Keeps (fun j=>zaa x.ta x.ts.length j\/zaa x.ka x.ks.length j\/j=w3.heap.size) w7 w8/\w8.cell? ⟨w3.heap.size,3,none⟩=some (.slice x.ka x.ks.length x.kc):=⟨K1.wider (fun j _ h=>Or.inl h),(K1.cell (p:=⟨w3.heap.size,3,none⟩) (by show w3.heap.size < _;have:=HSZ.out;omega) (fun ho=>by have h1:=(own_blk (NT.In_iff.1 HX7.out.1).2.1.1 ho).2;exact absurd h1 (Nat.lt_irrefl _))).trans hS.2⟩
      refine hK' _ _ ⟨fun _=>hS8,?_⟩;clear hK' K';obtain⟨rX8,mX8⟩:=merged_mid HX7.out.1 HX7.out.2.1 HX7.out.2.2 (by have:=HSZ.out;omega) K1;have rKK:RowIn w8 0 w.heap.size k.ka k.ks.length k.kc 4 (fun i j=>(k.ks.getD i default).cell j):=RowIn.kept (NT.In_iff.1 HK7.out).2.2.1 K1 (by have:=HSZ.out;omega) (fun b off e hn ho=>by have h1:=(own_blk (NT.In_iff.1 HX7.out.1).2.1.1 ho).1;have h2:=((NT.In_iff.1 HK7.out).2.2.1.blk b off e hn).2;have h3:=HSZ.out;omega);have z78:=K1.size;refine zdh (i:=10) (v:=.pointer (some ⟨w3.heap.size,2,none⟩)) rfl (by kernel_rfl) (Or.inl ⟨rfl,fun w' hS=>by go_simp⟩) hS8 ?_;refine zdf (i:=9) (by kernel_rfl) rfl rfl ?_;intro K' hK';refine wp_append_roomy rfl (.tmp 59) (.tmp 61) 24 rfl 26 Tryz.underlying24 zbo rfl (by decide) w2.heap.size w3.heap.size x.ka x.ks.length x.kc (fun i j=>(x.ks.getD i default).cell j) rfl rX8 mX8 (by have:=HSZ.out;omega) (by have:=HSZ.out;omega) (zaB x.ks) (zaE _) (zaD x.ks) k.ka k.ks.length k.kc 0 w.heap.size (fun i j=>(k.ks.getD i default).cell j) rfl rKK (zaB k.ks) (zaE _) (zaD k.ks) (zaF _) (fun i j=>((x.ks++k.ks).getD i default).cell j) (by rw[<- cellsOfNodes_append];intro i hi j hj;exact zaD (x.ks++k.ks) i (by rw[List.length_append];exact hi) j hj) (by have:=HBN.out;unfold maxLen;omega) (by have:=HBN.out;omega) (fun ua uc w9 rK K2 bK=>?_);have K2:Keeps (zaa x.ka x.ks.length) w8 w9:=K2;have z89:=K2.size;have oK:∀ j,zaa x.ka x.ks.length j->j < w3.heap.size:=fun j ho=>(own_blk (NT.In_iff.1 HX7.out.1).2.2.1 ho).2;have oT:∀ j,zaa x.ta x.ts.length j->j < w3.heap.size:=fun j ho=>(own_blk (NT.In_iff.1 HX7.out.1).2.1.1 ho).2;have hS9:Keeps (fun j=>zaa x.ta x.ts.length j\/zaa x.ka x.ks.length j\/j=w3.heap.size) w7 w9/\w9.cell? ⟨w3.heap.size,3,none⟩=some (.slice x.ka x.ks.length x.kc):=⟨hS8.1.trans (K2.wider (fun j _ h=>Or.inr (Or.inl h))),(K2.cell (p:=⟨w3.heap.size,3,none⟩) (by show w3.heap.size < _;have:=HSZ.out;omega) (fun ho=>absurd (oK _ ho) (Nat.lt_irrefl _))).trans hS8.2⟩
      refine hK' _ _ ⟨fun _=>hS9,?_⟩;clear hK' K';have K79:Keeps (fun j=>zaa x.ta x.ts.length j\/zaa x.ka x.ks.length j) w7 w9:=(K1.wider (fun j _ h=>Or.inl h)).trans (K2.wider (fun j _ h=>Or.inr h));have hcb:∀ j,w9.cell? ⟨w3.heap.size,j,none⟩=w7.cell? ⟨w3.heap.size,j,none⟩:=fun j=>K79.cell (p:=⟨w3.heap.size,j,none⟩) (by show w3.heap.size < _;have:=HSZ.out;omega) (fun ho=>by rcases ho with ho | ho <;> first | exact absurd (oT _ ho) (Nat.lt_irrefl _) | exact absurd (oK _ ho) (Nat.lt_irrefl _));have hfb:∀ j,w9.frozen? ⟨w3.heap.size,j,none⟩=w7.frozen? ⟨w3.heap.size,j,none⟩:=fun j=>K79.frozen (p:=⟨w3.heap.size,j,none⟩) (by show w3.heap.size < _;have:=HSZ.out;omega) (fun ho=>by rcases ho with ho | ho <;> first | exact absurd (oT _ ho) (Nat.lt_irrefl _) | exact absurd (oK _ ho) (Nat.lt_irrefl _));have hn7:=KX.out w7 G47.out;unfold NodeAt at hn7;simp only[Nat.zero_add] at hn7;have ht7:=zc4 TX.out G47.out (by have h1:=HSZ.out;have h2:=G47.out.size;exact HB4.out);have c0:=(hcb 0).trans hn7.1;have c1:=(hcb 1).trans hn7.2.1;have c2:=(hcb 2).trans hn7.2.2.1;have c3:=(hcb 3).trans hn7.2.2.2;have f2:w9.frozen? ⟨w3.heap.size,2,none⟩=false:=(hfb 2).trans (by have:=(ht7 2 (by rw[NT.cells4_len];decide)).2;simpa using this);have f3:w9.frozen? ⟨w3.heap.size,3,none⟩=false:=(hfb 3).trans (by have:=(ht7 3 (by rw[NT.cells4_len];decide)).2;simpa using this);clear hcb hfb hn7 ht7 hS8 hS rX8 mX8 rKK;refine zdf (i:=11) (by kernel_rfl) rfl rfl ?_;intro K' hK';go_wp2_with fail
      refine⟨fun _=>⟨hS9.1.setCell (Or.inr (Or.inr (Or.inr rfl))) _,(zau (by decide)).trans hS9.2⟩,?_⟩;refine zdf (i:=12) (by kernel_rfl) rfl rfl ?_;intro K' hK';go_wp2_with fail
      first | refine⟨fun h=>(by cases h),?_⟩ | skip
      refine zdf (i:=13) (by kernel_rfl) rfl rfl ?_;intro K' hK';go_wp2_with fail
      refine⟨fun h=>(by cases h),?_⟩;refine zde (by kernel_rfl) ?_ _;have K3:Keeps (·=w3.heap.size) w9 ((w9.setCell ⟨w3.heap.size,2,none⟩ (.slice va (x.ts.length+k.ts.length) vc)).setCell ⟨w3.heap.size,3,none⟩ (.slice ua (x.ks.length+k.ks.length) uc)):=((Keeps.refl _ _).own _ _).own _ _
      have HMI:Hid ((NT.mk x.lf x.pa x.pc x.ps va vc (x.ts++k.ts) ua uc (x.ks++k.ks)).In ((w9.setCell ⟨w3.heap.size,2,none⟩ (.slice va (x.ts.length+k.ts.length) vc)).setCell ⟨w3.heap.size,3,none⟩ (.slice ua (x.ks.length+k.ks.length) uc)) 0 ((w9.setCell ⟨w3.heap.size,2,none⟩ (.slice va (x.ts.length+k.ts.length) vc)).setCell ⟨w3.heap.size,3,none⟩ (.slice ua (x.ks.length+k.ks.length) uc)).heap.size):=merged_in HX7.out.1 HX7.out.2.1 zQ1 HSZ.out.2.2 HK7.out (by have:=HSZ.out;omega) K1 K2 K3 rT bT rK (fun b off e hn=>by
       rcases bK b off e hn with h | h
       ·exact Or.inl h
       ·exact Or.inr (Nat.le_trans z78 h))
      have HMB:Hid ((NT.mk x.lf x.pa x.pc x.ps va vc (x.ts++k.ts) ua uc (x.ks++k.ks)).er.bulk<=1048576):=by
       show _<=_
       have h:=T.join_bulk x.er k.er
       have e:(NT.mk x.lf x.pa x.pc x.ps va vc (x.ts++k.ts) ua uc (x.ks++k.ks)).er=T.mk x.er.lf x.er.ps (x.er.ts++k.er.ts) (x.er.ks++k.er.ks):=by
        rw[NT.er_eq];simp only[NT.er_lf,NT.er_ps,NT.er_ts,NT.er_ks,NT.lf_mk,NT.ps_mk,NT.ts_mk,NT.ks_mk,List.map_append]
       rw[e];have:=HBN.out.2;omega
      have HME:Hid (res=zch r.er rl (NT.mk x.lf x.pa x.pc x.ps va vc (x.ts++k.ts) ua uc (x.ks++k.ks)).er):=by show _=_;rw[HM5.out,NT.er_eq (NT.mk x.lf x.pa x.pc x.ps none 0 (x.ts++k.ts) none 0 (x.ks++k.ks)),NT.er_eq (NT.mk x.lf x.pa x.pc x.ps va vc (x.ts++k.ts) ua uc (x.ks++k.ks))];rfl
      have d0:((w9.setCell ⟨w3.heap.size,2,none⟩ (.slice va (x.ts.length+k.ts.length) vc)).setCell ⟨w3.heap.size,3,none⟩ (.slice ua (x.ks.length+k.ks.length) uc)).cell? ⟨w3.heap.size,0,none⟩=some (.bool x.lf):=by rw[zau (by decide),zau (by decide)];exact c0
      have d1:((w9.setCell ⟨w3.heap.size,2,none⟩ (.slice va (x.ts.length+k.ts.length) vc)).setCell ⟨w3.heap.size,3,none⟩ (.slice ua (x.ks.length+k.ks.length) uc)).cell? ⟨w3.heap.size,1,none⟩=some (.slice x.pa x.ps.length x.pc):=by rw[zau (by decide),zau (by decide)];exact c1
      have d2:((w9.setCell ⟨w3.heap.size,2,none⟩ (.slice va (x.ts.length+k.ts.length) vc)).setCell ⟨w3.heap.size,3,none⟩ (.slice ua (x.ks.length+k.ks.length) uc)).cell? ⟨w3.heap.size,2,none⟩=some (.slice va (x.ts.length+k.ts.length) vc):=by rw[zau (by decide)];exact zaw c2
      have d3:((w9.setCell ⟨w3.heap.size,2,none⟩ (.slice va (x.ts.length+k.ts.length) vc)).setCell ⟨w3.heap.size,3,none⟩ (.slice ua (x.ks.length+k.ks.length) uc)).cell? ⟨w3.heap.size,3,none⟩=some (.slice ua (x.ks.length+k.ks.length) uc):=zaw (by rw[zau (by decide)];exact c3);have KA:Keeps (fun j=>zaa x.ta x.ts.length j\/zaa x.ka x.ks.length j\/j=w3.heap.size) w7 ((w9.setCell ⟨w3.heap.size,2,none⟩ (.slice va (x.ts.length+k.ts.length) vc)).setCell ⟨w3.heap.size,3,none⟩ (.slice ua (x.ks.length+k.ks.length) uc)):=(K79.wider (fun j _ h=>by rcases h with h | h;exact Or.inl h;exact Or.inr (Or.inl h))).trans (K3.wider (fun j _ h=>Or.inr (Or.inr h)));have G1X:Hid (Grew w1 ((w9.setCell ⟨w3.heap.size,2,none⟩ (.slice va (x.ts.length+k.ts.length) vc)).setCell ⟨w3.heap.size,3,none⟩ (.slice ua (x.ks.length+k.ks.length) uc))):=Grew.keep G17.out KA (fun j hj=>Nat.le_trans HSZ.out.1.2 (HOlo.out j hj));have G2X:Hid (Grew w2 ((w9.setCell ⟨w3.heap.size,2,none⟩ (.slice va (x.ts.length+k.ts.length) vc)).setCell ⟨w3.heap.size,3,none⟩ (.slice ua (x.ks.length+k.ks.length) uc))):=Grew.keep G27.out KA (fun j hj=>HOlo.out j hj);clear K1 K2 K3 KA K79 rT bT rK bK c0 c1 c2 c3 f2 f3 hS9 oK oT z78 z89 HX7 HK7 HOlo KS TX KX HM5 HXB HK0;generalize (w9.setCell ⟨w3.heap.size,2,none⟩ (.slice va (x.ts.length+k.ts.length) vc)).setCell ⟨w3.heap.size,3,none⟩ (.slice ua (x.ks.length+k.ks.length) uc)=wA at *;have HPx:=HPQ.out (NT.mk x.lf x.pa x.pc x.ps va vc (x.ts++k.ts) ua uc (x.ks++k.ks)) wA G2X.out HMI.out HMB.out;have HRx:Hid (zch r.er rl (NT.mk x.lf x.pa x.pc x.ps va vc (x.ts++k.ts) ua uc (x.ks++k.ks)).er=res):=HME.out.symm;rw[hx2,HRx.out] at HPx;simp only[NT.lf_mk,NT.pa_mk,NT.pc_mk,NT.ps_mk,NT.ta_mk,NT.tc_mk,NT.ts_mk,NT.ka_mk,NT.kc_mk,NT.ks_mk,List.length_append] at HPx;have HPy:=zQ0 HPx;obtain⟨n0,n1,n2,n3⟩:=KR.out wA G1X.out;rw[Nat.zero_add] at n1 n2 n3;clear HPx HPQ;go_wp2_with fail
      refine HPy.out.mono ?_;rintro e wB ⟨y,rfl,gB,hy,hye⟩;have t3:wB.there (w.heap.size+3) 0 4:=zc4 TF.out (G1X.out.trans gB) (by have:=HZ.out;omega);have HP:=zQ0 (zcm (cs:=y.cells4) t3);have HK:=zQ0 (zcM (w.heap.size+3) y.cells4 0 wB);have HFIN:=zQ0 (fun wf (k3:Keeps (·=w.heap.size+3) wB wf)=>zcv (x:=y) (r:=res) (bx:=w.heap.size+3) (by omega) (by have h1:=G1X.out.size;have:=HZ.out;omega) (G01.out.trans G1X.out) gB hy hye k3);clear n0 n1 n2 n3 d0 d1 d2 d3 hy hye gB HPy
      go_wp2_with (refine wpList_store_mid rfl 26 (.tmp 6) (.tmp 69) rfl (w.heap.size+3) 0 y.cells4.toArray rfl rfl t3 zbm (NT.cells4_all _) ?_;generalize hF:wB.setCells _ _ _=wf;have r3:wf.rangeAt (w.heap.size+3) 0 y.cells4:=hF ▸ HP.out;have k3:Keeps (·=w.heap.size+3) wB wf:=hF ▸ HK.out;clear hF HP HK)
      exact bodyPost_ret (v:=.tuple #[y.val,.int .i64 res.2]) (zcq Tryz.results72 _ wf (w.heap.size+3) 0 y.cells4 _ _ rfl rfl r3 Tryz.underlying26 rfl zbm) rfl (HFIN.out wf k3)
 ·have t0:(rk != 0)=true:=by simpa using hk0
  have HN:Hid (res=(T.nilT,8)):=by show _=_;rw[HM.out,if_pos hk0]
  clear hk0 HM;have t3:w2.there (w.heap.size+3) 0 4:=zc4 TF.out G12.out (by have:=HZ.out;omega);have HP:=zQ0 (zcm (cs:=NT.nil.cells4) t3);have HK:=zQ0 (zcM (w.heap.size+3) NT.nil.cells4 0 w2);have FIN:=zQ0 (fun w3 (k3:Keeps (·=w.heap.size+3) w2 w3)=>zcv (x:=NT.nil) (r:=res) (bx:=w.heap.size+3) (by omega) (by have:=HZ.out;omega) G01.out G12.out NT.nil_in (by show _=_;rw[HN.out];exact zbS) k3)
  go_wp2_with (refine wpList_store_mid rfl 26 (.tmp 6) (.tmp 19) rfl (w.heap.size+3) 0 NT.nil.cells4.toArray rfl rfl t3 zbm (NT.cells4_all _) ?_;generalize hF:w2.setCells _ _ _=wf;have r3:wf.rangeAt (w.heap.size+3) 0 NT.nil.cells4:=hF ▸ HP.out;have k3:Keeps (·=w.heap.size+3) w2 wf:=hF ▸ HK.out;clear hF HP HK)
  have hfin:=FIN.out wf k3;rw[HN.out] at hfin;exact bodyPost_ret (v:=.tuple #[NT.nil.val,.int .i64 8]) (zcq Tryz.results72 _ wf (w.heap.size+3) 0 NT.nil.cells4 _ _ rfl rfl r3 Tryz.underlying26 rfl zbm) rfl (by rw[HN.out];exact hfin)
mutual
def T.text:T->List Int
 | .mk _ _ ts ks=>ts++T.texts ks
def T.texts:List T->List Int
 | []=>[]
 | k::r=>T.text k++T.texts r
end
theorem T.at_one(t:T)(i:Int){x:T}(h:t.at [i]=some x):0<=i/\i < t.ks.length/\x=t.ks.getD i.toNat default:=by
 rw[T.at] at h
 split at h
 ·cases h
 ·rename_i hn
  rw[T.at] at h;exact⟨by omega,by omega,by injection h with h;exact h.symm⟩
theorem changed_ok{t:T}{p:List Int}{how:How}(hk:∀ y c,how y=.inr c->c≠0)(h:(zaM t p how).2=0):∃ y y',t.at p=some y/\how y=.inl y'/\zaM t p how=(T.setAt y' t p,0):=by
 unfold zaM at h ⊢
 cases ha:t.at p with
 | none=>rw[ha] at h;exact absurd h (show ¬ (5:Int)=0 by decide)
 | some y =>
  rw[ha] at h
  cases hh:how y with
  | inl y'=>exact⟨y,y',rfl,hh,by simp only[hh]⟩
  | inr c=>simp only[hh] at h;exact absurd h (hk y c hh)
theorem put_ok{t m y:T}{p:List Int}(h:t.at p=some y):zch t p m=(T.setAt m t p,0):=by
 unfold zch zaM;rw[h]
theorem addHow_err{i:Int}{m y:T}{c:Int}(h:zae i m y=.inr c):c≠0:=by
 unfold zae at h
 split at h
 ·injection h with h;subst h;decide
 ·split at h
  ·injection h with h;subst h;decide
  ·cases h
theorem add_ok{t m:T}{p:List Int}(h:(addT t p m).2=0):p≠[]/\∃ u,t.at (p.take (p.length - 1))=some u/\u.lf=false/\0<=p.getD (p.length - 1) 0/\p.getD (p.length - 1) 0<=u.ks.length /\
  addT t p m=(T.setAt (.mk u.lf u.ps u.ts (u.ks.take (p.getD (p.length - 1) 0).toNat++m::u.ks.drop (p.getD (p.length - 1) 0).toNat)) t (p.take (p.length - 1)),0):=by
 unfold addT at h ⊢
 split at h
 ·exact absurd h (show ¬ (6:Int)=0 by decide)
 ·rename_i hp
  refine⟨hp,?_⟩;rw[if_neg hp];obtain⟨u,u',hu,hh,he⟩:=changed_ok (fun _ _=>addHow_err) h;unfold zae at hh
  split at hh
  ·cases hh
  ·rename_i hlf
   split at hh
   ·cases hh
   ·rename_i hb
    injection hh with hh
    subst hh;exact⟨u,hu,by simpa using hlf,by omega,by omega,he⟩
theorem cut_ok{t:T}{p:List Int}(h:(cutT t p).2.2=0):p≠[]/\∃ u,t.at (p.take (p.length - 1))=some u/\0<=p.getD (p.length - 1) 0/\p.getD (p.length - 1) 0 < u.ks.length/\t.at p=some (u.ks.getD (p.getD (p.length - 1) 0).toNat default) /\
  cutT t p=(T.setAt (.mk u.lf u.ps u.ts (u.ks.eraseIdx (p.getD (p.length - 1) 0).toNat)) t (p.take (p.length - 1)),u.ks.getD (p.getD (p.length - 1) 0).toNat default,0):=by
 unfold cutT at h ⊢
 split at h
 ·exact absurd h (show ¬ (6:Int)=0 by decide)
 ·rename_i hp
  refine⟨hp,?_⟩;rw[if_neg hp]
  cases ha:t.at p with
  | none=>rw[ha] at h;exact absurd h (show ¬ (5:Int)=0 by decide)
  | some k =>
   rw[ha] at h;obtain⟨u,hu,h0,h1⟩:=T.at_last (List.length_pos_iff.2 hp) ha
   have e:p=p.take (p.length - 1)++[p.getD (p.length - 1) 0]:=by
    have hpl:=List.length_pos_iff.2 hp;have h1:=List.take_append_drop (p.length - 1) p
    have h2:p.drop (p.length - 1)=[p.getD (p.length - 1) 0]:=by
     rw[List.drop_eq_getElem_cons (by omega),List.drop_of_length_le (by omega)]
     simp[List.getD,List.getElem?_eq_getElem (show p.length - 1 < p.length by omega)]
    rw[h2] at h1;exact h1.symm
   have hk:u.at [p.getD (p.length - 1) 0]=some k:=by
    rw[e,T.at_both,hu] at ha;exact ha
   obtain⟨_,_,hkk⟩:=T.at_one u _ hk;subst hkk;refine⟨u,hu,h0,h1,rfl,?_⟩
   have hc:zaM t (p.take (p.length - 1)) (zaY (p.getD (p.length - 1) 0).toNat)=(T.setAt (.mk u.lf u.ps u.ts (u.ks.eraseIdx (p.getD (p.length - 1) 0).toNat)) t (p.take (p.length - 1)),0):=by
    unfold zaM;rw[hu];rfl
   simp only[hc]
end Go.Proofs.YtccobobnmpafbaaGreatDoor
