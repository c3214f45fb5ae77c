/- op.Apply: the contract. -/
import Derived.Test.YtccobobnmpafbaaGreatDoorK29
import Derived.Test.YtccobobnmpafbaaGreatDoorK31
set_option maxRecDepth 100000
set_option maxHeartbeats 100000000
namespace Go.Proofs.YtccobobnmpafbaaGreatDoor
open Go Go.RowKit
theorem zct{P:Program}{fn:Func}{p q s:Tmp}{t1 t2:TypeId}(h:fn.results=#[.cell p t1,.cell q t2,.tmp s])(tmps:Array Value)(w:World)(b b2:Nat)(cs ds:List Value)(d1 d2:TypeDesc)(v:Value)(hp:tmps.getD p undef=.pointer (some ⟨b,0,none⟩))(hq:tmps.getD q undef=.pointer (some ⟨b2,0,none⟩))(hs:tmps.getD s undef=v)(hc:w.rangeAt b 0 cs)(hd2:w.rangeAt b2 0 ds)(hu:P.underlying t1=some d1)(hd:d1.isRow=true)(hi:(P.info? t1).map (·.size)=some cs.length)(hu2:P.underlying t2=some d2)(he:d2.isRow=true)(hi2:(P.info? t2).map (·.size)=some ds.length):(results fn tmps).run P w=.ok (.tuple #[.agg cs.toArray,.agg ds.toArray,v]) w:=by
 have hp':tmps[p]?.getD undef=.pointer (some ⟨b,0,none⟩):=by simpa using hp
 have hq':tmps[q]?.getD undef=.pointer (some ⟨b2,0,none⟩):=by simpa using hq
 have hs':tmps[s]?.getD undef=v:=by simpa using hs
 simp[results,h,hp',hq',hs',asAddr,run_loadVar_mid w b 0 t1 cs d1 hc hu hd hi,run_loadVar_mid w b2 0 t2 ds d2 hd2 hu2 he hi2]
theorem boxes5(w:World)(cs ds es fs gs:List Value)(tA tB tC tD tE:TypeId)(W:World)(hW:((((w.alloc (.cells cs.toArray tA)).alloc (.cells ds.toArray tB)).alloc (.cells es.toArray tC)).alloc (.cells fs.toArray tD)).alloc (.cells gs.toArray tE)=W):Grew w W/\W.rangeAt w.heap.size 0 cs/\W.rangeAt (w.heap.size+1) 0 ds/\W.rangeAt (w.heap.size+2) 0 es/\W.there (w.heap.size+3) 0 fs.length/\W.there (w.heap.size+4) 0 gs.length/\W.heap.size=w.heap.size+5:=by
 obtain⟨g1,r1,r2,r3,t4,z1⟩:=boxes4 w cs ds es fs tA tB tC tD _ rfl;obtain⟨g2,_,t5,z2⟩:=zaq _ gs tE _ hW;rw[z1] at t5 z2;exact⟨g1.trans g2,zcj r1 g2 (by omega),zcj r2 g2 (by omega),zcj r3 g2 (by omega),zc4 t4 g2 (by omega),t5,z2⟩
def ABase(w:World)(n:NT)(s:SelL)(o:OpL)(wz:World):Prop:=wz.rangeAt w.heap.size 0 n.cells4/\wz.rangeAt (w.heap.size+1) 0 s.cells/\wz.rangeAt (w.heap.size+2) 0 o.cells/\wz.there (w.heap.size+3) 0 4/\wz.there (w.heap.size+4) 0 5/\Grew w wz/\w.heap.size+5<=wz.heap.size
theorem ABase.grew{w wz w':World}{n:NT}{s:SelL}{o:OpL}(h:ABase w n s o wz)(g:Grew wz w'):ABase w n s o w':=by
 obtain⟨h1,h2,h3,h4,h5,h6,h7⟩:=h;exact⟨zcj h1 g (by omega),zcj h2 g (by omega),zcj h3 g (by omega),zc4 h4 g (by omega),zc4 h5 g (by omega),h6.trans g,Nat.le_trans h7 g.size⟩
def AB0(w:World)(n:NT)(s:SelL)(o:OpL)(wz:World):Prop:=wz.rangeAt w.heap.size 0 n.cells4/\wz.rangeAt (w.heap.size+1) 0 s.cells/\wz.rangeAt (w.heap.size+2) 0 o.cells
theorem ABase.b0{w wz:World}{n:NT}{s:SelL}{o:OpL}(h:ABase w n s o wz):AB0 w n s o wz:=⟨h.1,h.2.1,h.2.2.1⟩
theorem ABase.keep{w wz w':World}{n:NT}{s:SelL}{o:OpL}(h:ABase w n s o wz)(g:Keeps (fun j=>j=w.heap.size+3\/j=w.heap.size+4) wz w'):AB0 w n s o w':=by
 obtain⟨h1,h2,h3,h4,h5,h6,h7⟩:=h;exact⟨zck h1 g (by omega) (by show ¬ (_\/_);omega),zck h2 g (by omega) (by show ¬ (_\/_);omega),zck h3 g (by omega) (by show ¬ (_\/_);omega)⟩
theorem AB0.n{w wz:World}{n:NT}{s:SelL}{o:OpL}(h:AB0 w n s o wz):wz.cell? ⟨w.heap.size,0,none⟩=some (.bool n.lf)/\wz.cell? ⟨w.heap.size,1,none⟩=some (.slice n.pa n.ps.length n.pc)/\wz.cell? ⟨w.heap.size,2,none⟩=some (.slice n.ta n.ts.length n.tc)/\wz.cell? ⟨w.heap.size,3,none⟩=some (.slice n.ka n.ks.length n.kc):=by
 have h:=NT.cells4_at.1 h.1;unfold NodeAt at h;simp only[Nat.zero_add] at h;exact h
theorem AB0.s{w wz:World}{n:NT}{s:SelL}{o:OpL}(h:AB0 w n s o wz):wz.cell? ⟨w.heap.size+1,0,none⟩=some (.bool s.is)/\wz.cell? ⟨w.heap.size+1,1,none⟩=some (.slice s.a.p.a s.a.p.l.length s.a.p.c)/\wz.cell? ⟨w.heap.size+1,2,none⟩=some (.int .i64 s.a.o)/\wz.cell? ⟨w.heap.size+1,3,none⟩=some (.slice s.f.p.a s.f.p.l.length s.f.p.c)/\wz.cell? ⟨w.heap.size+1,4,none⟩=some (.int .i64 s.f.o) :=
 ⟨zci h.2.1 (j:=0) rfl,zci h.2.1 (j:=1) rfl,zci h.2.1 (j:=2) rfl,zci h.2.1 (j:=3) rfl,zci h.2.1 (j:=4) rfl⟩
theorem AB0.src{w wz:World}{n:NT}{s:SelL}{o:OpL}(h:AB0 w n s o wz):wz.cell? ⟨w.heap.size+2,11,none⟩=some (.bool o.src.is)/\wz.cell? ⟨w.heap.size+2,12,none⟩=some (.slice o.src.a.p.a o.src.a.p.l.length o.src.a.p.c)/\wz.cell? ⟨w.heap.size+2,13,none⟩=some (.int .i64 o.src.a.o)/\wz.cell? ⟨w.heap.size+2,14,none⟩=some (.slice o.src.f.p.a o.src.f.p.l.length o.src.f.p.c)/\wz.cell? ⟨w.heap.size+2,15,none⟩=some (.int .i64 o.src.f.o) :=
 ⟨zci h.2.2 (j:=11) rfl,zci h.2.2 (j:=12) rfl,zci h.2.2 (j:=13) rfl,zci h.2.2 (j:=14) rfl,zci h.2.2 (j:=15) rfl⟩
theorem AB0.dst{w wz:World}{n:NT}{s:SelL}{o:OpL}(h:AB0 w n s o wz):wz.cell? ⟨w.heap.size+2,16,none⟩=some (.bool o.dst.is)/\wz.cell? ⟨w.heap.size+2,17,none⟩=some (.slice o.dst.a.p.a o.dst.a.p.l.length o.dst.a.p.c)/\wz.cell? ⟨w.heap.size+2,18,none⟩=some (.int .i64 o.dst.a.o)/\wz.cell? ⟨w.heap.size+2,19,none⟩=some (.slice o.dst.f.p.a o.dst.f.p.l.length o.dst.f.p.c)/\wz.cell? ⟨w.heap.size+2,20,none⟩=some (.int .i64 o.dst.f.o) :=
 ⟨zci h.2.2 (j:=16) rfl,zci h.2.2 (j:=17) rfl,zci h.2.2 (j:=18) rfl,zci h.2.2 (j:=19) rfl,zci h.2.2 (j:=20) rfl⟩
def RetApply(r:T × SelE × Int)(w:World)(e:Ending)(w':World):Prop:=∃(x:NT) (t:SelL),e=.returned (.tuple #[x.val,t.val,.int .i64 r.2.2])/\Grew w w'/\x.In w' w.heap.size w'.heap.size/\t.In w' w.heap.size w'.heap.size/\Hid (x.er=r.1)/\Hid (t.er=r.2.1)
theorem SelL.In.agree{w w':World}{s:SelL}{lo hi:Nat}(h:s.In w lo hi)(ha:Agree lo hi w w'):s.In w' lo hi:=⟨IntsIn.agree h.1 ha,IntsIn.agree h.2 ha⟩
theorem zaj{w wz wa wb:World}{n:NT}{s:SelL}{o:OpL}{x:NT}{t:SelL}{r:T × SelE × Int}{er:Int}(h:ABase w n s o wz)(ha:wz.setCells (w.heap.size+3) 0 x.cells4=wa)(hb:wa.setCells (w.heap.size+4) 0 t.cells=wb)(hx:x.In wz (w.heap.size+5) wz.heap.size)(ht:t.In wz (w.heap.size+5) wz.heap.size)(hr:r=(x.er,t.er,er)):wb.rangeAt (w.heap.size+3) 0 x.cells4/\wb.rangeAt (w.heap.size+4) 0 t.cells/\RetApply r w (.returned (.tuple #[x.val,t.val,.int .i64 er])) wb:=by
 subst hr;have t2:wa.there (w.heap.size+4) 0 5:=by rw[<- ha];exact World.there_setCells h.2.2.2.2.1 _ _ _
 have k1:Keeps (·=w.heap.size+3) wz wa:=by rw[<- ha];exact zcM _ x.cells4 0 wz
 have k2:Keeps (·=w.heap.size+4) wa wb:=by rw[<- hb];exact zcM _ t.cells 0 wa
 have r1:wa.rangeAt (w.heap.size+3) 0 x.cells4:=by rw[<- ha];exact zcm h.2.2.2.1
 have r2:wb.rangeAt (w.heap.size+4) 0 t.cells:=by rw[<- hb];exact zcm t2
 have z:=h.2.2.2.2.2.2;have z1:=k1.size;have z2:=k2.size;have hag:Agree (w.heap.size+5) wz.heap.size wz wb:=Agree.trans (k1.agree zQ1 (fun j h1 h2 hj=>by have:j=w.heap.size+3:=hj;omega)) (k2.agree z1 (fun j h1 h2 hj=>by have:j=w.heap.size+4:=hj;omega));refine⟨zck r1 k2 (by omega) (by show ¬ (_=_);omega),r2,x,t,rfl,(h.2.2.2.2.2.1.keep k1 (fun j hj=>by have:j=w.heap.size+3:=hj;omega)).keep k2 (fun j hj=>by have:j=w.heap.size+4:=hj;omega),(NT.In.agree hx hag).mono (by omega) (by omega),?_,rfl,rfl⟩;have q:=SelL.In.agree ht hag;exact⟨IntsIn.mono q.1 (by omega) (by omega),IntsIn.mono q.2 (by omega) (by omega)⟩
theorem zdj{P:Program}{ops:Array Oper}{rest:List Oper}{op:Oper}{a:Act}{w:World}{Q:Exit->Act->World->Prop}(hw:Region.wanted op (yielded ops a.tmps)=true)(ty:TypeId)(x:Operand)(ho:op.op=.load ty x)(b o:Nat)(hx:a.eval x=.pointer (some ⟨b,o,none⟩))(cs:List Value)(d:TypeDesc)(hc:w.rangeAt b o cs)(hu:P.underlying ty=some d)(hd:d.isRow=true)(hi:(P.info? ty).map (·.size)=some cs.length)(h:wpList P ops Q rest (a.put op.dst (.agg cs.toArray)) w):wpList P ops Q (op::rest) a w :=
 wpList_step fun K hK=>by rw[if_pos hw];exact wp_load_mid ty x ho b o hx cs d hc hu hd hi (hK _ _ h)
theorem apply_any(n:NT)(s:SelL)(o:OpL)(w:World)(hn:n.Ok w)(hs:s.In w 0 w.heap.size)(ho:o.In w 0 w.heap.size)(hb:n.er.bulk<=262144)(ht:o.er.Tiny)(h1:s.a.p.l.length<=262144)(h2:s.f.p.l.length<=262144)(hp1:o.path.l.length<=262144)(hp2:o.dest.l.length<=262144) :
  Calls Tryz.prog 9 #[n.val,s.val,o.val] w (RetApply (zai n.er s.er o.er) w):=by
 have later:∀ {w1},Grew w w1->o.In w1 0 w1.heap.size:=fun g=>(ho.grew g zQ1).mono zQ1 g.size;have HSM:=zQ0 ht.1.2.2.2.2.2;have CM:=zQ0 (fun w1 (g:Grew w w1)=>may_any n s o w1 (NT.Ok.grew hn g) (hs.later g) (later g) (by omega) (by omega) (by omega) ht.1);have CSS:=zQ0 (fun w1 (g:Grew w w1)=>sameSel_any s o.src w1 (hs.later g) (later g).2.2.2.2.2.1 (by omega) (by omega) HSM.out.1.1 HSM.out.1.2);have CCS:=zQ0 (fun w1 (g:Grew w w1)=>checkSel_any n o.dst w1 (NT.Ok.grew hn g) (by omega) (later g).2.2.2.2.2.2 HSM.out.2.1 HSM.out.2.2);have CCP:=zQ0 (fun w1 (g:Grew w w1)=>copy_any n w1 (NT.Ok.grew hn g) (by omega));have COD:=zQ0 (fun w1 (g:Grew w w1)=>opOwn_any o.dst w1 (later g).2.2.2.2.2.2 HSM.out.2.1 HSM.out.2.2);have CSH:=zQ0 (fun w1 (g:Grew w w1)=>shaped_any n o w1 (NT.Ok.grew hn g) (later g) hb ht);have CST:=zQ0 (fun w1 (g:Grew w w1)=>stays_any s o w1 (hs.later g) (later g) h1 h2 ht.1 hp1 hp2);have COS:=zQ0 (fun w1 (g:Grew w w1)=>opOwn_any s w1 (hs.later g) (by omega) (by omega))
 have HM:Hid (zai n.er s.er o.er=if mayT n.er s.er o.er≠0 then (T.nilT,SelE.nil,mayT n.er s.er o.er)
  else if o.kind=9 then (if zcK s.er o.src.er=false then (T.nilT,SelE.nil,9) else if zaT n.er o.dst.er≠0 then (T.nilT,SelE.nil,zaT n.er o.dst.er) else (n.er,o.dst.er,0))
  else if (zcN n.er o.er).2≠0 then (T.nilT,SelE.nil,(zcN n.er o.er).2)
  else if staysT s.er o.er=false then (T.nilT,SelE.nil,10)
  else ((zcN n.er o.er).1,s.er,0)):=rfl
 generalize zai n.er s.er o.er=res at *;generalize mayT n.er s.er o.er=me at *;generalize zcK s.er o.src.er=ss at *;generalize zaT n.er o.dst.er=cd at *;generalize staysT s.er o.er=sy at *;generalize zcN n.er o.er=sh at *;obtain⟨st,se⟩:=sh;have HNL:Hid ((T.nilT,SelE.nil)=(NT.nil.er,SelL.nil.er)):=by show _=_;rw[zbS];rfl
 clear later hn hs ho hb ht h1 h2 hp1 hp2 HSM;unfold zac at CSH;unfold NT.val at CM CCS CCP CSH ⊢;unfold OpL.val at CM CSH CST ⊢;unfold SelL.val at CM COD CST COS ⊢
 go_enter Tryz.func9,Tryz.ntmps9
 go_upto_region 1 with fail
 generalize hW:((((w.alloc _).alloc _).alloc _).alloc _).alloc _=w1;obtain⟨g1,rN,rS,rO,tN,tS,z1⟩:=boxes5 w n.cells4 s.cells o.cells NT.nil.cells4 SelL.nil.cells _ _ _ _ _ w1 hW;have HB1:Hid (ABase w n s o w1):=(⟨rN,rS,rO,tN,tS,g1,by omega⟩:ABase w n s o w1)
 clear hW g1 rN rS rO tN tS z1;obtain⟨ov,hov⟩:∃ v,o.val=v:=⟨_,rfl⟩
 unfold OpL.val at hov;rw[hov];clear hov;obtain⟨n0,n1,n2,n3⟩:=HB1.out.b0.n;obtain⟨s0,s1,s2,s3,s4⟩:=HB1.out.b0.s;have rO:=HB1.out.2.2.1
 go_wp2_with (show wpList _ _ _ (Oper.mk (some 15) (Op.load 35 (.tmp 5)) _ _ _ _::_) _ _;refine wpList_load_mid rfl 35 (.tmp 5) rfl (w.heap.size+2) 0 rfl o.cells _ rO Tryz.underlying35 rfl zbp ?_)
 refine (CM.out w1 HB1.out.2.2.2.2.2.1).mono ?_;rintro e w2 ⟨rfl,g2⟩;have HB2:Hid (ABase w n s o w2):=HB1.out.grew g2;clear HB1 g2 n0 n1 n2 n3 s0 s1 s2 s3 s4 rO CM
 by_cases hme:me=0
 case neg =>
  have t1:(me != 0)=true:=by simpa using hme
  have HR:Hid (res=(T.nilT,SelE.nil,me)):=by show _=_;rw[HM.out,if_pos hme]
  clear hme HM CSS CCS CCP COD CSH CST COS;have HRx:Hid (res=(NT.nil.er,SelL.nil.er,me)):=by show _=_;rw[HR.out];have:=HNL.out;injection this with a b;rw[a,b]
  have HBx:=zQ0 HB2.out;have HF:=zQ0 (fun(wa wb:World) (ha:w2.setCells (w.heap.size+3) 0 NT.nil.cells4=wa) (hb:wa.setCells (w.heap.size+4) 0 SelL.nil.cells=wb)=>zaj (x:=NT.nil) (t:=SelL.nil) (r:=res) (er:=me) HBx.out ha hb NT.nil_in zcL HRx.out);have tN:=HBx.out.2.2.2.1;have HT5:=zQ0 HBx.out.2.2.2.2.1
  go_wp2_with (first | (show wpList _ _ _ (Oper.mk none (Op.store 26 (.tmp 6) (.tmp 19)) _ _ _ _::_) _ _;refine wpList_store_mid rfl 26 (.tmp 6) (.tmp 19) rfl (w.heap.size+3) 0 NT.nil.cells4.toArray rfl rfl tN zbm (NT.cells4_all _) ?_;generalize hA:World.setCells w2 _ _ _=wa;have tS:wa.there (w.heap.size+4) 0 5:=(by rw[<- hA];exact World.there_setCells HT5.out _ _ _);have HA:=zQ0 hA;clear hA) | (show wpList _ _ _ (Oper.mk none (Op.store 33 (.tmp 7) (.tmp 20)) _ _ _ _::_) _ _;refine wpList_store_mid rfl 33 (.tmp 7) (.tmp 20) rfl (w.heap.size+4) 0 SelL.nil.cells.toArray rfl rfl tS zbr (all_oneCell_toArray SelL.nil.cells_one) ?_;generalize hB:World.setCells wa _ _ _=wb;obtain⟨ra,rb,hfin⟩:=HF.out wa wb HA.out hB;clear hB))
  exact bodyPost_ret (v:=.tuple #[NT.nil.val,SelL.nil.val,.int .i64 me]) (zct Tryz.results9 _ _ (w.heap.size+3) (w.heap.size+4) NT.nil.cells4 SelL.nil.cells _ _ _ rfl rfl rfl ra rb Tryz.underlying26 rfl zbm Tryz.underlying33 rfl zbr) rfl hfin
 case pos =>
 have t1:(me != 0)=false:=by simp[hme]
 have HM1:=zQ0 (HM.out.trans (if_neg (by simp[hme])));clear hme HM;have k0:=zci HB2.out.2.2.1 (j:=0) rfl
 by_cases k9:o.kind=9
 case pos =>
  have t9:(o.kind == 9)=true:=by simpa using k9
  have HM2:=zQ0 (HM1.out.trans (if_pos k9));have HK9:=zQ0 k9;clear HM1 k9;obtain⟨s0,s1,s2,s3,s4⟩:=HB2.out.b0.s;obtain⟨c0,c1,c2,c3,c4⟩:=HB2.out.b0.src;go_wp2_with fail
  refine (CSS.out w2 HB2.out.2.2.2.2.2.1).mono ?_;rintro e w3 ⟨rfl,g3⟩;have HB3:Hid (ABase w n s o w3):=HB2.out.grew g3;clear HB2 g3 s0 s1 s2 s3 s4 c0 c1 c2 c3 c4 CSS CSH CST COS k0
  cases ss with
  | false =>
   have HR:Hid (res=(T.nilT,SelE.nil,9)):=by show _=_;rw[HM2.out,if_pos rfl]
   have HRx:Hid (res=(NT.nil.er,SelL.nil.er,9)):=by show _=_;rw[HR.out];have:=HNL.out;injection this with a b;rw[a,b]
   clear HM2 CCS CCP COD;have HBx:=zQ0 HB3.out;have HF:=zQ0 (fun(wa wb:World) (ha:w3.setCells (w.heap.size+3) 0 NT.nil.cells4=wa) (hb:wa.setCells (w.heap.size+4) 0 SelL.nil.cells=wb)=>zaj (x:=NT.nil) (t:=SelL.nil) (r:=res) (er:=9) HBx.out ha hb NT.nil_in zcL HRx.out);have tN:=HBx.out.2.2.2.1;have HT5:=zQ0 HBx.out.2.2.2.2.1
   go_wp2_with (first | (show wpList _ _ _ (Oper.mk none (Op.store 26 (.tmp 6) (.tmp 30)) _ _ _ _::_) _ _;refine wpList_store_mid rfl 26 (.tmp 6) (.tmp 30) rfl (w.heap.size+3) 0 NT.nil.cells4.toArray rfl rfl tN zbm (NT.cells4_all _) ?_;generalize hA:World.setCells w3 _ _ _=wa;have tS:wa.there (w.heap.size+4) 0 5:=(by rw[<- hA];exact World.there_setCells HT5.out _ _ _);have HA:=zQ0 hA;clear hA) | (show wpList _ _ _ (Oper.mk none (Op.store 33 (.tmp 7) (.tmp 31)) _ _ _ _::_) _ _;refine wpList_store_mid rfl 33 (.tmp 7) (.tmp 31) rfl (w.heap.size+4) 0 SelL.nil.cells.toArray rfl rfl tS zbr (all_oneCell_toArray SelL.nil.cells_one) ?_;generalize hB:World.setCells wa _ _ _=wb;obtain⟨ra,rb,hfin⟩:=HF.out wa wb HA.out hB;clear hB))
   exact bodyPost_ret (v:=.tuple #[NT.nil.val,SelL.nil.val,.int .i64 9]) (zct Tryz.results9 _ _ (w.heap.size+3) (w.heap.size+4) NT.nil.cells4 SelL.nil.cells _ _ _ rfl rfl rfl ra rb Tryz.underlying26 rfl zbm Tryz.underlying33 rfl zbr) rfl hfin
  | true =>
   have HM3:=zQ0 (HM2.out.trans (if_neg (by simp)));clear HM2;obtain⟨n0,n1,n2,n3⟩:=HB3.out.b0.n;obtain⟨d0,d1,d2,d3,d4⟩:=HB3.out.b0.dst;go_wp2_with fail
   refine (CCS.out w3 HB3.out.2.2.2.2.2.1).mono ?_;rintro e w4 ⟨rfl,g4⟩;have HB4:Hid (ABase w n s o w4):=HB3.out.grew g4;clear HB3 g4 n0 n1 n2 n3 d0 d1 d2 d3 d4 CCS
   by_cases hcd:cd=0
   case neg =>
    have t2:(cd != 0)=true:=by simpa using hcd
    have HR:Hid (res=(T.nilT,SelE.nil,cd)):=by show _=_;rw[HM3.out,if_pos hcd]
    have HRx:Hid (res=(NT.nil.er,SelL.nil.er,cd)):=by show _=_;rw[HR.out];have:=HNL.out;injection this with a b;rw[a,b]
    clear hcd HM3 CCP COD;have HBx:=zQ0 HB4.out;have HF:=zQ0 (fun(wa wb:World) (ha:w4.setCells (w.heap.size+3) 0 NT.nil.cells4=wa) (hb:wa.setCells (w.heap.size+4) 0 SelL.nil.cells=wb)=>zaj (x:=NT.nil) (t:=SelL.nil) (r:=res) (er:=cd) HBx.out ha hb NT.nil_in zcL HRx.out);have tN:=HBx.out.2.2.2.1;have HT5:=zQ0 HBx.out.2.2.2.2.1
    go_wp2_with (first | (show wpList _ _ _ (Oper.mk none (Op.store 26 (.tmp 6) (.tmp 38)) _ _ _ _::_) _ _;refine wpList_store_mid rfl 26 (.tmp 6) (.tmp 38) rfl (w.heap.size+3) 0 NT.nil.cells4.toArray rfl rfl tN zbm (NT.cells4_all _) ?_;generalize hA:World.setCells w4 _ _ _=wa;have tS:wa.there (w.heap.size+4) 0 5:=(by rw[<- hA];exact World.there_setCells HT5.out _ _ _);have HA:=zQ0 hA;clear hA) | (show wpList _ _ _ (Oper.mk none (Op.store 33 (.tmp 7) (.tmp 39)) _ _ _ _::_) _ _;refine wpList_store_mid rfl 33 (.tmp 7) (.tmp 39) rfl (w.heap.size+4) 0 SelL.nil.cells.toArray rfl rfl tS zbr (all_oneCell_toArray SelL.nil.cells_one) ?_;generalize hB:World.setCells wa _ _ _=wb;obtain⟨ra,rb,hfin⟩:=HF.out wa wb HA.out hB;clear hB))
    exact bodyPost_ret (v:=.tuple #[NT.nil.val,SelL.nil.val,.int .i64 cd]) (zct Tryz.results9 _ _ (w.heap.size+3) (w.heap.size+4) NT.nil.cells4 SelL.nil.cells _ _ _ rfl rfl rfl ra rb Tryz.underlying26 rfl zbm Tryz.underlying33 rfl zbr) rfl hfin
   case pos =>
   have t2:(cd != 0)=false:=by simp[hcd]
   have HR:=zQ0 (HM3.out.trans (if_neg (by simp[hcd])));clear hcd HM3;go_upto_region 10 with fail
   have KN:=zQ0 (fun(w':World) (g:Keeps (fun j=>j=w.heap.size+3\/j=w.heap.size+4) w4 w')=>(HB4.out.keep g).n);have KD:=zQ0 (fun(w':World) (g:Keeps (fun j=>j=w.heap.size+3\/j=w.heap.size+4) w4 w')=>(HB4.out.keep g).dst);have gS:Grew w4 w4.drew:=(Grew.refl _).drew;have hS:Keeps (fun j=>j=w.heap.size+3\/j=w.heap.size+4) w4 w4.drew:=gS.keeps _;refine zdl (Keeps (fun j=>j=w.heap.size+3\/j=w.heap.size+4) w4) (fun _=>true) (by kernel_rfl) ?_;refine zdh (i:=0) (v:=.agg #[.bool n.lf,.slice n.pa n.ps.length n.pc,.slice n.ta n.ts.length n.tc,.slice n.ka n.ks.length n.kc]) rfl (by kernel_rfl) (Or.inl ⟨rfl,fun w' hS=>by obtain⟨e1,e2,e3,e4⟩:=KN.out w' hS;go_simp⟩) hS ?_;refine zdh (i:=2) (v:=.pointer (some ⟨w.heap.size+2,16,none⟩)) rfl (by kernel_rfl) (Or.inl ⟨rfl,fun w' hS=>by go_simp⟩) hS ?_;refine zdh (i:=3) (v:=.agg #[.bool o.dst.is,.slice o.dst.a.p.a o.dst.a.p.l.length o.dst.a.p.c,.int .i64 o.dst.a.o,.slice o.dst.f.p.a o.dst.f.p.l.length o.dst.f.p.c,.int .i64 o.dst.f.o]) rfl (by kernel_rfl) (Or.inl ⟨rfl,fun w' hS=>by obtain⟨e1,e2,e3,e4,e5⟩:=KD.out w' hS;go_simp⟩) hS ?_;refine zdf (i:=1) (by kernel_rfl) rfl rfl ?_;intro K' hK';go_wp2_with fail
   refine (CCP.out w4.drew (HB4.out.2.2.2.2.2.1.trans gS)).mono ?_;rintro e w5 ⟨x,rfl,g5,hx,hxe⟩;have gS5:=gS.trans g5;have hS5:Keeps (fun j=>j=w.heap.size+3\/j=w.heap.size+4) w4 w5:=gS5.keeps _;refine hK' _ _ ⟨fun _=>hS5,?_⟩;clear hK' K';refine zdf (i:=4) (by kernel_rfl) rfl rfl ?_;intro K' hK';go_wp2_with fail
   refine (COD.out w5 (HB4.out.2.2.2.2.2.1.trans gS5)).mono ?_;rintro e w6 ⟨t,rfl,g6,htI,hte⟩;have gS6:=gS5.trans g6;have hS6:Keeps (fun j=>j=w.heap.size+3\/j=w.heap.size+4) w4 w6:=gS6.keeps _;refine hK' _ _ ⟨fun _=>hS6,?_⟩;clear hK' K';have HBx:Hid (ABase w n s o w6):=HB4.out.grew gS6
   have HF:=zQ0 (fun(wa wb:World) (ha:w6.setCells (w.heap.size+3) 0 x.cells4=wa) (hb:wa.setCells (w.heap.size+4) 0 t.cells=wb)=>zaj (x:=x) (t:=t) (r:=res) (er:=0) HBx.out ha hb (by
    have z4:=HB4.out.2.2.2.2.2.2;have zS:=gS5.size;have hz:w4.drew.heap.size=w4.heap.size:=rfl
    exact (hx.1.agree ((g6.agree zQ1).mono (Nat.zero_le _) zQ1)).mono (by omega) g6.size) (by
    have z4:=HB4.out.2.2.2.2.2.2;have zS:=gS5.size
    exact⟨IntsIn.mono htI.1 (by omega) zQ1,IntsIn.mono htI.2 (by omega) zQ1⟩) (by rw[HR.out,hxe.out,hte.out]))
   clear hx hxe htI hte g5 g6 hS hS5 gS gS5 gS6 KN KD HR;have tN:=HBx.out.2.2.2.1;have HT5:=zQ0 HBx.out.2.2.2.2.1;refine zdf (i:=5) (by kernel_rfl) rfl rfl ?_;intro K' hK';refine wp_store_mid 26 (.tmp 6) (.tmp 42) rfl (w.heap.size+3) 0 x.cells4.toArray rfl rfl tN zbm (NT.cells4_all _) ?_;generalize hA:World.setCells w6 _ _ _=wa;have tS:wa.there (w.heap.size+4) 0 5:=(by rw[<- hA];exact World.there_setCells HT5.out _ _ _)
   have hSa:Keeps (fun j=>j=w.heap.size+3\/j=w.heap.size+4) w4 wa:=hS6.trans ((by rw[<- hA];exact zcM _ x.cells4 0 _:Keeps (·=w.heap.size+3) w6 wa).wider (fun _ _ hk=>Or.inl hk));refine hK' _ _ ⟨fun _=>hSa,?_⟩;clear hK' K';refine zdf (i:=6) (by kernel_rfl) rfl rfl ?_;intro K' hK';refine wp_store_mid 33 (.tmp 7) (.tmp 45) rfl (w.heap.size+4) 0 t.cells.toArray rfl rfl tS zbr (all_oneCell_toArray t.cells_one) ?_;generalize hB:World.setCells wa _ _ _=wb;obtain⟨ra,rb,hfin⟩:=HF.out wa wb hA hB;have hSb:Keeps (fun j=>j=w.heap.size+3\/j=w.heap.size+4) w4 wb:=hSa.trans ((by rw[<- hB];exact zcM _ t.cells 0 _:Keeps (·=w.heap.size+4) wa wb).wider (fun _ _ hk=>Or.inr hk));clear hA hB;refine hK' _ _ ⟨fun _=>hSb,?_⟩;clear hK' K';refine zdf (i:=7) (by kernel_rfl) rfl rfl ?_;intro K' hK';go_wp2_with fail
   first | (refine⟨fun _=>hSb,?_⟩;refine zde (by kernel_rfl) ?_ _) | (refine⟨by kernel_rfl,?_⟩)
   go_wp2_with fail
   exact bodyPost_ret (v:=.tuple #[x.val,t.val,.int .i64 0]) (zct Tryz.results9 _ _ (w.heap.size+3) (w.heap.size+4) x.cells4 t.cells _ _ _ rfl rfl rfl ra rb Tryz.underlying26 rfl zbm Tryz.underlying33 rfl zbr) rfl hfin
 case neg =>
 have t9:(o.kind == 9)=false:=by simpa using k9
 have HM2:=zQ0 (HM1.out.trans (if_neg k9));have HK9:=zQ0 k9;clear HM1 k9 CSS CCS CCP COD;obtain⟨n0,n1,n2,n3⟩:=HB2.out.b0.n;have rO:=HB2.out.2.2.1
 go_wp2_with (show wpList _ _ _ (Oper.mk (some 48) (Op.load 35 (.tmp 5)) _ _ _ _::_) _ _;refine wpList_load_mid rfl 35 (.tmp 5) rfl (w.heap.size+2) 0 rfl o.cells _ rO Tryz.underlying35 rfl zbp ?_)
 refine (CSH.out w2 HB2.out.2.2.2.2.2.1).mono ?_;rintro e w3 ⟨x,rfl,g3,hx,hxe⟩;have HB3:Hid (ABase w n s o w3):=HB2.out.grew g3;have HX3:Hid (x.In w3 (w.heap.size+5) w3.heap.size):=hx.mono (HB2.out.2.2.2.2.2.2) zQ1;have HXE:=zQ0 hxe.out;clear n0 n1 n2 n3 rO k0 g3 hx hxe HB2 CSH;obtain⟨gz,rz,tz,zz⟩:=zaq w3 NT.nil.cells4 26 _ rfl;have HXP:=zQ0 (zcm (cs:=x.cells4) tz);have HXK:=zQ0 (zcM w3.heap.size x.cells4 0 (w3.alloc (.cells NT.nil.cells4.toArray 26)));have HGZ:=zQ0 gz;have HZZ:=zQ0 zz;clear gz rz zz
 go_upto_region 12 with (show wpList _ _ _ (Oper.mk none (Op.store 26 (.tmp 11) (.tmp 50)) _ _ _ _::_) _ _;refine wpList_store_mid rfl 26 (.tmp 11) (.tmp 50) rfl w3.heap.size 0 x.cells4.toArray rfl rfl tz zbm (NT.cells4_all _) ?_)
 clear tz;generalize hW:World.setCells _ w3.heap.size 0 _=w4;have k4:Keeps (·=w3.heap.size) (w3.alloc (.cells NT.nil.cells4.toArray 26)) w4:=by rw[<- hW];exact HXK.out
 have rX:w4.rangeAt w3.heap.size 0 x.cells4:=by rw[<- hW];exact HXP.out
 have z4:w3.heap.size < w4.heap.size:=Nat.lt_of_lt_of_le (by rw[HZZ.out];omega) k4.size;have g4:Grew w3 w4:=HGZ.out.keep k4 (fun j hj=>by show _<=j;rw[hj];exact Nat.le_refl _);have HB4:Hid (ABase w n s o w4):=HB3.out.grew g4;have HX4:Hid (x.In w4 (w.heap.size+5) w4.heap.size):=(NT.In.agree HX3.out ((g4.agree zQ1).mono (Nat.zero_le _) zQ1)).mono zQ1 g4.size;have KX:=zQ0 (fun(w':World) (g:Keeps (fun j=>j=w.heap.size+3\/j=w.heap.size+4) w4 w')=>(by have h:=NT.cells4_at.1 (zck rX g z4 (by show ¬ (_\/_);have:=HB3.out.2.2.2.2.2.2;omega));unfold NodeAt at h;simp only[Nat.zero_add] at h;exact h:w'.cell? ⟨w3.heap.size,0,none⟩=some (.bool x.lf)/\w'.cell? ⟨w3.heap.size,1,none⟩=some (.slice x.pa x.ps.length x.pc)/\w'.cell? ⟨w3.heap.size,2,none⟩=some (.slice x.ta x.ts.length x.tc)/\w'.cell? ⟨w3.heap.size,3,none⟩=some (.slice x.ka x.ks.length x.kc)));clear hW k4 HXP HXK HGZ HZZ rX z4 g4 HX3 HB3;generalize w3.heap.size=b5 at *
 by_cases hse:se=0
 case neg =>
  have t3:(se == 0)=false:=by simpa using hse
  have t4:(se != 0)=true:=by simpa using hse
  have HR:Hid (res=(T.nilT,SelE.nil,se)):=by show _=_;rw[HM2.out,if_pos hse]
  have HRx:Hid (res=(NT.nil.er,SelL.nil.er,se)):=by show _=_;rw[HR.out];have:=HNL.out;injection this with a b;rw[a,b]
  clear hse HM2 CST COS KX HX4;have HBx:=zQ0 HB4.out;have HF:=zQ0 (fun(wa wb:World) (ha:w4.setCells (w.heap.size+3) 0 NT.nil.cells4=wa) (hb:wa.setCells (w.heap.size+4) 0 SelL.nil.cells=wb)=>zaj (x:=NT.nil) (t:=SelL.nil) (r:=res) (er:=se) HBx.out ha hb NT.nil_in zcL HRx.out);have tN:=HBx.out.2.2.2.1;have HT5:=zQ0 HBx.out.2.2.2.2.1
  go_wp2_with (first | (show wpList _ _ _ (Oper.mk none (Op.store 26 (.tmp 6) (.tmp 62)) _ _ _ _::_) _ _;refine wpList_store_mid rfl 26 (.tmp 6) (.tmp 62) rfl (w.heap.size+3) 0 NT.nil.cells4.toArray rfl rfl tN zbm (NT.cells4_all _) ?_;generalize hA:World.setCells w4 _ _ _=wa;have tS:wa.there (w.heap.size+4) 0 5:=(by rw[<- hA];exact World.there_setCells HT5.out _ _ _);have HA:=zQ0 hA;clear hA) | (show wpList _ _ _ (Oper.mk none (Op.store 33 (.tmp 7) (.tmp 63)) _ _ _ _::_) _ _;refine wpList_store_mid rfl 33 (.tmp 7) (.tmp 63) rfl (w.heap.size+4) 0 SelL.nil.cells.toArray rfl rfl tS zbr (all_oneCell_toArray SelL.nil.cells_one) ?_;generalize hB:World.setCells wa _ _ _=wb;obtain⟨ra,rb,hfin⟩:=HF.out wa wb HA.out hB;clear hB))
  exact bodyPost_ret (v:=.tuple #[NT.nil.val,SelL.nil.val,.int .i64 se]) (zct Tryz.results9 _ _ (w.heap.size+3) (w.heap.size+4) NT.nil.cells4 SelL.nil.cells _ _ _ rfl rfl rfl ra rb Tryz.underlying26 rfl zbm Tryz.underlying33 rfl zbr) rfl hfin
 case pos =>
 subst hse;have HM3:=zQ0 (HM2.out.trans (if_neg (by simp)));clear HM2;obtain⟨s0,s1,s2,s3,s4⟩:=HB4.out.b0.s;have rO:=HB4.out.2.2.1
 go_wp2_with (show wpList _ _ _ (Oper.mk (some 56) (Op.load 35 (.tmp 5)) _ _ _ _::_) _ _;refine zdj rfl 35 (.tmp 5) rfl (w.heap.size+2) 0 rfl o.cells _ rO Tryz.underlying35 rfl zbp ?_)
 refine (CST.out w4 HB4.out.2.2.2.2.2.1).mono ?_;rintro e w5 ⟨rfl,g5⟩;have HB5:Hid (ABase w n s o w5):=HB4.out.grew g5;have HX5:Hid (x.In w5 (w.heap.size+5) w5.heap.size):=(NT.In.agree HX4.out ((g5.agree zQ1).mono (Nat.zero_le _) zQ1)).mono zQ1 g5.size;have KX5:=zQ0 (fun(w':World) (g:Keeps (fun j=>j=w.heap.size+3\/j=w.heap.size+4) w5 w')=>KX.out w' ((g5.keeps _).trans g));clear g5 s0 s1 s2 s3 s4 rO HB4 HX4 KX CST
 cases sy with
 | false =>
  have HR:Hid (res=(T.nilT,SelE.nil,10)):=by show _=_;rw[HM3.out,if_pos rfl]
  have HRx:Hid (res=(NT.nil.er,SelL.nil.er,10)):=by show _=_;rw[HR.out];have:=HNL.out;injection this with a b;rw[a,b]
  clear HM3 COS KX5 HX5;have HBx:=zQ0 HB5.out;have HF:=zQ0 (fun(wa wb:World) (ha:w5.setCells (w.heap.size+3) 0 NT.nil.cells4=wa) (hb:wa.setCells (w.heap.size+4) 0 SelL.nil.cells=wb)=>zaj (x:=NT.nil) (t:=SelL.nil) (r:=res) (er:=10) HBx.out ha hb NT.nil_in zcL HRx.out);have tN:=HBx.out.2.2.2.1;have HT5:=zQ0 HBx.out.2.2.2.2.1
  go_wp2_with (first | (show wpList _ _ _ (Oper.mk none (Op.store 26 (.tmp 6) (.tmp 62)) _ _ _ _::_) _ _;refine wpList_store_mid rfl 26 (.tmp 6) (.tmp 62) rfl (w.heap.size+3) 0 NT.nil.cells4.toArray rfl rfl tN zbm (NT.cells4_all _) ?_;generalize hA:World.setCells w5 _ _ _=wa;have tS:wa.there (w.heap.size+4) 0 5:=(by rw[<- hA];exact World.there_setCells HT5.out _ _ _);have HA:=zQ0 hA;clear hA) | (show wpList _ _ _ (Oper.mk none (Op.store 33 (.tmp 7) (.tmp 63)) _ _ _ _::_) _ _;refine wpList_store_mid rfl 33 (.tmp 7) (.tmp 63) rfl (w.heap.size+4) 0 SelL.nil.cells.toArray rfl rfl tS zbr (all_oneCell_toArray SelL.nil.cells_one) ?_;generalize hB:World.setCells wa _ _ _=wb;obtain⟨ra,rb,hfin⟩:=HF.out wa wb HA.out hB;clear hB))
  exact bodyPost_ret (v:=.tuple #[NT.nil.val,SelL.nil.val,.int .i64 10]) (zct Tryz.results9 _ _ (w.heap.size+3) (w.heap.size+4) NT.nil.cells4 SelL.nil.cells _ _ _ rfl rfl rfl ra rb Tryz.underlying26 rfl zbm Tryz.underlying33 rfl zbr) rfl hfin
 | true =>
  have HR:=zQ0 (HM3.out.trans (if_neg (by simp)));clear HM3;go_upto_region 16 with fail
  have KS:=zQ0 (fun(w':World) (g:Keeps (fun j=>j=w.heap.size+3\/j=w.heap.size+4) w5 w')=>(HB5.out.keep g).s);have gS:Grew w5 w5.drew:=(Grew.refl _).drew;have hS:Keeps (fun j=>j=w.heap.size+3\/j=w.heap.size+4) w5 w5.drew:=gS.keeps _;refine zdl (Keeps (fun j=>j=w.heap.size+3\/j=w.heap.size+4) w5) (fun _=>true) (by kernel_rfl) ?_;refine zdh (i:=0) (v:=.agg #[.bool x.lf,.slice x.pa x.ps.length x.pc,.slice x.ta x.ts.length x.tc,.slice x.ka x.ks.length x.kc]) rfl (by kernel_rfl) (Or.inl ⟨rfl,fun w' hS=>by obtain⟨e1,e2,e3,e4⟩:=KX5.out w' hS;go_simp⟩) hS ?_;refine zdh (i:=1) (v:=.agg #[.bool s.is,.slice s.a.p.a s.a.p.l.length s.a.p.c,.int .i64 s.a.o,.slice s.f.p.a s.f.p.l.length s.f.p.c,.int .i64 s.f.o]) rfl (by kernel_rfl) (Or.inl ⟨rfl,fun w' hS=>by obtain⟨e1,e2,e3,e4,e5⟩:=KS.out w' hS;go_simp⟩) hS ?_;refine zdf (i:=2) (by kernel_rfl) rfl rfl ?_;intro K' hK';go_wp2_with fail
  refine (COS.out w5.drew (HB5.out.2.2.2.2.2.1.trans gS)).mono ?_;rintro e w6 ⟨t,rfl,g6,htI,hte⟩;have gS6:=gS.trans g6;have hS6:Keeps (fun j=>j=w.heap.size+3\/j=w.heap.size+4) w5 w6:=gS6.keeps _;refine hK' _ _ ⟨fun _=>hS6,?_⟩;clear hK' K';have HBx:Hid (ABase w n s o w6):=HB5.out.grew gS6
  have HF:=zQ0 (fun(wa wb:World) (ha:w6.setCells (w.heap.size+3) 0 x.cells4=wa) (hb:wa.setCells (w.heap.size+4) 0 t.cells=wb)=>zaj (x:=x) (t:=t) (r:=res) (er:=0) HBx.out ha hb ((NT.In.agree HX5.out ((gS6.agree zQ1).mono (Nat.zero_le _) zQ1)).mono zQ1 gS6.size) (by
   have z4:=HB5.out.2.2.2.2.2.2;have hz:w5.drew.heap.size=w5.heap.size:=rfl
   exact⟨IntsIn.mono htI.1 (by omega) zQ1,IntsIn.mono htI.2 (by omega) zQ1⟩) (by rw[HR.out,HXE.out,hte.out]))
  clear htI hte g6 hS gS gS6 KX5 KS HR HX5;have tN:=HBx.out.2.2.2.1;have HT5:=zQ0 HBx.out.2.2.2.2.1;refine zdf (i:=3) (by kernel_rfl) rfl rfl ?_;intro K' hK';refine wp_store_mid 26 (.tmp 6) (.tmp 65) rfl (w.heap.size+3) 0 x.cells4.toArray rfl rfl tN zbm (NT.cells4_all _) ?_;generalize hA:World.setCells w6 _ _ _=wa;have tS:wa.there (w.heap.size+4) 0 5:=(by rw[<- hA];exact World.there_setCells HT5.out _ _ _)
  have hSa:Keeps (fun j=>j=w.heap.size+3\/j=w.heap.size+4) w5 wa:=hS6.trans ((by rw[<- hA];exact zcM _ x.cells4 0 _:Keeps (·=w.heap.size+3) w6 wa).wider (fun _ _ hk=>Or.inl hk));refine hK' _ _ ⟨fun _=>hSa,?_⟩;clear hK' K';refine zdf (i:=4) (by kernel_rfl) rfl rfl ?_;intro K' hK';refine wp_store_mid 33 (.tmp 7) (.tmp 67) rfl (w.heap.size+4) 0 t.cells.toArray rfl rfl tS zbr (all_oneCell_toArray t.cells_one) ?_;generalize hB:World.setCells wa _ _ _=wb;obtain⟨ra,rb,hfin⟩:=HF.out wa wb hA hB;have hSb:Keeps (fun j=>j=w.heap.size+3\/j=w.heap.size+4) w5 wb:=hSa.trans ((by rw[<- hB];exact zcM _ t.cells 0 _:Keeps (·=w.heap.size+4) wa wb).wider (fun _ _ hk=>Or.inr hk));clear hA hB;refine hK' _ _ ⟨fun _=>hSb,?_⟩;clear hK' K';refine zdf (i:=5) (by kernel_rfl) rfl rfl ?_;intro K' hK';go_wp2_with fail
  first | (refine⟨fun _=>hSb,?_⟩;refine zde (by kernel_rfl) ?_ _) | (refine⟨by kernel_rfl,?_⟩)
  go_wp2_with fail
  exact bodyPost_ret (v:=.tuple #[x.val,t.val,.int .i64 0]) (zct Tryz.results9 _ _ (w.heap.size+3) (w.heap.size+4) x.cells4 t.cells _ _ _ rfl rfl rfl ra rb Tryz.underlying26 rfl zbm Tryz.underlying33 rfl zbr) rfl hfin
end Go.Proofs.YtccobobnmpafbaaGreatDoor
