/- THE LAW redlinelaw14.HoldRight: behind an operation that was done a ref that might be may be, or is not live. -/
import Derived.Test.YtccobobnmpafbaaGreatDoorK34
import Derived.Test.YtccobobnmpafbaaGreatDoorK35
import Derived.Test.YtccobobnmpafbaaGreatDoorK37
import Derived.Test.YtccobobnmpafbaaGreatDoorK42
import Derived.Test.YtccobobnmpafbaaGreatDoorK43
import Derived.Test.YtccobobnmpafbaaGreatDoorK38
import Derived.Test.YtccobobnmpafbaaGreatDoorK41
set_option maxRecDepth 100000
set_option maxHeartbeats 100000000
namespace Go.Proofs.YtccobobnmpafbaaGreatDoor
open Go Go.RowKit
theorem at_deep{k:T}:∀ {q:List Int} {t:T},t.at q=some k->q.length < t.bulk:=by
 intro q
 induction q with
 | nil=>intro t _;exact t.bulk_pos
 | cons i r ih =>
  intro t h;obtain⟨h0,h1,h2⟩:=T.at_of h;have h3:=ih h2;have h4:=T.bulk_kid (n:=t) (k:=t.ks.getD i.toNat default) (zbd t.ks _ (by omega));rw[List.length_cons];omega
theorem deep_pt{t:T}{p:PtE}(h:zaQ t p=0)(hb:t.bulk<=1048576):p.p.length<=1048576:=by
 obtain⟨k,h1,_⟩:=checkPt_iff0.1 h;have:=at_deep h1;omega
theorem check_small{t:T}{r:RefE}(h:zaR t r=0)(hb:t.bulk<=1048576):r.path.length<=1048576/\(r.kind=2->r.pt.p.length<=1048576)/\(r.kind=3->r.a.p.length<=1048576/\r.f.p.length<=1048576):=by
 obtain⟨h1,_,_,h4,_,_,h7⟩:=checkRef_zero.1 h
 rcases refIs_iff.1 h1 with hk | hk | hk
 ·refine⟨?_,fun h=>by omega,fun h=>by omega⟩;rw[refMay1 hk] at h7;unfold zbH at h7
  cases hat:t.at r.path with
  | none=>rw[hat] at h7;cases h7
  | some y=>have:=at_deep hat;omega
 ·refine⟨?_,fun _=>?_,fun h=>by omega⟩
  ·rcases h4 with h4 | h4
   ·omega
   ·rw[h4];exact Nat.zero_le _
  ·rw[refMay2 hk] at h7;exact deep_pt h7 hb
 ·refine⟨?_,fun h=>by omega,fun _=>?_⟩
  ·rcases h4 with h4 | h4
   ·omega
   ·rw[h4];exact Nat.zero_le _
  ·rw[refMay3 hk] at h7;unfold zbI at h7
   have ha0:zaQ t r.a=0:=by
    by_cases hz:zaQ t r.a=0
    ·exact hz
    ·rw[if_pos hz] at h7;exact h7
   rw[if_neg (fun h=>h ha0)] at h7;exact⟨deep_pt ha0 hb,deep_pt h7 hb⟩
theorem stepMv_small{r:RefE}{o:OpE}{t:T}{live:Bool}(hk:r.kind=1\/r.kind=2\/r.kind=3)(h:zaR t { (zc1 r o).1 with live:=live }=0)(hb:t.bulk<=1048576):RefE.Small { (zc1 r o).1 with live:=live }:=by
 obtain⟨h1,h2,h3⟩:=check_small h hb;have z:(0:Nat)<=1048576:=Nat.zero_le _;unfold zc1 at *
 rcases hk with hk | hk | hk
 ·rw[if_pos hk] at *;exact⟨h1,z,z,z⟩
 ·rw[if_neg (by omega),if_pos hk] at *;exact⟨h1,h2 hk,z,z⟩
 ·rw[if_neg (by omega),if_neg (by omega)] at *;exact⟨h1,z,(h3 hk).1,(h3 hk).2⟩
theorem movedR_ids{r mv:RefE}{ok:Bool}(h:mv.id=r.id/\mv.kind=r.kind/\mv.aff=r.aff):(zbP r mv ok).id=r.id/\(zbP r mv ok).kind=r.kind/\(zbP r mv ok).aff=r.aff/\(zbP r mv ok).live=ok:=by
 cases ok with
 | true=>exact⟨h.1,h.2.1,h.2.2,rfl⟩
 | false=>exact⟨rfl,rfl,rfl,rfl⟩
theorem stepAny_any(b:Nat)(r:RefL)(o:OpL)(w:World)(hL:RefsIn w (some ⟨b,0,none⟩) 1 [r])(hs:r.er.Small)(hlive:r.live=true)(hk:r.kind=1\/r.kind=2\/r.kind=3)(ho:o.In w 0 w.heap.size)(hol:o.path.l.length<=1048576)(hdl:o.dest.l.length<=1048576)(hxl:o.text.length<=1048576) :
  Calls Tryz.prog 19 #[.slice (some ⟨b,0,none⟩) 1 1,o.val] w (RetOne (zbP r.er (zc1 r.er o.er).1 (zc1 r.er o.er).2) w):=by
 have HO:∀ {w1},Grew w w1->o.In w1 0 w1.heap.size:=fun g=>(ho.grew g zQ1).mono zQ1 g.size;have hke:r.er.kind=r.kind:=rfl
 rcases hk with hk | hk | hk
 ·have e:zc1 r.er o.er=({ r.er.bare with path:=(zbO r.er.path o.er.path o.er.dest o.er.kind o.er.pos).1 },(zbO r.er.path o.er.path o.er.dest o.er.kind o.er.pos).2):=by unfold zc1;rw[if_pos (by rw[hke];exact hk)]
  rw[e];refine stepPath_any (some ⟨b,0,none⟩) 1 r o _ _ w hL hs hlive hk (fun z wz hz hzi gz=>?_);have hzl:z.path.l=r.path.l:=congrArg RefE.path hz;have:=pathMove_any z o (zbO z.path.l o.path.l o.dest.l o.kind o.pos).1 (zbO z.path.l o.path.l o.dest.l o.kind o.pos).2 wz (fun wv gv=>move_any z.path.a z.path.c z.path.l o wv (hzi.later gv).1 (HO (gz.trans gv)).1.1 (HO (gz.trans gv)).1.2 (by rw[hzl];exact hs.1) hol hdl);rw[hz,hzl] at this;exact this
 ·have e:zc1 r.er o.er=({ r.er.bare with pt:=(zcf r.er.pt o.er r.er.aff).1 },(zcf r.er.pt o.er r.er.aff).2):=by unfold zc1;rw[if_neg (by omega),if_pos (by rw[hke];exact hk)]
  rw[e];refine stepPoint_any (some ⟨b,0,none⟩) 1 r o _ _ w hL hs hlive hk (fun z wz hz hzi gz=>?_);have hzp:z.pt.er=r.er.pt:=congrArg RefE.pt hz;have hza:z.aff=r.er.aff:=congrArg RefE.aff hz;have hzl:z.pt.p.l.length<=1048576:=by have h1:z.pt.p.l=r.pt.p.l:=congrArg PtE.p hzp;rw[h1];exact hs.2.1
  have:=pointMove_any z o (zcf z.pt.er o.er z.aff).1 (zcf z.pt.er o.er z.aff).2 wz (fun wv gv=>ptMove_any z.pt o z.aff wv (hzi.later gv).2.1 (HO (gz.trans gv)) hzl hol hdl hxl);rw[hz,hzp,hza] at this;exact this
 ·have e:zc1 r.er o.er=({ r.er.bare with a:=(zcB r.er.a r.er.f o.er r.er.aff).1.1,f:=(zcB r.er.a r.er.f o.er r.er.aff).1.2 },(zcB r.er.a r.er.f o.er r.er.aff).2):=by unfold zc1;rw[if_neg (by omega),if_neg (by omega)]
  rw[e];refine stepRange_any (some ⟨b,0,none⟩) 1 r o _ _ w hL hs hlive hk (fun z wz hz hzi gz=>?_);have hzp:z.a.er=r.er.a:=congrArg RefE.a hz;have hzf:z.f.er=r.er.f:=congrArg RefE.f hz;have hza:z.aff=r.er.aff:=congrArg RefE.aff hz;have hzl:z.a.p.l.length<=1048576:=by have h1:z.a.p.l=r.a.p.l:=congrArg PtE.p hzp;rw[h1];exact hs.2.2.1
  have hzl2:z.f.p.l.length<=1048576:=by have h1:z.f.p.l=r.f.p.l:=congrArg PtE.p hzf;rw[h1];exact hs.2.2.2
  have:=rangeMove_any z o (zcB z.a.er z.f.er o.er z.aff).1.1 (zcB z.a.er z.f.er o.er z.aff).1.2 (zcB z.a.er z.f.er o.er z.aff).2 wz (fun wv gv=>xrMove_any z.a z.f o z.aff wv (hzi.later gv).2.2.1 (hzi.later gv).2.2.2 (HO (gz.trans gv)) hzl hzl2 hol hdl hxl);rw[hz,hzp,hzf,hza] at this;exact this
theorem holdRight_any(n:NT)(o:OpL)(r:RefL)(w:World)(hf0:Fit n SelL.nil o w)(hr:r.In w 0 w.heap.size) :
  Calls Tryz.prog 4 #[n.val,o.val,r.val] w fun e w'=>e=.returned (.bool true)/\Grew w w':=by
 have FN:=zQ0 (fun w1 (g:Grew w w1)=>few_any n w1 100 (hf0.grew g).hn hf0.nb (by omega) (by omega));have FO:=zQ0 (fun w1 (g:Grew w w1)=>few11_any o w1 (hf0.grew g).ho hf0.ob hf0.od hf0.ow);have HF:=zQ0 hf0;have HRI:=zQ0 (fun w1 (g:Grew w w1)=>(hr.later g:r.In w1 0 w1.heap.size));clear hf0 hr;unfold NT.val OpL.val RefL.val at *
 go_enter Tryz.func4,Tryz.ntmps4
 go_upto_region 1 with fail
 generalize hW:((w.alloc _).alloc _).alloc _=w1;obtain⟨g1,rN,rO,rR,tR,z1⟩:=zas w n.cells4 o.cells r.cells _ _ _ w1 hW;clear hW
 have KN:=zQ0 (fun(w':World) (g:Grew w1 w')=>(by
  have h:=NT.cells4_at.1 (zcj rN g (by omega));unfold NodeAt at h;simp only[Nat.zero_add] at h
  exact h:w'.cell? ⟨w.heap.size,0,none⟩=some (.bool n.lf)/\w'.cell? ⟨w.heap.size,1,none⟩=some (.slice n.pa n.ps.length n.pc)/\w'.cell? ⟨w.heap.size,2,none⟩=some (.slice n.ta n.ts.length n.tc)/\w'.cell? ⟨w.heap.size,3,none⟩=some (.slice n.ka n.ks.length n.kc)))
 have KO:=zQ0 (fun(w':World) (g:Grew w1 w')=>(zcj rO g (by omega):w'.rangeAt (w.heap.size+1) 0 o.cells));have KR:=zQ0 (fun(w':World) (g:Grew w1 w')=>(⟨zcj rR g (by omega),zc4 tR g (by omega)⟩:w'.rangeAt (w.heap.size+2) 0 r.cells/\w'.there (w.heap.size+2) 0 11));have Z1:=zQ0 z1;have G1:=zQ0 g1;obtain⟨ov,hov⟩:∃ v,o.val=v:=⟨_,rfl⟩
 unfold OpL.val at hov;rw[hov] at FO;clear rN rO rR tR g1 z1;go_wp2_with fail
 refine (live14_any w1).mono ?_;rintro e w2 ⟨rfl,g2⟩;have HG2:=zQ0 g2;have G2:=zQ0 (G1.out.trans g2);obtain⟨m0,m1,m2,m3⟩:=KN.out w2 g2;clear g2;go_wp2_with fail
 refine (FN.out w2 G2.out).mono ?_;rintro e w3 ⟨rfl,g3⟩;clear m0 m1 m2 m3;have HG3:=zQ0 (HG2.out.trans g3);have G3:=zQ0 (G2.out.trans g3);clear g3 HG2 G2 FN
 by_cases hfn:few n.er 100=true
 case neg =>
  have hfn:few n.er 100=false:=by simpa using hfn
  rw[hfn];go_wp2_with fail
  go_ret
  exact⟨rfl,G3.out⟩
 case pos =>
 have HFN:Hid (few n.er 100=true):=hfn;rw[hfn];clear hfn;have rO:=KO.out w3 HG3.out
 go_wp2_with (show wpList _ _ _ (Oper.mk (some 18) (Op.load 35 (.tmp 4)) _ _ _ _::_) _ _;refine zdj rfl 35 (.tmp 4) rfl (w.heap.size+1) 0 rfl o.cells _ rO Tryz.underlying35 rfl zbp ?_;have ho2:Value.agg o.cells.toArray=ov:=hov;rw[ho2];clear ho2)
 refine (FO.out w3 G3.out).mono ?_;rintro e w4 ⟨rfl,g4⟩;have HG4:=zQ0 (HG3.out.trans g4);have G4:=zQ0 (G3.out.trans g4);clear g4 HG3 G3 FO rO
 by_cases hfo:fewOpE o.er=true
 case neg =>
  have hfo:fewOpE o.er=false:=by simpa using hfo
  rw[hfo];go_wp2_with fail
  go_ret
  exact⟨rfl,G4.out⟩
 case pos =>
 have HFO:Hid (fewOpE o.er=true):=hfo;rw[hfo];clear hfo;have rR:=(KR.out w4 HG4.out).1
 go_wp2_with (show wpList _ _ _ (Oper.mk (some 23) (Op.load 46 (.tmp 5)) _ _ _ _::_) _ _;refine zdj rfl 46 (.tmp 5) rfl (w.heap.size+2) 0 rfl (RefL.cells r) _ rR Tryz.underlying46 rfl zbq ?_;have hrv:Value.agg (RefL.cells r).toArray=.agg #[.int .i64 r.id,.int .i64 r.kind,.int .i64 r.aff,.bool r.live,.slice r.path.a r.path.l.length r.path.c,.slice r.pt.p.a r.pt.p.l.length r.pt.p.c,.int .i64 r.pt.o,.slice r.a.p.a r.a.p.l.length r.a.p.c,.int .i64 r.a.o,.slice r.f.p.a r.f.p.l.length r.f.p.c,.int .i64 r.f.o]:=rfl;rw[hrv];clear hrv)
 generalize hW:World.alloc w4 _=w5;obtain⟨g5,rB,_,zB⟩:=zaq w4 r.cells _ w5 hW;have hL:=zco rB (by omega) (HRI.out w5 (G4.out.trans g5));have FR:=refFew_any (some ⟨w4.heap.size,0,none⟩) 1 [r] w5 hL.1;rw[show [r].length=1 from rfl,show [r].map RefL.er=[r.er] from rfl] at FR;clear hW rR rB zB hL;refine FR.mono ?_;rintro e w6 ⟨rfl,g6⟩;have HG6:=zQ0 (HG4.out.trans (g5.trans g6));have G6:=zQ0 (G4.out.trans (g5.trans g6));clear g5 g6 HG4 G4 FR
 by_cases hfr:fewR [r.er]=true
 case neg =>
  have hfr:fewR [r.er]=false:=by simpa using hfr
  rw[hfr];go_wp2_with fail
  go_ret
  exact⟨rfl,G6.out⟩
 case pos =>
 have HRS:Hid (r.er.Small):=(few_small hfr).1 r.er (List.mem_singleton.2 rfl);have HNB:Hid (n.er.bulk<=262144):=by show _<=_;have:=few_bulk HFN.out;omega
 rw[hfr];clear hfr;have CK:=holdCheck_any n r w6 (HF.out.grew G6.out).hn (by have:=HNB.out;omega) (HRI.out w6 G6.out) HRS.out;unfold NT.val RefL.val at CK;have CK:=zQ0 CK;obtain⟨m0,m1,m2,m3⟩:=KN.out w6 HG6.out;have rR:=(KR.out w6 HG6.out).1
 go_wp2_with (show wpList _ _ _ (Oper.mk (some 30) (Op.load 46 (.tmp 5)) _ _ _ _::_) _ _;refine zdj rfl 46 (.tmp 5) rfl (w.heap.size+2) 0 rfl (RefL.cells r) _ rR Tryz.underlying46 rfl zbq ?_;have hrv:Value.agg (RefL.cells r).toArray=.agg #[.int .i64 r.id,.int .i64 r.kind,.int .i64 r.aff,.bool r.live,.slice r.path.a r.path.l.length r.path.c,.slice r.pt.p.a r.pt.p.l.length r.pt.p.c,.int .i64 r.pt.o,.slice r.a.p.a r.a.p.l.length r.a.p.c,.int .i64 r.a.o,.slice r.f.p.a r.f.p.l.length r.f.p.c,.int .i64 r.f.o]:=rfl;rw[hrv];clear hrv)
 refine CK.out.mono ?_;rintro e w7 ⟨rfl,g7⟩;have HG7:=zQ0 (HG6.out.trans g7);have G7:=zQ0 (G6.out.trans g7);clear m0 m1 m2 m3 rR g7 HG6 G6 CK
 by_cases hck:zaR n.er r.er=0
 case neg =>
  generalize zaR n.er r.er=ck at *;have t1:(ck != 0)=true:=by simpa using hck
  go_wp2_with fail
  go_ret
  exact⟨rfl,G7.out⟩
 case pos =>
 have HCK:Hid (zaR n.er r.er=0):=hck;rw[hck];clear hck
 have AP:=(by
  obtain⟨ht,hp1,hd⟩:=za4 HFO.out
  exact apply_any n SelL.nil o w7 (HF.out.grew G7.out).hn (HF.out.grew G7.out).hs (HF.out.grew G7.out).ho HNB.out ht (by simp[SelL.nil,PtL.nil,PN.nil]) (by simp[SelL.nil,PtL.nil,PN.nil]) hp1 hd:Calls Tryz.prog 9 #[n.val,SelL.nil.val,o.val] w7 (RetApply (zai n.er SelL.nil.er o.er) w7))
 rw[show SelL.nil.er=SelE.nil from rfl] at AP;unfold NT.val OpL.val SelL.val at AP;rw[hov] at AP;have AP:=zQ0 AP;have rO:=KO.out w7 HG7.out;obtain⟨m0,m1,m2,m3⟩:=KN.out w7 HG7.out
 go_wp2_with (show wpList _ _ _ (Oper.mk (some 37) (Op.load 35 (.tmp 4)) _ _ _ _::_) _ _;refine zdj rfl 35 (.tmp 4) rfl (w.heap.size+1) 0 rfl o.cells _ rO Tryz.underlying35 rfl zbp ?_;have ho2:Value.agg o.cells.toArray=ov:=hov;rw[ho2];clear ho2)
 refine AP.out.mono ?_;rintro e w8 ⟨x,t,rfl,g8,hx,ht,hxe,hte⟩;clear m0 m1 m2 m3 rO AP ht hte;have HG8:=zQ0 (HG7.out.trans g8);have G8:=zQ0 (G7.out.trans g8);have HX8:Hid (x.In w8 w7.heap.size w8.heap.size):=hx;have HSZ:=zQ0 (⟨HG7.out.size,g8.size⟩:_/\_);clear g8 hx HG7 G7;unfold NT.val SelL.val;have HER:Hid ((zai n.er SelE.nil o.er).2.2=(zai n.er SelE.nil o.er).2.2):=rfl;generalize hres:zai n.er SelE.nil o.er=res at *;have HRES:=zQ0 hres;obtain⟨ta,tb,er⟩:=res;clear hres HER
 go_upto_region 6 with (first | (show wpList _ _ _ (Oper.mk none (Op.store 26 (.tmp 7) (.tmp 39)) _ _ _ _::_) _ _;generalize hW:World.alloc (World.alloc w8 _) _=wW;obtain⟨tX,tY⟩:=two_there hW;refine wpList_store_mid rfl 26 (.tmp 7) (.tmp 39) rfl w8.heap.size 0 x.cells4.toArray rfl rfl tX zbm (NT.cells4_all _) ?_;generalize hA:World.setCells wW _ _ _=wa;have tZ:wa.there (w8.heap.size+1) 0 5:=(by rw[<- hA];exact World.there_setCells tY _ _ _)) | (show wpList _ _ _ (Oper.mk none (Op.store 33 (.tmp 8) (.tmp 40)) _ _ _ _::_) _ _;refine wpList_store_mid rfl 33 (.tmp 8) (.tmp 40) rfl (w8.heap.size+1) 0 t.cells.toArray rfl rfl tZ zbr (all_oneCell_toArray t.cells_one) ?_;generalize hB:World.setCells wa _ _ _=wb))
 obtain⟨g9,hXB⟩:=put2_new hW hA hB;clear hW hA hB tX tY tZ;have HG9:=zQ0 (HG8.out.trans g9);have G9:=zQ0 (G8.out.trans g9);have HX9:Hid (x.In wb w7.heap.size w8.heap.size):=NT.In.grew HX8.out g9 zQ1;have HSZ9:=zQ0 g9.size;have HXB:=zQ0 hXB;clear g9 hXB HG8 G8 HX8;have HXE:Hid (x.er=ta):=hxe.out;clear hxe
 have HXX:Hid (x.er.bulk<=1048576):=by
  show _<=_
  rw[HXE.out];have:=apply_bulk (s:=SelE.nil) HNB.out (za4 HFO.out).1;rw[HRES.out] at this;exact this
 by_cases her:er=0
 case neg =>
  have t1:(er != 0)=true:=by simpa using her
  have hno:=apply_no (n:=n.er) (s:=SelE.nil) (o:=o.er) (by rw[HRES.out];exact her);rw[HRES.out] at hno;have RS:=refSame04_any x NT.nil wb (NT.In.mono HX9.out (Nat.zero_le _) HSZ9.out) NT.nil_in HXX.out (by rw[zbS];decide);unfold NT.val at RS;rw[show decide (x.er=NT.nil.er)=true by rw[HXE.out,zbS];exact decide_eq_true hno.1] at RS;obtain⟨x0,x1,x2,x3⟩:=HXB.out.x;have RS:=zQ0 RS;clear hno her;go_wp2_with fail
  refine RS.out.mono ?_;rintro e w8 ⟨rfl,g8⟩;go_wp2_with fail
  go_ret
  exact⟨rfl,G9.out.trans g8⟩
 case pos =>
 subst her;have HAP:Hid ((zai n.er SelE.nil o.er).2.2=0):=by show _=_;rw[HRES.out]
 have HAX:Hid ((zai n.er SelE.nil o.er).1=x.er):=by show _=_;rw[HRES.out,HXE.out]
 obtain⟨rR9,tR9⟩:=KR.out wb HG9.out;have c3:wb.cell? ⟨w.heap.size+2,3,none⟩=some (.bool r.live):=zci rR9 (j:=3) rfl;have f3:wb.frozen? ⟨w.heap.size+2,3,none⟩=false:=(tR9 3 (by omega)).2;have rRL:Hid ((wb.setCell ⟨w.heap.size+2,3,none⟩ (.bool true)).rangeAt (w.heap.size+2) 0 ({ r with live:=true }:RefL).cells):=zcn rR9 (j:=3) (by rw[RefL.cells_len];omega) _;have kL:Hid (Keeps (·=w.heap.size+2) wb (wb.setCell ⟨w.heap.size+2,3,none⟩ (.bool true))):=(Keeps.refl _ _).own _ _;clear rR9 tR9;go_upto_region 9 with fail
 generalize wb.setCell ⟨w.heap.size+2,3,none⟩ (.bool true)=wL at *;clear c3 f3;obtain⟨r1,hr1⟩:∃ r1:RefL,r1={ r with live:=true }:=⟨_,rfl⟩
 rw[<- hr1] at rRL;have HR1:=zQ0 hr1;have zw:=Z1.out;have zs:=HSZ.out;have zs9:=HSZ9.out;have zo:=HG9.out.size;have zL:=kL.out.size;have GL:=zQ0 (G9.out.keep kL.out (fun j hj=>by rw[hj];omega));have HXL:Hid (x.In wL w7.heap.size w8.heap.size):=NT.In.agree HX9.out (kL.out.agree (by omega) (fun j h1 h2=>by show ¬ j=w.heap.size+2;omega));have rXL:Hid (wL.rangeAt w8.heap.size 0 x.cells4):=zcl HXB.out.1 kL.out (by have:=HXB.out.2.2;omega) (by omega);have rOL:Hid (wL.rangeAt (w.heap.size+1) 0 o.cells):=zcl (KO.out wb HG9.out) kL.out (by omega) (by omega);have HLZ:Hid (w.heap.size+2 < w8.heap.size/\w8.heap.size < wL.heap.size):=by have:=HXB.out.2.2;exact⟨by omega,by omega⟩
 have HRI1:=zQ0 (fun(w':World) (g:Grew w w')=>(by rw[HR1.out];exact HRI.out w' g:r1.In w' 0 w'.heap.size));have HRS1:Hid (r1.er.Small):=by rw[HR1.out];exact HRS.out
 have HSR:=(step_right (s:=SelE.nil) (o:=o.er) (r:=r1.er) (by have:=HNB.out;omega) HAP.out (by rw[HR1.out];exact HCK.out))
 rw[HAX.out] at HSR;have HSR:=zQ0 HSR;have HR1L:Hid (r1.live=true):=by show _=_;rw[HR1.out]
 clear hr1 zw zs zs9 zo zL kL HXB HX9 HSZ HSZ9 KN KO KR HRES HXE HR1;have ST:=zQ0 (fun(wY:World) (b:Nat) (g:Grew w wY) (hL:RefsIn wY (some ⟨b,0,none⟩) 1 [r1])=>stepAny_any b r1 o wY hL HRS1.out HR1L.out HSR.out.2.2.2 (HF.out.grew g).ho (by have:=(za4 HFO.out).2.1;have e:o.er.path.length=o.path.l.length:=rfl;omega) (by have:=(za4 HFO.out).2.2;have e:o.er.dest.length=o.dest.l.length:=rfl;omega) (by have h:=(za4 HFO.out).1;have:=h.2.2.1;have e:o.er.text.length=o.text.length:=rfl;omega));unfold OpL.val at ST;rw[hov] at ST;have rR:=rRL.out;have rO:(World.alloc wL (.cells r1.cells.toArray 46)).rangeAt (w.heap.size+1) 0 o.cells:=zcj rOL.out (Grew.alloc1 _ _) (by have:=HLZ.out;omega)
 go_wp2_with (first | (show wpList _ _ _ (Oper.mk (some 48) (Op.load 46 (.tmp 5)) _ _ _ _::_) _ _;refine zdj rfl 46 (.tmp 5) rfl (w.heap.size+2) 0 rfl (RefL.cells r1) _ rR Tryz.underlying46 rfl zbq ?_;have hrv:Value.agg (RefL.cells r1).toArray=.agg #[.int .i64 r1.id,.int .i64 r1.kind,.int .i64 r1.aff,.bool r1.live,.slice r1.path.a r1.path.l.length r1.path.c,.slice r1.pt.p.a r1.pt.p.l.length r1.pt.p.c,.int .i64 r1.pt.o,.slice r1.a.p.a r1.a.p.l.length r1.a.p.c,.int .i64 r1.a.o,.slice r1.f.p.a r1.f.p.l.length r1.f.p.c,.int .i64 r1.f.o]:=rfl;rw[hrv];clear hrv) | (show wpList _ _ _ (Oper.mk (some 50) (Op.load 35 (.tmp 4)) _ _ _ _::_) _ _;refine zdj rfl 35 (.tmp 4) rfl (w.heap.size+1) 0 rfl o.cells _ rO Tryz.underlying35 rfl zbp ?_;have ho2:Value.agg o.cells.toArray=ov:=hov;rw[ho2];clear ho2))
 generalize hW:World.alloc wL _=wY;obtain⟨gY,rB,_,zY⟩:=zaq wL r1.cells _ wY hW;have hL:=zco rB (by omega) (HRI1.out wY (GL.out.trans gY));have ST1:=ST.out wY wL.heap.size (GL.out.trans gY) hL;have GY:=zQ0 gY;clear hW rR rO hL rB zY gY;refine ST1.mono ?_;rintro e wE ⟨b,x1,rfl,gE,hx1,hxe⟩;have GLE:=zQ0 (GY.out.trans gE);have GE:=zQ0 (GL.out.trans GLE.out);clear gE ST ST1 GY;obtain⟨⟨mv,ok⟩,hmv⟩:∃ z,zc1 r1.er o.er=z:=⟨_,rfl⟩
 rw[hmv] at HSR hxe;have hsm:=fun(h:ok=true)=>stepMv_small (r:=r1.er) (o:=o.er) (t:=x.er) (live:=true) HSR.out.2.2.2 (by rw[hmv];exact HSR.out.1 h) HXX.out;rw[hmv] at hsm;have HSM:=zQ0 hsm;obtain⟨i1,i2,i3,i4⟩:=movedR_ids (ok:=ok) HSR.out.2.2.1;have j1:x1.id=r1.id:=(congrArg RefE.id hxe.out).trans i1;have j2:x1.kind=r1.kind:=(congrArg RefE.kind hxe.out).trans i2;have j3:x1.aff=r1.aff:=(congrArg RefE.aff hxe.out).trans i3;have j4:x1.live=ok:=(congrArg RefE.live hxe.out).trans i4
 have KX:=zQ0 (fun(w':World) (g:Grew wE w')=>(by
  have hx:=hx1.grew g;obtain⟨b',o',hbo,_,hbb,hr⟩:=hx.1.at (i:=0) (by simp);obtain⟨rfl,rfl⟩:b=b'/\0=o':=by injection hbo with e;injection e with e1 e2;exact⟨e1,e2⟩
  exact⟨by simpa using hr,hx.2 x1 (by simp)⟩:w'.rangeAt b 0 x1.cells/\x1.In w' 0 w'.heap.size))
 have KXC:=zQ0 (fun(w':World) (g:Grew wE w')=>(by
  have h:=(KX.out w' g).1;have c0:=zci h (j:=0) (v:=.int .i64 x1.id) rfl;have c1:=zci h (j:=1) (v:=.int .i64 x1.kind) rfl;have c2:=zci h (j:=2) (v:=.int .i64 x1.aff) rfl;have c3:=zci h (j:=3) (v:=.bool x1.live) rfl;rw[j1] at c0;rw[j2] at c1;rw[j3] at c2;rw[j4] at c3
  exact⟨c0,c1,c2,c3⟩:w'.cell? ⟨b,0,none⟩=some (.int .i64 r1.id)/\w'.cell? ⟨b,1,none⟩=some (.int .i64 r1.kind)/\w'.cell? ⟨b,2,none⟩=some (.int .i64 r1.aff)/\w'.cell? ⟨b,3,none⟩=some (.bool ok)))
 have KRC:=zQ0 (fun(w':World) (g:Grew wE w')=>(by
  have h:=zcj rRL.out (GLE.out.trans g) (by have:=HLZ.out;omega)
  exact⟨zci h (j:=0) rfl,zci h (j:=1) rfl,zci h (j:=2) rfl⟩:w'.cell? ⟨w.heap.size+2,0,none⟩=some (.int .i64 r1.id)/\w'.cell? ⟨w.heap.size+2,1,none⟩=some (.int .i64 r1.kind)/\w'.cell? ⟨w.heap.size+2,2,none⟩=some (.int .i64 r1.aff)))
 have HXE1:Hid (x1.er=zbP r1.er mv ok):=hxe.out;clear hmv hsm i1 i2 i3 i4 j1 j2 j3 j4 hx1 hxe;obtain⟨d0,d1,d2,d3⟩:=KXC.out wE (Grew.refl _);obtain⟨e0,e1,e2⟩:=KRC.out wE (Grew.refl _);go_upto_region 10 with fail
 go_quiet (fail)
 generalize hD:World.drewN wE _=wF
 have GF:Hid (Grew wE wF):=by
  show Grew _ _
  rw[<- hD];exact (Grew.refl _).drewN _
 clear hD d0 d1 d2 d3 e0 e1 e2;obtain⟨d0,d1,d2,d3⟩:=KXC.out wF GF.out;obtain⟨e0,e1,e2⟩:=KRC.out wF GF.out
 cases ok with
 | true =>
  have HE1:Hid (x1.er={ mv with live:=true }):=HXE1.out;have KXX:=zQ0 (fun(w':World) (g:Grew wF w')=>(KX.out w' (GF.out.trans g)).1);have KXN:=zQ0 (fun(w':World) (g:Grew wF w')=>(zcj rXL.out (GLE.out.trans (GF.out.trans g)) (by have:=HLZ.out;omega):w'.rangeAt w8.heap.size 0 x.cells4));have S0:Grew wF wF.drew:=(Grew.refl _).drew;have CK2:=holdCheck_any x x1 wF.drew (NT.In.mono (NT.In.grew HXL.out (GLE.out.trans (GF.out.trans S0)) (by have:=HLZ.out;omega)) (Nat.zero_le _) (by have:=HLZ.out;have:=(GLE.out.trans (GF.out.trans S0)).size;omega)) HXX.out ((KX.out wF.drew (GF.out.trans S0)).2) (by rw[HE1.out];exact HSM.out rfl);rw[show zaR x.er x1.er=0 by rw[HE1.out];exact HSR.out.1 rfl] at CK2;unfold NT.val RefL.val at CK2;have CK2:=zQ0 CK2;go_upto_region 13 with fail
  refine zdl (Grew wF) (fun _=>true) (by kernel_rfl) ?_;refine zdd (i:=0) (v:=.agg #[.bool x.lf,.slice x.pa x.ps.length x.pc,.slice x.ta x.ts.length x.tc,.slice x.ka x.ks.length x.kc]) (some 86) rfl rfl (by kernel_rfl) (Or.inl ⟨rfl,fun w' hS=>exec_mid rfl rfl (KXN.out w' hS) Tryz.underlying26 rfl zbm⟩) S0 ?_;refine zdd (i:=1) (v:=.slice (some ⟨b,0,none⟩) 1 1) (some 87) rfl rfl (by kernel_rfl) (Or.inl ⟨rfl,fun w' _=>by kernel_rfl⟩) S0 ?_;refine zdd (i:=2) (v:=.pointer (some ⟨b,0,none⟩)) (some 88) rfl rfl (by kernel_rfl) (Or.inl ⟨rfl,fun w' _=>by kernel_rfl⟩) S0 ?_;refine zdd (i:=3) (v:=.agg #[.int .i64 x1.id,.int .i64 x1.kind,.int .i64 x1.aff,.bool x1.live,.slice x1.path.a x1.path.l.length x1.path.c,.slice x1.pt.p.a x1.pt.p.l.length x1.pt.p.c,.int .i64 x1.pt.o,.slice x1.a.p.a x1.a.p.l.length x1.a.p.c,.int .i64 x1.a.o,.slice x1.f.p.a x1.f.p.l.length x1.f.p.c,.int .i64 x1.f.o]) (some 89) rfl rfl (by kernel_rfl) (Or.inl ⟨rfl,fun w' hS=>exec_mid rfl rfl (KXX.out w' hS) Tryz.underlying46 rfl zbq⟩) S0 ?_
  try simp only[Act.put,List.setIfInBounds_toArray,List.set_cons_succ,List.set_cons_zero]
  refine zdf (i:=4) (by kernel_rfl) rfl rfl ?_;intro K' hK';go_wp2_with fail
  refine CK2.out.mono ?_;rintro e wG ⟨rfl,gG⟩;have S1:=S0.trans gG;refine hK' _ _ ⟨fun _=>S1,?_⟩;clear hK' K' CK2
  try simp only[Act.put,List.setIfInBounds_toArray,List.set_cons_succ,List.set_cons_zero]
  refine zdd (i:=5) (v:=.bool true) (some 91) rfl rfl (by kernel_rfl) (Or.inl ⟨rfl,fun w' _=>by kernel_rfl⟩) S1 ?_
  try simp only[Act.put,List.setIfInBounds_toArray,List.set_cons_succ,List.set_cons_zero]
  refine zdf (i:=6) (by kernel_rfl) rfl rfl ?_;intro K' hK';go_wp2_with fail
  first | (refine⟨fun _=>S1,?_⟩;refine zde (by kernel_rfl) ?_ _) | (refine⟨S1,?_⟩;refine zde (by kernel_rfl) ?_ _) | (refine⟨by kernel_rfl,?_⟩) | skip
  try (go_wp2_with fail)
  go_ret
  exact⟨rfl,GE.out.trans (GF.out.trans S1)⟩
 | false =>
  have HE1:Hid (x1.er=r1.bare.er):=HXE1.out;have KXX:=zQ0 (fun(w':World) (g:Grew wF w')=>(KX.out w' (GF.out.trans g)).1);have KRX:=zQ0 (fun(w':World) (g:Grew wF w')=>KRC.out w' (GF.out.trans g));have KOX:=zQ0 (fun(w':World) (g:Grew wF w')=>(zci (zcj rOL.out (GLE.out.trans (GF.out.trans g)) (by have:=HLZ.out;omega)) (j:=0) rfl:w'.cell? ⟨w.heap.size+1,0,none⟩=some (.int .i64 o.kind)));have S0:Grew wF wF.drew:=(Grew.refl _).drew;have SR:=sameRef_true x1 r1.bare wF.drew ((KX.out wF.drew (GF.out.trans S0)).2) ⟨zbu,zbu,zbu,zbu⟩ HE1.out (by rw[HE1.out];exact⟨Nat.zero_le _,Nat.zero_le _,Nat.zero_le _,Nat.zero_le _⟩);rw[show r1.bare.val=.agg #[.int .i64 r1.id,.int .i64 r1.kind,.int .i64 r1.aff,.bool false,.slice none 0 0,.slice none 0 0,.int .i64 0,.slice none 0 0,.int .i64 0,.slice none 0 0,.int .i64 0] from rfl] at SR;unfold RefL.val at SR;have SR:=zQ0 SR;have hno:=HSR.out.2.1 rfl
  rcases hno with hk | ⟨hk,hrk,hra⟩
  ·have hk':o.kind=2:=hk;rw[hk'] at KOX;have k0:=KOX.out wF (Grew.refl _);go_upto_region 15 with fail
   clear d0 d1 d2 d3 e0 e1 e2 k0;refine zdl (Grew wF) (fun _=>true) (by kernel_rfl) ?_;refine zdd (i:=0) (v:=.slice (some ⟨b,0,none⟩) 1 1) (some 105) rfl rfl (by kernel_rfl) (Or.inl ⟨rfl,fun w' _=>by kernel_rfl⟩) S0 ?_;refine zdd (i:=1) (v:=.pointer (some ⟨b,0,none⟩)) (some 106) rfl rfl (by kernel_rfl) (Or.inl ⟨rfl,fun w' _=>by kernel_rfl⟩) S0 ?_;refine zdd (i:=2) (v:=.agg #[.int .i64 x1.id,.int .i64 x1.kind,.int .i64 x1.aff,.bool x1.live,.slice x1.path.a x1.path.l.length x1.path.c,.slice x1.pt.p.a x1.pt.p.l.length x1.pt.p.c,.int .i64 x1.pt.o,.slice x1.a.p.a x1.a.p.l.length x1.a.p.c,.int .i64 x1.a.o,.slice x1.f.p.a x1.f.p.l.length x1.f.p.c,.int .i64 x1.f.o]) (some 107) rfl rfl (by kernel_rfl) (Or.inl ⟨rfl,fun w' hS=>exec_mid rfl rfl (KXX.out w' hS) Tryz.underlying46 rfl zbq⟩) S0 ?_
   try simp only[Act.put,List.setIfInBounds_toArray,List.set_cons_succ,List.set_cons_zero]
   refine zdd (i:=3) (v:=.pointer (some ⟨w.heap.size+2,0,none⟩)) (some 108) rfl rfl (by kernel_rfl) (Or.inl ⟨rfl,fun w' _=>by kernel_rfl⟩) S0 ?_;refine zdd (i:=4) (v:=.int .i64 r1.id) (some 109) rfl rfl (by kernel_rfl) (Or.inl ⟨rfl,fun w' hS=>za1 rfl (by kernel_rfl) Tryz.underlying3 rfl ((KRX.out w' hS).1)⟩) S0 ?_;refine zdd (i:=5) (v:=.pointer (some ⟨w.heap.size+2,1,none⟩)) (some 110) rfl rfl (by kernel_rfl) (Or.inl ⟨rfl,fun w' _=>by kernel_rfl⟩) S0 ?_;refine zdd (i:=6) (v:=.int .i64 r1.kind) (some 111) rfl rfl (by kernel_rfl) (Or.inl ⟨rfl,fun w' hS=>za1 rfl (by kernel_rfl) Tryz.underlying3 rfl ((KRX.out w' hS).2.1)⟩) S0 ?_;refine zdd (i:=7) (v:=.pointer (some ⟨w.heap.size+2,2,none⟩)) (some 112) rfl rfl (by kernel_rfl) (Or.inl ⟨rfl,fun w' _=>by kernel_rfl⟩) S0 ?_;refine zdd (i:=8) (v:=.int .i64 r1.aff) (some 113) rfl rfl (by kernel_rfl) (Or.inl ⟨rfl,fun w' hS=>za1 rfl (by kernel_rfl) Tryz.underlying3 rfl ((KRX.out w' hS).2.2)⟩) S0 ?_
   try simp only[Act.put,List.setIfInBounds_toArray,List.set_cons_succ,List.set_cons_zero]
   refine zdd (i:=9) (v:=.agg #[.int .i64 r1.id,.int .i64 r1.kind,.int .i64 r1.aff,.bool false,.slice none 0 0,.slice none 0 0,.int .i64 0,.slice none 0 0,.int .i64 0,.slice none 0 0,.int .i64 0]) (some 114) rfl rfl (by kernel_rfl) (Or.inl ⟨rfl,fun w' _=>by kernel_rfl⟩) S0 ?_
   try simp only[Act.put,List.setIfInBounds_toArray,List.set_cons_succ,List.set_cons_zero]
   refine zdf (i:=10) (by kernel_rfl) rfl rfl ?_;intro K' hK';go_wp2_with fail
   refine SR.out.mono ?_;rintro e wG ⟨rfl,gG⟩;have S1:=S0.trans gG;refine hK' _ _ ⟨fun _=>S1,?_⟩;clear hK' K' SR
   try simp only[Act.put,List.setIfInBounds_toArray,List.set_cons_succ,List.set_cons_zero]
   refine zdd (i:=11) (v:=.bool true) (some 116) rfl rfl (by kernel_rfl) (Or.inl ⟨rfl,fun w' _=>by kernel_rfl⟩) S1 ?_;refine zdd (i:=12) (v:=.pointer (some ⟨w.heap.size+1,0,none⟩)) (some 117) rfl rfl (by kernel_rfl) (Or.inl ⟨rfl,fun w' _=>by kernel_rfl⟩) S1 ?_;refine zdd (i:=13) (v:=.int .i64 2) (some 118) rfl rfl (by kernel_rfl) (Or.inl ⟨rfl,fun w' hS=>za1 rfl (by kernel_rfl) Tryz.underlying3 rfl (KOX.out w' hS)⟩) S1 ?_
   try simp only[Act.put,List.setIfInBounds_toArray,List.set_cons_succ,List.set_cons_zero]
   refine zdd (i:=14) (v:=.bool true) (some 119) rfl rfl (by kernel_rfl) (Or.inl ⟨rfl,fun w' _=>by kernel_rfl⟩) S1 ?_;refine zdd (i:=15) (v:=.bool true) (some 120) rfl rfl (by kernel_rfl) (Or.inl ⟨rfl,fun w' _=>by kernel_rfl⟩) S1 ?_
   try simp only[Act.put,List.setIfInBounds_toArray,List.set_cons_succ,List.set_cons_zero]
   refine zdd (i:=16) (v:=undef) (some 121) rfl rfl (by kernel_rfl) (Or.inr ⟨rfl,rfl⟩) S1 ?_
   try simp only[Act.put,List.setIfInBounds_toArray,List.set_cons_succ,List.set_cons_zero]
   refine zdd (i:=17) (v:=.bool true) (some 122) rfl rfl (by kernel_rfl) (Or.inl ⟨rfl,fun w' _=>by kernel_rfl⟩) S1 ?_;refine zdd (i:=18) (v:=.bool true) (some 123) rfl rfl (by kernel_rfl) (Or.inl ⟨rfl,fun w' _=>by kernel_rfl⟩) S1 ?_
   try simp only[Act.put,List.setIfInBounds_toArray,List.set_cons_succ,List.set_cons_zero]
   refine zdf (i:=19) (by kernel_rfl) rfl rfl ?_;intro K' hK';go_wp2_with fail
   first | (refine⟨fun _=>S1,?_⟩;refine zde (by kernel_rfl) ?_ _) | (refine⟨S1,?_⟩;refine zde (by kernel_rfl) ?_ _) | (refine⟨by kernel_rfl,?_⟩) | skip
   try (go_wp2_with fail)
   go_ret
   exact⟨rfl,GE.out.trans (GF.out.trans S1)⟩
  ·have hk':o.kind=4:=hk;rw[hk'] at KOX;have k0:=KOX.out wF (Grew.refl _);have tk:(r1.kind != 1)=true:=by simpa using (show r1.kind≠1 from hrk)
   have ta:(r1.aff == 0)=true:=by simpa using (show r1.aff=0 from hra)
   go_upto_region 15 with fail
   clear d0 d1 d2 d3 e0 e1 e2 k0;refine zdl (Grew wF) (fun _=>true) (by kernel_rfl) ?_;refine zdd (i:=0) (v:=.slice (some ⟨b,0,none⟩) 1 1) (some 105) rfl rfl (by kernel_rfl) (Or.inl ⟨rfl,fun w' _=>by kernel_rfl⟩) S0 ?_;refine zdd (i:=1) (v:=.pointer (some ⟨b,0,none⟩)) (some 106) rfl rfl (by kernel_rfl) (Or.inl ⟨rfl,fun w' _=>by kernel_rfl⟩) S0 ?_;refine zdd (i:=2) (v:=.agg #[.int .i64 x1.id,.int .i64 x1.kind,.int .i64 x1.aff,.bool x1.live,.slice x1.path.a x1.path.l.length x1.path.c,.slice x1.pt.p.a x1.pt.p.l.length x1.pt.p.c,.int .i64 x1.pt.o,.slice x1.a.p.a x1.a.p.l.length x1.a.p.c,.int .i64 x1.a.o,.slice x1.f.p.a x1.f.p.l.length x1.f.p.c,.int .i64 x1.f.o]) (some 107) rfl rfl (by kernel_rfl) (Or.inl ⟨rfl,fun w' hS=>exec_mid rfl rfl (KXX.out w' hS) Tryz.underlying46 rfl zbq⟩) S0 ?_
   try simp only[Act.put,List.setIfInBounds_toArray,List.set_cons_succ,List.set_cons_zero]
   refine zdd (i:=3) (v:=.pointer (some ⟨w.heap.size+2,0,none⟩)) (some 108) rfl rfl (by kernel_rfl) (Or.inl ⟨rfl,fun w' _=>by kernel_rfl⟩) S0 ?_;refine zdd (i:=4) (v:=.int .i64 r1.id) (some 109) rfl rfl (by kernel_rfl) (Or.inl ⟨rfl,fun w' hS=>za1 rfl (by kernel_rfl) Tryz.underlying3 rfl ((KRX.out w' hS).1)⟩) S0 ?_;refine zdd (i:=5) (v:=.pointer (some ⟨w.heap.size+2,1,none⟩)) (some 110) rfl rfl (by kernel_rfl) (Or.inl ⟨rfl,fun w' _=>by kernel_rfl⟩) S0 ?_;refine zdd (i:=6) (v:=.int .i64 r1.kind) (some 111) rfl rfl (by kernel_rfl) (Or.inl ⟨rfl,fun w' hS=>za1 rfl (by kernel_rfl) Tryz.underlying3 rfl ((KRX.out w' hS).2.1)⟩) S0 ?_;refine zdd (i:=7) (v:=.pointer (some ⟨w.heap.size+2,2,none⟩)) (some 112) rfl rfl (by kernel_rfl) (Or.inl ⟨rfl,fun w' _=>by kernel_rfl⟩) S0 ?_;refine zdd (i:=8) (v:=.int .i64 r1.aff) (some 113) rfl rfl (by kernel_rfl) (Or.inl ⟨rfl,fun w' hS=>za1 rfl (by kernel_rfl) Tryz.underlying3 rfl ((KRX.out w' hS).2.2)⟩) S0 ?_
   try simp only[Act.put,List.setIfInBounds_toArray,List.set_cons_succ,List.set_cons_zero]
   refine zdd (i:=9) (v:=.agg #[.int .i64 r1.id,.int .i64 r1.kind,.int .i64 r1.aff,.bool false,.slice none 0 0,.slice none 0 0,.int .i64 0,.slice none 0 0,.int .i64 0,.slice none 0 0,.int .i64 0]) (some 114) rfl rfl (by kernel_rfl) (Or.inl ⟨rfl,fun w' _=>by kernel_rfl⟩) S0 ?_
   try simp only[Act.put,List.setIfInBounds_toArray,List.set_cons_succ,List.set_cons_zero]
   refine zdf (i:=10) (by kernel_rfl) rfl rfl ?_;intro K' hK';go_wp2_with fail
   refine SR.out.mono ?_;rintro e wG ⟨rfl,gG⟩;have S1:=S0.trans gG;refine hK' _ _ ⟨fun _=>S1,?_⟩;clear hK' K' SR
   try simp only[Act.put,List.setIfInBounds_toArray,List.set_cons_succ,List.set_cons_zero]
   refine zdd (i:=11) (v:=.bool true) (some 116) rfl rfl (by kernel_rfl) (Or.inl ⟨rfl,fun w' _=>by kernel_rfl⟩) S1 ?_;refine zdd (i:=12) (v:=.pointer (some ⟨w.heap.size+1,0,none⟩)) (some 117) rfl rfl (by kernel_rfl) (Or.inl ⟨rfl,fun w' _=>by kernel_rfl⟩) S1 ?_;refine zdd (i:=13) (v:=.int .i64 4) (some 118) rfl rfl (by kernel_rfl) (Or.inl ⟨rfl,fun w' hS=>za1 rfl (by kernel_rfl) Tryz.underlying3 rfl (KOX.out w' hS)⟩) S1 ?_
   try simp only[Act.put,List.setIfInBounds_toArray,List.set_cons_succ,List.set_cons_zero]
   refine zdd (i:=14) (v:=.bool false) (some 119) rfl rfl (by kernel_rfl) (Or.inl ⟨rfl,fun w' _=>by kernel_rfl⟩) S1 ?_;refine zdd (i:=15) (v:=.bool false) (some 120) rfl rfl (by kernel_rfl) (Or.inl ⟨rfl,fun w' _=>by kernel_rfl⟩) S1 ?_
   try simp only[Act.put,List.setIfInBounds_toArray,List.set_cons_succ,List.set_cons_zero]
   refine zdd (i:=16) (v:=.bool true) (some 121) rfl rfl (by kernel_rfl) (Or.inl ⟨rfl,fun w' _=>by kernel_rfl⟩) S1 ?_
   try simp only[Act.put,List.setIfInBounds_toArray,List.set_cons_succ,List.set_cons_zero]
   refine zdd (i:=17) (v:=.bool true) (some 122) rfl rfl (by kernel_rfl) (Or.inl ⟨rfl,fun w' _=>by kernel_rfl⟩) S1 ?_;refine zdd (i:=18) (v:=.bool true) (some 123) rfl rfl (by kernel_rfl) (Or.inl ⟨rfl,fun w' _=>by kernel_rfl⟩) S1 ?_
   try simp only[Act.put,List.setIfInBounds_toArray,List.set_cons_succ,List.set_cons_zero]
   refine zdf (i:=19) (by kernel_rfl) rfl rfl ?_;intro K' hK';go_wp2_with fail
   first | (refine⟨fun _=>S1,?_⟩;refine zde (by kernel_rfl) ?_ _) | (refine⟨S1,?_⟩;refine zde (by kernel_rfl) ?_ _) | (refine⟨by kernel_rfl,?_⟩) | skip
   try (go_wp2_with fail)
   go_ret
   exact⟨rfl,GE.out.trans (GF.out.trans S1)⟩
end Go.Proofs.YtccobobnmpafbaaGreatDoor
