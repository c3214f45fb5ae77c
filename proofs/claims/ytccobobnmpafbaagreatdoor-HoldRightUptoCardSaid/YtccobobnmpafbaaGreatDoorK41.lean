/- hold.Check: the contract. -/
import Derived.Test.YtccobobnmpafbaaGreatDoorK40
import Derived.Test.YtccobobnmpafbaaGreatDoorK34
import Derived.Laws.EntriesVeiled
import Derived.Deep.DeepCutAuto
import Derived.Test.YtccobobnmpafbaaGreatDoorK02
import Derived.Deep.MidRow
set_option maxRecDepth 100000
set_option maxHeartbeats 100000000
namespace Go.Proofs.YtccobobnmpafbaaGreatDoor
open Go Go.RowKit
def refIs(k:Int):Bool:=k == 1 || (k == 2 || k == 3)
def refMost(k:Int):Int:=if k=1 then 0 else if k=2 then 2 else if k=3 then 4 else 0
def refMay(t:T)(r:RefE):Int:=if r.kind=1 then zbH t r else if r.kind=2 then zaQ t r.pt else zbI t r
def refBad(is neg big path gap span:Bool):Bool:=!is || (neg || (big || (!path || (!gap || !span))))
def zaR(t:T)(r:RefE):Int:=if refBad (refIs r.kind) (decide (r.aff < 0)) (decide (refMost r.kind < r.aff)) (r.kind == 1 || decide (r.path.length=0)) (r.kind == 2 || zcJ r.pt PtE.nil) (r.kind == 3 || emptyR r.a r.f)=true then 1 else refMay t r
def KindAt(w1:World)(m F1:Value)(b:Bool)(s5 s6:Value)(wx:World):Prop:=∃ B:Nat,s5=.pointer (some ⟨B,0,none⟩)/\s6=.bool b/\Grew w1 wx/\wx.cell? ⟨B,0,none⟩=some m/\wx.cell? ⟨B,1,none⟩=some F1/\B < wx.heap.size
theorem kindAt1(w1:World)(m F1 F2:Value)(b:Bool):KindAt w1 m F1 b (.pointer (some ⟨w1.heap.size+1,0,none⟩)) (.bool b) ((w1.alloc zbz).alloc (.cells #[m,F1,F2] 87)).drew:=by
 have b0:=zap (Grew.refl ((w1.alloc zbz).alloc (.cells #[m,F1,F2] 87))) (j:=0) (v:=m) rfl;have b1:=zap (Grew.refl ((w1.alloc zbz).alloc (.cells #[m,F1,F2] 87))) (j:=1) (v:=F1) rfl;rw[World.size_alloc] at b0 b1;exact⟨_,rfl,rfl,((Grew.alloc1 _ _).alloc _).drew,b0,b1,by simp⟩
theorem kindAt2(w1:World)(m F1 F2:Value)(b:Bool):KindAt w1 m F1 b (.pointer (some ⟨w1.heap.size,0,none⟩)) (.bool b) ((w1.alloc (.cells #[m,F1,F2] 87)).alloc zbz).drew:=by
 have g:=Grew.alloc1 (w1.alloc (.cells #[m,F1,F2] 87)) zbz;exact⟨_,rfl,rfl,((Grew.alloc1 _ _).alloc _).drew,zap g (j:=0) rfl,zap g (j:=1) rfl,by simp;omega⟩
theorem holdCheck_any(n:NT)(r:RefL)(w:World)(hn:n.Ok w)(hb:n.er.bulk<=1048576)(hr:r.In w 0 w.heap.size)(hs:r.er.Small):Calls Tryz.prog 18 #[n.val,r.val] w fun e w'=>e=.returned (.int .i64 (zaR n.er r.er))/\Grew w w':=by
 have SN:=zQ0 (fun w1 (hg:Grew w w1)=>zb9 r.pt PtL.nil w1 (hr.later hg).2.1 hs.2.1 ptNil_in (by simp[PtL.nil,PN.nil]))
 change Hid (∀ w1,Grew w w1->Calls Tryz.prog 48 #[.agg #[.slice r.pt.p.a r.pt.p.l.length r.pt.p.c,.int .i64 r.pt.o],.agg #[.slice none 0 0,.int .i64 0]] w1 fun e w'=>e=.returned (.bool (zcJ r.pt.er PtE.nil))/\Grew w1 w') at SN
 have SE:=zQ0 (fun w1 (hg:Grew w w1)=>holdEmpty_any r.a r.f w1 (hr.later hg).2.2.1 hs.2.2.1 (hr.later hg).2.2.2 hs.2.2.2);have MP:=zQ0 (fun w1 (hg:Grew w w1)=>pathMay_any n r w1 (NT.Ok.grew hn hg) hb (hr.later hg) hs);have MQ:=zQ0 (fun w1 (hg:Grew w w1)=>pointMay_any n r w1 (NT.Ok.grew hn hg) hb (hr.later hg) hs);have MR:=zQ0 (fun w1 (hg:Grew w w1)=>rangeMay_any n r w1 (NT.Ok.grew hn hg) hb (hr.later hg) hs);have HC:Hid (zaR n.er r.er=if refBad (refIs r.kind) (decide (r.aff < 0)) (decide (refMost r.kind < r.aff)) (r.kind == 1 || decide (r.path.l.length=0)) (r.kind == 2 || zcJ r.pt.er PtE.nil) (r.kind == 3 || emptyR r.a.er r.f.er)=true then 1 else (if r.kind=1 then zbH n.er r.er else if r.kind=2 then zaQ n.er r.pt.er else zbI n.er r.er)):=rfl;generalize zaR n.er r.er=res at *;generalize zbH n.er r.er=vp at *;generalize zaQ n.er r.pt.er=vq at *;generalize zbI n.er r.er=vr at *;generalize zcJ r.pt.er PtE.nil=bg at *;generalize emptyR r.a.er r.f.er=bs at *;clear hn hb hr hs;unfold NT.val RefL.val at *;have hg:=(Grew.alloc1 w (.cells #[.bool n.lf,.slice n.pa n.ps.length n.pc,.slice n.ta n.ts.length n.tc,.slice n.ka n.ks.length n.kc] 26)).alloc (.cells #[.int .i64 r.id,.int .i64 r.kind,.int .i64 r.aff,.bool r.live,.slice r.path.a r.path.l.length r.path.c,.slice r.pt.p.a r.pt.p.l.length r.pt.p.c,.int .i64 r.pt.o,.slice r.a.p.a r.a.p.l.length r.a.p.c,.int .i64 r.a.o,.slice r.f.p.a r.f.p.l.length r.f.p.c,.int .i64 r.f.o] 46);have gB:=Grew.alloc1 (w.alloc (.cells #[.bool n.lf,.slice n.pa n.ps.length n.pc,.slice n.ta n.ts.length n.tc,.slice n.ka n.ks.length n.kc] 26)) (.cells #[.int .i64 r.id,.int .i64 r.kind,.int .i64 r.aff,.bool r.live,.slice r.path.a r.path.l.length r.path.c,.slice r.pt.p.a r.pt.p.l.length r.pt.p.c,.int .i64 r.pt.o,.slice r.a.p.a r.a.p.l.length r.a.p.c,.int .i64 r.a.o,.slice r.f.p.a r.f.p.l.length r.f.p.c,.int .i64 r.f.o] 46);have HB:=zQ0 (fun(w':World) (g:Grew ((w.alloc (.cells #[.bool n.lf,.slice n.pa n.ps.length n.pc,.slice n.ta n.ts.length n.tc,.slice n.ka n.ks.length n.kc] 26)).alloc (.cells #[.int .i64 r.id,.int .i64 r.kind,.int .i64 r.aff,.bool r.live,.slice r.path.a r.path.l.length r.path.c,.slice r.pt.p.a r.pt.p.l.length r.pt.p.c,.int .i64 r.pt.o,.slice r.a.p.a r.a.p.l.length r.a.p.c,.int .i64 r.a.o,.slice r.f.p.a r.f.p.l.length r.f.p.c,.int .i64 r.f.o] 46)) w')=>(⟨box4 (gB.trans g),zap g (j:=0) (v:=.int .i64 r.id) rfl,zap g (j:=1) (v:=.int .i64 r.kind) rfl,zap g (j:=2) (v:=.int .i64 r.aff) rfl,zap g (j:=3) (v:=.bool r.live) rfl,zap g (j:=4) (v:=.slice r.path.a r.path.l.length r.path.c) rfl,zap g (j:=5) (v:=.slice r.pt.p.a r.pt.p.l.length r.pt.p.c) rfl,zap g (j:=6) (v:=.int .i64 r.pt.o) rfl,zap g (j:=7) (v:=.slice r.a.p.a r.a.p.l.length r.a.p.c) rfl,zap g (j:=8) (v:=.int .i64 r.a.o) rfl,zap g (j:=9) (v:=.slice r.f.p.a r.f.p.l.length r.f.p.c) rfl,zap g (j:=10) (v:=.int .i64 r.f.o) rfl⟩:_/\_/\_/\_/\_/\_/\_/\_/\_/\_/\_/\_));simp only[World.size_alloc] at HB;have hk0:((w.alloc (.cells #[.bool n.lf,.slice n.pa n.ps.length n.pc,.slice n.ta n.ts.length n.tc,.slice n.ka n.ks.length n.kc] 26)).alloc (.cells #[.int .i64 r.id,.int .i64 r.kind,.int .i64 r.aff,.bool r.live,.slice r.path.a r.path.l.length r.path.c,.slice r.pt.p.a r.pt.p.l.length r.pt.p.c,.int .i64 r.pt.o,.slice r.a.p.a r.a.p.l.length r.a.p.c,.int .i64 r.a.o,.slice r.f.p.a r.f.p.l.length r.f.p.c,.int .i64 r.f.o] 46)).cell? ⟨w.heap.size+1,1,none⟩=some (.int .i64 r.kind):=(HB.out _ (Grew.refl _)).2.2.1;have zz:w.heap.size+1 < ((w.alloc (.cells #[.bool n.lf,.slice n.pa n.ps.length n.pc,.slice n.ta n.ts.length n.tc,.slice n.ka n.ks.length n.kc] 26)).alloc (.cells #[.int .i64 r.id,.int .i64 r.kind,.int .i64 r.aff,.bool r.live,.slice r.path.a r.path.l.length r.path.c,.slice r.pt.p.a r.pt.p.l.length r.pt.p.c,.int .i64 r.pt.o,.slice r.a.p.a r.a.p.l.length r.a.p.c,.int .i64 r.a.o,.slice r.f.p.a r.f.p.l.length r.f.p.c,.int .i64 r.f.o] 46)).heap.size:=by simp
 go_enter Tryz.func18,Tryz.ntmps18
 go_upto_region 1 with fail
 generalize (w.alloc (.cells #[.bool n.lf,.slice n.pa n.ps.length n.pc,.slice n.ta n.ts.length n.tc,.slice n.ka n.ks.length n.kc] 26)).alloc (.cells #[.int .i64 r.id,.int .i64 r.kind,.int .i64 r.aff,.bool r.live,.slice r.path.a r.path.l.length r.path.c,.slice r.pt.p.a r.pt.p.l.length r.pt.p.c,.int .i64 r.pt.o,.slice r.a.p.a r.a.p.l.length r.a.p.c,.int .i64 r.a.o,.slice r.f.p.a r.f.p.l.length r.f.p.c,.int .i64 r.f.o] 46)=w1 at *;have HG:=zQ0 hg;clear hg gB;have KB:=fun w' (g:Grew w1 w')=>(g.cell (p:=⟨w.heap.size+1,1,none⟩) zz).trans hk0;clear hk0;have g10:Grew w1 w1.drew:=(Grew.refl _).drew;have RK:∀ k,(Instr.lookup 89 (.map (some w1.heap.size)) (.int .i64 k) true).run Tryz.prog (w1.alloc zbz).drew=_:=fun k=>zcG (w:=(w1.alloc zbz).drew) (b:=w1.heap.size) (heap_alloc_new w1 zbz) k;have RK2:∀ k,(Instr.lookup 89 (.map (some w1.heap.size)) (.int .i64 k) true).run Tryz.prog ((w1.alloc zbz).alloc (.cells #[.int .i64 0,.nilFunc,.nilFunc] 87)).drew=_:=fun k=>zcG (w:=((w1.alloc zbz).alloc (.cells #[.int .i64 0,.nilFunc,.nilFunc] 87)).drew) (b:=w1.heap.size) ((heap_alloc_old (w1.alloc zbz) _ (by simp)).trans (heap_alloc_new w1 zbz)) k;have RK:=zQ0 RK;have RK2:=zQ0 RK2;have RK3:∀ k,(Instr.lookup 89 (.map (some (w1.heap.size+1))) (.int .i64 k) true).run Tryz.prog ((w1.alloc (.cells #[.int .i64 0,.nilFunc,.nilFunc] 87)).alloc zbz).drew=_:=fun k=>zcG (w:=((w1.alloc (.cells #[.int .i64 0,.nilFunc,.nilFunc] 87)).alloc zbz).drew) (b:=w1.heap.size+1) (by have:=heap_alloc_new (w1.alloc (.cells #[.int .i64 0,.nilFunc,.nilFunc] 87)) zbz;rw[World.size_alloc] at this;exact this) k;have RK3:=zQ0 RK3;obtain⟨kk,hkk⟩:∃ kk,r.kind=kk:=⟨_,rfl⟩
 rw[hkk] at HC HB KB MP MQ MR ⊢
 by_cases k1:kk=1
 ·subst k1;have hlk:=RK.out 1;have hlk2:=RK2.out 1;have hlk3:=RK3.out 1;rw[if_pos rfl] at hlk hlk2 hlk3
  have HC1:Hid (res=if refBad true (decide (r.aff < 0)) (decide ((0:Int) < r.aff)) true bg bs=true then 1 else vp):=by
   show _=_
   rw[HC.out]
   rfl
  have HKK:=zQ0 hkk;clear hkk RK RK2 RK3
  go_cut [5,6] (fun s5 s6 wx=>KindAt w1 (.int .i64 0) (.func (.func 95) #[] #[]) true s5 s6 wx)
  case first =>
   go_region_held3 (fun w'=>Grew w1 w') ((first | with_reducible exact g10 | with_reducible assumption | exact (Grew.alloc1 _ _).drew | exact ((Grew.alloc1 _ _).alloc _).drew)) ((go_at_call 47;refine (zbA _).mono ?_;rintro e w2 ⟨rfl,rfl⟩))
   all_goals (go_wp2_with fail;go_meet)
   all_goals first | exact kindAt1 w1 _ _ _ _ | exact kindAt2 w1 _ _ _ _
  case rest =>
   obtain⟨B,rfl,rfl,g12,b0,b1,zb⟩:=hcut;clear hlk hlk2 hlk3 KB g10;have G2:=zQ0 (HG.out.trans g12);obtain⟨⟨m0,m1,m2,m3,_⟩,c0,c1,c2,c3,c4,c5,c6,c7,c8,c9,c10⟩:=HB.out wc g12;go_wp2_with fail
   refine (SN.out wc G2.out).mono ?_;rintro e w3 ⟨rfl,g3⟩;have z3:=g3.size;have b0n:=(g3.cell (p:=⟨B,0,none⟩) zb).trans b0;have b1n:=(g3.cell (p:=⟨B,1,none⟩) zb).trans b1;have zbn:B < w3.heap.size:=by omega
   clear m0 m1 m2 m3 c0 c1 c2 c3 c4 c5 c6 c7 c8 c9 c10 b0 b1 zb;have b0:=b0n;have b1:=b1n;have zb:=zbn;clear b0n b1n zbn;have g13:=g12.trans g3;have G3:=zQ0 (G2.out.trans g3);obtain⟨⟨m0,m1,m2,m3,_⟩,c0,c1,c2,c3,c4,c5,c6,c7,c8,c9,c10⟩:=HB.out w3 g13;go_wp2_with fail
   refine (SE.out w3 G3.out).mono ?_;rintro e w4 ⟨rfl,g4⟩;have z4:=g4.size;have b0n:=(g4.cell (p:=⟨B,0,none⟩) zb).trans b0;have b1n:=(g4.cell (p:=⟨B,1,none⟩) zb).trans b1;have zbn:B < w4.heap.size:=by omega
   clear m0 m1 m2 m3 c0 c1 c2 c3 c4 c5 c6 c7 c8 c9 c10 b0 b1 zb;have b0:=b0n;have b1:=b1n;have zb:=zbn;clear b0n b1n zbn;have g14:=g13.trans g4;have G4:=zQ0 (G3.out.trans g4);obtain⟨⟨m0,m1,m2,m3,_⟩,c0,c1,c2,c3,c4,c5,c6,c7,c8,c9,c10⟩:=HB.out w4 g14;obtain⟨bn,hbn⟩:∃ b:Bool,decide (r.aff < 0)=b:=⟨_,rfl⟩
   obtain⟨bb,hbb⟩:∃ b:Bool,decide ((0:Int) < r.aff)=b:=⟨_,rfl⟩
   rw[hbn,hbb] at HC1
   cases bn with
   | true =>
    have HF:Hid (res=1):=by
     show _=_
     rw[HC1.out]
     rfl
    go_wp2_with fail
    go_ret
    exact⟨zcz (by rw[HF.out]),G4.out⟩
   | false =>
    cases bb with
    | true =>
     have HF:Hid (res=1):=by
      show _=_
      rw[HC1.out]
      rfl
     go_wp2_with fail
     go_ret
     exact⟨zcz (by rw[HF.out]),G4.out⟩
    | false =>
     cases bg with
     | false =>
      have HF:Hid (res=1):=by
       show _=_
       rw[HC1.out]
       rfl
      go_wp2_with fail
      go_ret
      exact⟨zcz (by rw[HF.out]),G4.out⟩
     | true =>
      cases bs with
      | false =>
       have HF:Hid (res=1):=by
        show _=_
        rw[HC1.out]
        rfl
       go_wp2_with fail
       go_ret
       exact⟨zcz (by rw[HF.out]),G4.out⟩
      | true =>
       have HF:Hid (res=vp):=HC1.out;go_wp2_with fail
       refine (MP.out _ G4.out).mono ?_;rintro e w9 ⟨rfl,g9⟩;go_wp2_with fail
       go_ret
       exact⟨zcz (by rw[HF.out]),Grew.trans (G4.out) g9⟩
 by_cases k2:kk=2
 ·subst k2;have hlk:=RK.out 2;have hlk2:=RK2.out 2;have hlk3:=RK3.out 2;rw[if_neg (by decide),if_pos rfl] at hlk hlk2 hlk3
  have HC1:Hid (res=if refBad true (decide (r.aff < 0)) (decide ((2:Int) < r.aff)) (decide (r.path.l.length=0)) true bs=true then 1 else vq):=by
   show _=_
   rw[HC.out]
   rfl
  have HKK:=zQ0 hkk;clear hkk RK RK2 RK3
  go_cut [5,6] (fun s5 s6 wx=>KindAt w1 (.int .i64 2) (.func (.func 97) #[] #[]) true s5 s6 wx)
  case first =>
   go_region_held3 (fun w'=>Grew w1 w') ((first | with_reducible exact g10 | with_reducible assumption | exact (Grew.alloc1 _ _).drew | exact ((Grew.alloc1 _ _).alloc _).drew)) ((go_at_call 47;refine (zbA _).mono ?_;rintro e w2 ⟨rfl,rfl⟩))
   all_goals (go_wp2_with fail;go_meet)
   all_goals first | exact kindAt1 w1 _ _ _ _ | exact kindAt2 w1 _ _ _ _
  case rest =>
   obtain⟨B,rfl,rfl,g12,b0,b1,zb⟩:=hcut;clear hlk hlk2 hlk3 KB g10;have G2:=zQ0 (HG.out.trans g12);obtain⟨⟨m0,m1,m2,m3,_⟩,c0,c1,c2,c3,c4,c5,c6,c7,c8,c9,c10⟩:=HB.out wc g12;obtain⟨bp,hbp⟩:∃ b:Bool,decide (r.path.l.length=0)=b:=⟨_,rfl⟩
   have PT:((r.path.l.length:Int) == 0)=bp:=by rw[<- hbp,Bool.eq_iff_iff];simp
   rw[hbp] at HC1;clear hbp
   cases bp with
   | false =>
    go_wp2_with fail
    refine (SE.out wc G2.out).mono ?_;rintro e w4 ⟨rfl,g4⟩;have z3:=g4.size;have b0n:=(g4.cell (p:=⟨B,0,none⟩) zb).trans b0;have b1n:=(g4.cell (p:=⟨B,1,none⟩) zb).trans b1;have zbn:B < w4.heap.size:=by omega
    clear m0 m1 m2 m3 c0 c1 c2 c3 c4 c5 c6 c7 c8 c9 c10 b0 b1 zb;have b0:=b0n;have b1:=b1n;have zb:=zbn;clear b0n b1n zbn;have g13:=g12.trans g4;have G3:=zQ0 (G2.out.trans g4);obtain⟨⟨m0,m1,m2,m3,_⟩,c0,c1,c2,c3,c4,c5,c6,c7,c8,c9,c10⟩:=HB.out w4 g13;obtain⟨bn,hbn⟩:∃ b:Bool,decide (r.aff < 0)=b:=⟨_,rfl⟩
    obtain⟨bb,hbb⟩:∃ b:Bool,decide ((2:Int) < r.aff)=b:=⟨_,rfl⟩
    rw[hbn,hbb] at HC1
    cases bn with
    | true =>
     have HF:Hid (res=1):=by
      show _=_
      rw[HC1.out]
      rfl
     go_wp2_with fail
     go_ret
     exact⟨zcz (by rw[HF.out]),G3.out⟩
    | false =>
     cases bb with
     | true =>
      have HF:Hid (res=1):=by
       show _=_
       rw[HC1.out]
       rfl
      go_wp2_with fail
      go_ret
      exact⟨zcz (by rw[HF.out]),G3.out⟩
     | false =>
      have HF:Hid (res=1):=by
       show _=_
       rw[HC1.out]
       rfl
      go_wp2_with fail
      go_ret
      exact⟨zcz (by rw[HF.out]),G3.out⟩
   | true =>
    go_wp2_with fail
    refine (SE.out wc G2.out).mono ?_;rintro e w4 ⟨rfl,g4⟩;have z3:=g4.size;have b0n:=(g4.cell (p:=⟨B,0,none⟩) zb).trans b0;have b1n:=(g4.cell (p:=⟨B,1,none⟩) zb).trans b1;have zbn:B < w4.heap.size:=by omega
    clear m0 m1 m2 m3 c0 c1 c2 c3 c4 c5 c6 c7 c8 c9 c10 b0 b1 zb;have b0:=b0n;have b1:=b1n;have zb:=zbn;clear b0n b1n zbn;have g13:=g12.trans g4;have G3:=zQ0 (G2.out.trans g4);obtain⟨⟨m0,m1,m2,m3,_⟩,c0,c1,c2,c3,c4,c5,c6,c7,c8,c9,c10⟩:=HB.out w4 g13;obtain⟨bn,hbn⟩:∃ b:Bool,decide (r.aff < 0)=b:=⟨_,rfl⟩
    obtain⟨bb,hbb⟩:∃ b:Bool,decide ((2:Int) < r.aff)=b:=⟨_,rfl⟩
    rw[hbn,hbb] at HC1
    cases bn with
    | true =>
     have HF:Hid (res=1):=by
      show _=_
      rw[HC1.out]
      rfl
     go_wp2_with fail
     go_ret
     exact⟨zcz (by rw[HF.out]),G3.out⟩
    | false =>
     cases bb with
     | true =>
      have HF:Hid (res=1):=by
       show _=_
       rw[HC1.out]
       rfl
      go_wp2_with fail
      go_ret
      exact⟨zcz (by rw[HF.out]),G3.out⟩
     | false =>
      cases bs with
      | false =>
       have HF:Hid (res=1):=by
        show _=_
        rw[HC1.out]
        rfl
       go_wp2_with fail
       go_ret
       exact⟨zcz (by rw[HF.out]),G3.out⟩
      | true =>
       have HF:Hid (res=vq):=HC1.out;go_wp2_with fail
       refine (MQ.out _ G3.out).mono ?_;rintro e w9 ⟨rfl,g9⟩;go_wp2_with fail
       go_ret
       exact⟨zcz (by rw[HF.out]),Grew.trans (G3.out) g9⟩
 by_cases k3:kk=3
 ·subst k3;have hlk:=RK.out 3;have hlk2:=RK2.out 3;have hlk3:=RK3.out 3;rw[if_neg (by decide),if_neg (by decide),if_pos rfl] at hlk hlk2 hlk3
  have HC1:Hid (res=if refBad true (decide (r.aff < 0)) (decide ((4:Int) < r.aff)) (decide (r.path.l.length=0)) bg true=true then 1 else vr):=by
   show _=_
   rw[HC.out]
   rfl
  have HKK:=zQ0 hkk;clear hkk RK RK2 RK3
  go_cut [5,6] (fun s5 s6 wx=>KindAt w1 (.int .i64 4) (.func (.func 99) #[] #[]) true s5 s6 wx)
  case first =>
   go_region_held3 (fun w'=>Grew w1 w') ((first | with_reducible exact g10 | with_reducible assumption | exact (Grew.alloc1 _ _).drew | exact ((Grew.alloc1 _ _).alloc _).drew)) ((go_at_call 47;refine (zbA _).mono ?_;rintro e w2 ⟨rfl,rfl⟩))
   all_goals (go_wp2_with fail;go_meet)
   all_goals first | exact kindAt1 w1 _ _ _ _ | exact kindAt2 w1 _ _ _ _
  case rest =>
   obtain⟨B,rfl,rfl,g12,b0,b1,zb⟩:=hcut;clear hlk hlk2 hlk3 KB g10;have G2:=zQ0 (HG.out.trans g12);obtain⟨⟨m0,m1,m2,m3,_⟩,c0,c1,c2,c3,c4,c5,c6,c7,c8,c9,c10⟩:=HB.out wc g12;obtain⟨bp,hbp⟩:∃ b:Bool,decide (r.path.l.length=0)=b:=⟨_,rfl⟩
   have PT:((r.path.l.length:Int) == 0)=bp:=by rw[<- hbp,Bool.eq_iff_iff];simp
   rw[hbp] at HC1;clear hbp
   cases bp with
   | false =>
    go_wp2_with fail
    refine (SN.out wc G2.out).mono ?_;rintro e w3 ⟨rfl,g3⟩;have z3:=g3.size;have b0n:=(g3.cell (p:=⟨B,0,none⟩) zb).trans b0;have b1n:=(g3.cell (p:=⟨B,1,none⟩) zb).trans b1;have zbn:B < w3.heap.size:=by omega
    clear m0 m1 m2 m3 c0 c1 c2 c3 c4 c5 c6 c7 c8 c9 c10 b0 b1 zb;have b0:=b0n;have b1:=b1n;have zb:=zbn;clear b0n b1n zbn;have g13:=g12.trans g3;have G3:=zQ0 (G2.out.trans g3);obtain⟨⟨m0,m1,m2,m3,_⟩,c0,c1,c2,c3,c4,c5,c6,c7,c8,c9,c10⟩:=HB.out w3 g13;obtain⟨bn,hbn⟩:∃ b:Bool,decide (r.aff < 0)=b:=⟨_,rfl⟩
    obtain⟨bb,hbb⟩:∃ b:Bool,decide ((4:Int) < r.aff)=b:=⟨_,rfl⟩
    rw[hbn,hbb] at HC1
    cases bn with
    | true =>
     have HF:Hid (res=1):=by
      show _=_
      rw[HC1.out]
      rfl
     go_wp2_with fail
     go_ret
     exact⟨zcz (by rw[HF.out]),G3.out⟩
    | false =>
     cases bb with
     | true =>
      have HF:Hid (res=1):=by
       show _=_
       rw[HC1.out]
       rfl
      go_wp2_with fail
      go_ret
      exact⟨zcz (by rw[HF.out]),G3.out⟩
     | false =>
      have HF:Hid (res=1):=by
       show _=_
       rw[HC1.out]
       rfl
      go_wp2_with fail
      go_ret
      exact⟨zcz (by rw[HF.out]),G3.out⟩
   | true =>
    go_wp2_with fail
    refine (SN.out wc G2.out).mono ?_;rintro e w3 ⟨rfl,g3⟩;have z3:=g3.size;have b0n:=(g3.cell (p:=⟨B,0,none⟩) zb).trans b0;have b1n:=(g3.cell (p:=⟨B,1,none⟩) zb).trans b1;have zbn:B < w3.heap.size:=by omega
    clear m0 m1 m2 m3 c0 c1 c2 c3 c4 c5 c6 c7 c8 c9 c10 b0 b1 zb;have b0:=b0n;have b1:=b1n;have zb:=zbn;clear b0n b1n zbn;have g13:=g12.trans g3;have G3:=zQ0 (G2.out.trans g3);obtain⟨⟨m0,m1,m2,m3,_⟩,c0,c1,c2,c3,c4,c5,c6,c7,c8,c9,c10⟩:=HB.out w3 g13;obtain⟨bn,hbn⟩:∃ b:Bool,decide (r.aff < 0)=b:=⟨_,rfl⟩
    obtain⟨bb,hbb⟩:∃ b:Bool,decide ((4:Int) < r.aff)=b:=⟨_,rfl⟩
    rw[hbn,hbb] at HC1
    cases bn with
    | true =>
     have HF:Hid (res=1):=by
      show _=_
      rw[HC1.out]
      rfl
     go_wp2_with fail
     go_ret
     exact⟨zcz (by rw[HF.out]),G3.out⟩
    | false =>
     cases bb with
     | true =>
      have HF:Hid (res=1):=by
       show _=_
       rw[HC1.out]
       rfl
      go_wp2_with fail
      go_ret
      exact⟨zcz (by rw[HF.out]),G3.out⟩
     | false =>
      cases bg with
      | false =>
       have HF:Hid (res=1):=by
        show _=_
        rw[HC1.out]
        rfl
       go_wp2_with fail
       go_ret
       exact⟨zcz (by rw[HF.out]),G3.out⟩
      | true =>
       have HF:Hid (res=vr):=HC1.out;go_wp2_with fail
       refine (MR.out _ G3.out).mono ?_;rintro e w9 ⟨rfl,g9⟩;go_wp2_with fail
       go_ret
       exact⟨zcz (by rw[HF.out]),Grew.trans (G3.out) g9⟩
 ·have hlk:=RK.out kk;have hlk2:=RK2.out kk;have hlk3:=RK3.out kk;rw[if_neg k1,if_neg k2,if_neg k3] at hlk hlk2 hlk3
  have HC1:Hid (res=if refBad false (decide (r.aff < 0)) (decide ((0:Int) < r.aff)) (decide (r.path.l.length=0)) bg bs=true then 1 else vr):=by
   show _=_
   rw[HC.out];have e1:(kk == 1)=false:=by simpa using k1
   have e2:(kk == 2)=false:=by simpa using k2
   have e3:(kk == 3)=false:=by simpa using k3
   rw[e1,e2,e3]
   simp[refIs,e1,e2,e3,refBad]
  have K1:(kk == 1)=false:=by simpa using k1
  have K2:(kk == 2)=false:=by simpa using k2
  have K3:(kk == 3)=false:=by simpa using k3
  have HKK:=zQ0 hkk;clear hkk RK RK2 RK3 k1 k2 k3
  go_cut [5,6] (fun s5 s6 wx=>KindAt w1 (.int .i64 0) (.nilFunc) false s5 s6 wx)
  case first =>
   generalize Value.int IntKind.i64 kk=V at *
   go_region_held3 (fun w'=>Grew w1 w') ((first | with_reducible exact g10 | with_reducible assumption | exact (Grew.alloc1 _ _).drew | exact ((Grew.alloc1 _ _).alloc _).drew)) ((go_at_call 47;refine (zbA _).mono ?_;rintro e w2 ⟨rfl,rfl⟩))
   all_goals (go_wp2_with fail;go_meet)
   all_goals first | exact kindAt1 w1 _ _ _ _ | exact kindAt2 w1 _ _ _ _
  case rest =>
   obtain⟨B,rfl,rfl,g12,b0,b1,zb⟩:=hcut;clear hlk hlk2 hlk3 KB g10;have G2:=zQ0 (HG.out.trans g12);obtain⟨⟨m0,m1,m2,m3,_⟩,c0,c1,c2,c3,c4,c5,c6,c7,c8,c9,c10⟩:=HB.out wc g12;obtain⟨bp,hbp⟩:∃ b:Bool,decide (r.path.l.length=0)=b:=⟨_,rfl⟩
   have PT:((r.path.l.length:Int) == 0)=bp:=by rw[<- hbp,Bool.eq_iff_iff];simp
   rw[hbp] at HC1;clear hbp
   cases bp with
   | false =>
    go_wp2_with fail
    refine (SN.out wc G2.out).mono ?_;rintro e w3 ⟨rfl,g3⟩;have z3:=g3.size;have b0n:=(g3.cell (p:=⟨B,0,none⟩) zb).trans b0;have b1n:=(g3.cell (p:=⟨B,1,none⟩) zb).trans b1;have zbn:B < w3.heap.size:=by omega
    clear m0 m1 m2 m3 c0 c1 c2 c3 c4 c5 c6 c7 c8 c9 c10 b0 b1 zb;have b0:=b0n;have b1:=b1n;have zb:=zbn;clear b0n b1n zbn;have g13:=g12.trans g3;have G3:=zQ0 (G2.out.trans g3);obtain⟨⟨m0,m1,m2,m3,_⟩,c0,c1,c2,c3,c4,c5,c6,c7,c8,c9,c10⟩:=HB.out w3 g13;go_wp2_with fail
    refine (SE.out w3 G3.out).mono ?_;rintro e w4 ⟨rfl,g4⟩;have z4:=g4.size;have b0n:=(g4.cell (p:=⟨B,0,none⟩) zb).trans b0;have b1n:=(g4.cell (p:=⟨B,1,none⟩) zb).trans b1;have zbn:B < w4.heap.size:=by omega
    clear m0 m1 m2 m3 c0 c1 c2 c3 c4 c5 c6 c7 c8 c9 c10 b0 b1 zb;have b0:=b0n;have b1:=b1n;have zb:=zbn;clear b0n b1n zbn;have g14:=g13.trans g4;have G4:=zQ0 (G3.out.trans g4);obtain⟨⟨m0,m1,m2,m3,_⟩,c0,c1,c2,c3,c4,c5,c6,c7,c8,c9,c10⟩:=HB.out w4 g14
    have HF:Hid (res=1):=by
     show _=_
     rw[HC1.out]
     rfl
    go_wp2_with fail
    go_ret
    exact⟨zcz (by rw[HF.out]),G4.out⟩
   | true =>
    go_wp2_with fail
    refine (SN.out wc G2.out).mono ?_;rintro e w3 ⟨rfl,g3⟩;have z3:=g3.size;have b0n:=(g3.cell (p:=⟨B,0,none⟩) zb).trans b0;have b1n:=(g3.cell (p:=⟨B,1,none⟩) zb).trans b1;have zbn:B < w3.heap.size:=by omega
    clear m0 m1 m2 m3 c0 c1 c2 c3 c4 c5 c6 c7 c8 c9 c10 b0 b1 zb;have b0:=b0n;have b1:=b1n;have zb:=zbn;clear b0n b1n zbn;have g13:=g12.trans g3;have G3:=zQ0 (G2.out.trans g3);obtain⟨⟨m0,m1,m2,m3,_⟩,c0,c1,c2,c3,c4,c5,c6,c7,c8,c9,c10⟩:=HB.out w3 g13;go_wp2_with fail
    refine (SE.out w3 G3.out).mono ?_;rintro e w4 ⟨rfl,g4⟩;have z4:=g4.size;have b0n:=(g4.cell (p:=⟨B,0,none⟩) zb).trans b0;have b1n:=(g4.cell (p:=⟨B,1,none⟩) zb).trans b1;have zbn:B < w4.heap.size:=by omega
    clear m0 m1 m2 m3 c0 c1 c2 c3 c4 c5 c6 c7 c8 c9 c10 b0 b1 zb;have b0:=b0n;have b1:=b1n;have zb:=zbn;clear b0n b1n zbn;have g14:=g13.trans g4;have G4:=zQ0 (G3.out.trans g4);obtain⟨⟨m0,m1,m2,m3,_⟩,c0,c1,c2,c3,c4,c5,c6,c7,c8,c9,c10⟩:=HB.out w4 g14
    have HF:Hid (res=1):=by
     show _=_
     rw[HC1.out]
     rfl
    go_wp2_with fail
    go_ret
    exact⟨zcz (by rw[HF.out]),G4.out⟩
end Go.Proofs.YtccobobnmpafbaaGreatDoor
namespace Go.Proofs.YtccobobnmpafbaaGreatDoor
open Go
theorem wpAnyN_at{P:Program}{ops:Array Oper}{Q:Exit->Act->World->Prop}{md:Region.Mode}{S:World->Prop}{need:Nat->Bool}{i:Nat}{oi:Oper}{v:Value}{fuel:Nat}{listed:Array Bool}{a:Act}{w:World}(d:Option Tmp)(hi:ops[i]? = some oi)(hd:oi.dst=d)(hs:Region.noSelect ops=true)(hf:Region.free md ops listed i=true)(hn:needsAll need md ops listed i=true)(hr:(Region.ready md ops listed).contains i=true)(hQ:∀ c a w,Q (.panic c) (a.put d v) w->Q (.panic c) a w)(hy:YieldsIf P ops S oi v a)(hS:S w)(h:zdc P md ops Q S need fuel (listed.setIfInBounds i true) (a.put d v) w):zdc P md ops Q S need (fuel+1) listed a w:=by
 subst hd;exact wpAnyN_take hi hs hf hn hr hQ hy hS h
theorem zdd{P:Program}{ops:Array Oper}{Q:Exit->Act->World->Prop}{md:Region.Mode}{S:World->Prop}{need:Nat->Bool}{i:Nat}{oi:Oper}{v:Value}{fuel:Nat}{listed:Array Bool}{a:Act}{w:World}(d:Option Tmp)(hi:ops[i]? = some oi)(hd:oi.dst=d)(hb:(Region.noSelect ops && Region.free md ops listed i && needsAll need md ops listed i && (Region.ready md ops listed).contains i)=true)(hy:YieldsIf P ops S oi v a)(hS:S w)(h:zdc P md ops Q S need fuel (listed.setIfInBounds i true) (a.put d v) w)(hQ:∀ c a w,Q (.panic c) (a.put d v) w->Q (.panic c) a w:=by exact fun _ _ _ h=>h):zdc P md ops Q S need (fuel+1) listed a w:=by
 simp only[Bool.and_eq_true] at hb;exact wpAnyN_at d hi hd hb.1.1.1 hb.1.1.2 hb.1.2 hb.2 hQ hy hS h
theorem za1{P:Program}{T:TypeId}{x:Operand}{o:Oper}{a:Act}{p:Addr}{v:Value}{w:World}{d:TypeDesc}(ho:o.op=.load T x)(hx:a.eval x=.pointer (some p))(hu:P.underlying T=some d)(hd:d.isRow=false)(hc:w.cell? p=some v) :
  (execOp a.eval o).run P w=.ok (.value v) w:=by
 have hagg:(isAgg T).run P w=.ok false w:=by
  unfold isAgg;rw[Sem.run_bind,run_underlying hu w]
  cases d <;> simp_all
 unfold execOp;simp only[ho,hx,Instr.loadAt,Instr.sureAddr,loadVar,Sem.run_bind,Sem.run_pure,Result.andThen_ok,hagg,run_load,hc,Bool.false_eq_true,if_false]
end Go.Proofs.YtccobobnmpafbaaGreatDoor
