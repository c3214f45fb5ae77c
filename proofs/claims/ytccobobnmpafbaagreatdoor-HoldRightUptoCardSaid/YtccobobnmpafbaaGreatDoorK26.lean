/- op.content: the contract. -/
import Derived.Test.YtccobobnmpafbaaGreatDoorK25
import Derived.Test.YtccobobnmpafbaaGreatDoorK23
set_option maxRecDepth 100000
set_option maxHeartbeats 100000000
namespace Go.Proofs.YtccobobnmpafbaaGreatDoor
open Go Go.RowKit
def OpE.Tiny(o:OpE):Prop:=o.Small/\(zcb o.old<=262144/\zcb o.new<=262144)/\o.text.length<=262144/\o.node.bulk<=262144
theorem propsBulk_app(a b:List zab):zcb (a++b)=zcb a+zcb b:=by
 induction a with
 | nil=>simp[zcb]
 | cons p r ih=>simp only[List.cons_append,zcb,ih];omega
theorem propsBulk_per{a b:List zab}(h:a.Perm b):zcb a=zcb b:=by
 induction h with
 | nil=>rfl
 | cons x _ ih=>simp only[zcb,ih]
 | swap x y l=>simp only[zcb];omega
 | trans _ _ h1 h2=>exact h1.trans h2
theorem propsBulk_subl{a b:List zab}(h:a.Sublist b):zcb a<=zcb b:=by
 induction h with
 | slnil=>exact Nat.le_refl _
 | cons x _ ih=>simp only[zcb];omega
 | cons_cons x _ ih=>simp only[zcb];omega
theorem minusK_subl:∀(o l:List zab),(zbL l o).Sublist l
 | [],l=>List.Sublist.refl _
 | p::r,l=>by
  rw[zbM];exact (minusK_subl r _).trans (by unfold dropK;exact List.filter_sublist)
theorem patch_bulk{l old new R:List zab}(h:(zb5 l old new≠0/\R=[])\/(zb5 l old new=0/\IsSort R (zbL l old++new))):zcb R<=zcb l+zcb new:=by
 rcases h with ⟨_,rfl⟩ | ⟨_,h⟩
 ·simp[zcb]
 ·rw[propsBulk_per h.1,propsBulk_app];have:=propsBulk_subl (minusK_subl old l);omega
def NT.withP(n:NT)(a:Option Addr)(c:Nat)(ps:List zab):NT:=.mk n.lf a c ps n.ta n.tc n.ts n.ka n.kc n.ks
def NT.withX(n:NT)(a:Option Addr)(c:Nat)(ts:List Int):NT:=.mk n.lf n.pa n.pc n.ps a c ts n.ka n.kc n.ks
theorem withP_er(n:NT)(a:Option Addr)(c:Nat)(ps:List zab):(n.withP a c ps).er=.mk n.lf ps n.ts (n.ks.map NT.er):=by rw[NT.withP,NT.er_eq];rfl
theorem withX_er(n:NT)(a:Option Addr)(c:Nat)(ts:List Int):(n.withX a c ts).er=.mk n.lf n.ps ts (n.ks.map NT.er):=by rw[NT.withX,NT.er_eq];rfl
theorem withP_in{x:NT}{w3 w4:World}{lo b j:Nat}{v:Value}{a:Option Addr}{c:Nat}{R:List zab}(hx:x.In w3 lo b)(g:Grew w3 w4)(hb:b < w3.heap.size)(hR:PropsIn w4 w3.heap.size w4.heap.size a c R):(x.withP a c R).In (w4.setCell ⟨b,j,none⟩ v) 0 (w4.setCell ⟨b,j,none⟩ v).heap.size:=by
 have z:=g.size;have hX:=NT.In_iff.1 (NT.In.agree (NT.In.grew hx g (by omega)) (zaf (u:=v) (p:=⟨b,j,none⟩) (Or.inr zQ1)));have hP:=RowIn.agree hR (zaf (u:=v) (p:=⟨b,j,none⟩) (Or.inl hb));refine NT.In_iff.2 ⟨RowIn.mono hP (Nat.zero_le _) (by simp),hX.2.1.mono (Nat.zero_le _) (by simp;omega),hX.2.2.mono (Nat.zero_le _) (by simp;omega)⟩
theorem withX_in{x:NT}{w3 w4:World}{lo b j:Nat}{v:Value}{a:Option Addr}{c:Nat}{R:List Int}(hx:x.In w3 lo b)(g:Grew w3 w4)(hb:b < w3.heap.size)(hR:RunesIn w4 w3.heap.size w4.heap.size a c R):(x.withX a c R).In (w4.setCell ⟨b,j,none⟩ v) 0 (w4.setCell ⟨b,j,none⟩ v).heap.size:=by
 have z:=g.size;have hX:=NT.In_iff.1 (NT.In.agree (NT.In.grew hx g (by omega)) (zaf (u:=v) (p:=⟨b,j,none⟩) (Or.inr zQ1)));have hP:=RunesIn.agree hR (zaf (u:=v) (p:=⟨b,j,none⟩) (Or.inl hb));refine NT.In_iff.2 ⟨RowIn.mono hX.1 (Nat.zero_le _) (by simp;omega),hP.mono (Nat.zero_le _) (by simp),hX.2.2.mono (Nat.zero_le _) (by simp;omega)⟩
theorem insert_len(ts ss:List Int)(i:Int):(zbt ts i ss).1.length<=ts.length+ss.length:=by
 unfold zbt
 split
 ·simp only[List.length_append,List.length_take,List.length_drop];omega
 ·simp
theorem remove_len(ts ss:List Int)(i:Int):(zcp ts i ss).1.length<=ts.length+ss.length:=by
 unfold zcp
 split
 ·split
  ·simp only[List.length_append,List.length_take,List.length_drop];omega
  ·simp
 ·simp
theorem zbV(n:NT)(o:OpL)(w:World)(hn:n.Ok w)(ho:o.In w 0 w.heap.size)(hb:n.er.bulk<=262144)(ht:o.er.Tiny) :
  Calls Tryz.prog 74 #[n.val,o.val] w (zac (zaX n.er o.er) w):=by
 have later:∀ {w1},Grew w w1->o.In w1 0 w1.heap.size:=fun g=>(ho.grew g zQ1).mono zQ1 g.size;have CG:=zQ0 (fun w1 (g:Grew w w1)=>treeGetR_any n o.path.a o.path.c o.path.l w1 (NT.Ok.grew hn g) (by omega) (later g).1.1 ht.1.1.1);have CPA:=zQ0 (fun(x:NT) w1 (g:Grew w w1) (hx:x.Ok w1) (hxb:x.er.bulk<=262144)=>patch_any x.ps o.old o.new x.pa o.oa o.na x.pc o.oc o.nc w1 (NT.In_iff.1 hx).1 (later g).2.2.1 (later g).2.2.2.1 (by have:=T.bulk_eq x.er;rw[NT.er_ps] at this;omega) (Nat.le_trans ht.2.1.1 (by omega)) (Nat.le_trans ht.2.1.2 (by omega)));have CI:=zQ0 (fun(x:NT) w1 (g:Grew w w1) (hx:x.Ok w1) (hxb:x.er.bulk<=262144)=>glyphInsert_any x.ta o.xa x.tc o.xc x.ts o.text o.pos w1 (NT.In_iff.1 hx).2.1 (later g).2.2.2.2.1 (by have:=x.lens;omega) (Nat.le_trans ht.2.2.1 (by omega)));have CR:=zQ0 (fun(x:NT) w1 (g:Grew w w1) (hx:x.Ok w1) (hxb:x.er.bulk<=262144)=>glyphRemove_any x.ta o.xa x.tc o.xc x.ts o.text o.pos w1 (NT.In_iff.1 hx).2.1 (later g).2.2.2.2.1 (by have:=x.lens;omega) (Nat.le_trans ht.2.2.1 (by omega)));have CP:=zQ0 (fun(m:NT) w1 (g:Grew w w1) (hm:m.Ok w1) (hmb:m.er.bulk<=1048576)=>treePut_any n m o.path.a o.path.c o.path.l w1 (NT.Ok.grew hn g) (by omega) hm hmb (later g).1.1 ht.1.1.1);have HTB:Hid (zcb o.new<=262144/\o.text.length<=262144/\n.er.bulk<=262144):=⟨ht.2.1.2,ht.2.2.1,hb⟩
 have HM:Hid (zaX n.er o.er=if o.kind=6/\o.path.l.length=0 then (T.nilT,6)
  else match n.er.at o.path.l with
  | none=>(T.nilT,5)
  | some k =>
   if o.kind=6 then (if (zb6 k.ps o.old o.new).2≠0 then (T.nilT,(zb6 k.ps o.old o.new).2) else zch n.er o.path.l (.mk k.lf (zb6 k.ps o.old o.new).1 k.ts k.ks))
   else if k.lf=false then (T.nilT,7)
   else if o.kind=7 then (if (zbt k.ts o.pos o.text).2≠0 then (T.nilT,(zbt k.ts o.pos o.text).2) else zch n.er o.path.l (.mk k.lf k.ps (zbt k.ts o.pos o.text).1 k.ks))
   else (if (zcp k.ts o.pos o.text).2≠0 then (T.nilT,(zcp k.ts o.pos o.text).2) else zch n.er o.path.l (.mk k.lf k.ps (zcp k.ts o.pos o.text).1 k.ks))):=rfl
 generalize zaX n.er o.er=res at *;clear later hn ho hb ht;unfold NT.val at CG CP ⊢;unfold OpL.val
 go_enter Tryz.func74,Tryz.ntmps74
 go_upto_region 1 with fail
 generalize hW:((w.alloc _).alloc _).alloc _=w1;obtain⟨g1,rN,rO,_,tF,z1⟩:=zas w n.cells4 o.cells NT.nil.cells4 _ _ _ w1 hW;clear hW;obtain⟨ov,hov⟩:∃ v,o.val=v:=⟨_,rfl⟩
 unfold OpL.val at hov;rw[hov];clear hov;have G01:=zQ0 g1;have HZ:=zQ0 z1;have TF:=zQ0 tF;have KN:=zQ0 (fun(w':World) (g:Grew w1 w')=>(have h:=NT.cells4_at.1 (zcj rN g (by omega));⟨h.1,by have:=h.2.1;rwa [Nat.zero_add] at this,by have:=h.2.2.1;rwa [Nat.zero_add] at this,by have:=h.2.2.2;rwa [Nat.zero_add] at this⟩:w'.cell? ⟨w.heap.size,0,none⟩=some (.bool n.lf)/\w'.cell? ⟨w.heap.size,1,none⟩=some (.slice n.pa n.ps.length n.pc)/\w'.cell? ⟨w.heap.size,2,none⟩=some (.slice n.ta n.ts.length n.tc)/\w'.cell? ⟨w.heap.size,3,none⟩=some (.slice n.ka n.ks.length n.kc)));have KO:=zQ0 (fun(w':World) (g:Grew w1 w')=>(have h:=zcj rO g (by omega);⟨zci h (j:=0) rfl,zci h (j:=1) rfl,zci h (j:=3) rfl,zci h (j:=8) rfl,zci h (j:=9) rfl,zci h (j:=10) rfl⟩:w'.cell? ⟨w.heap.size+1,0,none⟩=some (.int .i64 o.kind)/\w'.cell? ⟨w.heap.size+1,1,none⟩=some (.slice o.path.a o.path.l.length o.path.c)/\w'.cell? ⟨w.heap.size+1,3,none⟩=some (.int .i64 o.pos)/\w'.cell? ⟨w.heap.size+1,8,none⟩=some (.slice o.oa o.old.length o.oc)/\w'.cell? ⟨w.heap.size+1,9,none⟩=some (.slice o.na o.new.length o.nc)/\w'.cell? ⟨w.heap.size+1,10,none⟩=some (.slice o.xa o.text.length o.xc)));clear rN rO tF g1 z1
 by_cases k6:o.kind=6
 ·have t6:(o.kind == 6)=true:=by simpa using k6
  obtain⟨zb,hzb⟩:∃ b,((o.path.l.length:Int) == 0)=b:=⟨_,rfl⟩
  cases zb with
  | true =>
   have HN:Hid (res=(T.nilT,6)):=by show _=_;rw[HM.out,if_pos ⟨k6,by simpa using hzb⟩]
   obtain⟨o0,o1,o3,o8,o9,o10⟩:=KO.out w1 (Grew.refl _);clear HM;have t3:w1.there (w.heap.size+2) 0 4:=zc4 TF.out (Grew.refl _) (by have:=HZ.out;omega);have HP:=zQ0 (zcm (cs:=NT.nil.cells4) t3);have HK:=zQ0 (zcM (w.heap.size+2) NT.nil.cells4 0 (w1));have FIN:=zQ0 (fun wq (k3:Keeps (·=w.heap.size+2) (w1) wq)=>zcv (x:=NT.nil) (r:=res) (bx:=w.heap.size+2) (by omega) (by have:=HZ.out;omega) G01.out (Grew.refl _) NT.nil_in (by show _=_;rw[HN.out];exact zbS) k3)
   go_wp2_with (refine wpList_store_mid rfl 26 (.tmp 4) (.tmp 17) rfl (w.heap.size+2) 0 NT.nil.cells4.toArray rfl rfl t3 zbm (NT.cells4_all _) ?_;generalize hF:World.setCells (w1) _ _ _=wf;have r3:wf.rangeAt (w.heap.size+2) 0 NT.nil.cells4:=hF ▸ HP.out;have k3:Keeps (·=w.heap.size+2) (w1) wf:=hF ▸ HK.out;clear hF HP HK)
   have hfin:=FIN.out wf k3;rw[HN.out] at hfin;exact bodyPost_ret (v:=.tuple #[NT.nil.val,.int .i64 6]) (zcq Tryz.results74 _ wf (w.heap.size+2) 0 NT.nil.cells4 _ _ rfl rfl r3 Tryz.underlying26 rfl zbm) rfl (by rw[HN.out];exact hfin)
  | false =>
   have HMk:Hid (res=match n.er.at o.path.l with
    | none=>(T.nilT,5)
    | some k=>(if (zb6 k.ps o.old o.new).2≠0 then (T.nilT,(zb6 k.ps o.old o.new).2) else zch n.er o.path.l (.mk k.lf (zb6 k.ps o.old o.new).1 k.ts k.ks))):=by
    show _=_
    rw[HM.out,if_neg (fun h=>by have h2:=h.2;simp[h2] at hzb)]
    cases n.er.at o.path.l with
    | none=>rfl
    | some k=>simp only[if_pos k6]
   clear HM;obtain⟨o0,o1,o3,o8,o9,o10⟩:=KO.out w1 (Grew.refl _);obtain⟨n0,n1,n2,n3⟩:=KN.out w1 (Grew.refl _);have HG:=zQ0 (CG.out w1 G01.out);unfold GetEndsR NT.val at HG;go_wp2_with fail
   refine HG.out.mono ?_;rintro e w2 ⟨x,k2,rfl,g2,hx,hxs,hxr,hxe⟩;clear n0 n1 n2 n3 o0 o1 o3 o8 o9 o10 HG;go_upto_region 4 with fail
   generalize hW:w2.alloc _=w3;obtain⟨g3,rX,tX,z3⟩:=zaq w2 x.cells4 _ w3 hW;clear hW;have G13:=zQ0 (g2.trans g3);have HX3:Hid (x.In w3 w1.heap.size w2.heap.size):=NT.In.agree hx.1 ((g3.agree zQ1).mono (Nat.zero_le _) zQ1);have HB3:Hid (w2.heap.size < w3.heap.size):=by show _ < _;omega
   have HB1:Hid (w1.heap.size<=w2.heap.size):=g2.size
   have KX:Hid (w3.cell? ⟨w2.heap.size,0,none⟩=some (.bool x.lf)/\w3.cell? ⟨w2.heap.size,1,none⟩=some (.slice x.pa x.ps.length x.pc)/\w3.cell? ⟨w2.heap.size,2,none⟩=some (.slice x.ta x.ts.length x.tc)/\w3.cell? ⟨w2.heap.size,3,none⟩=some (.slice x.ka x.ks.length x.kc)):=by
    have h:=NT.cells4_at.1 rX;unfold NodeAt at h;simp only[Nat.zero_add] at h;exact h
   have TX:=zQ0 tX;clear g2 g3 rX tX z3 hx hxs hxr;generalize w2.heap.size=b at *
   rcases hxe.out with ⟨rfl,hat⟩ | ⟨rfl,hat,_⟩
   rotate_left
   ·have HN:Hid (res=(T.nilT,5)):=by show _=_;rw[HMk.out,hat]
    clear hxe hat HMk HX3 KX TX;have t3:w3.there (w.heap.size+2) 0 4:=zc4 TF.out G13.out (by have:=HZ.out;omega);have HP:=zQ0 (zcm (cs:=NT.nil.cells4) t3);have HK:=zQ0 (zcM (w.heap.size+2) NT.nil.cells4 0 (w3));have FIN:=zQ0 (fun wq (k3:Keeps (·=w.heap.size+2) (w3) wq)=>zcv (x:=NT.nil) (r:=res) (bx:=w.heap.size+2) (by omega) (by have:=HZ.out;omega) G01.out G13.out NT.nil_in (by show _=_;rw[HN.out];exact zbS) k3)
    go_wp2_with (refine wpList_store_mid rfl 26 (.tmp 4) (.tmp 27) rfl (w.heap.size+2) 0 NT.nil.cells4.toArray rfl rfl t3 zbm (NT.cells4_all _) ?_;generalize hF:World.setCells (w3) _ _ _=wf;have r3:wf.rangeAt (w.heap.size+2) 0 NT.nil.cells4:=hF ▸ HP.out;have k3:Keeps (·=w.heap.size+2) (w3) wf:=hF ▸ HK.out;clear hF HP HK)
    have hfin:=FIN.out wf k3;rw[HN.out] at hfin;exact bodyPost_ret (v:=.tuple #[NT.nil.val,.int .i64 5]) (zcq Tryz.results74 _ wf (w.heap.size+2) 0 NT.nil.cells4 _ _ rfl rfl r3 Tryz.underlying26 rfl zbm) rfl (by rw[HN.out];exact hfin)
   ·have HXB:Hid (x.er.bulk<=262144):=by show _<=_;have h1:=zat hat;have h2:=HTB.out;omega
    have HXO:Hid (x.Ok w3):=NT.In.mono HX3.out (Nat.zero_le _) (Nat.le_of_lt HB3.out);obtain⟨o0,o1,o3,o8,o9,o10⟩:=KO.out w3 G13.out;obtain⟨x0,x1,x2,x3⟩:=KX.out
    have HMx:Hid (res=if zb5 x.ps o.old o.new≠0 then (T.nilT,zb5 x.ps o.old o.new) else zch n.er o.path.l (.mk x.lf (zb6 x.ps o.old o.new).1 x.ts (x.ks.map NT.er))):=by
     show _=_
     rw[HMk.out,hat];simp only[NT.er_lf,NT.er_ps,NT.er_ts,NT.er_ks]
     rfl
    have CPx:=zQ0 (CPA.out x w3 (G01.out.trans G13.out) HXO.out HXB.out);clear hxe hat HMk;have HPT:=zQ0 (fun R h=>patchT_is (l:=x.ps) (old:=o.old) (new:=o.new) (R:=R) h);generalize hpt:(zb6 x.ps o.old o.new).1=pt at *;have HPB:=zQ0 (fun R h=>patch_bulk (l:=x.ps) (old:=o.old) (new:=o.new) (R:=R) h);unfold PatchEnds at CPx;generalize zb5 x.ps o.old o.new=pe at *;clear hpt;go_wp2_with fail
    refine CPx.out.mono ?_;rintro e w4 ⟨a,c,R,rfl,g4,hrw,hre⟩;have G34:=zQ0 g4;have HRW:=zQ0 hrw;have HRE:=zQ0 hre;clear o0 o1 o3 o8 o9 o10 x0 x1 x2 x3 g4 hrw hre;have c0:=(G34.out.cell (p:=⟨b,0,none⟩) HB3.out).trans KX.out.1;have c1:=(G34.out.cell (p:=⟨b,1,none⟩) HB3.out).trans KX.out.2.1;have c2:=(G34.out.cell (p:=⟨b,2,none⟩) HB3.out).trans KX.out.2.2.1;have c3:=(G34.out.cell (p:=⟨b,3,none⟩) HB3.out).trans KX.out.2.2.2;have fj:w4.frozen? ⟨b,1,none⟩=false:=(G34.out.frozen (p:=⟨b,1,none⟩) HB3.out).trans (by have:=(TX.out 1 (by rw[NT.cells4_len];decide)).2;simpa using this);go_upto_region 13 with fail
    have G15:Hid (Grew w1 (w4.setCell ⟨b,1,none⟩ (.slice a R.length c))):=(G13.out.trans G34.out).setCell HB1.out _
    by_cases hpe:pe=0
    ·have t3:(pe != 0)=false:=by simp[hpe]
     have HMI:Hid ((x.withP a c R).In (w4.setCell ⟨b,1,none⟩ (.slice a R.length c)) 0 (w4.setCell ⟨b,1,none⟩ (.slice a R.length c)).heap.size):=withP_in HX3.out G34.out HB3.out HRW.out.1
     have HME:Hid (res=zch n.er o.path.l (x.withP a c R).er):=by
      show _=_
      rw[HMx.out,if_neg (by simp[hpe]),withP_er,<- HPT.out R HRE.out]
     have HMB:Hid ((x.withP a c R).er.bulk<=1048576):=by
      show _<=_
      have h1:=HPB.out R HRE.out;have h2:=HXB.out;have h3:=HTB.out.1;rw[withP_er,T.bulk];have h4:=T.bulk_eq x.er;simp only[NT.er_ps,NT.er_ts,NT.er_ks] at h4;omega
     have d0:(w4.setCell ⟨b,1,none⟩ (.slice a R.length c)).cell? ⟨b,0,none⟩=some (.bool x.lf):=by rw[zau (by decide)];exact c0
     have d1:(w4.setCell ⟨b,1,none⟩ (.slice a R.length c)).cell? ⟨b,1,none⟩=some (.slice a R.length c):=zaw c1;have d2:(w4.setCell ⟨b,1,none⟩ (.slice a R.length c)).cell? ⟨b,2,none⟩=some (.slice x.ta x.ts.length x.tc):=by rw[zau (by decide)];exact c2
     have d3:(w4.setCell ⟨b,1,none⟩ (.slice a R.length c)).cell? ⟨b,3,none⟩=some (.slice x.ka x.ks.length x.kc):=by rw[zau (by decide)];exact c3
     clear c0 c1 c2 c3 fj hpe HRW HRE HMx;generalize w4.setCell ⟨b,1,none⟩ (.slice a R.length c)=w5 at *;have HPx:=CP.out (x.withP a c R) w5 (G01.out.trans G15.out) HMI.out HMB.out;have HRx:Hid (zch n.er o.path.l (x.withP a c R).er=res):=HME.out.symm;rw[HRx.out] at HPx;have HPy:=zQ0 HPx;unfold NT.withP at HPy;simp only[NT.lf_mk,NT.pa_mk,NT.pc_mk,NT.ps_mk,NT.ta_mk,NT.tc_mk,NT.ts_mk,NT.ka_mk,NT.kc_mk,NT.ks_mk] at HPy;obtain⟨n0,n1,n2,n3⟩:=KN.out w5 G15.out;obtain⟨_,o1,_,_,_,_⟩:=KO.out w5 G15.out;clear HPx CP CG CPA CI CR;go_wp2_with fail
     refine HPy.out.mono ?_;rintro e w6 ⟨y,rfl,g6,hy,hye⟩;have t3':w6.there (w.heap.size+2) 0 4:=zc4 TF.out (G15.out.trans g6) (by have:=HZ.out;omega);have HP:=zQ0 (zcm (cs:=y.cells4) t3');have HK:=zQ0 (zcM (w.heap.size+2) y.cells4 0 w6);have HFIN:=zQ0 (fun wf (k3:Keeps (·=w.heap.size+2) w6 wf)=>zcv (x:=y) (r:=res) (bx:=w.heap.size+2) (by omega) (by have h1:=G15.out.size;have:=HZ.out;omega) (G01.out.trans G15.out) g6 hy hye k3);clear n0 n1 n2 n3 o1 d0 d1 d2 d3 hy hye g6 HPy
     go_wp2_with (refine wpList_store_mid rfl 26 (.tmp 4) (.tmp 83) rfl (w.heap.size+2) 0 y.cells4.toArray rfl rfl t3' zbm (NT.cells4_all _) ?_;generalize hF:w6.setCells _ _ _=wf;have r3:wf.rangeAt (w.heap.size+2) 0 y.cells4:=hF ▸ HP.out;have k3:Keeps (·=w.heap.size+2) w6 wf:=hF ▸ HK.out;clear hF HP HK)
     exact bodyPost_ret (v:=.tuple #[y.val,.int .i64 res.2]) (zcq Tryz.results74 _ wf (w.heap.size+2) 0 y.cells4 _ _ rfl rfl r3 Tryz.underlying26 rfl zbm) rfl (HFIN.out wf k3)
    ·have t3:(pe != 0)=true:=by simpa using hpe
     have HN:Hid (res=(T.nilT,pe)):=by show _=_;rw[HMx.out,if_pos hpe]
     clear hpe HMx c0 c1 c2 c3 fj HRW HRE;generalize w4.setCell ⟨b,1,none⟩ (.slice a R.length c)=w5 at *;have t3:w5.there (w.heap.size+2) 0 4:=zc4 TF.out G15.out (by have:=HZ.out;omega);have HP:=zQ0 (zcm (cs:=NT.nil.cells4) t3);have HK:=zQ0 (zcM (w.heap.size+2) NT.nil.cells4 0 (w5));have FIN:=zQ0 (fun wq (k3:Keeps (·=w.heap.size+2) (w5) wq)=>zcv (x:=NT.nil) (r:=res) (bx:=w.heap.size+2) (by omega) (by have:=HZ.out;omega) G01.out G15.out NT.nil_in (by show _=_;rw[HN.out];exact zbS) k3)
     go_wp2_with (refine wpList_store_mid rfl 26 (.tmp 4) (.tmp 76) rfl (w.heap.size+2) 0 NT.nil.cells4.toArray rfl rfl t3 zbm (NT.cells4_all _) ?_;generalize hF:World.setCells (w5) _ _ _=wf;have r3:wf.rangeAt (w.heap.size+2) 0 NT.nil.cells4:=hF ▸ HP.out;have k3:Keeps (·=w.heap.size+2) (w5) wf:=hF ▸ HK.out;clear hF HP HK)
     have hfin:=FIN.out wf k3;rw[HN.out] at hfin;exact bodyPost_ret (v:=.tuple #[NT.nil.val,.int .i64 pe]) (zcq Tryz.results74 _ wf (w.heap.size+2) 0 NT.nil.cells4 _ _ rfl rfl r3 Tryz.underlying26 rfl zbm) rfl (by rw[HN.out];exact hfin)
 ·have t6:(o.kind == 6)=false:=by simpa using k6
  have HMk:Hid (res=match n.er.at o.path.l with
   | none=>(T.nilT,5)
   | some k=>if k.lf=false then (T.nilT,7)
     else if o.kind=7 then (if (zbt k.ts o.pos o.text).2≠0 then (T.nilT,(zbt k.ts o.pos o.text).2) else zch n.er o.path.l (.mk k.lf k.ps (zbt k.ts o.pos o.text).1 k.ks))
     else (if (zcp k.ts o.pos o.text).2≠0 then (T.nilT,(zcp k.ts o.pos o.text).2) else zch n.er o.path.l (.mk k.lf k.ps (zcp k.ts o.pos o.text).1 k.ks))):=by
   show _=_
   rw[HM.out,if_neg (fun h=>k6 h.1)]
   cases n.er.at o.path.l with
   | none=>rfl
   | some k=>simp only[if_neg k6]
  clear HM;obtain⟨o0,o1,o3,o8,o9,o10⟩:=KO.out w1 (Grew.refl _);obtain⟨n0,n1,n2,n3⟩:=KN.out w1 (Grew.refl _);have HG:=zQ0 (CG.out w1 G01.out);unfold GetEndsR NT.val at HG;go_wp2_with fail
  refine HG.out.mono ?_;rintro e w2 ⟨x,k2,rfl,g2,hx,hxs,hxr,hxe⟩;clear n0 n1 n2 n3 o0 o1 o3 o8 o9 o10 HG;go_upto_region 4 with fail
  generalize hW:w2.alloc _=w3;obtain⟨g3,rX,tX,z3⟩:=zaq w2 x.cells4 _ w3 hW;clear hW;have G13:=zQ0 (g2.trans g3);have HX3:Hid (x.In w3 w1.heap.size w2.heap.size):=NT.In.agree hx.1 ((g3.agree zQ1).mono (Nat.zero_le _) zQ1);have HB3:Hid (w2.heap.size < w3.heap.size):=by show _ < _;omega
  have HB1:Hid (w1.heap.size<=w2.heap.size):=g2.size
  have KX:Hid (w3.cell? ⟨w2.heap.size,0,none⟩=some (.bool x.lf)/\w3.cell? ⟨w2.heap.size,1,none⟩=some (.slice x.pa x.ps.length x.pc)/\w3.cell? ⟨w2.heap.size,2,none⟩=some (.slice x.ta x.ts.length x.tc)/\w3.cell? ⟨w2.heap.size,3,none⟩=some (.slice x.ka x.ks.length x.kc)):=by
   have h:=NT.cells4_at.1 rX;unfold NodeAt at h;simp only[Nat.zero_add] at h;exact h
  have TX:=zQ0 tX;clear g2 g3 rX tX z3 hx hxs hxr;generalize w2.heap.size=b at *
  rcases hxe.out with ⟨rfl,hat⟩ | ⟨rfl,hat,_⟩
  rotate_left
  ·have HN:Hid (res=(T.nilT,5)):=by show _=_;rw[HMk.out,hat]
   clear hxe hat HMk HX3 KX TX;have t3:w3.there (w.heap.size+2) 0 4:=zc4 TF.out G13.out (by have:=HZ.out;omega);have HP:=zQ0 (zcm (cs:=NT.nil.cells4) t3);have HK:=zQ0 (zcM (w.heap.size+2) NT.nil.cells4 0 (w3));have FIN:=zQ0 (fun wq (k3:Keeps (·=w.heap.size+2) (w3) wq)=>zcv (x:=NT.nil) (r:=res) (bx:=w.heap.size+2) (by omega) (by have:=HZ.out;omega) G01.out G13.out NT.nil_in (by show _=_;rw[HN.out];exact zbS) k3)
   go_wp2_with (refine wpList_store_mid rfl 26 (.tmp 4) (.tmp 27) rfl (w.heap.size+2) 0 NT.nil.cells4.toArray rfl rfl t3 zbm (NT.cells4_all _) ?_;generalize hF:World.setCells (w3) _ _ _=wf;have r3:wf.rangeAt (w.heap.size+2) 0 NT.nil.cells4:=hF ▸ HP.out;have k3:Keeps (·=w.heap.size+2) (w3) wf:=hF ▸ HK.out;clear hF HP HK)
   have hfin:=FIN.out wf k3;rw[HN.out] at hfin;exact bodyPost_ret (v:=.tuple #[NT.nil.val,.int .i64 5]) (zcq Tryz.results74 _ wf (w.heap.size+2) 0 NT.nil.cells4 _ _ rfl rfl r3 Tryz.underlying26 rfl zbm) rfl (by rw[HN.out];exact hfin)
  ·have HXB:Hid (x.er.bulk<=262144):=by show _<=_;have h1:=zat hat;have h2:=HTB.out;omega
   have HXO:Hid (x.Ok w3):=NT.In.mono HX3.out (Nat.zero_le _) (Nat.le_of_lt HB3.out);obtain⟨o0,o1,o3,o8,o9,o10⟩:=KO.out w3 G13.out;obtain⟨x0,x1,x2,x3⟩:=KX.out
   rcases Bool.eq_false_or_eq_true x.lf with hlf | hlf
   ·have HMj:Hid (res=if o.kind=7 then (if (zbt x.ts o.pos o.text).2≠0 then (T.nilT,(zbt x.ts o.pos o.text).2) else zch n.er o.path.l (.mk x.lf x.ps (zbt x.ts o.pos o.text).1 (x.ks.map NT.er)))
     else (if (zcp x.ts o.pos o.text).2≠0 then (T.nilT,(zcp x.ts o.pos o.text).2) else zch n.er o.path.l (.mk x.lf x.ps (zcp x.ts o.pos o.text).1 (x.ks.map NT.er)))):=by
     show _=_
     rw[HMk.out,hat];simp only[NT.er_lf,NT.er_ps,NT.er_ts,NT.er_ks,hlf]
     rfl
    clear hxe hat HMk;rw[hlf] at x0;clear hlf
    by_cases k7:o.kind=7
    ·have t7:(o.kind == 7)=true:=by simpa using k7
     have HMx:Hid (res=if (zbt x.ts o.pos o.text).2≠0 then (T.nilT,(zbt x.ts o.pos o.text).2) else zch n.er o.path.l (.mk x.lf x.ps (zbt x.ts o.pos o.text).1 (x.ks.map NT.er))):=by show _=_;rw[HMj.out,if_pos k7]
     have CTx:=zQ0 (CI.out x w3 (G01.out.trans G13.out) HXO.out HXB.out);clear HMj;have HTL:=zQ0 (insert_len x.ts o.text o.pos);generalize zbt x.ts o.pos o.text=ir at *;obtain⟨it,ie⟩:=ir;go_wp2_with fail
     refine CTx.out.mono ?_;rintro e w4 ⟨q,rfl,g4,hrw,hre⟩;have G34:=zQ0 g4;have HRW:=zQ0 hrw;have HRE:=zQ0 hre;clear o0 o1 o3 o8 o9 o10 x0 x1 x2 x3 g4 hrw hre;have c0:=(G34.out.cell (p:=⟨b,0,none⟩) HB3.out).trans KX.out.1;have c1:=(G34.out.cell (p:=⟨b,1,none⟩) HB3.out).trans KX.out.2.1;have c2:=(G34.out.cell (p:=⟨b,2,none⟩) HB3.out).trans KX.out.2.2.1;have c3:=(G34.out.cell (p:=⟨b,3,none⟩) HB3.out).trans KX.out.2.2.2;have fj:w4.frozen? ⟨b,2,none⟩=false:=(G34.out.frozen (p:=⟨b,2,none⟩) HB3.out).trans (by have:=(TX.out 2 (by rw[NT.cells4_len];decide)).2;simpa using this);go_upto_region 13 with fail
     have G15:Hid (Grew w1 (w4.setCell ⟨b,2,none⟩ (.slice q.a q.l.length q.c))):=(G13.out.trans G34.out).setCell HB1.out _
     by_cases hpe:ie=0
     ·have t3:(ie != 0)=false:=by simp[hpe]
      have HMI:Hid ((x.withX q.a q.c q.l).In (w4.setCell ⟨b,2,none⟩ (.slice q.a q.l.length q.c)) 0 (w4.setCell ⟨b,2,none⟩ (.slice q.a q.l.length q.c)).heap.size):=withX_in HX3.out G34.out HB3.out HRW.out
      have HME:Hid (res=zch n.er o.path.l (x.withX q.a q.c q.l).er):=by
       show _=_
       rw[HMx.out,if_neg (by simp[hpe]),withX_er,HRE.out]
      have HMB:Hid ((x.withX q.a q.c q.l).er.bulk<=1048576):=by
       show _<=_
       have h1:it.length<=x.ts.length+o.text.length:=HTL.out;have h2:=HXB.out;have h3:=HTB.out.2.1;have h5:q.l=it:=HRE.out;rw[withX_er,T.bulk,h5];have h4:=T.bulk_eq x.er;simp only[NT.er_ps,NT.er_ts,NT.er_ks] at h4;omega
      have d0:(w4.setCell ⟨b,2,none⟩ (.slice q.a q.l.length q.c)).cell? ⟨b,0,none⟩=some (.bool x.lf):=by rw[zau (by decide)];exact c0
      have d1:(w4.setCell ⟨b,2,none⟩ (.slice q.a q.l.length q.c)).cell? ⟨b,1,none⟩=some (.slice x.pa x.ps.length x.pc):=by rw[zau (by decide)];exact c1
      have d2:(w4.setCell ⟨b,2,none⟩ (.slice q.a q.l.length q.c)).cell? ⟨b,2,none⟩=some (.slice q.a q.l.length q.c):=zaw c2;have d3:(w4.setCell ⟨b,2,none⟩ (.slice q.a q.l.length q.c)).cell? ⟨b,3,none⟩=some (.slice x.ka x.ks.length x.kc):=by rw[zau (by decide)];exact c3
      clear c0 c1 c2 c3 fj hpe HRW HRE HMx;generalize w4.setCell ⟨b,2,none⟩ (.slice q.a q.l.length q.c)=w5 at *;have HPx:=CP.out (x.withX q.a q.c q.l) w5 (G01.out.trans G15.out) HMI.out HMB.out;have HRx:Hid (zch n.er o.path.l (x.withX q.a q.c q.l).er=res):=HME.out.symm;rw[HRx.out] at HPx;have HPy:=zQ0 HPx;unfold NT.withX at HPy;simp only[NT.lf_mk,NT.pa_mk,NT.pc_mk,NT.ps_mk,NT.ta_mk,NT.tc_mk,NT.ts_mk,NT.ka_mk,NT.kc_mk,NT.ks_mk] at HPy;obtain⟨n0,n1,n2,n3⟩:=KN.out w5 G15.out;obtain⟨_,o1,_,_,_,_⟩:=KO.out w5 G15.out;clear HPx CP CG CPA CI CR;go_wp2_with fail
      refine HPy.out.mono ?_;rintro e w6 ⟨y,rfl,g6,hy,hye⟩;have t3':w6.there (w.heap.size+2) 0 4:=zc4 TF.out (G15.out.trans g6) (by have:=HZ.out;omega);have HP:=zQ0 (zcm (cs:=y.cells4) t3');have HK:=zQ0 (zcM (w.heap.size+2) y.cells4 0 w6);have HFIN:=zQ0 (fun wf (k3:Keeps (·=w.heap.size+2) w6 wf)=>zcv (x:=y) (r:=res) (bx:=w.heap.size+2) (by omega) (by have h1:=G15.out.size;have:=HZ.out;omega) (G01.out.trans G15.out) g6 hy hye k3);clear n0 n1 n2 n3 o1 d0 d1 d2 d3 hy hye g6 HPy
      go_wp2_with (refine wpList_store_mid rfl 26 (.tmp 4) (.tmp 83) rfl (w.heap.size+2) 0 y.cells4.toArray rfl rfl t3' zbm (NT.cells4_all _) ?_;generalize hF:w6.setCells _ _ _=wf;have r3:wf.rangeAt (w.heap.size+2) 0 y.cells4:=hF ▸ HP.out;have k3:Keeps (·=w.heap.size+2) w6 wf:=hF ▸ HK.out;clear hF HP HK)
      exact bodyPost_ret (v:=.tuple #[y.val,.int .i64 res.2]) (zcq Tryz.results74 _ wf (w.heap.size+2) 0 y.cells4 _ _ rfl rfl r3 Tryz.underlying26 rfl zbm) rfl (HFIN.out wf k3)
     ·have t3:(ie != 0)=true:=by simpa using hpe
      have HN:Hid (res=(T.nilT,ie)):=by show _=_;rw[HMx.out,if_pos hpe]
      clear hpe HMx c0 c1 c2 c3 fj HRW HRE;generalize w4.setCell ⟨b,2,none⟩ (.slice q.a q.l.length q.c)=w5 at *;have t3:w5.there (w.heap.size+2) 0 4:=zc4 TF.out G15.out (by have:=HZ.out;omega);have HP:=zQ0 (zcm (cs:=NT.nil.cells4) t3);have HK:=zQ0 (zcM (w.heap.size+2) NT.nil.cells4 0 (w5));have FIN:=zQ0 (fun wq (k3:Keeps (·=w.heap.size+2) (w5) wq)=>zcv (x:=NT.nil) (r:=res) (bx:=w.heap.size+2) (by omega) (by have:=HZ.out;omega) G01.out G15.out NT.nil_in (by show _=_;rw[HN.out];exact zbS) k3)
      go_wp2_with (refine wpList_store_mid rfl 26 (.tmp 4) (.tmp 76) rfl (w.heap.size+2) 0 NT.nil.cells4.toArray rfl rfl t3 zbm (NT.cells4_all _) ?_;generalize hF:World.setCells (w5) _ _ _=wf;have r3:wf.rangeAt (w.heap.size+2) 0 NT.nil.cells4:=hF ▸ HP.out;have k3:Keeps (·=w.heap.size+2) (w5) wf:=hF ▸ HK.out;clear hF HP HK)
      have hfin:=FIN.out wf k3;rw[HN.out] at hfin;exact bodyPost_ret (v:=.tuple #[NT.nil.val,.int .i64 ie]) (zcq Tryz.results74 _ wf (w.heap.size+2) 0 NT.nil.cells4 _ _ rfl rfl r3 Tryz.underlying26 rfl zbm) rfl (by rw[HN.out];exact hfin)
    ·have t7:(o.kind == 7)=false:=by simpa using k7
     have HMx:Hid (res=if (zcp x.ts o.pos o.text).2≠0 then (T.nilT,(zcp x.ts o.pos o.text).2) else zch n.er o.path.l (.mk x.lf x.ps (zcp x.ts o.pos o.text).1 (x.ks.map NT.er))):=by show _=_;rw[HMj.out,if_neg k7]
     have CTx:=zQ0 (CR.out x w3 (G01.out.trans G13.out) HXO.out HXB.out);clear HMj;have HTL:=zQ0 (remove_len x.ts o.text o.pos);generalize zcp x.ts o.pos o.text=ir at *;obtain⟨it,ie⟩:=ir;go_wp2_with fail
     refine CTx.out.mono ?_;rintro e w4 ⟨q,rfl,g4,hrw,hre⟩;have G34:=zQ0 g4;have HRW:=zQ0 hrw;have HRE:=zQ0 hre;clear o0 o1 o3 o8 o9 o10 x0 x1 x2 x3 g4 hrw hre;have c0:=(G34.out.cell (p:=⟨b,0,none⟩) HB3.out).trans KX.out.1;have c1:=(G34.out.cell (p:=⟨b,1,none⟩) HB3.out).trans KX.out.2.1;have c2:=(G34.out.cell (p:=⟨b,2,none⟩) HB3.out).trans KX.out.2.2.1;have c3:=(G34.out.cell (p:=⟨b,3,none⟩) HB3.out).trans KX.out.2.2.2;have fj:w4.frozen? ⟨b,2,none⟩=false:=(G34.out.frozen (p:=⟨b,2,none⟩) HB3.out).trans (by have:=(TX.out 2 (by rw[NT.cells4_len];decide)).2;simpa using this);go_upto_region 13 with fail
     have G15:Hid (Grew w1 (w4.setCell ⟨b,2,none⟩ (.slice q.a q.l.length q.c))):=(G13.out.trans G34.out).setCell HB1.out _
     by_cases hpe:ie=0
     ·have t3:(ie != 0)=false:=by simp[hpe]
      have HMI:Hid ((x.withX q.a q.c q.l).In (w4.setCell ⟨b,2,none⟩ (.slice q.a q.l.length q.c)) 0 (w4.setCell ⟨b,2,none⟩ (.slice q.a q.l.length q.c)).heap.size):=withX_in HX3.out G34.out HB3.out HRW.out
      have HME:Hid (res=zch n.er o.path.l (x.withX q.a q.c q.l).er):=by
       show _=_
       rw[HMx.out,if_neg (by simp[hpe]),withX_er,HRE.out]
      have HMB:Hid ((x.withX q.a q.c q.l).er.bulk<=1048576):=by
       show _<=_
       have h1:it.length<=x.ts.length+o.text.length:=HTL.out;have h2:=HXB.out;have h3:=HTB.out.2.1;have h5:q.l=it:=HRE.out;rw[withX_er,T.bulk,h5];have h4:=T.bulk_eq x.er;simp only[NT.er_ps,NT.er_ts,NT.er_ks] at h4;omega
      have d0:(w4.setCell ⟨b,2,none⟩ (.slice q.a q.l.length q.c)).cell? ⟨b,0,none⟩=some (.bool x.lf):=by rw[zau (by decide)];exact c0
      have d1:(w4.setCell ⟨b,2,none⟩ (.slice q.a q.l.length q.c)).cell? ⟨b,1,none⟩=some (.slice x.pa x.ps.length x.pc):=by rw[zau (by decide)];exact c1
      have d2:(w4.setCell ⟨b,2,none⟩ (.slice q.a q.l.length q.c)).cell? ⟨b,2,none⟩=some (.slice q.a q.l.length q.c):=zaw c2;have d3:(w4.setCell ⟨b,2,none⟩ (.slice q.a q.l.length q.c)).cell? ⟨b,3,none⟩=some (.slice x.ka x.ks.length x.kc):=by rw[zau (by decide)];exact c3
      clear c0 c1 c2 c3 fj hpe HRW HRE HMx;generalize w4.setCell ⟨b,2,none⟩ (.slice q.a q.l.length q.c)=w5 at *;have HPx:=CP.out (x.withX q.a q.c q.l) w5 (G01.out.trans G15.out) HMI.out HMB.out;have HRx:Hid (zch n.er o.path.l (x.withX q.a q.c q.l).er=res):=HME.out.symm;rw[HRx.out] at HPx;have HPy:=zQ0 HPx;unfold NT.withX at HPy;simp only[NT.lf_mk,NT.pa_mk,NT.pc_mk,NT.ps_mk,NT.ta_mk,NT.tc_mk,NT.ts_mk,NT.ka_mk,NT.kc_mk,NT.ks_mk] at HPy;obtain⟨n0,n1,n2,n3⟩:=KN.out w5 G15.out;obtain⟨_,o1,_,_,_,_⟩:=KO.out w5 G15.out;clear HPx CP CG CPA CI CR;go_wp2_with fail
      refine HPy.out.mono ?_;rintro e w6 ⟨y,rfl,g6,hy,hye⟩;have t3':w6.there (w.heap.size+2) 0 4:=zc4 TF.out (G15.out.trans g6) (by have:=HZ.out;omega);have HP:=zQ0 (zcm (cs:=y.cells4) t3');have HK:=zQ0 (zcM (w.heap.size+2) y.cells4 0 w6);have HFIN:=zQ0 (fun wf (k3:Keeps (·=w.heap.size+2) w6 wf)=>zcv (x:=y) (r:=res) (bx:=w.heap.size+2) (by omega) (by have h1:=G15.out.size;have:=HZ.out;omega) (G01.out.trans G15.out) g6 hy hye k3);clear n0 n1 n2 n3 o1 d0 d1 d2 d3 hy hye g6 HPy
      go_wp2_with (refine wpList_store_mid rfl 26 (.tmp 4) (.tmp 83) rfl (w.heap.size+2) 0 y.cells4.toArray rfl rfl t3' zbm (NT.cells4_all _) ?_;generalize hF:w6.setCells _ _ _=wf;have r3:wf.rangeAt (w.heap.size+2) 0 y.cells4:=hF ▸ HP.out;have k3:Keeps (·=w.heap.size+2) w6 wf:=hF ▸ HK.out;clear hF HP HK)
      exact bodyPost_ret (v:=.tuple #[y.val,.int .i64 res.2]) (zcq Tryz.results74 _ wf (w.heap.size+2) 0 y.cells4 _ _ rfl rfl r3 Tryz.underlying26 rfl zbm) rfl (HFIN.out wf k3)
     ·have t3:(ie != 0)=true:=by simpa using hpe
      have HN:Hid (res=(T.nilT,ie)):=by show _=_;rw[HMx.out,if_pos hpe]
      clear hpe HMx c0 c1 c2 c3 fj HRW HRE;generalize w4.setCell ⟨b,2,none⟩ (.slice q.a q.l.length q.c)=w5 at *;have t3:w5.there (w.heap.size+2) 0 4:=zc4 TF.out G15.out (by have:=HZ.out;omega);have HP:=zQ0 (zcm (cs:=NT.nil.cells4) t3);have HK:=zQ0 (zcM (w.heap.size+2) NT.nil.cells4 0 (w5));have FIN:=zQ0 (fun wq (k3:Keeps (·=w.heap.size+2) (w5) wq)=>zcv (x:=NT.nil) (r:=res) (bx:=w.heap.size+2) (by omega) (by have:=HZ.out;omega) G01.out G15.out NT.nil_in (by show _=_;rw[HN.out];exact zbS) k3)
      go_wp2_with (refine wpList_store_mid rfl 26 (.tmp 4) (.tmp 76) rfl (w.heap.size+2) 0 NT.nil.cells4.toArray rfl rfl t3 zbm (NT.cells4_all _) ?_;generalize hF:World.setCells (w5) _ _ _=wf;have r3:wf.rangeAt (w.heap.size+2) 0 NT.nil.cells4:=hF ▸ HP.out;have k3:Keeps (·=w.heap.size+2) (w5) wf:=hF ▸ HK.out;clear hF HP HK)
      have hfin:=FIN.out wf k3;rw[HN.out] at hfin;exact bodyPost_ret (v:=.tuple #[NT.nil.val,.int .i64 ie]) (zcq Tryz.results74 _ wf (w.heap.size+2) 0 NT.nil.cells4 _ _ rfl rfl r3 Tryz.underlying26 rfl zbm) rfl (by rw[HN.out];exact hfin)
   ·have HN:Hid (res=(T.nilT,7)):=by
     show _=_
     rw[HMk.out,hat];simp only[NT.er_lf,hlf]
     rfl
    clear hxe hat HMk;rw[hlf] at x0;clear hlf;have t3:w3.there (w.heap.size+2) 0 4:=zc4 TF.out G13.out (by have:=HZ.out;omega);have HP:=zQ0 (zcm (cs:=NT.nil.cells4) t3);have HK:=zQ0 (zcM (w.heap.size+2) NT.nil.cells4 0 (w3));have FIN:=zQ0 (fun wq (k3:Keeps (·=w.heap.size+2) (w3) wq)=>zcv (x:=NT.nil) (r:=res) (bx:=w.heap.size+2) (by omega) (by have:=HZ.out;omega) G01.out G13.out NT.nil_in (by show _=_;rw[HN.out];exact zbS) k3)
    go_wp2_with (refine wpList_store_mid rfl 26 (.tmp 4) (.tmp 76) rfl (w.heap.size+2) 0 NT.nil.cells4.toArray rfl rfl t3 zbm (NT.cells4_all _) ?_;generalize hF:World.setCells (w3) _ _ _=wf;have r3:wf.rangeAt (w.heap.size+2) 0 NT.nil.cells4:=hF ▸ HP.out;have k3:Keeps (·=w.heap.size+2) (w3) wf:=hF ▸ HK.out;clear hF HP HK)
    have hfin:=FIN.out wf k3;rw[HN.out] at hfin;exact bodyPost_ret (v:=.tuple #[NT.nil.val,.int .i64 7]) (zcq Tryz.results74 _ wf (w.heap.size+2) 0 NT.nil.cells4 _ _ rfl rfl r3 Tryz.underlying26 rfl zbm) rfl (by rw[HN.out];exact hfin)
end Go.Proofs.YtccobobnmpafbaaGreatDoor
