/- THE LAW redlinelaw12.OpGhost: the contract. -/
import Derived.Test.YtbhbekocmpmjfaaGreatDoorK34
import Derived.Test.YtbhbekocmpmjfaaGreatDoorK43
import Derived.Test.YtbhbekocmpmjfaaGreatDoorK08
import Derived.Test.YtbhbekocmpmjfaaGreatDoorK03
import Derived.Test.YtbhbekocmpmjfaaGreatDoorK01
import Derived.Test.YtbhbekocmpmjfaaGreatDoorRows
import Derived.Deep.Slices
import Derived.OpenShut
import Derived.ProofKit
import Derived.Test.YtbhbekocmpmjfaaGreatDoorK02
namespace Go.Proofs.YtbhbekocmpmjfaaGreatDoor
open Go Go.RowKit
theorem ghost_law {n:T} {s:SelE} {o:OpE} {p:List Int} {y:T} (hb:n.bulk≤262144) (ha:(zak n s o).2.2=0) (hp:n.at p=some y) :
  ((zbO p o.path o.dest o.kind o.pos).2=false→o.kind=2∧(p=o.path∨zaf o.path p=true)) ∧
  ((zbO p o.path o.dest o.kind o.pos).2=true→∃ h h' k,(gh n 0).at (if o.kind=3∧p=o.path then (zap o.path).1 else p)=some h∧(doG o (gh n 0)).at (zbO p o.path o.dest o.kind o.pos).1=some h'∧lab h'=lab h∧(zak n s o).1.at (zbO p o.path o.dest o.kind o.pos).1=some k):=by
 obtain ⟨h1,h2⟩:=ghost_move (g:=gh n 0) (by omega) (gh_like n 0) ha hp;refine ⟨h1,fun h=>?_⟩;obtain ⟨a,b,q1,q2,q3⟩:=h2 h;obtain ⟨k,hk⟩:=ghost_stands (by omega) (gh_like n 0) ha q2;exact ⟨a,b,k,q1,q2,q3,hk⟩
theorem box_thereG (w:World) (t:TypeId):(w.alloc (.cells #[.bool false,.slice none 0 0,.slice none 0 0,.slice none 0 0] t)).there w.heap.size 0 4:=zc4 (Grew.refl _)
theorem box_growG {w F:World} {x:NT} {t:TypeId} (hF:(w.alloc (.cells #[.bool false,.slice none 0 0,.slice none 0 0,.slice none 0 0] t)).setCells w.heap.size 0 x.cells4=F):Grew w F:=by
 subst hF;exact (Grew.alloc1 w _).keep (zcM w.heap.size x.cells4 0 _) (fun j hj=>by have:j=w.heap.size:=hj;omega)
theorem merge_path {n:T} {s:SelE} {o:OpE} (hb:n.bulk≤262144) (ha:(zak n s o).2.2=0) (hk:o.kind=3):∃ (up:List Int) (i:Nat),o.path=up++[((i+1:Nat):Int)]∧i+1≤1048576∧(zap o.path).1=up++[(i:Int)]:=by
 obtain ⟨hm,h⟩:=zal ha;obtain ⟨_,_,_,hf⟩:=may_ok hm
 rcases h with ⟨h9,_⟩ | ⟨_,hs,_,_⟩
 ·omega
 ·obtain ⟨up,i,u,x,k,a,b,e1,e2,e3,e4,_⟩:=done3 (by omega) hf hk hs;have h1:=zav e2;have h2:=u.ks_bulk;rw [e3,List.length_append] at h2;refine ⟨up,i,e1,by omega,?_⟩;rw [e1,back_at (by omega)]
set_option maxRecDepth 100000 in
set_option maxHeartbeats 8000000 in
theorem opGhost_any (n:NT) (s:SelL) (o:OpL) (w:World) (hf0:Fit n s o w):Calls Tryz.prog 5 #[n.val,s.val,o.val] w fun e w'=>e=.returned (.bool true)∧Grew w w':=by
 have FE:=zQ0 (fun w1 (g:Grew w w1)=>few12_any n s o w1 (hf0.grew g));have HF:=zQ0 hf0;have AP:=zQ0 (fun (h:fewE n.er s.er o.er=true) w1 (g:Grew w w1)=>apply12 h (hf0.grew g));have SN:=zQ0 (fun w1 (g:Grew w w1) (hb:n.er.bulk≤262144)=>size_any n w1 (hf0.grew g).hn (by omega));have SO:=zQ0 (fun w1 (g:Grew w w1)=>size_any o.node w1 (hf0.grew g).ho.2.1 (hf0.grew g).ob);clear hf0;unfold OpL.val at FE AP ⊢;unfold NT.val at FE AP SN SO ⊢;unfold SelL.val at FE AP ⊢
 go_enter Tryz.func5,Tryz.ntmps5
 go_upto_region 1 with fail
 generalize hW:((w.alloc _).alloc _).alloc _=w1;obtain ⟨g1,hB,z1⟩:=b3_new w n s o _ _ _ w1 hW;have HB1:=zQ0 hB;have G1:=zQ0 g1;clear hW z1 hB g1;go_wp2_with fail
 refine (live12_any _).mono ?_;rintro e w2 ⟨rfl,g2⟩;have HB2:=zQ0 (HB1.out.grew g2);have G2:=zQ0 (G1.out.trans g2);clear g2 HB1 G1;obtain ⟨n0,n1,n2,n3⟩:=HB2.out.n;obtain ⟨s0,s1,s2,s3,s4⟩:=HB2.out.s;have rO:=HB2.out.2.2.1;obtain ⟨ov,hov⟩:∃ v,o.val=v:=⟨_,rfl⟩
 unfold OpL.val at hov;rw [hov] at FE AP
 go_wp2_with (show wpList _ _ _ (Oper.mk (some 26) (Op.load 35 (.tmp 5)) _ _ _ _::_) _ _;refine zdl rfl 35 (.tmp 5) rfl (w.heap.size+2) 0 rfl o.cells _ rO Tryz.underlying35 rfl zbr ?_;have ho2:Value.agg o.cells.toArray=ov:=hov;rw [ho2];clear ho2)
 refine (FE.out w2 G2.out).mono ?_;rintro e w3 ⟨rfl,g3⟩;have HB3:=zQ0 (HB2.out.grew g3);have G3:=zQ0 (G2.out.trans g3);clear g3 n0 n1 n2 n3 s0 s1 s2 s3 s4 rO HB2 FE G2
 by_cases hfe:fewE n.er s.er o.er=true
 case neg =>
  have hfe:fewE n.er s.er o.er=false:=by simpa using hfe
  rw [hfe];go_wp2_with fail
  go_ret
  exact ⟨rfl,G3.out⟩
 case pos =>
 have AP1:=zQ0 (AP.out hfe);have HFE:=zQ0 hfe;rw [hfe];clear hfe AP;obtain ⟨n0,n1,n2,n3⟩:=HB3.out.n;obtain ⟨s0,s1,s2,s3,s4⟩:=HB3.out.s;have rO:=HB3.out.2.2.1
 go_wp2_with (show wpList _ _ _ (Oper.mk (some 32) (Op.load 35 (.tmp 5)) _ _ _ _::_) _ _;refine zdl rfl 35 (.tmp 5) rfl (w.heap.size+2) 0 rfl o.cells _ rO Tryz.underlying35 rfl zbr ?_;have ho2:Value.agg o.cells.toArray=ov:=hov;rw [ho2];clear ho2)
 refine (AP1.out w3 G3.out).mono ?_;rintro e w4 ⟨x,t,rfl,g4,hx,ht,hxe,hte⟩;have HB4:=zQ0 (HB3.out.grew g4);have G4:=zQ0 (G3.out.trans g4);have HX4:Hid (x.Ok w4):=hx.mono (Nat.zero_le _) zQ1;have HT4:Hid (t.In w4 0 w4.heap.size):=⟨IntsIn.mono ht.1 (Nat.zero_le _) zQ1,IntsIn.mono ht.2 (Nat.zero_le _) zQ1⟩
 clear g4 n0 n1 n2 n3 s0 s1 s2 s3 s4 rO HB3 AP1 G3 hx ht;unfold NT.val SelL.val;have HER:Hid ((zak n.er s.er o.er).2.2=(zak n.er s.er o.er).2.2):=rfl;generalize hres:zak n.er s.er o.er=res at *;have HRES:=zQ0 hres;obtain ⟨ta,tb,er⟩:=res;clear hres HER
 go_upto_region 6 with (first | (show wpList _ _ _ (Oper.mk none (Op.store 26 (.tmp 7) (.tmp 34)) _ _ _ _::_) _ _;generalize hW:World.alloc (World.alloc w4 _) _=wW;obtain ⟨tX,tY⟩:=two_there hW;refine wpList_store_mid rfl 26 (.tmp 7) (.tmp 34) rfl w4.heap.size 0 x.cells4.toArray rfl rfl tX zbp (NT.cells4_all _) ?_;generalize hA:World.setCells wW _ _ _=wa;have tZ:wa.there (w4.heap.size+1) 0 5:=(by rw [← hA];exact World.there_setCells tY _ _ _)) | (show wpList _ _ _ (Oper.mk none (Op.store 33 (.tmp 8) (.tmp 35)) _ _ _ _::_) _ _;refine wpList_store_mid rfl 33 (.tmp 8) (.tmp 35) rfl (w4.heap.size+1) 0 t.cells.toArray rfl rfl tZ zbs (all_oneCell_toArray t.cells_one) ?_;generalize hB:World.setCells wa _ _ _=wb))
 obtain ⟨g5,hXB⟩:=put2_new hW hA hB;clear hW hA hB tX tY tZ;have HB5:=zQ0 (HB4.out.grew g5);have G5:=zQ0 (G4.out.trans g5);have HX5:Hid (x.Ok wb):=NT.Ok.grew HX4.out g5;have HT5:Hid (t.In wb 0 wb.heap.size):=HT4.out.later g5;have HXB:=zQ0 hXB;clear g5 hXB HB4 G4 HX4 HT4;generalize w4.heap.size=b7 at *;have HXE:Hid (x.er=ta):=hxe.out;have HTE:Hid (t.er=tb):=hte.out;clear hxe hte;obtain ⟨HFN,HFS,HFO⟩:=fewE_parts HFE.out;have HFN:=zQ0 HFN;have HFS:=zQ0 HFS;have HFO:=zQ0 HFO;have HNB:Hid (n.er.bulk≤262144):=by show _≤_;have:=few_bulk HFN.out;omega
 have HXX:Hid (x.er.bulk≤1048576):=by
  show _≤_
  rw [HXE.out];have:=apply_bulk (s:=s.er) HNB.out (za4 HFO.out).1;rw [HRES.out] at this;exact this
 have RS:=zQ0 (fun w1 (g:Grew wb w1)=>refSame04_any x NT.nil w1 (NT.Ok.grew HX5.out g) NT.nil_in HXX.out (by rw [zbR];decide));unfold NT.val at RS
 by_cases her:er=0
 case neg =>
  have t1:(er != 0)=true:=by simpa using her
  have hno:=apply_no (n:=n.er) (s:=s.er) (o:=o.er) (by rw [HRES.out];exact her);rw [HRES.out] at hno;have HN1:Hid (x.er=NT.nil.er):=by show _=_;rw [HXE.out,zbR];exact hno.1
  have HN2:Hid (t.er=SelE.nil):=by show _=_;rw [HTE.out];exact hno.2
  clear hno;obtain ⟨x0,x1,x2,x3⟩:=HXB.out.x;go_wp2_with fail
  refine (RS.out wb (Grew.refl _)).mono ?_;rintro e w6 ⟨rfl,g6⟩;have t2:decide (x.er=NT.nil.er)=true:=by rw [HN1.out];simp
  go_wp2_with fail
  go_ret
  exact ⟨rfl,G5.out.trans g6⟩
 case pos =>
 subst her;have t1:((0:Int) != 0)=false:=rfl;clear RS t1;have HAP:Hid ((zak n.er s.er o.er).2.2=0):=by show _=_;rw [HRES.out]
 have HAX:Hid ((zak n.er s.er o.er).1=x.er):=by show _=_;rw [HRES.out,HXE.out]
 have GH:=zQ0 (fun w1 (g:Grew wb w1)=>ghosts12_any n 0 w1 (HF.out.grew (G5.out.trans g)).hn (by have:=HNB.out;omega) (by omega) (by have:=T.size_le n.er;have:=HNB.out;omega));have DO:=zQ0 (fun (w6:World) (y:NT) (g:Grew wb w6) (h1:y.GOk w6) (h2:y.er=gh n.er 0) (h3:∀ b∈y.gb,wb.heap.size≤b)=>ghost_did (s:=s.er) (w0:=w) h1 h2 (Nat.le_trans G5.out.size g.size) (HF.out.ho.grew (G5.out.trans g) zQ1) (fun b hb=>Nat.le_trans G5.out.size (h3 b hb)) HAP.out HNB.out HFO.out);have PT:=zQ0 (fun w1 (g:Grew wb w1)=>treePathsR_any n w1 (HF.out.grew (G5.out.trans g)).hn (by have:=HNB.out;omega));unfold NT.val at GH PT;unfold OpL.val at DO;rw [hov] at DO;obtain ⟨n0,n1,n2,n3⟩:=HB5.out.n;go_wp2_with fail
 refine (GH.out wb (Grew.refl _)).mono ?_;rintro e w6 ⟨yg,rfl,a1,a2,g6,a3⟩;clear n0 n1 n2 n3;obtain ⟨n0,n1,n2,n3⟩:=(HB5.out.grew g6).n;have HA1:=zQ0 a1;have HA2:Hid (yg.er=gh n.er 0):=a2.out;have G6:=zQ0 g6;clear a1 a2 a3 g6;go_wp2_with fail
 refine (GH.out w6 G6.out).mono ?_;rintro e w7 ⟨yh,rfl,b1,b2,g7,b3⟩;clear n0 n1 n2 n3;have G7:=zQ0 (G6.out.trans g7);have rO:=(HB5.out.grew G7.out).2.2.1;have CD:=DO.out w7 yh G7.out b1 b2.out (fun b hb=>Nat.le_trans G6.out.size (b3 b hb));have HG:=zQ0 (fun (w8:World) (k:Keeps (·∈yh.gb) w7 w8)=>g7.keep k (fun b hb=>b3 b hb));clear b1 b2 b3 g7 GH DO
 go_wp2_with (show wpList _ _ _ (Oper.mk (some 53) (Op.load 35 (.tmp 5)) _ _ _ _::_) _ _;refine zdl rfl 35 (.tmp 5) rfl (w.heap.size+2) 0 rfl o.cells _ rO Tryz.underlying35 rfl zbr ?_;have ho2:Value.agg o.cells.toArray=ov:=hov;rw [ho2];clear ho2)
 refine CD.mono ?_;rintro e w8 ⟨rfl,y',q1,q2,q3,q4⟩;have G68:=zQ0 (HG.out w8 q4);have G8:=zQ0 (G6.out.trans G68.out);have HQ1:=zQ0 q1;have HQ2:=zQ0 q2;have HQ3:=zQ0 q3;obtain ⟨n0,n1,n2,n3⟩:=(HB5.out.grew G8.out).n;clear q1 q2 q3 q4 CD HG rO;go_wp2_with fail
 refine (PT.out w8 G8.out).mono ?_;rintro e w9 ⟨pa,pc,ls,rfl,g9,hP,_,hlen,hat⟩;have G89:=zQ0 g9;have G9:=zQ0 (G8.out.trans g9);have HP9:=zQ0 hP;have HPAT:=zQ0 hat;clear n0 n1 n2 n3 g9 hP hat PT;go_wp2_with fail
 go_loopw [58] (fun i wr=>∃ (k:Nat),k≤ls.length∧i=.int .i64 k∧Hid (Grew w9 wr)) (fun i _=>ls.length - (intOf i).toNat)
 case atStart=>exact ⟨0,by omega,rfl,zQ0 (Grew.refl _)⟩
 case round =>
  obtain ⟨k,hk1,rfl,hG⟩:=hrel
  by_cases hlt:k < ls.length
  case neg =>
   obtain rfl:k=ls.length:=by omega
   go_wp2_with fail
   go_ret
   exact ⟨rfl,G5.out.trans (G9.out.trans hG.out)⟩
  case pos =>
  obtain ⟨pb,po,rfl,hpb,hpc⟩:=(HP9.out.grew hG.out).at hlt;have hpm:=zbh ls k hlt;have hpI:=(HP9.out.grew hG.out).2 _ hpm;obtain ⟨py,hpy⟩:=HPAT.out _ hpm;generalize ls.getD k default=pp at *;have HPI:=zQ0 (fun w' (g:Grew wr w')=>((IntsIn.grew hpI g zQ1).mono zQ1 g.size:IntsIn w' 0 w'.heap.size pp.a pp.c pp.l));have HPL:Hid (pp.l.length≤262144):=by show _≤_;have h1:=at_depth hpy;have:=HNB.out;omega
  have HLAW:=zQ0 (ghost_law (s:=s.er) (o:=o.er) HNB.out HAP.out hpy);have GR:=zQ0 (G9.out.trans hG.out);have MV:=zQ0 (move_any pp.a pp.c pp.l o wr hpI (HF.out.grew (G5.out.trans GR.out)).ho.1.1 (HF.out.grew (G5.out.trans GR.out)).ho.1.2 (by have:=HPL.out;omega) (by have:=(za4 HFO.out).2.1;have e:o.er.path.length=o.path.l.length:=rfl;omega) (by have:=(za4 HFO.out).2.2;have e:o.er.dest.length=o.dest.l.length:=rfl;omega));unfold OpL.val at MV;rw [hov] at MV;have rO:=(HB5.out.grew GR.out).2.2.1;have HPA:Hid (n.er.at pp.l=some py):=hpy;clear hpm hpI hpy
  go_wp2_with (show wpList _ _ _ (Oper.mk (some 64) (Op.load 35 (.tmp 5)) _ _ _ _::_) _ _;refine zdl rfl 35 (.tmp 5) rfl (w.heap.size+2) 0 rfl o.cells _ rO Tryz.underlying35 rfl zbr ?_;have ho2:Value.agg o.cells.toArray=ov:=hov;rw [ho2];clear ho2)
  refine MV.out.mono ?_;have HLAW:Hid (((zbO pp.l o.path.l o.dest.l o.kind o.pos).2=false→o.kind=2∧(pp.l=o.path.l∨zaf o.path.l pp.l=true))∧((zbO pp.l o.path.l o.dest.l o.kind o.pos).2=true→∃ h h' k,(gh n.er 0).at (if o.kind=3∧pp.l=o.path.l then (zap o.path.l).1 else pp.l)=some h∧(doG o.er (gh n.er 0)).at (zbO pp.l o.path.l o.dest.l o.kind o.pos).1=some h'∧lab h'=lab h∧(zak n.er s.er o.er).1.at (zbO pp.l o.path.l o.dest.l o.kind o.pos).1=some k)):=HLAW.out;generalize zbO pp.l o.path.l o.dest.l o.kind o.pos=mv at *;obtain ⟨mq,ok⟩:=mv;rintro e wA ⟨q,rfl,gA,hq,hqe⟩;have HQI:=zQ0 (fun w' (g:Grew wA w')=>((IntsIn.grew (hq.mono (Nat.zero_le _) zQ1) g zQ1).mono zQ1 g.size:IntsIn w' 0 w'.heap.size q.a q.c q.l));have HQE:Hid (q.l=mq):=hqe.out;have GA:=zQ0 gA;have G6A:=zQ0 (G68.out.trans (G89.out.trans (hG.out.trans gA)));obtain ⟨gy,hgy,_⟩:=like_at (gh_like n.er 0) HPA.out;have hgy':yg.er.at pp.l=some gy:=by rw [HA2.out];exact hgy
  have CF:=za7 yg pp.a pp.c pp.l wA (HA1.out.grew G6A.out).g (HPI.out wA gA) hgy' (by have:=HPL.out;omega);have hl0:=((HA1.out.grew G6A.out).g.sub hgy').own.at.1;have hle:(yg.sub pp.l).ts.headD 0=lab gy:=by rw [← NT.er_ts,NT.sub_er hgy'];rfl
  rw [hle] at hl0;have HGY:Hid ((gh n.er 0).at pp.l=some gy):=hgy;clear MV rO gA hq hqe hgy hgy' hle hpc;go_wp2_with fail
  refine CF.mono ?_;rintro e wB ⟨rfl,e2⟩;rw [e2];clear CF e2;have k0:∀ w',Grew wA w'→w'.cell? ⟨w.heap.size+2,0,none⟩=some (.int .i64 o.kind):=fun w' g=>zcl (HB5.out.grew (GR.out.trans (GA.out.trans g))).2.2.1 (j:=0) rfl;have k1:∀ w',Grew wA w'→w'.cell? ⟨w.heap.size+2,1,none⟩=some (.slice o.path.a o.path.l.length o.path.c):=fun w' g=>zcl (HB5.out.grew (GR.out.trans (GA.out.trans g))).2.2.1 (j:=1) rfl;have HK0:=zQ0 k0;have HK1:=zQ0 k1;clear k0 k1;have HOP:=zQ0 (fun w' (g:Grew wA w')=>(HF.out.grew (G5.out.trans (GR.out.trans (GA.out.trans g)))).ho.1.1);have HOL:Hid (o.path.l.length≤262144):=(za4 HFO.out).2.1;have SM:=zQ0 (fun w' (g:Grew wA w')=>trailSame_any pp.a o.path.a pp.c o.path.c pp.l o.path.l w' 0 w'.heap.size 0 w'.heap.size (HPI.out w' (GA.out.trans g)) (HOP.out w' g) (by have:=HPL.out;omega) (by have:=HOL.out;omega) zQ1 zQ1);have AB:=zQ0 (fun w' (g:Grew wA w')=>above_any o.path.a pp.a o.path.c pp.c o.path.l pp.l w' 0 w'.heap.size 0 w'.heap.size (HOP.out w' g) (HPI.out w' (GA.out.trans g)) (by have:=HOL.out;omega) (by have:=HPL.out;omega) zQ1 zQ1);obtain ⟨c0,c1⟩:wA.cell? ⟨w.heap.size+2,0,none⟩=some (.int .i64 o.kind)∧wA.cell? ⟨w.heap.size+2,1,none⟩=some (.slice o.path.a o.path.l.length o.path.c):=⟨HK0.out wA (Grew.refl _),HK1.out wA (Grew.refl _)⟩
  have HGA:=zQ0 (hG.out.trans GA.out)
  cases ok with
  | false =>
   obtain ⟨hk2,hor⟩:=HLAW.out.1 rfl;have t2:(o.kind != 2)=false:=by rw [hk2];rfl
   clear HLAW hk2
   by_cases hpe:pp.l=o.path.l
   ·have td:decide (pp.l=o.path.l)=true:=by simpa using hpe
    clear hor hpe;go_wp2_with fail
    refine (SM.out wA (Grew.refl _)).mono ?_;rintro e wC ⟨rfl,gC⟩;go_wp2_with fail
    go_roundw
    case rel=>exact ⟨k+1,by omega,by go_num,zQ0 (HGA.out.trans gC)⟩
    case measure=>simp [intOf];omega
   ·have td:decide (pp.l=o.path.l)=false:=by simpa using hpe
    have ta:zaf o.path.l pp.l=true:=hor.resolve_left hpe;clear hor hpe;go_wp2_with fail
    refine (SM.out wA (Grew.refl _)).mono ?_;rintro e wC ⟨rfl,gC⟩;have c1':=HK1.out wC gC;go_wp2_with fail
    refine (AB.out wC gC).mono ?_;rintro e wD ⟨rfl,gD⟩;go_wp2_with fail
    go_roundw
    case rel=>exact ⟨k+1,by omega,by go_num,zQ0 (HGA.out.trans (gC.trans gD))⟩
    case measure=>simp [intOf];omega
  | true =>
   obtain ⟨h,h',kk,z1,z2,z3,z4⟩:=HLAW.out.2 rfl;have z1:(gh n.er 0).at (if o.kind=3∧pp.l=o.path.l then (zap o.path.l).1 else pp.l)=some h:=z1;have z2:(doG o.er (gh n.er 0)).at mq=some h':=z2;have z4:(zak n.er s.er o.er).1.at mq=some kk:=z4;have hatq:y'.er.at q.l=some h':=by rw [HQ3.out,HQE.out];exact z2
   have hxq:x.er.at q.l=some kk:=by rw [HQE.out,← HAX.out];exact z4
   have hql:q.l.length≤1048576:=by have h1:=at_depth hxq;have:=HXX.out;omega
   have hlab:(y'.sub q.l).ts.headD 0=lab h:=by rw [← NT.er_ts,NT.sub_er hatq];exact z3
   have FQ:=zQ0 (fun wT (g:Grew wA wT)=>za7 y' q.a q.c q.l wT (HQ1.out.grew (G89.out.trans (hG.out.trans (GA.out.trans g)))).g (HQI.out wT g) hatq hql);rw [HQ2.out] at FQ
   have HLQ:=zQ0 (fun wT (g:Grew wA wT)=>(by
    have h1:=((HQ1.out.grew (G89.out.trans (hG.out.trans (GA.out.trans g)))).g.sub hatq).own.at.1;rw [hlab] at h1
    exact h1:wT.cell? ⟨(y'.sub q.l).pc,0,none⟩=some (.int .i64 (lab h))))
   have GT:=zQ0 (fun wT (g:Grew wA wT)=>treeGet_any x q.a q.c q.l wT (NT.Ok.grew HX5.out (GR.out.trans (GA.out.trans g))) HXX.out (HQI.out wT g) hql);have HXQ:=zQ0 hxq;have HXC:=zQ0 (fun wT (g:Grew wA wT)=>(HXB.out.grew (GR.out.trans (GA.out.trans g))).x);unfold NT.val at GT;clear HLAW z2 z3 z4 hatq hxq hlab;go_upto_region 19 with fail
   clear hl0
   go_cut [101] (fun s101 wx=>∃ b:Bool,s101=.bool b∧Hid (b=decide (o.kind=3∧pp.l=o.path.l))∧Hid (Grew wA wx))
   case first =>
    by_cases hk3:o.kind=3
    ·have t3:(o.kind == 3)=true:=by simpa using hk3
     have HBB:Hid (decide (pp.l=o.path.l)=decide (o.kind=3∧pp.l=o.path.l)):=by show _=_;simp [hk3]
     clear hk3 z1;generalize decide (o.kind=3∧pp.l=o.path.l)=bb at *;go_wp2_with fail
     refine (SM.out wA (Grew.refl _)).mono ?_;rintro e wC ⟨rfl,gC⟩;have HGC:=zQ0 gC;generalize decide (pp.l=o.path.l)=b2 at *;clear gC;go_wp2_with fail
     go_meet
     exact ⟨b2,rfl,HBB,HGC⟩
    ·have t3:(o.kind == 3)=false:=by simpa using hk3
     have HBB:Hid (false=decide (o.kind=3∧pp.l=o.path.l)):=(decide_eq_false (fun h=>hk3 h.1)).symm;clear hk3 z1;generalize decide (o.kind=3∧pp.l=o.path.l)=bb at *;go_wp2_with fail
     go_meet
     exact ⟨false,rfl,HBB,zQ0 (Grew.refl _)⟩
   case rest =>
   obtain ⟨b101,rfl,hbb,HGC⟩:=hcut;clear c0 c1;obtain ⟨wC,hwC⟩:∃ z,z=wc:=⟨_,rfl⟩
   subst hwC
   go_upto_if 101 with fail
   go_cut [18] (fun s18 wx=>s18=.int .i64 (lab h)∧Hid (Grew wA wx))
   case first =>
    cases b101 with
    | false =>
     have hno:=of_decide_eq_false hbb.out.symm
     obtain rfl:h=gy:=by
      rw [if_neg hno,HGY.out] at z1;injection z1 with z1;exact z1.symm
     clear hno z1 hbb;go_wp2_with fail
     go_meet
     exact ⟨rfl,HGC⟩
    | true =>
     obtain ⟨hk3,hpe⟩:=of_decide_eq_true hbb.out.symm;clear hbb;obtain ⟨up,i,hop,hib,hbk⟩:=merge_path HNB.out HAP.out hk3;have hop:o.path.l=up++[((i+1:Nat):Int)]:=hop;have hbk:(zap o.path.l).1=up++[(i:Int)]:=hbk;rw [if_pos ⟨hk3,hpe⟩,hbk] at z1;have hpp:pp.l=up++[((i+1:Nat):Int)]:=hpe.trans hop;have hul:up.length+1≤262144:=by have h1:=HPL.out;rw [hpp,List.length_append] at h1;exact h1
     have HUL:=zQ0 hul;have HIL:=zQ0 hib;have hgb:yg.er.at (up++[(i:Int)])=some h:=by rw [HA2.out];exact z1
     have FB:=zQ0 (fun wT (a:Option Addr) (c:Nat) (g:Grew wA wT) (hI:IntsIn wT 0 wT.heap.size a c (up++[(i:Int)]))=>za7 yg a c (up++[(i:Int)]) wT (HA1.out.grew (G6A.out.trans g)).g hI hgb (by rw [List.length_append];exact Nat.le_trans hul (by decide)));have hbl:(up++[(i:Int)]).length=up.length+1:=by rw [List.length_append];rfl
     rw [hbl] at FB;have hlb:(yg.sub (up++[(i:Int)])).ts.headD 0=lab h:=by rw [← NT.er_ts,NT.sub_er hgb];rfl
     have HLB:=zQ0 (fun wT (g:Grew wA wT)=>(by
      have h1:=((HA1.out.grew (G6A.out.trans g)).g.sub hgb).own.at.1;rw [hlb] at h1
      exact h1:wT.cell? ⟨(yg.sub (up++[(i:Int)])).pc,0,none⟩=some (.int .i64 (lab h))))
     have HPP:=zQ0 hpp;have hPL:(up++[((i+1:Nat):Int)]).length=up.length+1:=by rw [List.length_append];rfl
     have HPQ:Hid (pp.l.length≤262144):=HPL;have HI2:=zQ0 (HPI.out wC (GA.out.trans HGC.out));clear hk3 z1 hpe hop hbk hgb hlb hbl hul hpp
     go_upto_region 21 with (at_builtin;go_loud (refine zdi (S:=fun _=>False) (B:=wC.heap.size) rfl (.const (.slice none 0 0)) (.tmp 102) rfl (some 103) rfl (.slice none 0 0) [] pp.l rfl Built.nil pp.a pp.c 0 wC.heap.size rfl (numRow HI2.out) (by rw [List.length_nil];have:=HPQ.out;omega) zQ1 ?_);intro v3 w3 hB3 hk3)
     rw [List.nil_append,HPP.out] at hB3;have g3:Grew wC w3:=(Grew.refl _).own hk3 (fun j hj=>absurd hj zbZ);have hown:=hB3.1;rw [zbb] at hown;rw [hPL] at hown;obtain ⟨va,vc,rfl⟩:=zb4 hown;have hrow:=zb0 (f:=fun j _=>.int .i64 ((up++[((i+1:Nat):Int)]).getD j 0)) (by rw [hPL];exact hown) (ints_at (up++[((i+1:Nat):Int)]));have hin:IntsIn w3 wC.heap.size w3.heap.size va vc (up++[((i+1:Nat):Int)]):=hrow.1;obtain ⟨bb,bo,rfl,hb1,hb2,c0⟩:=hin.at (j:=up.length) (by rw [hPL];omega);have f0:=hrow.2 (by rw [hPL];omega) _ rfl (bo+up.length);have hgd:(up++[((i+1:Nat):Int)]).getD up.length 0=((i+1:Nat):Int):=by simp [List.getD]
     rw [hgd] at c0;have hset:(up++[((i+1:Nat):Int)]).set up.length (i:Int)=up++[(i:Int)]:=by simp
     have HS3:=zQ0 ((hin.set (j:=up.length) (by rw [hPL];omega) (i:Int)).mono (Nat.zero_le _) (by rw [World.size_setCell];exact Nat.le_refl _:w3.heap.size≤(w3.setCell ⟨bb,bo+up.length,none⟩ (.int .i64 (i:Int))).heap.size));rw [hset] at HS3;have HG3:=zQ0 (g3.setCell (p:=⟨bb,bo+up.length,none⟩) hb1 (.int .i64 (i:Int)));have hw1:IntKind.i64.wrap (((up.length+1:Nat):Int) - 1)=(up.length:Int):=by have:=HUL.out;rw [IntKind.wrap_i64];omega
     have hw2:IntKind.i64.wrap (((i+1:Nat):Int) - 1)=(i:Int):=by have:=HIL.out;rw [IntKind.wrap_i64];omega
     have hw3:wrap64 (up.length:Int)=(up.length:Int):=by have:=HUL.out;exact zdq (by omega) (by omega)
     have hw4:wrap64 (((i+1:Nat):Int) - 1)=(i:Int):=by have:=HIL.out;rw [show (((i+1:Nat):Int) - 1)=(i:Int) by omega];exact zdq (by omega) (by omega)
     obtain ⟨zi,hzi⟩:∃ z:Int,z=((i+1:Nat):Int):=⟨_,rfl⟩
     rw [← hzi] at c0 hw2 hw4;clear hin hrow hown hB3 hk3 g3 hset hgd hPL hzi;clear hpb hk1 hlt hlen
     go_cut [19] (fun s19 wx=>s19=.slice (some ⟨bb,bo,none⟩) (up.length+1) vc∧wx=w3.setCell ⟨bb,bo+up.length,none⟩ (.int .i64 (i:Int)))
     case first =>
      go_wp2_with fail
      go_meet
      exact ⟨rfl,rfl⟩
     case rest =>
     obtain ⟨rfl,rfl⟩:=hcut;generalize World.setCell w3 _ _=w4 at *;have HGT:Hid (Grew wA w4):=HGC.out.trans HG3.out;have CB:=FB.out w4 _ _ HGT.out HS3.out;have hl0:=HLB.out w4 HGT.out;clear c0 f0;go_wp2_with fail
     refine CB.mono ?_;rintro e wU ⟨rfl,e2⟩;rw [e2];clear CB e2;go_wp2_with fail
     go_meet
     exact ⟨rfl,HGT⟩
   case rest =>
   obtain ⟨rfl,HGT⟩:=hcut;obtain ⟨wT,hwT⟩:∃ z,z=wc:=⟨_,rfl⟩
   subst hwT;have CQ:=FQ.out wT HGT.out;have hq0:=HLQ.out wT HGT.out;generalize lab h=lab0 at *;have tl:(lab0 != lab0)=false:=by simp
   go_wp2_with fail
   refine CQ.mono ?_;rintro e wU2 ⟨rfl,e2⟩;rw [e2];clear CQ e2;obtain ⟨x0,x1,x2,x3⟩:=HXC.out wT HGT.out;have CT:=GT.out wT HGT.out;go_wp2_with fail
   refine CT.mono ?_;rintro e wE ⟨z,ze,rfl,gE,_,hze⟩
   obtain rfl:ze=0:=by
    rcases hze.out with ⟨h1,_⟩ | ⟨_,h2,_⟩
    ·exact h1
    ·rw [HXQ.out] at h2;cases h2
   have HGE:=zQ0 (HGA.out.trans (HGT.out.trans gE));clear x0 x1 x2 x3 CT gE hze hq0 tl;unfold NT.val;have te:((0:Int) != 0)=false:=rfl
   go_wp2_with (show wpList _ _ _ (Oper.mk none (Op.store 26 (.tmp 20) (.tmp 130)) _ _ _ _::_) _ _;refine wpList_store_mid rfl 26 (.tmp 20) (.tmp 130) rfl wE.heap.size 0 z.cells4.toArray rfl rfl (box_thereG _ _) zbp (NT.cells4_all _) ?_;generalize hF:World.setCells _ _ _ _=wF;have HGF:=zQ0 (HGE.out.trans (box_growG hF));clear hF)
   go_roundw
   case rel=>exact ⟨k+1,by omega,by go_num,HGF⟩
   case measure=>simp [intOf];omega
end Go.Proofs.YtbhbekocmpmjfaaGreatDoor
/- WHAT COMES IN, READ AS DATA, LIES IN MEMORY AS A LOCATED TREE, no greater than its bulk. -/
namespace Go.Proofs.YtbhbekocmpmjfaaGreatDoor
open Go Go.RowKit Go.Deep
section
variable {H:Type} {enc:TypeId × Value→H} {P:Program} {w:World} {base:Nat} {spare:Nat→Bool} {held:Bool}
theorem addr_plain {w:World} {a:Addr} {v:Value} (h:w.cell? a=some v):a.spot=none∧a.block < w.heap.size:=by
 unfold World.cell? at h
 split at h
 ·rename_i hb
  split at h
  ·cases h
  ·rename_i hs
   refine ⟨by simpa using hs,?_⟩
   rcases Nat.lt_or_ge a.block w.heap.size with h1 | h1
   ·exact h1
   ·rw [Array.getElem?_eq_none h1] at hb;cases hb
 ·cases h
theorem propsBulk_sum (l:List zac):zcf l=(l.map fun p:zac=>1+p.1.size+p.2.size).sum:=by
 induction l with
 | nil=>rfl
 | cons p r ih=>simp [zcf,ih]
theorem bulkAll_sum (l:List NT):T.bulkAll (l.map NT.er)=(l.map fun n:NT=>n.er.bulk).sum:=by
 induction l with
 | nil=>rfl
 | cons p r ih=>simp [T.bulkAll,ih]
theorem sum_ones (l:List Int):(l.map fun _:Int=>1).sum=l.length:=by
 induction l with
 | nil=>rfl
 | cons p r ih=>rw [List.map_cons,List.sum_cons,ih,List.length_cons];omega
theorem getD_lt {α:Type} [Inhabited α] (l:List α) (i:Nat) (h:i < l.length):l.getD i default=l[i]:=by
 rw [List.getD_eq_getElem?_getD,List.getElem?_eq_getElem h];rfl
theorem open_list {α:Type} [Inhabited α] (cells:α→List Value) (Q:α→DataW H→Prop) {t e:TypeId} {k fuel:Nat} {cs:List Value} {x:DataW H × List MemPlace}
  (ht:P.underlying t=some (.slice e)) (hk:P.cellsOf e=k) (hk0:0 < k)
  (hel:∀ m cs y,m < fuel→DataW.trod enc P w base spare held m e cs=some y→∃ r,cs=cells r∧Q r y.1)
  (h:DataW.trod enc P w base spare held fuel t cs=some x) :
  ∃ (a:Option Addr) (c:Nat) (l:List α) (D:List (DataW H)),cs=[.slice a l.length c]∧((x.1=.nil∧D=[])∨∃ sp,x.1=.slice D sp)∧D.length=l.length ∧
   (∀ i,i < l.length→∃ d,D[i]? = some d∧Q (l.getD i default) d) ∧
   RowIn w 0 w.heap.size a l.length c k (fun i j=>(cells (l.getD i default)).getD j undef):=by
 rcases DataW.trod_slice ht h with ⟨rfl,rfl⟩ | ⟨a,len,cap,elems,rest,n,hf,rfl,rfl,hb,hl,hm,hlen,hel2,_,_⟩
 ·refine ⟨none,0,[],[],rfl,Or.inl ⟨rfl,rfl⟩,rfl,fun i hi=>absurd hi (by simp),⟨⟨fun _=>⟨rfl,rfl⟩,Nat.le_refl _,Nat.zero_le _⟩,fun h=>absurd h (by simp)⟩⟩
 ·have hone:∀ i,i < len→∃ r,w.cells? base (a.add (i * k)) k=some (cells r)∧∃ y,elems[i]? = some y∧Q r y.1:=by
   intro i hi;have h1:=hel2 i hi;rw [hk,List.getElem?_eq_getElem (by omega)] at h1;obtain ⟨cs',h2,h3⟩:=Option.bind_eq_some_iff.1 h1;obtain ⟨r,hr,hq⟩:=hel n cs' _ (by omega) h3;exact ⟨r,by rw [h2,hr],_,List.getElem?_eq_getElem (by omega),hq⟩
  obtain ⟨f,hf2⟩:=choose_lt (α:=α) hone
  have hget:∀ i,i < len→((List.range len).map f).getD i default=f i:=by
   intro i hi;simp [List.getD,hi]
  refine ⟨some a,cap,(List.range len).map f,elems.map (·.1),by simp,Or.inr ⟨_,rfl⟩,by simp [hlen],?_,⟨⟨by simp,by simpa using hl,hm⟩,?_⟩⟩
  ·intro i hi;have hi':i < len:=by simpa using hi
   obtain ⟨_,y,hy,hq⟩:=hf2 i hi';exact ⟨y.1,by simp [hy],by rw [hget i hi'];exact hq⟩
  ·intro hpos;have hpos':0 < len:=by simpa using hpos
   have key:∀ i,i < len→∀ j,j < k→w.cell? ((a.add (i * k)).add j)=some ((cells (f i)).getD j undef):=by
    intro i hi j hj;obtain ⟨hc,_⟩:=hf2 i hi;obtain ⟨_,hln,hall⟩:=World.cells?_some hc;rw [hall j hj,List.getElem?_eq_getElem (by omega)]
    simp [List.getD,List.getElem?_eq_getElem (show j < (cells (f i)).length by omega)]
   have h00:=key 0 hpos' 0 hk0;have hz:(a.add (0 * k)).add 0=a:=by simp [Addr.add]
   rw [hz] at h00;obtain ⟨hsp,hlt⟩:=addr_plain h00;obtain ⟨b,o,sp⟩:=a;simp only at hsp hlt;subst hsp;refine ⟨b,o,rfl,Nat.zero_le _,hlt,fun i hi j hj=>?_⟩;have hi':i < len:=by simpa using hi
   have:=key i hi' j hj;rw [add_add] at this
   show w.cell? _=some ((cells (((List.range len).map f).getD i default)).getD j undef)
   rw [hget i hi',← this];unfold Addr.add
   split
   ·rename_i h0;rw [show o+i * k+j=o by omega]
   ·rw [Nat.add_assoc]
theorem bulkAll_ge {α:Type} [Inhabited α] (f:α→Nat):∀ (l:List α) (D:List (DataW H)),D.length=l.length→(∀ i,i < l.length→∃ d,D[i]? = some d∧f (l.getD i default)≤Rows.uptoBulk d)→(l.map f).sum≤Rows.uptoBulkAll D:=by
 intro l
 induction l with
 | nil=>intro D _ _;simp
 | cons a r ih =>
  intro D hD h
  match D,hD with
  | d::D',hD =>
   obtain ⟨d0,h0,h1⟩:=h 0 (by simp)
   simp at h0
   subst h0
   have h2:=ih D' (by simpa using hD) (fun i hi=>by
    obtain ⟨d1,h3,h4⟩:=h (i+1) (by simpa using hi)
    exact ⟨d1,by simpa using h3,by simpa using h4⟩)
   simp only [List.map_cons,List.sum_cons,Rows.uptoBulkAll];have h1':f a≤Rows.uptoBulk d:=by simpa using h1
   omega
end
theorem cellsProp:Tryz.prog.cellsOf 132=2:=by kernel_rfl
theorem cellsRune:Tryz.prog.cellsOf 21=1:=by kernel_rfl
theorem zaC:Tryz.prog.cellsOf 26=4:=by kernel_rfl
theorem cellsBool:Tryz.prog.cellsOf 4=1:=by kernel_rfl
theorem cellsString:Tryz.prog.cellsOf 9=1:=by kernel_rfl
theorem zaM:Tryz.prog.cellsOf 22=1:=by kernel_rfl
theorem cellsRunes:Tryz.prog.cellsOf 23=1:=by kernel_rfl
theorem cellsNodes:Tryz.prog.cellsOf 24=1:=by kernel_rfl
section
variable {H:Type} {enc:TypeId × Value→H} {w:World} {base:Nat} {spare:Nat→Bool} {held:Bool}
def propCells (p:zac):List Value:=[.string p.1,.string p.2]
set_option maxRecDepth 100000 in
theorem open_prop {m:Nat} {cs:List Value} {y:DataW H × List MemPlace} (h:DataW.trod enc Tryz.prog w base spare held m 132 cs=some y) :
  ∃ p:zac,cs=propCells p∧1+p.1.size+p.2.size≤Rows.uptoBulk y.1:=by
 obtain ⟨xs,n,_,rfl,hlen,hxs,hf⟩:=DataW.trod_struct Tryz.underlying132 h;rw [cellsProp] at hlen
 match cs,hlen with
 | [c0,c1],_ =>
  match xs,hxs with
  | [y0,y1],_ =>
   have h0:DataW.trod enc Tryz.prog w base spare held n 9 [c0]=some y0:=by have:=hf 0 _ rfl;simpa [cellsString] using this
   have h1:DataW.trod enc Tryz.prog w base spare held n 9 [c1]=some y1:=by have:=hf 1 _ rfl;simpa [cellsString] using this
   obtain ⟨s0,e0,rfl,_⟩:=DataW.trod_string Tryz.underlying9 h0;obtain ⟨s1,e1,rfl,_⟩:=DataW.trod_string Tryz.underlying9 h1;simp only [List.cons.injEq,and_true] at e0 e1;subst e0 e1;refine ⟨(s0,s1),rfl,?_⟩;have l0:s0.data.toList.length=s0.size:=by rw [Array.length_toList];rfl
   have l1:s1.data.toList.length=s1.size:=by rw [Array.length_toList];rfl
   simp only [List.map_cons,List.map_nil,Rows.uptoBulk,Rows.uptoBulkAll];omega
theorem open_props {m:Nat} {cs:List Value} {x:DataW H × List MemPlace} (h:DataW.trod enc Tryz.prog w base spare held m 22 cs=some x) :
  ∃ a c ps,cs=[.slice a ps.length c]∧PropsIn w 0 w.heap.size a c ps∧zcf ps≤Rows.uptoBulk x.1:=by
 obtain ⟨a,c,l,D,rfl,hx,hD,hq,hrow⟩:=open_list propCells (fun p d=>1+p.1.size+p.2.size≤Rows.uptoBulk d) Tryz.underlying22 cellsProp (by decide) (fun m cs y _ h=>open_prop h) h;refine ⟨a,c,l,rfl,?_,?_⟩
 ·refine ⟨hrow.1,fun hn=>?_⟩;obtain ⟨b,o,h1,h2,h3,hc⟩:=hrow.2 hn;refine ⟨b,o,h1,h2,h3,fun i hi j hj=>?_⟩;rw [hc i hi j hj]
  match j,hj with
  | 0,_=>rfl
  | 1,_=>rfl
 ·have hs:=bulkAll_ge (fun p:zac=>1+p.1.size+p.2.size) l D hD hq;rw [propsBulk_sum]
  rcases hx with ⟨hx,rfl⟩ | ⟨sp,hx⟩
  ·have:l=[]:=List.length_eq_zero_iff.1 (by simpa using hD.symm);subst this;simp
  ·rw [hx];simp only [Rows.uptoBulk];omega
theorem open_runes {m:Nat} {cs:List Value} {x:DataW H × List MemPlace} (h:DataW.trod enc Tryz.prog w base spare held m 23 cs=some x) :
  ∃ a c ts,cs=[.slice a ts.length c]∧RunesIn w 0 w.heap.size a c ts∧ts.length≤Rows.uptoBulk x.1:=by
 obtain ⟨a,c,l,D,rfl,hx,hD,hq,hrow⟩:=open_list (fun r:Int=>[Value.int .i32 r]) (fun r d=>(-2147483648≤r∧r≤2147483647)∧1≤Rows.uptoBulk d) Tryz.underlying23 cellsRune (by decide) (fun m cs y _ h=>by
  obtain ⟨r,rfl,rfl,hw⟩:=DataW.trod_int Tryz.underlying21 h;refine ⟨r,rfl,?_,by simp [Rows.uptoBulk]⟩;have hmin:IntKind.i32.min=-2147483648:=rfl;have hmax:IntKind.i32.max=2147483647:=rfl;simp only [Lit.wf,Bool.and_eq_true,decide_eq_true_eq] at hw
  omega) h
 refine ⟨a,c,l,rfl,⟨?_,?_⟩,?_⟩
 ·refine ⟨hrow.1,fun hn=>?_⟩;obtain ⟨b,o,h1,h2,h3,hc⟩:=hrow.2 hn;refine ⟨b,o,h1,h2,h3,fun i hi j hj=>?_⟩;rw [hc i hi j hj];obtain rfl:j=0:=by omega
  rfl
 ·intro r hr;obtain ⟨i,hi,rfl⟩:=List.getElem_of_mem hr;obtain ⟨d,_,hd,_⟩:=hq i hi
  simpa [List.getD,List.getElem?_eq_getElem hi] using hd
 ·have hs:=bulkAll_ge (fun _:Int=>1) l D hD (fun i hi=>by obtain ⟨d,h1,_,h3⟩:=hq i hi;exact ⟨d,h1,h3⟩);rw [sum_ones] at hs
  rcases hx with ⟨hx,rfl⟩ | ⟨sp,hx⟩
  ·have:l=[]:=List.length_eq_zero_iff.1 (by simpa using hD.symm);subst this;simp
  ·rw [hx];simp only [Rows.uptoBulk];omega
def nodeCells (n:NT):List Value:=[.bool n.lf,.slice n.pa n.ps.length n.pc,.slice n.ta n.ts.length n.tc,.slice n.ka n.ks.length n.kc]
set_option maxRecDepth 100000 in
theorem open_node (m:Nat):∀ (cs:List Value) (y:DataW H × List MemPlace),DataW.trod enc Tryz.prog w base spare held m 26 cs=some y →
  ∃ n:NT,cs=nodeCells n∧n.Ok w∧n.er.bulk≤Rows.uptoBulk y.1:=by
 induction m using Nat.strongRecOn with
 | ind m ih =>
 intro cs y h;obtain ⟨xs,f,hfu,rfl,hlen,hxs,hf⟩:=DataW.trod_struct Tryz.underlying26 h;rw [zaC] at hlen
 match cs,hlen with
 | [c0,c1,c2,c3],_ =>
  match xs,hxs with
  | [y0,y1,y2,y3],_ =>
   have h0:DataW.trod enc Tryz.prog w base spare held f 4 [c0]=some y0:=by have:=hf 0 _ rfl;simpa [cellsBool] using this
   have h1:DataW.trod enc Tryz.prog w base spare held f 22 [c1]=some y1:=by have:=hf 1 _ rfl;simpa [zaM] using this
   have h2:DataW.trod enc Tryz.prog w base spare held f 23 [c2]=some y2:=by have:=hf 2 _ rfl;simpa [cellsRunes] using this
   have h3:DataW.trod enc Tryz.prog w base spare held f 24 [c3]=some y3:=by have:=hf 3 _ rfl;simpa [cellsNodes] using this
   obtain ⟨lf,e0,rfl⟩:=DataW.trod_bool Tryz.underlying4 h0;obtain ⟨pa,pc,ps,e1,hp,hpb⟩:=open_props h1;obtain ⟨ta,tc,ts,e2,hr,hrb⟩:=open_runes h2;obtain ⟨ka,kc,ks,D,e3,hx,hD,hq,hrow⟩:=open_list nodeCells (fun n d=>n.Ok w∧n.er.bulk≤Rows.uptoBulk d) Tryz.underlying24 zaC (by decide) (fun m' cs y hm' h=>ih m' (by omega) cs y h) h3;simp only [List.cons.injEq,and_true] at e0 e1 e2 e3;subst e0 e1 e2 e3;refine ⟨.mk lf pa pc ps ta tc ts ka kc ks,rfl,NT.Ok.of hp hr ⟨?_,?_⟩,?_⟩
   ·refine ⟨hrow.1,fun hn=>?_⟩;obtain ⟨b,o,h1,h2,h3,hc⟩:=hrow.2 hn;refine ⟨b,o,h1,h2,h3,fun i hi j hj=>?_⟩;refine (hc i hi j hj).trans ?_
    match j,hj with
    | 0,_=>rfl
    | 1,_=>rfl
    | 2,_=>rfl
    | 3,_=>rfl
   ·intro k hk;obtain ⟨i,hi,rfl⟩:=List.getElem_of_mem hk;obtain ⟨d,_,hd,_⟩:=hq i hi;rw [getD_lt ks i hi] at hd;exact hd
   ·have hs:=bulkAll_ge (fun n:NT=>n.er.bulk) ks D hD (fun i hi=>by obtain ⟨d,h1,_,h3⟩:=hq i hi;exact ⟨d,h1,h3⟩)
    have hkb:T.bulkAll (ks.map NT.er)≤Rows.uptoBulk y3.1:=by
     rw [bulkAll_sum]
     rcases hx with ⟨hx,rfl⟩ | ⟨sp,hx⟩
     ·have:ks=[]:=List.length_eq_zero_iff.1 (by simpa using hD.symm);subst this;simp
     ·rw [hx];simp only [Rows.uptoBulk];omega
    rw [NT.er_eq];simp only [T.bulk_eq,T.ps_mk,T.ts_mk,T.ks_mk,NT.ps_mk,NT.ts_mk,NT.ks_mk,List.map_cons,List.map_nil,Rows.uptoBulk,Rows.uptoBulkAll];omega
end
end Go.Proofs.YtbhbekocmpmjfaaGreatDoor
/- A DATUM READ AS A LIST OF ints (a path). -/
namespace Go.Proofs.YtbhbekocmpmjfaaGreatDoor
open Go Go.RowKit Go.ChangeShapes Go.WideShapes Go.ChangeAt
theorem zaB:Tryz.prog.cellsOf 3=1:=by kernel_rfl
section
variable {H:Type} {enc:TypeId × Value→H} {w:World} {base:Nat} {spare:Nat→Bool} {held:Bool}
theorem open_ints {m:Nat} {cs:List Value} {x:DataW H × List MemPlace} (h:DataW.trod enc Tryz.prog w base spare held m 27 cs=some x) :
  ∃ a c ts,cs=[.slice a ts.length c]∧IntsIn w 0 w.heap.size a c ts∧ts.length≤Rows.uptoBulk x.1∧∀ r∈ts,-9223372036854775808≤r∧r≤9223372036854775807:=by
 obtain ⟨a,c,l,D,rfl,hx,hD,hq,hrow⟩:=open_list (fun r:Int=>[Value.int .i64 r]) (fun r d=>(-9223372036854775808≤r∧r≤9223372036854775807)∧1≤Rows.uptoBulk d) Tryz.underlying27 zaB (by decide) (fun m cs y _ h=>by
  obtain ⟨r,rfl,rfl,hw⟩:=DataW.trod_int Tryz.underlying3 h;refine ⟨r,rfl,?_,by simp [Rows.uptoBulk]⟩;have hmin:IntKind.i64.min=-9223372036854775808:=rfl;have hmax:IntKind.i64.max=9223372036854775807:=rfl;simp only [Lit.wf,Bool.and_eq_true,decide_eq_true_eq] at hw
  omega) h
 refine ⟨a,c,l,rfl,?_,?_,?_⟩
 ·refine ⟨hrow.1,fun hn=>?_⟩;obtain ⟨b,o,h1,h2,h3,hc⟩:=hrow.2 hn;refine ⟨b,o,h1,h2,h3,fun i hi j hj=>?_⟩;rw [hc i hi j hj];obtain rfl:j=0:=by omega
  rfl
 ·have hs:=bulkAll_ge (fun _:Int=>1) l D hD (fun i hi=>by obtain ⟨d,h1,_,h3⟩:=hq i hi;exact ⟨d,h1,h3⟩);rw [sum_ones] at hs
  rcases hx with ⟨hx,rfl⟩ | ⟨sp,hx⟩
  ·have:l=[]:=List.length_eq_zero_iff.1 (by simpa using hD.symm);subst this;simp
  ·rw [hx];simp only [Rows.uptoBulk];omega
 ·intro r hr;obtain ⟨i,hi,rfl⟩:=List.getElem_of_mem hr;obtain ⟨d,_,hd,_⟩:=hq i hi
  simpa [List.getD,List.getElem?_eq_getElem hi] using hd
end
end Go.Proofs.YtbhbekocmpmjfaaGreatDoor
/- A DATUM READ AS A POINT. -/
namespace Go.Proofs.YtbhbekocmpmjfaaGreatDoor
open Go Go.RowKit Go.ChangeShapes Go.WideShapes Go.ChangeAt
theorem zaL:Tryz.prog.cellsOf 27=1:=by kernel_rfl
theorem cellsPoint:Tryz.prog.cellsOf 29=2:=by kernel_rfl
theorem cellsRange:Tryz.prog.cellsOf 31=4:=by kernel_rfl
section
variable {H:Type} {enc:TypeId × Value→H} {w:World} {base:Nat} {spare:Nat→Bool} {held:Bool}
set_option maxRecDepth 100000 in
theorem open_intR {m:Nat} {c:Value} {y:DataW H × List MemPlace} (h:DataW.trod enc Tryz.prog w base spare held m 3 [c]=some y):∃ x:Int,c=.int .i64 x:=by
 obtain ⟨s4,e4,_,_⟩:=DataW.trod_int Tryz.underlying3 h;simp only [List.cons.injEq,and_true] at e4;exact ⟨s4,e4⟩
set_option maxRecDepth 100000 in
theorem open_point {m:Nat} {cs:List Value} {y:DataW H × List MemPlace} (h:DataW.trod enc Tryz.prog w base spare held m 29 cs=some y) :
  ∃ p:PtL,cs=[.slice p.p.a p.p.l.length p.p.c,.int .i64 p.o]∧p.In w 0 w.heap.size∧p.p.l.length≤Rows.uptoBulk y.1:=by
 obtain ⟨xs,n,_,rfl,hlen,hxs,hf⟩:=DataW.trod_struct Tryz.underlying29 h;rw [cellsPoint] at hlen
 match cs,hlen with
 | [c0,c1],_ =>
  match xs,hxs with
  | [y0,y1],_ =>
   have h0:DataW.trod enc Tryz.prog w base spare held n 27 [c0]=some y0:=by have:=hf 0 _ rfl;simpa [zaL] using this
   have h1:DataW.trod enc Tryz.prog w base spare held n 3 [c1]=some y1:=by have:=hf 1 _ rfl;simpa [zaB] using this
   obtain ⟨a,c,l,e0,hl,hb,_⟩:=open_ints h0;obtain ⟨o,e1⟩:=open_intR h1;simp only [List.cons.injEq,and_true] at e0;subst e0 e1;refine ⟨⟨⟨a,c,l⟩,o⟩,rfl,hl,?_⟩;simp only [List.map_cons,List.map_nil,Rows.uptoBulk,Rows.uptoBulkAll];omega
end
end Go.Proofs.YtbhbekocmpmjfaaGreatDoor
