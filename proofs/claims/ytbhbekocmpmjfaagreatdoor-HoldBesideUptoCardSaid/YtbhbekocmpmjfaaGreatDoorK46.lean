/- (*redlineref12.Ghost).Do of whatever operation that can be done. -/
import Derived.Test.YtbhbekocmpmjfaaGreatDoorK43
import Derived.Test.YtbhbekocmpmjfaaGreatDoorK45
import Derived.Test.YtbhbekocmpmjfaaGreatDoorK03
import Derived.Test.YtbhbekocmpmjfaaGreatDoorK44
import Derived.Test.YtbhbekocmpmjfaaGreatDoorK36
import Derived.Test.YtbhbekocmpmjfaaGreatDoorK04
import Derived.Test.YtbhbekocmpmjfaaGreatDoorK34
import Derived.Test.YtbhbekocmpmjfaaGreatDoorK35
import Derived.Test.YtbhbekocmpmjfaaGreatDoorK37
import Derived.Test.YtbhbekocmpmjfaaGreatDoorK41
import Derived.Test.YtbhbekocmpmjfaaGreatDoorK01
import Derived.Test.YtbhbekocmpmjfaaGreatDoorRows
import Derived.Deep.Slices
import Derived.OpenShut
import Derived.ProofKit
import Derived.Test.YtbhbekocmpmjfaaGreatDoorK02
set_option maxRecDepth 100000
set_option maxHeartbeats 100000000
namespace Go.Proofs.YtbhbekocmpmjfaaGreatDoor
open Go Go.RowKit
theorem do4_is(x:NT)(n:T)(s:SelE)(o:OpL)(B:Nat)(w:World)(hx:x.GOk w)(hg:like x.er n)(hB:B≤w.heap.size)(ho:o.In w 0 B)(hxB:∀ b∈x.gb,B≤b)(ha:(zak n s o.er).2.2=0)(hnb:n.bulk≤262144)(hop:o.er.path.length≤262144)(h4:o.kind=4) :
  Calls Tryz.prog 19 #[.pointer (some ⟨x.pc,0,none⟩),o.val] w (DoPost x (doG o.er x.er) w):=by
 have hpl:o.path.l.length≤262144:=hop;obtain⟨hm,h⟩:=zal ha;obtain⟨hc,hl,_,hf⟩:=may_ok hm;have h4':o.er.kind=4:=h4
 rcases h with ⟨h9,_,_,_⟩ | ⟨_,hs,_,_⟩
 ·omega
 ·obtain⟨up,i,u,k,a,b,e1,e2,e3,e4,e5,p0,p1,_,e8⟩:=done4 hf h4' hs;have hui:=zaw e2;have huk:=u.ks_bulk;obtain⟨v,h,c,d,g1,g2,g3,g4,g5,g6,g7,g9⟩:=ghost4 h4' hg e1 e2 e4 e5 (by rw[e4,List.length_append] at huk;omega);have e1:o.path.l=up++[(i:Int)]:=e1;have hul:up.length+1≤262144:=by rw[e1,List.length_append] at hpl;exact hpl
  have hse:=NT.sub_er g1;have hkl:(x.sub up).ks.length=v.ks.length:=by rw[← hse,NT.er_ks,List.length_map]
  have hvl:=zbI (like_iff.1 g2).2.2;have hil:i < (x.sub up).ks.length:=by rw[hkl,g3,List.length_append,List.length_cons];omega
  have hkc:=T.chk_ks (T.chk_at hc e2) k (by rw[e4];simp)
  have hkb:k.bulk≤262144:=by
   have:=T.bulk_kid (n:=u) (k:=k) (by rw[e4];simp);omega
  have q1:((x.sub up).ks.getD i default).er=h:=by rw[za2,← NT.er_ks,hse,g3,getD_mid g4]
  obtain⟨b1,b2,b3⟩:=zbH g6 hkb;have t1:((x.sub up).ks.getD i default).ts=h.ts:=by rw[← q1,NT.er_ts]
  have s1:((x.sub up).ks.getD i default).ks.length=h.ks.length:=by rw[← q1,NT.er_ks,List.length_map]
  have hlen:=zbI (like_iff.1 g6).2.2;have p0:0≤o.pos:=p0;have p1:o.pos≤k.len:=p1;obtain⟨q,hq⟩:=Int.eq_ofNat_of_zero_le p0
  have hcase:(q≤((x.sub up).ks.getD i default).ts.tail.length∧((x.sub up).ks.getD i default).ks=[])∨(((x.sub up).ks.getD i default).ks≠[]∧q≤((x.sub up).ks.getD i default).ks.length):=by
   by_cases hke:k.ks=[]
   ·refine .inl ⟨?_,List.eq_nil_of_length_eq_zero (by rw[s1,hlen,hke];rfl)⟩;rw[t1,b3]
    have hkl:k.len=k.ts.length:=by
     unfold T.len
     cases hlf:k.lf with
     | true=>simp
     | false=>have:=T.chk_elem hkc hlf;simp[hke,this]
    omega
   ·have he:k.len=k.ks.length:=by
     unfold T.len
     cases hlf:k.lf with
     | true=>exact absurd (T.chk_leaf hkc hlf) hke
     | false=>simp
    refine .inr ⟨fun hn=>hke (List.eq_nil_of_length_eq_zero (by rw[← hlen,← s1,hn];rfl)),?_⟩;rw[s1,hlen];omega
  refine (do4_any x (x.sub up) o B up i q w hx hB ho hxB h4 e1 g1 rfl hil hq (by omega) (by omega) hcase (by rw[t1];omega) (by rw[s1];omega)).mono (fun e w' hD=>hD.to ?_);have hp:o.er.pos.toNat=q:=by show o.pos.toNat=_;rw[hq];rfl
  rw[g9,hp,hse,q1,g3,(zc4 g4).1,show c++h::d=(c++[h])++d by simp,(zc4 (by simp;omega)).2]
theorem ghost_did{n:NT}{s:SelE}{o:OpL}{y:NT}{w0 w:World}(hy:y.GOk w)(hye:y.er=gh n.er 0)(hB:w0.heap.size≤w.heap.size)(ho:o.In w 0 w0.heap.size)(hyl:∀ b∈y.gb,w0.heap.size≤b)(ha:(zak n.er s o.er).2.2=0)(hnb:n.er.bulk≤262144)(hfo:fewOpE o.er=true) :
  Calls Tryz.prog 19 #[.pointer (some ⟨y.pc,0,none⟩),o.val] w fun e w'=>e=.returned (.tuple #[])∧∃ y':NT,y'.GOk w'∧y'.pc=y.pc∧y'.er=doG o.er (gh n.er 0)∧Keeps (·∈y.gb) w w':=by
 obtain⟨ht,hp,hd⟩:=za5 hfo;have hg:like y.er n.er:=by rw[hye];exact gh_like _ _
 have key:Calls Tryz.prog 19 #[.pointer (some ⟨y.pc,0,none⟩),o.val] w (DoPost y (doG o.er y.er) w):=by
  by_cases h4:o.kind=4
  ·exact do4_is y n.er s o w0.heap.size w hy hg hB ho hyl ha hnb hp h4
  ·exact do_any y n.er s o w0.heap.size w hy hg hB ho hyl ha hnb ht hp hd h4
 refine key.mono ?_;rintro e w' ⟨rfl,y',q1,q2,q3,q4⟩;exact⟨rfl,y',q1,q2,by rw[q3.out,hye],q4⟩
theorem at_depth{k:T}:∀ {q:List Int} {t:T},t.at q=some k→q.length < t.bulk:=by
 intro q
 induction q with
 | nil=>intro t _;exact t.bulk_pos
 | cons i r ih =>
  intro t h;obtain⟨h0,h1,h2⟩:=T.at_of h;have h3:=ih h2;have h4:=T.bulk_kid (n:=t) (k:=t.ks.getD i.toNat default) (zbi t.ks _ (by omega));rw[List.length_cons];omega
def PathsR(w:World)(a:Option Addr)(c:Nat)(ls:List PN):Prop:=RowIn w 0 w.heap.size a ls.length c 1 (fun i _=>(ls.getD i default).val)∧∀ q∈ls,IntsIn w 0 w.heap.size q.a q.c q.l
theorem PathsR.grew{w w':World}{a:Option Addr}{c:Nat}{ls:List PN}(h:PathsR w a c ls)(g:Grew w w'):PathsR w' a c ls :=
 ⟨(RowIn.agree h.1 (g.agree zQ1)).mono zQ1 g.size,fun q hq=>(IntsIn.grew (h.2 q hq) g zQ1).mono zQ1 g.size⟩
theorem PathsR.at{w:World}{a:Option Addr}{c:Nat}{ls:List PN}(h:PathsR w a c ls){i:Nat}(hi:i < ls.length):∃ b o,a=some ⟨b,o,none⟩∧b < w.heap.size∧w.cell? ⟨b,o+i,none⟩=some (.slice (ls.getD i default).a (ls.getD i default).l.length (ls.getD i default).c):=by
 obtain⟨b,o,h1,_,h3,hc⟩:=h.1.2 (by omega);have:=hc i hi 0 (by decide);exact⟨b,o,h1,h3,by simpa [PN.val] using this⟩
theorem ptMove_off{p:PtE}{o:OpE}{aff:Int}(h1:0≤p.o∧p.o≤100)(h2:0≤o.pos∧o.pos≤1048576)(h3:o.text.length≤1048576):(zck p o aff).1.o≤4194304:=by
 have h0:PtE.nil.o=0:=rfl;unfold zck ptGo zcj
 repeat' split
 all_goals (first | (rw[h0];omega) | (dsimp only;omega))
theorem beside_law{n y gy:T}{o:OpE}{p:PtE}{fw:Bool}(hb:n.bulk≤262144)(ha:(zak n SelE.nil o).2.2=0)(hp:n.at p.p=some y)(hlf:y.lf=true)(hgy:(gh n 0).at p.p=some gy)(ho:0≤p.o∧p.o≤100)(htl:o.text.length≤1048576)(h0:¬ zaq gy.ts.tail p.o fw < 0)(hst:0 < (doG o (gh n 0)).tot (fRun (zaq gy.ts.tail p.o fw))) :
  (zck p o (if fw then 1 else 2)).2=true∧∃ h,(doG o (gh n 0)).at (zck p o (if fw then 1 else 2)).1.p=some h∧zaq h.ts.tail (zck p o (if fw then 1 else 2)).1.o fw=zaq gy.ts.tail p.o fw∧-1≤(zck p o (if fw then 1 else 2)).1.o∧(zck p o (if fw then 1 else 2)).1.o≤4611686018427387904:=by
 have hcase:∃ i:Nat,runeAt (if fw then 1 else 2) p.o i∧i < gy.ts.tail.length∧zaq gy.ts.tail p.o fw=gy.ts.tail.getD i 0:=by
  have hno:¬ ((if fw then p.o else p.o - 1) < 0∨(gy.ts.tail.length:Int)≤(if fw then p.o else p.o - 1)):=fun h=>h0 (by unfold zaq;rw[if_pos h];decide)
  cases fw with
  | true =>
   refine⟨p.o.toNat,.inl ⟨rfl,by omega⟩,?_,?_⟩
   ·have:¬ ((gy.ts.tail.length:Int)≤p.o):=fun h=>hno (.inr h);omega
   ·unfold zaq;rw[if_neg hno];rfl
  | false =>
   have h1:¬ (p.o - 1 < 0):=fun h=>hno (.inl h);have h2:¬ ((gy.ts.tail.length:Int)≤p.o - 1):=fun h=>hno (.inr h);refine⟨(p.o - 1).toNat,.inr ⟨rfl,by omega⟩,by omega,?_⟩;unfold zaq;rw[if_neg hno];rfl
 obtain⟨i,hr,hi,he⟩:=hcase;rw[he] at hst ⊢;obtain⟨h1,h,i',h2,h3,h4,h5⟩:=point_law (off:=p.o) (by omega) ha hp hlf hgy ⟨ho.1,by omega⟩ hr hi hst;refine⟨h1,h,h2,?_,?_,?_⟩
 ·rw[← h5];unfold zaq
  cases fw with
  | true =>
   rcases h3 with ⟨_,e⟩ | ⟨e,_⟩
   ·have e:(zck p o (if true=true then 1 else 2)).1.o=i':=e;rw[e,if_neg]
    ·rfl
    ·show ¬ ((i':Int) < 0∨(h.ts.tail.length:Int)≤i')
     omega
   ·exact absurd e (by decide)
  | false =>
   rcases h3 with ⟨e,_⟩ | ⟨_,e⟩
   ·exact absurd e (by decide)
   ·have e:(zck p o (if false=true then 1 else 2)).1.o=i'+1:=e;rw[e,if_neg]
    ·show h.ts.tail.getD ((i':Int)+1 - 1).toNat 0=_
     rw[show ((i':Int)+1 - 1).toNat=i' by omega]
    ·show ¬ ((i':Int)+1 - 1 < 0∨(h.ts.tail.length:Int)≤(i':Int)+1 - 1)
     omega
 ·rcases h3 with ⟨_,e⟩ | ⟨_,e⟩
  ·have e:(zck p o (if fw then 1 else 2)).1.o=i':=e;omega
  ·have e:(zck p o (if fw then 1 else 2)).1.o=i'+1:=e;omega
 ·have:=ptMove_off (aff:=if fw then 1 else 2) ho (op_small (by omega) ha).2.2 htl;omega
theorem holdBeside_any(n:NT)(o:OpL)(p:PtL)(fw:Bool)(w:World)(hf0:Fit n SelL.nil o w)(hp:p.In w 0 w.heap.size)(hpl:p.p.l.length≤1048576) :
  Calls Tryz.prog 8 #[n.val,o.val,.agg #[.slice p.p.a p.p.l.length p.p.c,.int .i64 p.o],.bool fw] w fun e w'=>e=.returned (.bool true)∧Grew w w':=by
 have FN:=zQ0 (fun w1 (g:Grew w w1)=>few_any n w1 100 (hf0.grew g).hn hf0.nb (by omega) (by omega));have FO:=zQ0 (fun w1 (g:Grew w w1)=>few11_any o w1 (hf0.grew g).ho hf0.ob hf0.od hf0.ow);have HF:=zQ0 hf0;have HPI:=zQ0 (fun w1 (g:Grew w w1)=>(IntsIn.mono (IntsIn.grew hp g zQ1) zQ1 g.size:p.In w1 0 w1.heap.size));have HPL:Hid (p.p.l.length≤1048576):=hpl;clear hf0 hp hpl;unfold NT.val OpL.val at *
 go_enter Tryz.func8,Tryz.ntmps8
 go_upto_region 1 with fail
 generalize hW:((w.alloc _).alloc _).alloc _=w1;obtain⟨g1,rN,rO,rP,_,z1⟩:=zav w n.cells4 o.cells [.slice p.p.a p.p.l.length p.p.c,.int .i64 p.o] _ _ _ w1 hW;clear hW
 have KN:=zQ0 (fun(w':World) (g:Grew w1 w')=>(by
  have h:=NT.cells4_at.1 (zco rN g (by omega));unfold NodeAt at h;simp only[Nat.zero_add] at h
  exact h:w'.cell? ⟨w.heap.size,0,none⟩=some (.bool n.lf)∧w'.cell? ⟨w.heap.size,1,none⟩=some (.slice n.pa n.ps.length n.pc)∧w'.cell? ⟨w.heap.size,2,none⟩=some (.slice n.ta n.ts.length n.tc)∧w'.cell? ⟨w.heap.size,3,none⟩=some (.slice n.ka n.ks.length n.kc)))
 have KO:=zQ0 (fun(w':World) (g:Grew w1 w')=>(zco rO g (by omega):w'.rangeAt (w.heap.size+1) 0 o.cells));have KP:=zQ0 (fun(w':World) (g:Grew w1 w')=>(have h:=zco rP g (by omega);⟨zcn h (j:=0) rfl,zcn h (j:=1) rfl⟩:w'.cell? ⟨w.heap.size+2,0,none⟩=some (.slice p.p.a p.p.l.length p.p.c)∧w'.cell? ⟨w.heap.size+2,1,none⟩=some (.int .i64 p.o)));have G1:=zQ0 g1;obtain⟨ov,hov⟩:∃ v,o.val=v:=⟨_,rfl⟩
 unfold OpL.val at hov;rw[hov] at FO;clear rN rO rP g1 z1;go_wp2_with fail
 refine (live14_any w1).mono ?_;rintro e w2 ⟨rfl,g2⟩;have HG2:=zQ0 g2;have G2:=zQ0 (G1.out.trans g2);obtain⟨m0,m1,m2,m3⟩:=KN.out w2 g2;clear g2;go_wp2_with fail
 refine (FN.out w2 G2.out).mono ?_;rintro e w3 ⟨rfl,g3⟩;clear m0 m1 m2 m3;have HG3:=zQ0 (HG2.out.trans g3);have G3:=zQ0 (G2.out.trans g3);clear g3 HG2 G2 FN
 by_cases hfn:few n.er 100=true
 case neg =>
  have hfn:few n.er 100=false:=by simpa using hfn
  rw[hfn];go_wp2_with fail
  go_ret
  exact⟨rfl,G3.out⟩
 case pos =>
 have HFN:Hid (few n.er 100=true):=hfn;rw[hfn];clear hfn;have rO:=KO.out w3 HG3.out
 go_wp2_with (show wpList _ _ _ (Oper.mk (some 28) (Op.load 35 (.tmp 5)) _ _ _ _::_) _ _;refine zdp rfl 35 (.tmp 5) rfl (w.heap.size+1) 0 rfl o.cells _ rO Tryz.underlying35 rfl zbs ?_;have ho2:Value.agg o.cells.toArray=ov:=hov;rw[ho2];clear ho2)
 refine (FO.out w3 G3.out).mono ?_;rintro e w4 ⟨rfl,g4⟩;have HG4:=zQ0 (HG3.out.trans g4);have G4:=zQ0 (G3.out.trans g4);clear g4 HG3 G3 FO rO;obtain⟨k0,k1⟩:=KP.out w4 HG4.out
 by_cases hfo:fewOpE o.er=true
 case neg =>
  have hfo:fewOpE o.er=false:=by simpa using hfo
  rw[hfo];go_wp2_with fail
  go_ret
  exact⟨rfl,G4.out⟩
 case pos =>
 have HFO:Hid (fewOpE o.er=true):=hfo;rw[hfo];clear hfo
 by_cases hl50:50 < p.p.l.length
 case pos =>
  have hll:(50:Int) < (p.p.l.length:Int):=by omega
  go_wp2_with fail
  go_ret
  exact⟨rfl,G4.out⟩
 case neg =>
 have hll:¬ (50:Int) < (p.p.l.length:Int):=by omega
 by_cases hneg:p.o < 0
 case pos =>
  go_wp2_with fail
  go_ret
  exact⟨rfl,G4.out⟩
 case neg =>
 by_cases hbig:100 < p.o
 case pos =>
  go_wp2_with fail
  go_ret
  exact⟨rfl,G4.out⟩
 case neg =>
 have HPO:Hid (0≤p.o∧p.o≤100):=by refine⟨?_,?_⟩ <;> omega
 go_upto_region 5 with fail
 clear hl50 hll hneg hbig k0 k1;have HNB:Hid (n.er.bulk≤262144):=by show _≤_;have:=few_bulk HFN.out;omega
 have AP:=(by
  obtain⟨ht,hp1,hd⟩:=za5 HFO.out
  exact apply_any n SelL.nil o w4 (HF.out.grew G4.out).hn (HF.out.grew G4.out).hs (HF.out.grew G4.out).ho HNB.out ht (by simp[SelL.nil,PtL.nil,PN.nil]) (by simp[SelL.nil,PtL.nil,PN.nil]) hp1 hd:Calls Tryz.prog 15 #[n.val,SelL.nil.val,o.val] w4 (RetApply (zak n.er SelL.nil.er o.er) w4))
 rw[show SelL.nil.er=SelE.nil from rfl] at AP;unfold NT.val OpL.val SelL.val at AP;rw[hov] at AP;have AP:=zQ0 AP;have rO:=KO.out w4 HG4.out;obtain⟨m0,m1,m2,m3⟩:=KN.out w4 HG4.out
 go_wp2_with (show wpList _ _ _ (Oper.mk (some 51) (Op.load 35 (.tmp 5)) _ _ _ _::_) _ _;refine zdp rfl 35 (.tmp 5) rfl (w.heap.size+1) 0 rfl o.cells _ rO Tryz.underlying35 rfl zbs ?_;have ho2:Value.agg o.cells.toArray=ov:=hov;rw[ho2];clear ho2)
 refine AP.out.mono ?_;rintro e w6 ⟨x,t,rfl,g6,hx,ht,hxe,hte⟩;clear m0 m1 m2 m3 rO AP ht hte;have HG6:=zQ0 (HG4.out.trans g6);have G6:=zQ0 (G4.out.trans g6);have HX6:Hid (x.Ok w6):=hx.mono (Nat.zero_le _) zQ1;clear g6 hx HG4 G4;unfold NT.val SelL.val;have HER:Hid ((zak n.er SelE.nil o.er).2.2=(zak n.er SelE.nil o.er).2.2):=rfl;generalize hres:zak n.er SelE.nil o.er=res at *;have HRES:=zQ0 hres;obtain⟨ta,tb,er⟩:=res;clear hres HER
 go_upto_region 6 with (first | (show wpList _ _ _ (Oper.mk none (Op.store 26 (.tmp 9) (.tmp 53)) _ _ _ _::_) _ _;generalize hW:World.alloc (World.alloc w6 _) _=wW;obtain⟨tX,tY⟩:=two_there hW;refine wpList_store_mid rfl 26 (.tmp 9) (.tmp 53) rfl w6.heap.size 0 x.cells4.toArray rfl rfl tX zbq (NT.cells4_all _) ?_;generalize hA:World.setCells wW _ _ _=wa;have tZ:wa.there (w6.heap.size+1) 0 5:=(by rw[← hA];exact World.there_setCells tY _ _ _)) | (show wpList _ _ _ (Oper.mk none (Op.store 33 (.tmp 10) (.tmp 54)) _ _ _ _::_) _ _;refine wpList_store_mid rfl 33 (.tmp 10) (.tmp 54) rfl (w6.heap.size+1) 0 t.cells.toArray rfl rfl tZ zbu (all_oneCell_toArray t.cells_one) ?_;generalize hB:World.setCells wa _ _ _=wb))
 obtain⟨g7,hXB⟩:=put2_new hW hA hB;clear hW hA hB tX tY tZ;have HG7:=zQ0 (HG6.out.trans g7);have G7:=zQ0 (G6.out.trans g7);have HX7:Hid (x.Ok wb):=NT.Ok.grew HX6.out g7;have HXB:=zQ0 hXB;clear g7 hXB HG6 G6 HX6;generalize w6.heap.size=b7 at *;have HXE:Hid (x.er=ta):=hxe.out;clear hxe
 have HXX:Hid (x.er.bulk≤1048576):=by
  show _≤_
  rw[HXE.out];have:=apply_bulk (s:=SelE.nil) HNB.out (za5 HFO.out).1;rw[HRES.out] at this;exact this
 have HXC:=zQ0 (fun w' (g:Grew wb w')=>(HXB.out.grew g).x);clear HXB;have TG:=treeGet_any n p.p.a p.p.c p.p.l wb (HF.out.grew G7.out).hn (by have:=HNB.out;omega) (HPI.out wb G7.out) HPL.out;unfold NT.val at TG;have TG:=zQ0 TG;obtain⟨m0,m1,m2,m3⟩:=KN.out wb HG7.out;obtain⟨k0,k1⟩:=KP.out wb HG7.out;go_wp2_with fail
 refine TG.out.mono ?_;rintro e w8 ⟨z,ze,rfl,g8,_,hze⟩;clear m0 m1 m2 m3 k0 k1 TG;have HG8:=zQ0 (HG7.out.trans g8);have G8:=zQ0 (G7.out.trans g8);have HB8:=zQ0 g8;have HZE:=zQ0 hze.out;clear g8 hze;unfold NT.val;go_upto_region 7 with fail
 generalize hW:World.alloc w8 _=w9;obtain⟨gZ,rZ,_,zZ⟩:=zat w8 z.cells4 _ w9 hW;clear hW;have c0:w9.cell? ⟨w8.heap.size,0,none⟩=some (.bool z.lf):=zcn rZ (j:=0) rfl;have HG9:=zQ0 (HG8.out.trans gZ);have G9:=zQ0 (G8.out.trans gZ);have HB9:=zQ0 (HB8.out.trans gZ);clear rZ gZ zZ HG8 G8 HB8;generalize w8.heap.size=bZ at *
 by_cases her:er=0
 case neg =>
  have t1:(er != 0)=true:=by simpa using her
  have t3:(er == 0)=false:=by simpa using her
  have hno:=apply_no (n:=n.er) (s:=SelE.nil) (o:=o.er) (by rw[HRES.out];exact her);rw[HRES.out] at hno;have RS:=refSame04_any x NT.nil w9 (NT.Ok.grew HX7.out HB9.out) NT.nil_in HXX.out (by rw[zbU];decide);unfold NT.val at RS;rw[show decide (x.er=NT.nil.er)=true by rw[HXE.out,zbU];exact decide_eq_true hno.1] at RS;obtain⟨x0,x1,x2,x3⟩:=HXC.out w9 HB9.out;have RS:=zQ0 RS;clear hno her c0;go_wp2_with fail
  refine RS.out.mono ?_;rintro e wq ⟨rfl,gq⟩;go_wp2_with fail
  go_ret
  exact⟨rfl,G9.out.trans gq⟩
 case pos =>
 subst her
 by_cases hz0:ze=0
 case neg =>
  have t1:(ze != 0)=true:=by simpa using hz0
  clear c0;go_wp2_with fail
  go_ret
  exact⟨rfl,G9.out⟩
 case pos =>
 subst hz0
 have hat:n.er.at p.p.l=some z.er:=by
  rcases HZE.out with ⟨_,h⟩ | ⟨h,_⟩
  ·exact h
  ·cases h
 cases hzl:z.lf with
 | false =>
  rw[hzl] at c0;clear hat hzl;go_wp2_with fail
  go_ret
  exact⟨rfl,G9.out⟩
 | true =>
 rw[hzl] at c0;have HAT:Hid (n.er.at p.p.l=some z.er):=hat;have HLF:Hid (z.er.lf=true):=by show _=_;rw[NT.er_lf];exact hzl
 clear hat hzl HZE;go_upto_region 9 with fail
 clear c0;have HAP:Hid ((zak n.er SelE.nil o.er).2.2=0):=by show _=_;rw[HRES.out]
 have GH:=zQ0 (fun w1 (g:Grew w9 w1)=>ghosts12_any n 0 w1 (HF.out.grew (G9.out.trans g)).hn (by have:=HNB.out;omega) (by omega) (by have:=T.size_le n.er;have:=HNB.out;omega));have DO:=zQ0 (fun(w6:World) (y:NT) (g:Grew w9 w6) (h1:y.GOk w6) (h2:y.er=gh n.er 0) (h3:∀ b∈y.gb,w9.heap.size≤b)=>ghost_did (s:=SelE.nil) (w0:=w) h1 h2 (Nat.le_trans G9.out.size g.size) (HF.out.ho.grew (G9.out.trans g) zQ1) (fun b hb=>Nat.le_trans G9.out.size (h3 b hb)) HAP.out HNB.out HFO.out);unfold NT.val at GH;unfold OpL.val at DO;rw[hov] at DO;obtain⟨m0,m1,m2,m3⟩:=KN.out w9 HG9.out;go_wp2_with fail
 refine (GH.out w9 (Grew.refl _)).mono ?_;rintro e wA ⟨yg,rfl,a1,a2,gA,a3⟩;clear m0 m1 m2 m3;obtain⟨m0,m1,m2,m3⟩:=KN.out wA (HG9.out.trans gA);have HA1:=zQ0 a1;have HA2:Hid (yg.er=gh n.er 0):=a2.out;have GA:=zQ0 gA;clear a1 a2 a3 gA;go_wp2_with fail
 refine (GH.out wA GA.out).mono ?_;rintro e wB ⟨yh,rfl,b1,b2,gB,b3⟩;clear m0 m1 m2 m3;have GB:=zQ0 (GA.out.trans gB);have rO:=KO.out wB (HG9.out.trans GB.out);have CD:=DO.out wB yh GB.out b1 b2.out (fun b hb=>Nat.le_trans GA.out.size (b3 b hb));have HG:=zQ0 (fun(wz:World) (k:Keeps (·∈yh.gb) wB wz)=>gB.keep k (fun b hb=>b3 b hb));clear b1 b2 b3 gB GH DO
 go_wp2_with (show wpList _ _ _ (Oper.mk (some 92) (Op.load 35 (.tmp 5)) _ _ _ _::_) _ _;refine zdp rfl 35 (.tmp 5) rfl (w.heap.size+1) 0 rfl o.cells _ rO Tryz.underlying35 rfl zbs ?_;have ho2:Value.agg o.cells.toArray=ov:=hov;rw[ho2];clear ho2)
 refine CD.mono ?_;rintro e wC ⟨rfl,y',q1,q2,q3,q4⟩;have GAC:=zQ0 (HG.out wC q4);have GC:=zQ0 (GA.out.trans GAC.out);have HQ1:=zQ0 q1;have HQ2:=zQ0 q2;have HQ3:=zQ0 q3;clear q1 q2 q3 q4 CD HG rO;obtain⟨gy,hgy,_⟩:=like_at (gh_like n.er 0) HAT.out;have hgy':yg.er.at p.p.l=some gy:=by rw[HA2.out];exact hgy
 have CB:=beside12_any yg p fw wC (HA1.out.grew GAC.out) (HPI.out wC (G9.out.trans GC.out)) hgy' HPL.out (by have:=HPO.out;omega);have HGY:Hid ((gh n.er 0).at p.p.l=some gy):=hgy;obtain⟨k0,k1⟩:=KP.out wC (HG9.out.trans GC.out);have HLAW:=zQ0 (beside_law (p:=p.er) (fw:=fw) HNB.out HAP.out HAT.out HLF.out HGY.out HPO.out (by have:=(za5 HFO.out).1.2.2.1;omega));have HLAW:Hid (¬ zaq gy.ts.tail p.o fw < 0→0 < (doG o.er (gh n.er 0)).tot (fRun (zaq gy.ts.tail p.o fw))→(zck p.er o.er (if fw then 1 else 2)).2=true∧∃ h,(doG o.er (gh n.er 0)).at (zck p.er o.er (if fw then 1 else 2)).1.p=some h∧zaq h.ts.tail (zck p.er o.er (if fw then 1 else 2)).1.o fw=zaq gy.ts.tail p.o fw∧-1≤(zck p.er o.er (if fw then 1 else 2)).1.o∧(zck p.er o.er (if fw then 1 else 2)).1.o≤4611686018427387904):=HLAW.out;generalize zaq gy.ts.tail p.o fw=lb at *;have CB:=zQ0 CB;clear hgy hgy';go_wp2_with fail
 refine CB.out.mono ?_;rintro e wD ⟨rfl,gD⟩;have GD:=zQ0 (GC.out.trans gD);have GACD:=zQ0 (GAC.out.trans gD);have GCD:=zQ0 gD;clear k0 k1 gD CB;have TH:=there12_any y' lb wD (HQ1.out.grew GCD.out);rw[HQ2.out,HQ3.out] at TH;have TH:=zQ0 TH
 by_cases hl0:lb < 0
 case pos =>
  go_wp2_with fail
  go_ret
  exact⟨rfl,G9.out.trans GD.out⟩
 case neg =>
 by_cases hth:0 < (doG o.er (gh n.er 0)).tot (fRun lb)
 case neg =>
  rw[decide_eq_false hth] at TH;clear hth;go_wp2_with fail
  refine TH.out.mono ?_;rintro e wE ⟨rfl,gE⟩;go_wp2_with fail
  go_ret
  exact⟨rfl,G9.out.trans (GD.out.trans gE)⟩
 case pos =>
 rw[decide_eq_true hth] at TH;obtain⟨hmv,hh⟩:=HLAW.out (by omega) hth;have HHH:=zQ0 hh;have HMV:=zQ0 hmv;clear hh hmv hth HLAW;go_wp2_with fail
 refine TH.out.mono ?_;rintro e wE ⟨rfl,gE⟩;have GE:=zQ0 (GD.out.trans gE);have GCE:=zQ0 (GCD.out.trans gE);clear gE TH;obtain⟨aff,haff⟩:∃ z:Int,z=if fw then 1 else 2:=⟨_,rfl⟩
 rw[← haff] at HHH HMV;have HAF:=zQ0 haff;clear haff
 go_upto_if 106 with fail
 go_cut [19] (fun s19 wx=>s19=.int .i64 aff∧wx=wE)
 case first =>
  cases fw with
  | true =>
   have e:aff=1:=HAF.out;subst e;go_wp2_with fail
   go_meet
   exact⟨rfl,rfl⟩
  | false =>
   have e:aff=2:=HAF.out;subst e;go_wp2_with fail
   go_meet
   exact⟨rfl,rfl⟩
 case rest =>
 obtain⟨rfl,rfl⟩:=hcut;obtain⟨wF,hwF⟩:∃ v,v=wc:=⟨_,rfl⟩
 subst hwF;have PM:=ptMove_any p o aff wF (HPI.out wF (G9.out.trans GE.out)) (HF.out.grew (G9.out.trans GE.out)).ho HPL.out (by have:=(za5 HFO.out).2.1;have e:o.er.path.length=o.path.l.length:=rfl;omega) (by have:=(za5 HFO.out).2.2;have e:o.er.dest.length=o.dest.l.length:=rfl;omega) (by have:=(za5 HFO.out).1.2.2.1;have e:o.er.text.length=o.text.length:=rfl;omega);unfold OpL.val at PM;rw[hov] at PM;generalize zck p.er o.er aff=mv at *;obtain⟨mq,ok⟩:=mv;have PM:=zQ0 PM;have rO:=KO.out wF (HG9.out.trans GE.out);obtain⟨k0,k1⟩:=KP.out wF (HG9.out.trans GE.out);have HOK:Hid (ok=true):=HMV.out
 go_wp2_with (show wpList _ _ _ (Oper.mk (some 109) (Op.load 35 (.tmp 5)) _ _ _ _::_) _ _;refine zdp rfl 35 (.tmp 5) rfl (w.heap.size+1) 0 rfl o.cells _ rO Tryz.underlying35 rfl zbs ?_;have ho2:Value.agg o.cells.toArray=ov:=hov;rw[ho2];clear ho2)
 refine PM.out.mono ?_;rintro e wG ⟨q,rfl,gG,hq,hqe⟩;have HQE:Hid (q.er=mq):=hqe.out;have HQI:=zQ0 (fun w' (g:Grew wG w')=>(IntsIn.mono (IntsIn.grew (IntsIn.mono hq (Nat.zero_le _) zQ1) g zQ1) zQ1 g.size:q.In w' 0 w'.heap.size));have GG:=zQ0 (GE.out.trans gG);have GCG:=zQ0 (GCE.out.trans gG);obtain⟨h,hh,hbe,ho1,ho2⟩:=HHH.out;have hh:(doG o.er (gh n.er 0)).at mq.p=some h:=hh;have hbe:zaq h.ts.tail mq.o fw=lb:=hbe;have ho1:-1≤mq.o:=ho1;have ho2:mq.o≤4611686018427387904:=ho2;rw[HOK.out];clear k0 k1 rO PM gG hq hqe HHH
 have hatq:y'.er.at q.p.l=some h:=by
  have e1:q.p.l=mq.p:=congrArg PtE.p HQE.out;rw[HQ3.out,e1];exact hh
 have hqo:q.o=mq.o:=congrArg PtE.o HQE.out;have hgk:=(HQ1.out.grew GCG.out)
 have hql:q.p.l.length≤1048576:=by
  have e1:q.p.l=mq.p:=congrArg PtE.p HQE.out;obtain⟨k,hk⟩:=ghost_stands (by have:=HNB.out;omega) (gh_like n.er 0) HAP.out hh;have h1:=at_depth hk;have h2:=HXX.out;rw[HXE.out] at h2;rw[HRES.out] at h1;rw[e1];have h3:mq.p.length < ta.bulk:=h1;omega
 have CB:=fun w' (g:Grew wG w')=>beside12_any y' q fw w' (hgk.grew g) (HQI.out w' g) hatq hql (by rw[hqo];omega);rw[hqo,hbe,HQ2.out,← hqo] at CB;have CB:=zQ0 CB;clear hatq hqo hgk hql hh hbe ho1 ho2;go_wp2_with fail
 refine (CB.out _ (Grew.alloc1 _ _)).mono ?_;rintro e wH ⟨rfl,gH⟩;go_wp2_with fail
 go_ret
 exact⟨rfl,G9.out.trans (GG.out.trans ((Grew.alloc1 _ _).trans gH))⟩
end Go.Proofs.YtbhbekocmpmjfaaGreatDoor
namespace Go.Proofs.YtbhbekocmpmjfaaGreatDoor
open Go Go.RowKit Go.Deep
section
variable {H:Type} {enc:TypeId × Value→H} {P:Program} {w:World} {base:Nat} {spare:Nat→Bool} {held:Bool}
theorem addr_plain{w:World}{a:Addr}{v:Value}(h:w.cell? a=some v):a.spot=none∧a.block < w.heap.size:=by
 unfold World.cell? at h
 split at h
 ·rename_i hb
  split at h
  ·cases h
  ·rename_i hs
   refine⟨by simpa using hs,?_⟩
   rcases Nat.lt_or_ge a.block w.heap.size with h1 | h1
   ·exact h1
   ·rw[Array.getElem?_eq_none h1] at hb;cases hb
 ·cases h
theorem propsBulk_sum(l:List zac):zch l=(l.map fun p:zac=>1+p.1.size+p.2.size).sum:=by
 induction l with
 | nil=>rfl
 | cons p r ih=>simp[zch,ih]
theorem bulkAll_sum(l:List NT):T.bulkAll (l.map NT.er)=(l.map fun n:NT=>n.er.bulk).sum:=by
 induction l with
 | nil=>rfl
 | cons p r ih=>simp[T.bulkAll,ih]
theorem sum_ones(l:List Int):(l.map fun _:Int=>1).sum=l.length:=by
 induction l with
 | nil=>rfl
 | cons p r ih=>rw[List.map_cons,List.sum_cons,ih,List.length_cons];omega
theorem getD_lt{α:Type}[Inhabited α](l:List α)(i:Nat)(h:i < l.length):l.getD i default=l[i]:=by
 rw[List.getD_eq_getElem?_getD,List.getElem?_eq_getElem h];rfl
theorem open_list{α:Type}[Inhabited α](cells:α→List Value)(Q:α→DataW H→Prop){t e:TypeId}{k fuel:Nat}{cs:List Value}{x:DataW H × List MemPlace}(ht:P.underlying t=some (.slice e))(hk:P.cellsOf e=k)(hk0:0 < k)(hel:∀ m cs y,m < fuel→DataW.trod enc P w base spare held m e cs=some y→∃ r,cs=cells r∧Q r y.1)(h:DataW.trod enc P w base spare held fuel t cs=some x) :
  ∃(a:Option Addr) (c:Nat) (l:List α) (D:List (DataW H)),cs=[.slice a l.length c]∧((x.1=.nil∧D=[])∨∃ sp,x.1=.slice D sp)∧D.length=l.length ∧
   (∀ i,i < l.length→∃ d,D[i]? = some d∧Q (l.getD i default) d) ∧
   RowIn w 0 w.heap.size a l.length c k (fun i j=>(cells (l.getD i default)).getD j undef):=by
 rcases DataW.trod_slice ht h with ⟨rfl,rfl⟩ | ⟨a,len,cap,elems,rest,n,hf,rfl,rfl,hb,hl,hm,hlen,hel2,_,_⟩
 ·refine⟨none,0,[],[],rfl,Or.inl ⟨rfl,rfl⟩,rfl,fun i hi=>absurd hi (by simp),⟨⟨fun _=>⟨rfl,rfl⟩,Nat.le_refl _,Nat.zero_le _⟩,fun h=>absurd h (by simp)⟩⟩
 ·have hone:∀ i,i < len→∃ r,w.cells? base (a.add (i * k)) k=some (cells r)∧∃ y,elems[i]? = some y∧Q r y.1:=by
   intro i hi;have h1:=hel2 i hi;rw[hk,List.getElem?_eq_getElem (by omega)] at h1;obtain⟨cs',h2,h3⟩:=Option.bind_eq_some_iff.1 h1;obtain⟨r,hr,hq⟩:=hel n cs' _ (by omega) h3;exact⟨r,by rw[h2,hr],_,List.getElem?_eq_getElem (by omega),hq⟩
  obtain⟨f,hf2⟩:=choose_lt (α:=α) hone
  have hget:∀ i,i < len→((List.range len).map f).getD i default=f i:=by
   intro i hi;simp[List.getD,hi]
  refine⟨some a,cap,(List.range len).map f,elems.map (·.1),by simp,Or.inr ⟨_,rfl⟩,by simp[hlen],?_,⟨⟨by simp,by simpa using hl,hm⟩,?_⟩⟩
  ·intro i hi;have hi':i < len:=by simpa using hi
   obtain⟨_,y,hy,hq⟩:=hf2 i hi';exact⟨y.1,by simp[hy],by rw[hget i hi'];exact hq⟩
  ·intro hpos;have hpos':0 < len:=by simpa using hpos
   have key:∀ i,i < len→∀ j,j < k→w.cell? ((a.add (i * k)).add j)=some ((cells (f i)).getD j undef):=by
    intro i hi j hj;obtain⟨hc,_⟩:=hf2 i hi;obtain⟨_,hln,hall⟩:=World.cells?_some hc;rw[hall j hj,List.getElem?_eq_getElem (by omega)]
    simp[List.getD,List.getElem?_eq_getElem (show j < (cells (f i)).length by omega)]
   have h00:=key 0 hpos' 0 hk0;have hz:(a.add (0 * k)).add 0=a:=by simp[Addr.add]
   rw[hz] at h00;obtain⟨hsp,hlt⟩:=addr_plain h00;obtain⟨b,o,sp⟩:=a;simp only at hsp hlt;subst hsp;refine⟨b,o,rfl,Nat.zero_le _,hlt,fun i hi j hj=>?_⟩;have hi':i < len:=by simpa using hi
   have:=key i hi' j hj;rw[add_add] at this
   show w.cell? _=some ((cells (((List.range len).map f).getD i default)).getD j undef)
   rw[hget i hi',← this];unfold Addr.add
   split
   ·rename_i h0;rw[show o+i * k+j=o by omega]
   ·rw[Nat.add_assoc]
theorem bulkAll_ge{α:Type}[Inhabited α](f:α→Nat):∀(l:List α) (D:List (DataW H)),D.length=l.length→(∀ i,i < l.length→∃ d,D[i]? = some d∧f (l.getD i default)≤Rows.uptoBulk d)→(l.map f).sum≤Rows.uptoBulkAll D:=by
 intro l
 induction l with
 | nil=>intro D _ _;simp
 | cons a r ih =>
  intro D hD h
  match D,hD with
  | d::D',hD =>
   obtain⟨d0,h0,h1⟩:=h 0 (by simp)
   simp at h0
   subst h0
   have h2:=ih D' (by simpa using hD) (fun i hi=>by
    obtain⟨d1,h3,h4⟩:=h (i+1) (by simpa using hi)
    exact⟨d1,by simpa using h3,by simpa using h4⟩)
   simp only[List.map_cons,List.sum_cons,Rows.uptoBulkAll];have h1':f a≤Rows.uptoBulk d:=by simpa using h1
   omega
end
theorem cellsProp:Tryz.prog.cellsOf 132=2:=by kernel_rfl
theorem cellsRune:Tryz.prog.cellsOf 21=1:=by kernel_rfl
theorem zaD:Tryz.prog.cellsOf 26=4:=by kernel_rfl
theorem cellsBool:Tryz.prog.cellsOf 4=1:=by kernel_rfl
theorem cellsString:Tryz.prog.cellsOf 9=1:=by kernel_rfl
theorem zaN:Tryz.prog.cellsOf 22=1:=by kernel_rfl
theorem cellsRunes:Tryz.prog.cellsOf 23=1:=by kernel_rfl
theorem cellsNodes:Tryz.prog.cellsOf 24=1:=by kernel_rfl
section
variable {H:Type} {enc:TypeId × Value→H} {w:World} {base:Nat} {spare:Nat→Bool} {held:Bool}
def propCells(p:zac):List Value:=[.string p.1,.string p.2]
theorem open_prop{m:Nat}{cs:List Value}{y:DataW H × List MemPlace}(h:DataW.trod enc Tryz.prog w base spare held m 132 cs=some y) :
  ∃ p:zac,cs=propCells p∧1+p.1.size+p.2.size≤Rows.uptoBulk y.1:=by
 obtain⟨xs,n,_,rfl,hlen,hxs,hf⟩:=DataW.trod_struct Tryz.underlying132 h;rw[cellsProp] at hlen
 match cs,hlen with
 | [c0,c1],_ =>
  match xs,hxs with
  | [y0,y1],_ =>
   have h0:DataW.trod enc Tryz.prog w base spare held n 9 [c0]=some y0:=by have:=hf 0 _ rfl;simpa [cellsString] using this
   have h1:DataW.trod enc Tryz.prog w base spare held n 9 [c1]=some y1:=by have:=hf 1 _ rfl;simpa [cellsString] using this
   obtain⟨s0,e0,rfl,_⟩:=DataW.trod_string Tryz.underlying9 h0;obtain⟨s1,e1,rfl,_⟩:=DataW.trod_string Tryz.underlying9 h1;simp only[List.cons.injEq,and_true] at e0 e1;subst e0 e1;refine⟨(s0,s1),rfl,?_⟩;have l0:s0.data.toList.length=s0.size:=by rw[Array.length_toList];rfl
   have l1:s1.data.toList.length=s1.size:=by rw[Array.length_toList];rfl
   simp only[List.map_cons,List.map_nil,Rows.uptoBulk,Rows.uptoBulkAll];omega
theorem open_props{m:Nat}{cs:List Value}{x:DataW H × List MemPlace}(h:DataW.trod enc Tryz.prog w base spare held m 22 cs=some x) :
  ∃ a c ps,cs=[.slice a ps.length c]∧PropsIn w 0 w.heap.size a c ps∧zch ps≤Rows.uptoBulk x.1:=by
 obtain⟨a,c,l,D,rfl,hx,hD,hq,hrow⟩:=open_list propCells (fun p d=>1+p.1.size+p.2.size≤Rows.uptoBulk d) Tryz.underlying22 cellsProp (by decide) (fun m cs y _ h=>open_prop h) h;refine⟨a,c,l,rfl,?_,?_⟩
 ·refine⟨hrow.1,fun hn=>?_⟩;obtain⟨b,o,h1,h2,h3,hc⟩:=hrow.2 hn;refine⟨b,o,h1,h2,h3,fun i hi j hj=>?_⟩;rw[hc i hi j hj]
  match j,hj with
  | 0,_=>rfl
  | 1,_=>rfl
 ·have hs:=bulkAll_ge (fun p:zac=>1+p.1.size+p.2.size) l D hD hq;rw[propsBulk_sum]
  rcases hx with ⟨hx,rfl⟩ | ⟨sp,hx⟩
  ·have:l=[]:=List.length_eq_zero_iff.1 (by simpa using hD.symm);subst this;simp
  ·rw[hx];simp only[Rows.uptoBulk];omega
theorem open_runes{m:Nat}{cs:List Value}{x:DataW H × List MemPlace}(h:DataW.trod enc Tryz.prog w base spare held m 23 cs=some x) :
  ∃ a c ts,cs=[.slice a ts.length c]∧RunesIn w 0 w.heap.size a c ts∧ts.length≤Rows.uptoBulk x.1:=by
 obtain⟨a,c,l,D,rfl,hx,hD,hq,hrow⟩:=open_list (fun r:Int=>[Value.int .i32 r]) (fun r d=>(-2147483648≤r∧r≤2147483647)∧1≤Rows.uptoBulk d) Tryz.underlying23 cellsRune (by decide) (fun m cs y _ h=>by
  obtain⟨r,rfl,rfl,hw⟩:=DataW.trod_int Tryz.underlying21 h;refine⟨r,rfl,?_,by simp[Rows.uptoBulk]⟩;have hmin:IntKind.i32.min=-2147483648:=rfl;have hmax:IntKind.i32.max=2147483647:=rfl;simp only[Lit.wf,Bool.and_eq_true,decide_eq_true_eq] at hw
  omega) h
 refine⟨a,c,l,rfl,⟨?_,?_⟩,?_⟩
 ·refine⟨hrow.1,fun hn=>?_⟩;obtain⟨b,o,h1,h2,h3,hc⟩:=hrow.2 hn;refine⟨b,o,h1,h2,h3,fun i hi j hj=>?_⟩;rw[hc i hi j hj];obtain rfl:j=0:=by omega
  rfl
 ·intro r hr;obtain⟨i,hi,rfl⟩:=List.getElem_of_mem hr;obtain⟨d,_,hd,_⟩:=hq i hi
  simpa [List.getD,List.getElem?_eq_getElem hi] using hd
 ·have hs:=bulkAll_ge (fun _:Int=>1) l D hD (fun i hi=>by obtain⟨d,h1,_,h3⟩:=hq i hi;exact⟨d,h1,h3⟩);rw[sum_ones] at hs
  rcases hx with ⟨hx,rfl⟩ | ⟨sp,hx⟩
  ·have:l=[]:=List.length_eq_zero_iff.1 (by simpa using hD.symm);subst this;simp
  ·rw[hx];simp only[Rows.uptoBulk];omega
def nodeCells(n:NT):List Value:=[.bool n.lf,.slice n.pa n.ps.length n.pc,.slice n.ta n.ts.length n.tc,.slice n.ka n.ks.length n.kc]
theorem open_node(m:Nat):∀(cs:List Value) (y:DataW H × List MemPlace),DataW.trod enc Tryz.prog w base spare held m 26 cs=some y →
  ∃ n:NT,cs=nodeCells n∧n.Ok w∧n.er.bulk≤Rows.uptoBulk y.1:=by
 induction m using Nat.strongRecOn with
 | ind m ih =>
 intro cs y h;obtain⟨xs,f,hfu,rfl,hlen,hxs,hf⟩:=DataW.trod_struct Tryz.underlying26 h;rw[zaD] at hlen
 match cs,hlen with
 | [c0,c1,c2,c3],_ =>
  match xs,hxs with
  | [y0,y1,y2,y3],_ =>
   have h0:DataW.trod enc Tryz.prog w base spare held f 4 [c0]=some y0:=by have:=hf 0 _ rfl;simpa [cellsBool] using this
   have h1:DataW.trod enc Tryz.prog w base spare held f 22 [c1]=some y1:=by have:=hf 1 _ rfl;simpa [zaN] using this
   have h2:DataW.trod enc Tryz.prog w base spare held f 23 [c2]=some y2:=by have:=hf 2 _ rfl;simpa [cellsRunes] using this
   have h3:DataW.trod enc Tryz.prog w base spare held f 24 [c3]=some y3:=by have:=hf 3 _ rfl;simpa [cellsNodes] using this
   obtain⟨lf,e0,rfl⟩:=DataW.trod_bool Tryz.underlying4 h0;obtain⟨pa,pc,ps,e1,hp,hpb⟩:=open_props h1;obtain⟨ta,tc,ts,e2,hr,hrb⟩:=open_runes h2;obtain⟨ka,kc,ks,D,e3,hx,hD,hq,hrow⟩:=open_list nodeCells (fun n d=>n.Ok w∧n.er.bulk≤Rows.uptoBulk d) Tryz.underlying24 zaD (by decide) (fun m' cs y hm' h=>ih m' (by omega) cs y h) h3;simp only[List.cons.injEq,and_true] at e0 e1 e2 e3;subst e0 e1 e2 e3;refine⟨.mk lf pa pc ps ta tc ts ka kc ks,rfl,NT.Ok.of hp hr ⟨?_,?_⟩,?_⟩
   ·refine⟨hrow.1,fun hn=>?_⟩;obtain⟨b,o,h1,h2,h3,hc⟩:=hrow.2 hn;refine⟨b,o,h1,h2,h3,fun i hi j hj=>?_⟩;refine (hc i hi j hj).trans ?_
    match j,hj with
    | 0,_=>rfl
    | 1,_=>rfl
    | 2,_=>rfl
    | 3,_=>rfl
   ·intro k hk;obtain⟨i,hi,rfl⟩:=List.getElem_of_mem hk;obtain⟨d,_,hd,_⟩:=hq i hi;rw[getD_lt ks i hi] at hd;exact hd
   ·have hs:=bulkAll_ge (fun n:NT=>n.er.bulk) ks D hD (fun i hi=>by obtain⟨d,h1,_,h3⟩:=hq i hi;exact⟨d,h1,h3⟩)
    have hkb:T.bulkAll (ks.map NT.er)≤Rows.uptoBulk y3.1:=by
     rw[bulkAll_sum]
     rcases hx with ⟨hx,rfl⟩ | ⟨sp,hx⟩
     ·have:ks=[]:=List.length_eq_zero_iff.1 (by simpa using hD.symm);subst this;simp
     ·rw[hx];simp only[Rows.uptoBulk];omega
    rw[NT.er_eq];simp only[T.bulk_eq,T.ps_mk,T.ts_mk,T.ks_mk,NT.ps_mk,NT.ts_mk,NT.ks_mk,List.map_cons,List.map_nil,Rows.uptoBulk,Rows.uptoBulkAll];omega
end
end Go.Proofs.YtbhbekocmpmjfaaGreatDoor
namespace Go.Proofs.YtbhbekocmpmjfaaGreatDoor
open Go Go.RowKit Go.ChangeShapes Go.WideShapes Go.ChangeAt
theorem zaC:Tryz.prog.cellsOf 3=1:=by kernel_rfl
section
variable {H:Type} {enc:TypeId × Value→H} {w:World} {base:Nat} {spare:Nat→Bool} {held:Bool}
theorem open_ints{m:Nat}{cs:List Value}{x:DataW H × List MemPlace}(h:DataW.trod enc Tryz.prog w base spare held m 27 cs=some x) :
  ∃ a c ts,cs=[.slice a ts.length c]∧IntsIn w 0 w.heap.size a c ts∧ts.length≤Rows.uptoBulk x.1∧∀ r∈ts,-9223372036854775808≤r∧r≤9223372036854775807:=by
 obtain⟨a,c,l,D,rfl,hx,hD,hq,hrow⟩:=open_list (fun r:Int=>[Value.int .i64 r]) (fun r d=>(-9223372036854775808≤r∧r≤9223372036854775807)∧1≤Rows.uptoBulk d) Tryz.underlying27 zaC (by decide) (fun m cs y _ h=>by
  obtain⟨r,rfl,rfl,hw⟩:=DataW.trod_int Tryz.underlying3 h;refine⟨r,rfl,?_,by simp[Rows.uptoBulk]⟩;have hmin:IntKind.i64.min=-9223372036854775808:=rfl;have hmax:IntKind.i64.max=9223372036854775807:=rfl;simp only[Lit.wf,Bool.and_eq_true,decide_eq_true_eq] at hw
  omega) h
 refine⟨a,c,l,rfl,?_,?_,?_⟩
 ·refine⟨hrow.1,fun hn=>?_⟩;obtain⟨b,o,h1,h2,h3,hc⟩:=hrow.2 hn;refine⟨b,o,h1,h2,h3,fun i hi j hj=>?_⟩;rw[hc i hi j hj];obtain rfl:j=0:=by omega
  rfl
 ·have hs:=bulkAll_ge (fun _:Int=>1) l D hD (fun i hi=>by obtain⟨d,h1,_,h3⟩:=hq i hi;exact⟨d,h1,h3⟩);rw[sum_ones] at hs
  rcases hx with ⟨hx,rfl⟩ | ⟨sp,hx⟩
  ·have:l=[]:=List.length_eq_zero_iff.1 (by simpa using hD.symm);subst this;simp
  ·rw[hx];simp only[Rows.uptoBulk];omega
 ·intro r hr;obtain⟨i,hi,rfl⟩:=List.getElem_of_mem hr;obtain⟨d,_,hd,_⟩:=hq i hi
  simpa [List.getD,List.getElem?_eq_getElem hi] using hd
end
end Go.Proofs.YtbhbekocmpmjfaaGreatDoor
namespace Go.Proofs.YtbhbekocmpmjfaaGreatDoor
open Go Go.RowKit Go.ChangeShapes Go.WideShapes Go.ChangeAt
theorem zaM:Tryz.prog.cellsOf 27=1:=by kernel_rfl
theorem cellsPoint:Tryz.prog.cellsOf 29=2:=by kernel_rfl
theorem cellsRange:Tryz.prog.cellsOf 31=4:=by kernel_rfl
section
variable {H:Type} {enc:TypeId × Value→H} {w:World} {base:Nat} {spare:Nat→Bool} {held:Bool}
theorem open_intR{m:Nat}{c:Value}{y:DataW H × List MemPlace}(h:DataW.trod enc Tryz.prog w base spare held m 3 [c]=some y):∃ x:Int,c=.int .i64 x:=by
 obtain⟨s4,e4,_,_⟩:=DataW.trod_int Tryz.underlying3 h;simp only[List.cons.injEq,and_true] at e4;exact⟨s4,e4⟩
theorem open_point{m:Nat}{cs:List Value}{y:DataW H × List MemPlace}(h:DataW.trod enc Tryz.prog w base spare held m 29 cs=some y) :
  ∃ p:PtL,cs=[.slice p.p.a p.p.l.length p.p.c,.int .i64 p.o]∧p.In w 0 w.heap.size∧p.p.l.length≤Rows.uptoBulk y.1:=by
 obtain⟨xs,n,_,rfl,hlen,hxs,hf⟩:=DataW.trod_struct Tryz.underlying29 h;rw[cellsPoint] at hlen
 match cs,hlen with
 | [c0,c1],_ =>
  match xs,hxs with
  | [y0,y1],_ =>
   have h0:DataW.trod enc Tryz.prog w base spare held n 27 [c0]=some y0:=by have:=hf 0 _ rfl;simpa [zaM] using this
   have h1:DataW.trod enc Tryz.prog w base spare held n 3 [c1]=some y1:=by have:=hf 1 _ rfl;simpa [zaC] using this
   obtain⟨a,c,l,e0,hl,hb,_⟩:=open_ints h0;obtain⟨o,e1⟩:=open_intR h1;simp only[List.cons.injEq,and_true] at e0;subst e0 e1;refine⟨⟨⟨a,c,l⟩,o⟩,rfl,hl,?_⟩;simp only[List.map_cons,List.map_nil,Rows.uptoBulk,Rows.uptoBulkAll];omega
end
end Go.Proofs.YtbhbekocmpmjfaaGreatDoor
