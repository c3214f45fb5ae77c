/- (*redlineref12.Ghost).Do of whatever operation that can be done. -/
import Derived.Test.YtccobobnmpafbaaGreatDoorK44
import Derived.Test.YtccobobnmpafbaaGreatDoorK46
import Derived.Test.YtccobobnmpafbaaGreatDoorK04
import Derived.Test.YtccobobnmpafbaaGreatDoorK45
import Derived.Test.YtccobobnmpafbaaGreatDoorK38
import Derived.Test.YtccobobnmpafbaaGreatDoorK05
import Derived.Test.YtccobobnmpafbaaGreatDoorK35
import Derived.Test.YtccobobnmpafbaaGreatDoorK36
import Derived.Test.YtccobobnmpafbaaGreatDoorK39
import Derived.Test.YtccobobnmpafbaaGreatDoorK37
import Derived.Test.YtccobobnmpafbaaGreatDoorK09
set_option maxRecDepth 100000
set_option maxHeartbeats 100000000
namespace Go.Proofs.YtccobobnmpafbaaGreatDoor
open Go Go.RowKit
theorem do4_is(x:NT)(n:T)(s:SelE)(o:OpL)(B:Nat)(w:World)(hx:x.GOk w)(hg:like x.er n)(hB:B<=w.heap.size)(ho:o.In w 0 B)(hxB:∀ b∈x.gb,B<=b)(ha:(zak n s o.er).2.2=0)(hnb:n.bulk<=262144)(hop:o.er.path.length<=262144)(h4:o.kind=4) :
  Calls Tryz.prog 22 #[.pointer (some ⟨x.pc,0,none⟩),o.val] w (DoPost x (doG o.er x.er) w):=by
 have hpl:o.path.l.length<=262144:=hop;obtain⟨hm,h⟩:=zal ha;obtain⟨hc,hl,_,hf⟩:=may_ok hm;have h4':o.er.kind=4:=h4
 rcases h with ⟨h9,_,_,_⟩ | ⟨_,hs,_,_⟩
 ·omega
 ·obtain⟨up,i,u,k,a,b,e1,e2,e3,e4,e5,p0,p1,_,e8⟩:=done4 hf h4' hs;have hui:=zav e2;have huk:=u.ks_bulk;obtain⟨v,h,c,d,g1,g2,g3,g4,g5,g6,g7,g9⟩:=ghost4 h4' hg e1 e2 e4 e5 (by rw[e4,List.length_append] at huk;omega);have e1:o.path.l=up++[(i:Int)]:=e1;have hul:up.length+1<=262144:=by rw[e1,List.length_append] at hpl;exact hpl
  have hse:=NT.sub_er g1;have hkl:(x.sub up).ks.length=v.ks.length:=by rw[<- hse,NT.er_ks,List.length_map]
  have hvl:=zbK (like_iff.1 g2).2.2;have hil:i < (x.sub up).ks.length:=by rw[hkl,g3,List.length_append,List.length_cons];omega
  have hkc:=T.chk_ks (T.chk_at hc e2) k (by rw[e4];simp)
  have hkb:k.bulk<=262144:=by
   have:=T.bulk_kid (n:=u) (k:=k) (by rw[e4];simp);omega
  have q1:((x.sub up).ks.getD i default).er=h:=by rw[za2,<- NT.er_ks,hse,g3,getD_mid g4]
  obtain⟨b1,b2,b3⟩:=zbJ g6 hkb;have t1:((x.sub up).ks.getD i default).ts=h.ts:=by rw[<- q1,NT.er_ts]
  have s1:((x.sub up).ks.getD i default).ks.length=h.ks.length:=by rw[<- q1,NT.er_ks,List.length_map]
  have hlen:=zbK (like_iff.1 g6).2.2;have p0:0<=o.pos:=p0;have p1:o.pos<=k.len:=p1;obtain⟨q,hq⟩:=Int.eq_ofNat_of_zero_le p0
  have hcase:(q<=((x.sub up).ks.getD i default).ts.tail.length/\((x.sub up).ks.getD i default).ks=[])\/(((x.sub up).ks.getD i default).ks≠[]/\q<=((x.sub up).ks.getD i default).ks.length):=by
   by_cases hke:k.ks=[]
   ·refine .inl ⟨?_,List.eq_nil_of_length_eq_zero (by rw[s1,hlen,hke];rfl)⟩;rw[t1,b3]
    have hkl:k.len=k.ts.length:=by
     unfold T.len
     cases hlf:k.lf with
     | true=>simp
     | false=>have:=T.chk_elem hkc hlf;simp[hke,this]
    omega
   ·have he:k.len=k.ks.length:=by
     unfold T.len
     cases hlf:k.lf with
     | true=>exact absurd (T.chk_leaf hkc hlf) hke
     | false=>simp
    refine .inr ⟨fun hn=>hke (List.eq_nil_of_length_eq_zero (by rw[<- hlen,<- s1,hn];rfl)),?_⟩;rw[s1,hlen];omega
  refine (do4_any x (x.sub up) o B up i q w hx hB ho hxB h4 e1 g1 rfl hil hq (by omega) (by omega) hcase (by rw[t1];omega) (by rw[s1];omega)).mono (fun e w' hD=>hD.to ?_);have hp:o.er.pos.toNat=q:=by show o.pos.toNat=_;rw[hq];rfl
  rw[g9,hp,hse,q1,g3,(zc6 g4).1,show c++h::d=(c++[h])++d by simp,(zc6 (by simp;omega)).2]
theorem ghost_did{n:NT}{s:SelE}{o:OpL}{y:NT}{w0 w:World}(hy:y.GOk w)(hye:y.er=gh n.er 0)(hB:w0.heap.size<=w.heap.size)(ho:o.In w 0 w0.heap.size)(hyl:∀ b∈y.gb,w0.heap.size<=b)(ha:(zak n.er s o.er).2.2=0)(hnb:n.er.bulk<=262144)(hfo:fewOpE o.er=true) :
  Calls Tryz.prog 22 #[.pointer (some ⟨y.pc,0,none⟩),o.val] w fun e w'=>e=.returned (.tuple #[])/\∃ y':NT,y'.GOk w'/\y'.pc=y.pc/\y'.er=doG o.er (gh n.er 0)/\Keeps (·∈y.gb) w w':=by
 obtain⟨ht,hp,hd⟩:=za5 hfo;have hg:like y.er n.er:=by rw[hye];exact gh_like _ _
 have key:Calls Tryz.prog 22 #[.pointer (some ⟨y.pc,0,none⟩),o.val] w (DoPost y (doG o.er y.er) w):=by
  by_cases h4:o.kind=4
  ·exact do4_is y n.er s o w0.heap.size w hy hg hB ho hyl ha hnb hp h4
  ·exact do_any y n.er s o w0.heap.size w hy hg hB ho hyl ha hnb ht hp hd h4
 refine key.mono ?_;rintro e w' ⟨rfl,y',q1,q2,q3,q4⟩;exact⟨rfl,y',q1,q2,by rw[q3.out,hye],q4⟩
theorem mem_pathsAllG(p:List Int)(l:List T):∀(i:Nat) (q:List Int),q∈T.pathsAll p i l->∃ j,j < l.length/\q∈(l.getD j default).paths (p++[((i+j:Nat):Int)]):=by
 induction l with
 | nil=>intro i q h;simp[T.pathsAll] at h
 | cons x r ih =>
  intro i q;rw[T.pathsAll,List.mem_append];rintro (h | h)
  ·exact⟨0,by simp,by simpa using h⟩
  ·obtain⟨j,hj,h⟩:=ih _ _ h;refine⟨j+1,by simpa using hj,?_⟩;rw[show i+(j+1)=i+1+j by omega]
   simpa using h
theorem paths_shiftG(t:T):∀ p q0:List Int,t.paths (p++q0)=(t.paths q0).map (p++·):=by
 induction t using T.ind with
 | h t ih =>
  intro p q0
  have:∀ l:List T,(∀ k∈l,∀ p q0:List Int,k.paths (p++q0)=(k.paths q0).map (p++·))->∀ i,T.pathsAll (p++q0) i l=(T.pathsAll q0 i l).map (p++·):=by
   intro l
   induction l with
   | nil=>intro _ i;rfl
   | cons x r ihr =>
    intro h i;rw[T.pathsAll,T.pathsAll,List.map_append,ihr (fun k hk=>h k (by simp[hk])),List.append_assoc,h x (by simp)]
  rw[T.paths_eq,T.paths_eq,List.map_cons,this t.ks ih]
theorem paths_atG(t:T):∀ q∈t.paths [],∃ k,t.at q=some k:=by
 induction t using T.ind with
 | h t ih =>
  intro q hq;rw[T.paths_eq] at hq
  rcases List.mem_cons.1 hq with rfl | hq
  ·exact⟨t,rfl⟩
  ·obtain⟨j,hj,hq⟩:=mem_pathsAllG [] t.ks 0 q hq;have:=paths_shiftG (t.ks.getD j default) [(j:Int)] [];rw[List.append_nil] at this;rw[List.nil_append,Nat.zero_add,this] at hq;obtain⟨q',hq',rfl⟩:=List.mem_map.1 hq;obtain⟨k,hk⟩:=ih _ (zbi t.ks j hj) q' hq';refine⟨k,?_⟩
   show t.at ((j:Int)::q')=some k
   rw[T.at,if_neg (by omega),Int.toNat_natCast];exact hk
theorem at_depth{k:T}:∀ {q:List Int} {t:T},t.at q=some k->q.length < t.bulk:=by
 intro q
 induction q with
 | nil=>intro t _;exact t.bulk_pos
 | cons i r ih =>
  intro t h;obtain⟨h0,h1,h2⟩:=T.at_of h;have h3:=ih h2;have h4:=T.bulk_kid (n:=t) (k:=t.ks.getD i.toNat default) (zbi t.ks _ (by omega));rw[List.length_cons];omega
def PathsR(w:World)(a:Option Addr)(c:Nat)(ls:List PN):Prop:=RowIn w 0 w.heap.size a ls.length c 1 (fun i _=>(ls.getD i default).val)/\∀ q∈ls,IntsIn w 0 w.heap.size q.a q.c q.l
theorem PathsR.grew{w w':World}{a:Option Addr}{c:Nat}{ls:List PN}(h:PathsR w a c ls)(g:Grew w w'):PathsR w' a c ls :=
 ⟨(RowIn.agree h.1 (g.agree zQ1)).mono zQ1 g.size,fun q hq=>(IntsIn.grew (h.2 q hq) g zQ1).mono zQ1 g.size⟩
theorem PathsR.at{w:World}{a:Option Addr}{c:Nat}{ls:List PN}(h:PathsR w a c ls){i:Nat}(hi:i < ls.length):∃ b o,a=some ⟨b,o,none⟩/\b < w.heap.size/\w.cell? ⟨b,o+i,none⟩=some (.slice (ls.getD i default).a (ls.getD i default).l.length (ls.getD i default).c):=by
 obtain⟨b,o,h1,_,h3,hc⟩:=h.1.2 (by omega);have:=hc i hi 0 (by decide);exact⟨b,o,h1,h3,by simpa [PN.val] using this⟩
theorem treePathsR_any(n:NT)(w:World)(hn:n.Ok w)(hb:n.er.bulk<=1048576) :
  Calls Tryz.prog 24 #[n.val] w fun e w'=>∃(a:Option Addr) (c:Nat) (ls:List PN),e=.returned (.slice a ls.length c)/\Grew w w'/\PathsR w' a c ls/\Hid (ls.map PN.l=n.er.paths [])/\ls.length<=1048576/\∀ q∈ls,∃ k,n.er.at q.l=some k:=by
 refine (treePaths_any n w hn hb).mono ?_;rintro e w' ⟨s,v,ls,O,hs,rfl,g,hI,hL⟩;have hown:=hI.2.2.2.1;obtain⟨a,c,rfl⟩:=zb9 hown
 have hrow:=(zb6 (f:=fun i _=>(ls.getD i default).val) hown (fun i hi j hj=>by
  obtain rfl:j=0:=by omega
  simp[List.getD,List.getElem?_eq_getElem hi])).1
 have hlen:ls.length<=1048576:=by
  have h1:=congrArg List.length hL.out;have h2:=T.paths_le n.er [];rw[List.length_map] at h1;omega
 refine⟨a,c,ls,rfl,g,⟨hrow.mono (Nat.zero_le _) zQ1,fun q hq=>(hI.2.2.2.2.2.2.2 q hq).lies⟩,hL,hlen,fun q hq=>?_⟩;exact paths_atG n.er q.l (by rw[<- hL.out];exact List.mem_map_of_mem hq)
theorem paths_in:∀ {q:List Int} {t k:T},t.at q=some k->q∈t.paths []:=by
 have all:∀(l:List T) (p:List Int) (i j:Nat) (q:List Int),j < l.length->q∈(l.getD j default).paths (p++[((i+j:Nat):Int)])->q∈T.pathsAll p i l:=by
  intro l p
  induction l with
  | nil=>intro i j q h;exact absurd h (Nat.not_lt_zero _)
  | cons x r ih =>
   intro i j q hj hq;rw[T.pathsAll,List.mem_append]
   cases j with
   | zero=>exact .inl (by simpa using hq)
   | succ j =>
    refine .inr (ih (i+1) j q (by simpa using hj) ?_);rw[show i+1+j=i+(j+1) by omega]
    simpa using hq
 intro q
 induction q with
 | nil=>intro t k _;rw[T.paths_eq];exact List.mem_cons_self ..
 | cons i r ih =>
  intro t k h;obtain⟨h0,h1,h2⟩:=T.at_of h;rw[T.paths_eq];refine List.mem_cons_of_mem _ (all t.ks [] 0 i.toNat _ (by omega) ?_);have:=paths_shiftG (t.ks.getD i.toNat default) [i] [];rw[List.append_nil] at this;rw[List.nil_append,Nat.zero_add,Int.toNat_of_nonneg h0,this];exact List.mem_map.2 ⟨r,ih h2,rfl⟩
theorem hold_law{n gy y:T}{o:OpE}{p:List Int}(hb:n.bulk<=262144)(ha:(zak n SelE.nil o).2.2=0)(hp:n.at p=some y)(hgy:(gh n 0).at p=some gy)(ls:List PN)(hls:ls.map PN.l=(zak n SelE.nil o).1.paths []) :
  (∀ k,k < ls.length->∃ h,(doG o (gh n 0)).at (ls.getD k default).l=some h/\(lab h=lab gy->zbT p o.path o.dest o.kind o.pos=((ls.getD k default).l,true))) /\
  ((∀ k,k < ls.length->∀ h,(doG o (gh n 0)).at (ls.getD k default).l=some h->lab h≠lab gy)->(o.kind=3/\p=o.path/\zbT p o.path o.dest o.kind o.pos=((zap o.path).1,true)/\(zap o.path).2=0)\/(o.kind≠3/\(zbT p o.path o.dest o.kind o.pos).2=false)):=by
 obtain⟨h1,h2⟩:=path_law (by omega) ha hp hgy;refine⟨fun k hk=>?_,fun hno=>h2 fun q z h hq hh=>?_⟩
 ·have hm:(ls.getD k default).l∈(zak n SelE.nil o).1.paths []:=by rw[<- hls];exact List.mem_map_of_mem (zbi ls k hk)
  obtain⟨z,hz⟩:=paths_atG _ _ hm;exact h1 _ z hz
 ·have hm:=paths_in hq;rw[<- hls] at hm;obtain⟨x,hx,rfl⟩:=List.mem_map.1 hm;obtain⟨k,hk,e⟩:=List.getElem_of_mem hx;have e2:ls.getD k default=x:=by simp[List.getD,List.getElem?_eq_getElem hk,e]
  exact hno k hk h (by rw[e2];exact hh)
theorem check_path(t:T)(r:RefE)(h1:r.kind=1)(h2:r.aff=0)(h3:r.pt=PtE.nil)(h4:r.a=PtE.nil)(h5:r.f=PtE.nil):checkRef t r=match t.at r.path with | none=>5 | some _=>0:=by
 unfold checkRef;rw[h1,h2,h3,h4,h5];have e1:zcO PtE.nil PtE.nil=true:=by decide
 have e2:emptyR PtE.nil PtE.nil=true:=by decide
 rw[e1,e2];rw[if_neg (by simp[refBad,refIs,refMost])];unfold refMay;rw[h1]
 rfl
def refOf(a:Option Addr)(c:Nat)(l:List Int):RefL:=⟨1,1,0,true,⟨a,c,l⟩,PtL.nil,PtL.nil,PtL.nil⟩
theorem holdPath_any(n:NT)(o:OpL)(a:Option Addr)(c:Nat)(l:List Int)(w:World)(hf0:Fit n SelL.nil o w)(hp:IntsIn w 0 w.heap.size a c l)(hpl:l.length<=1048576) :
  Calls Tryz.prog 5 #[n.val,o.val,.slice a l.length c] w fun e w'=>e=.returned (.bool true)/\Grew w w':=by
 have FN:=zQ0 (fun w1 (g:Grew w w1)=>few_any n w1 100 (hf0.grew g).hn hf0.nb (by omega) (by omega));have FO:=zQ0 (fun w1 (g:Grew w w1)=>few11_any o w1 (hf0.grew g).ho hf0.ob hf0.od hf0.ow);have HF:=zQ0 hf0;have HPI:=zQ0 (fun w1 (g:Grew w w1)=>((IntsIn.grew hp g zQ1).mono zQ1 g.size:IntsIn w1 0 w1.heap.size a c l));have HPL:Hid (l.length<=1048576):=hpl;clear hf0 hp hpl;unfold NT.val OpL.val at *
 go_enter Tryz.func5,Tryz.ntmps5
 go_upto_region 1 with fail
 generalize hW:(w.alloc _).alloc _=w1;obtain⟨g1,rN,_,rO,_,z1⟩:=zat w n.cells4 o.cells _ _ w1 hW;clear hW
 have KN:=zQ0 (fun(w':World) (g:Grew w1 w')=>(by
  have h:=NT.cells4_at.1 (zcq rN g (by omega));unfold NodeAt at h;simp only[Nat.zero_add] at h
  exact h:w'.cell? ⟨w.heap.size,0,none⟩=some (.bool n.lf)/\w'.cell? ⟨w.heap.size,1,none⟩=some (.slice n.pa n.ps.length n.pc)/\w'.cell? ⟨w.heap.size,2,none⟩=some (.slice n.ta n.ts.length n.tc)/\w'.cell? ⟨w.heap.size,3,none⟩=some (.slice n.ka n.ks.length n.kc)))
 have KO:=zQ0 (fun(w':World) (g:Grew w1 w')=>(zcq rO g (by omega):w'.rangeAt (w.heap.size+1) 0 o.cells));have G1:=zQ0 g1;obtain⟨ov,hov⟩:∃ v,o.val=v:=⟨_,rfl⟩
 unfold OpL.val at hov;rw[hov] at FO;clear rN rO g1 z1;go_wp2_with fail
 refine (live14_any w1).mono ?_;rintro e w2 ⟨rfl,g2⟩;have HG2:=zQ0 g2;have G2:=zQ0 (G1.out.trans g2);obtain⟨m0,m1,m2,m3⟩:=KN.out w2 g2;clear g2;go_wp2_with fail
 refine (FN.out w2 G2.out).mono ?_;rintro e w3 ⟨rfl,g3⟩;clear m0 m1 m2 m3;have HG3:=zQ0 (HG2.out.trans g3);have G3:=zQ0 (G2.out.trans g3);clear g3 HG2 G2 FN
 by_cases hfn:few n.er 100=true
 case neg =>
  have hfn:few n.er 100=false:=by simpa using hfn
  rw[hfn];go_wp2_with fail
  go_ret
  exact⟨rfl,G3.out⟩
 case pos =>
 have HFN:Hid (few n.er 100=true):=hfn;rw[hfn];clear hfn;have rO:=KO.out w3 HG3.out
 go_wp2_with (show wpList _ _ _ (Oper.mk (some 28) (Op.load 35 (.tmp 4)) _ _ _ _::_) _ _;refine zds rfl 35 (.tmp 4) rfl (w.heap.size+1) 0 rfl o.cells _ rO Tryz.underlying35 rfl zbt ?_;have ho2:Value.agg o.cells.toArray=ov:=hov;rw[ho2];clear ho2)
 refine (FO.out w3 G3.out).mono ?_;rintro e w4 ⟨rfl,g4⟩;have HG4:=zQ0 (HG3.out.trans g4);have G4:=zQ0 (G3.out.trans g4);clear g4 HG3 G3 FO rO
 by_cases hfo:fewOpE o.er=true
 case neg =>
  have hfo:fewOpE o.er=false:=by simpa using hfo
  rw[hfo];go_wp2_with fail
  go_ret
  exact⟨rfl,G4.out⟩
 case pos =>
 have HFO:Hid (fewOpE o.er=true):=hfo;rw[hfo];clear hfo
 by_cases hl50:50 < l.length
 case pos =>
  have tl:decide ((50:Int) < (l.length:Int))=true:=decide_eq_true (by omega);go_wp2_with fail
  go_ret
  exact⟨rfl,G4.out⟩
 case neg =>
 have HL50:Hid (l.length<=50):=Nat.not_lt.1 hl50;have tl:decide ((50:Int) < (l.length:Int))=false:=decide_eq_false (by omega);have hll:¬ (50:Int) < (l.length:Int):=by omega
 clear hl50;have hr0:Hid ((refOf a c l).val=.agg #[.int .i64 1,.int .i64 1,.int .i64 0,.bool true,.slice a l.length c,.slice none 0 0,.int .i64 0,.slice none 0 0,.int .i64 0,.slice none 0 0,.int .i64 0]):=rfl;go_upto_region 6 with fail
 generalize hW:World.alloc w4 _=w5;obtain⟨gR,rR,_,zR⟩:=zas w4 (refOf a c l).cells _ w5 hW;have zR:w4.heap.size < w5.heap.size:=by omega
 clear hW tl hll;generalize w4.heap.size=bR at *;obtain⟨r0,hr0e⟩:∃ r,r=refOf a c l:=⟨_,rfl⟩
 rw[<- hr0e] at rR;have HR0:Hid (r0=refOf a c l):=hr0e;clear hr0 hr0e;have KR:=zQ0 (fun(w':World) (g:Grew w5 w')=>(zcq rR g (by omega):w'.rangeAt bR 0 r0.cells));have HG5:=zQ0 (HG4.out.trans gR);have G5:=zQ0 (G4.out.trans gR);clear rR gR zR HG4 G4;have HNB:Hid (n.er.bulk<=262144):=by show _<=_;have:=few_bulk HFN.out;omega
 have AP:=(by
  obtain⟨ht,hp1,hd⟩:=za5 HFO.out
  exact apply_any n SelL.nil o w5 (HF.out.grew G5.out).hn (HF.out.grew G5.out).hs (HF.out.grew G5.out).ho HNB.out ht (by simp[SelL.nil,PtL.nil,PN.nil]) (by simp[SelL.nil,PtL.nil,PN.nil]) hp1 hd:Calls Tryz.prog 9 #[n.val,SelL.nil.val,o.val] w5 (RetApply (zak n.er SelL.nil.er o.er) w5))
 rw[show SelL.nil.er=SelE.nil from rfl] at AP;unfold NT.val OpL.val SelL.val at AP;rw[hov] at AP;have AP:=zQ0 AP;have rO:=KO.out w5 HG5.out;obtain⟨m0,m1,m2,m3⟩:=KN.out w5 HG5.out
 go_wp2_with (show wpList _ _ _ (Oper.mk (some 42) (Op.load 35 (.tmp 4)) _ _ _ _::_) _ _;refine zds rfl 35 (.tmp 4) rfl (w.heap.size+1) 0 rfl o.cells _ rO Tryz.underlying35 rfl zbt ?_;have ho2:Value.agg o.cells.toArray=ov:=hov;rw[ho2];clear ho2)
 refine AP.out.mono ?_;rintro e w6 ⟨x,t,rfl,g6,hx,ht,hxe,hte⟩;clear m0 m1 m2 m3 rO AP ht hte;have HG6:=zQ0 (HG5.out.trans g6);have HR6:=zQ0 g6;have G6:=zQ0 (G5.out.trans g6);have HX6:Hid (x.Ok w6):=hx.mono (Nat.zero_le _) zQ1;clear g6 hx HG5 G5;unfold NT.val SelL.val;have HER:Hid ((zak n.er SelE.nil o.er).2.2=(zak n.er SelE.nil o.er).2.2):=rfl;generalize hres:zak n.er SelE.nil o.er=res at *;have HRES:=zQ0 hres;obtain⟨ta,tb,er⟩:=res;clear hres HER
 go_upto_region 7 with (first | (show wpList _ _ _ (Oper.mk none (Op.store 26 (.tmp 8) (.tmp 44)) _ _ _ _::_) _ _;generalize hW:World.alloc (World.alloc w6 _) _=wW;obtain⟨tX,tY⟩:=two_there hW;refine wpList_store_mid rfl 26 (.tmp 8) (.tmp 44) rfl w6.heap.size 0 x.cells4.toArray rfl rfl tX zbr (NT.cells4_all _) ?_;generalize hA:World.setCells wW _ _ _=wa;have tZ:wa.there (w6.heap.size+1) 0 5:=(by rw[<- hA];exact World.there_setCells tY _ _ _)) | (show wpList _ _ _ (Oper.mk none (Op.store 33 (.tmp 9) (.tmp 45)) _ _ _ _::_) _ _;refine wpList_store_mid rfl 33 (.tmp 9) (.tmp 45) rfl (w6.heap.size+1) 0 t.cells.toArray rfl rfl tZ zbv (all_oneCell_toArray t.cells_one) ?_;generalize hB:World.setCells wa _ _ _=wb))
 obtain⟨g7,hXB⟩:=put2_new hW hA hB;clear hW hA hB tX tY tZ;have HG7:=zQ0 (HG6.out.trans g7);have HR7:=zQ0 (HR6.out.trans g7);have G7:=zQ0 (G6.out.trans g7);have HX7:Hid (x.Ok wb):=NT.Ok.grew HX6.out g7;have HXB:=zQ0 hXB;clear g7 hXB HG6 G6 HX6 HR6;generalize w6.heap.size=b7 at *;have HXE:Hid (x.er=ta):=hxe.out;clear hxe
 have HXX:Hid (x.er.bulk<=1048576):=by
  show _<=_
  rw[HXE.out];have:=apply_bulk (s:=SelE.nil) HNB.out (za5 HFO.out).1;rw[HRES.out] at this;exact this
 have HXC:=zQ0 (fun w' (g:Grew wb w')=>(HXB.out.grew g).x);clear HXB
 by_cases her:er=0
 case neg =>
  have t1:(er != 0)=true:=by simpa using her
  have t3:(er == 0)=false:=by simpa using her
  have hno:=apply_no (n:=n.er) (s:=SelE.nil) (o:=o.er) (by rw[HRES.out];exact her);rw[HRES.out] at hno;have RS:=refSame04_any x NT.nil wb HX7.out NT.nil_in HXX.out (by rw[zbW];decide);unfold NT.val at RS;rw[show decide (x.er=NT.nil.er)=true by rw[HXE.out,zbW];exact decide_eq_true hno.1] at RS;obtain⟨x0,x1,x2,x3⟩:=HXC.out wb (Grew.refl _);have RS:=zQ0 RS;clear hno her;go_wp2_with fail
  refine RS.out.mono ?_;rintro e w8 ⟨rfl,g8⟩;go_wp2_with fail
  go_ret
  exact⟨rfl,G7.out.trans g8⟩
 case pos =>
 subst her;have HAP:Hid ((zak n.er SelE.nil o.er).2.2=0):=by show _=_;rw[HRES.out]
 have HAX:Hid ((zak n.er SelE.nil o.er).1=x.er):=by show _=_;rw[HRES.out,HXE.out]
 have hrin:∀ w',Grew wb w'->r0.In w' 0 w'.heap.size:=fun w' g=>by rw[HR0.out];exact⟨HPI.out w' (G7.out.trans g),zby,zby,zby⟩
 have hrsm:r0.er.Small:=by rw[HR0.out];refine⟨HPL.out,?_,?_,?_⟩ <;> simp[refOf,RefL.er,PtL.er,PtL.nil,PN.nil]
 have CK:=holdCheckPath_any n r0 wb (by rw[HR0.out];rfl) (HF.out.grew G7.out).hn (by have:=HNB.out;omega) (hrin wb (Grew.refl _)) hrsm;have hck:=check_path n.er r0.er (by rw[HR0.out];rfl) (by rw[HR0.out];rfl) (by rw[HR0.out];rfl) (by rw[HR0.out];rfl) (by rw[HR0.out];rfl);rw[show r0.er.path=l by rw[HR0.out];rfl] at hck;rw[hck] at CK;unfold NT.val at CK;have HRI:=zQ0 hrin;have HRS:=zQ0 hrsm;clear hck hrin hrsm;have rR:=KR.out wb HR7.out;obtain⟨m0,m1,m2,m3⟩:=KN.out wb HG7.out;have hrv:Value.agg r0.cells.toArray=r0.val:=rfl
 cases hat:n.er.at l with
 | none =>
  rw[hat] at CK;have CK:=zQ0 CK;clear hat
  go_wp2_with (show wpList _ _ _ (Oper.mk (some 51) (Op.load 46 (.tmp 7)) _ _ _ _::_) _ _;refine zds rfl 46 (.tmp 7) rfl bR 0 rfl (RefL.cells r0) _ rR Tryz.underlying46 rfl zbu ?_)
  refine CK.out.mono ?_;rintro e w8 ⟨rfl,g8⟩;go_wp2_with fail
  go_ret
  exact⟨rfl,G7.out.trans g8⟩
 | some y =>
 rw[hat] at CK;have CK:=zQ0 CK;have HAT:Hid (n.er.at l=some y):=hat;clear hat
 go_wp2_with (show wpList _ _ _ (Oper.mk (some 51) (Op.load 46 (.tmp 7)) _ _ _ _::_) _ _;refine zds rfl 46 (.tmp 7) rfl bR 0 rfl (RefL.cells r0) _ rR Tryz.underlying46 rfl zbu ?_)
 refine CK.out.mono ?_;rintro e w8 ⟨rfl,g8⟩;have HG8:=zQ0 (HG7.out.trans g8);have HR8:=zQ0 (HR7.out.trans g8);have G8:=zQ0 (G7.out.trans g8);have HB8:=zQ0 g8;clear g8 m0 m1 m2 m3 rR CK HG7 HR7 hrv;have GH:=zQ0 (fun w1 (g:Grew w8 w1)=>ghosts12_any n 0 w1 (HF.out.grew (G8.out.trans g)).hn (by have:=HNB.out;omega) (by omega) (by have:=T.size_le n.er;have:=HNB.out;omega));have DO:=zQ0 (fun(w6:World) (y:NT) (g:Grew w8 w6) (h1:y.GOk w6) (h2:y.er=gh n.er 0) (h3:∀ b∈y.gb,w8.heap.size<=b)=>ghost_did (s:=SelE.nil) (w0:=w) h1 h2 (Nat.le_trans G8.out.size g.size) (HF.out.ho.grew (G8.out.trans g) zQ1) (fun b hb=>Nat.le_trans G8.out.size (h3 b hb)) HAP.out HNB.out HFO.out);unfold NT.val at GH;unfold OpL.val at DO;rw[hov] at DO;obtain⟨m0,m1,m2,m3⟩:=KN.out w8 HG8.out;go_wp2_with fail
 refine (GH.out w8 (Grew.refl _)).mono ?_;rintro e w9 ⟨yg,rfl,a1,a2,g9,a3⟩;clear m0 m1 m2 m3;obtain⟨m0,m1,m2,m3⟩:=KN.out w9 (HG8.out.trans g9);have HA1:=zQ0 a1;have HA2:Hid (yg.er=gh n.er 0):=a2.out;have GA:=zQ0 g9;clear a1 a2 a3 g9;go_wp2_with fail
 refine (GH.out w9 GA.out).mono ?_;rintro e wA ⟨yh,rfl,b1,b2,gA,b3⟩;clear m0 m1 m2 m3;have GB:=zQ0 (GA.out.trans gA);have rO:=KO.out wA (HG8.out.trans GB.out);have CD:=DO.out wA yh GB.out b1 b2.out (fun b hb=>Nat.le_trans GA.out.size (b3 b hb));have HG:=zQ0 (fun(wz:World) (k:Keeps (·∈yh.gb) wA wz)=>gA.keep k (fun b hb=>b3 b hb));clear b1 b2 b3 gA GH DO
 go_wp2_with (show wpList _ _ _ (Oper.mk (some 73) (Op.load 35 (.tmp 4)) _ _ _ _::_) _ _;refine zds rfl 35 (.tmp 4) rfl (w.heap.size+1) 0 rfl o.cells _ rO Tryz.underlying35 rfl zbt ?_;have ho2:Value.agg o.cells.toArray=ov:=hov;rw[ho2];clear ho2)
 refine CD.mono ?_;rintro e wC ⟨rfl,y',q1,q2,q3,q4⟩;have GAC:=zQ0 (HG.out wC q4);have GC:=zQ0 (GA.out.trans GAC.out);have HQ1:=zQ0 q1;have HQ2:=zQ0 q2;have HQ3:=zQ0 q3;clear q1 q2 q3 q4 CD HG rO;obtain⟨gy,hgy,_⟩:=like_at (gh_like n.er 0) HAT.out;have hgy':yg.er.at l=some gy:=by rw[HA2.out];exact hgy
 have CF:=za8 yg a c l wC (HA1.out.grew GAC.out).g (HPI.out wC (G8.out.trans GC.out)) hgy' HPL.out;have hl0:=((HA1.out.grew GAC.out).g.sub hgy').own.at.1;have hle:(yg.sub l).ts.headD 0=lab gy:=by rw[<- NT.er_ts,NT.sub_er hgy'];rfl
 rw[hle] at hl0;have HGY:Hid ((gh n.er 0).at l=some gy):=hgy;clear hgy hgy' hle;go_wp2_with fail
 refine CF.mono ?_;rintro e wD ⟨rfl,e2⟩;rw[e2];clear CF e2;go_upto_region 13 with fail
 clear hl0;have HLAW:=zQ0 (fun(ls:List PN) (hls:ls.map PN.l=x.er.paths [])=>hold_law (o:=o.er) HNB.out HAP.out HAT.out HGY.out ls (by rw[HAX.out];exact hls))
 have HLAW:Hid (∀(ls:List PN),ls.map PN.l=x.er.paths []->(∀ k,k < ls.length->∃ h,(doG o.er (gh n.er 0)).at (ls.getD k default).l=some h/\(lab h=lab gy->zbT l o.path.l o.dest.l o.kind o.pos=((ls.getD k default).l,true))) /\
  ((∀ k,k < ls.length->∀ h,(doG o.er (gh n.er 0)).at (ls.getD k default).l=some h->lab h≠lab gy)->(o.kind=3/\l=o.path.l/\zbT l o.path.l o.dest.l o.kind o.pos=((zap o.path.l).1,true)/\(zap o.path.l).2=0)\/(o.kind≠3/\(zbT l o.path.l o.dest.l o.kind o.pos).2=false))):=HLAW.out
 have ST:=zQ0 (fun(wY:World) (b:Nat) (g:Grew wC wY) (hL:RefsIn wY (some ⟨b,0,none⟩) 1 [r0])=>stepPath_any (some ⟨b,0,none⟩) 1 r0 o { r0.er.bare with path:=(zbT l o.path.l o.dest.l o.kind o.pos).1 } (zbT l o.path.l o.dest.l o.kind o.pos).2 wY hL HRS.out (by rw[HR0.out];rfl) (by rw[HR0.out];rfl) (fun z wz hz hzi gz=>by
  have hzl:z.path.l=l:=(congrArg RefE.path hz).trans (by rw[HR0.out];rfl)
  have:=pathMove_any z o (zbT l o.path.l o.dest.l o.kind o.pos).1 (zbT l o.path.l o.dest.l o.kind o.pos).2 wz (fun wv gv=>by
   have hM:=move_any z.path.a z.path.c z.path.l o wv (hzi.later gv).1 (HF.out.grew (G8.out.trans (GC.out.trans (g.trans (gz.trans gv))))).ho.1.1 (HF.out.grew (G8.out.trans (GC.out.trans (g.trans (gz.trans gv))))).ho.1.2 (by rw[hzl];exact HPL.out) (by have:=(za5 HFO.out).2.1;have e:o.er.path.length=o.path.l.length:=rfl;omega) (by have:=(za5 HFO.out).2.2;have e:o.er.dest.length=o.dest.l.length:=rfl;omega);rw[hzl] at hM ⊢
   exact hM)
  rw[hz] at this
  exact this))
 have HMV:Hid ((movedR r0.er { r0.er.bare with path:=(zbT l o.path.l o.dest.l o.kind o.pos).1 } (zbT l o.path.l o.dest.l o.kind o.pos).2).live=(zbT l o.path.l o.dest.l o.kind o.pos).2/\(movedR r0.er { r0.er.bare with path:=(zbT l o.path.l o.dest.l o.kind o.pos).1 } (zbT l o.path.l o.dest.l o.kind o.pos).2).path=if (zbT l o.path.l o.dest.l o.kind o.pos).2=true then (zbT l o.path.l o.dest.l o.kind o.pos).1 else []):=by
  unfold movedR
  cases (zbT l o.path.l o.dest.l o.kind o.pos).2 <;> exact⟨rfl,rfl⟩
 generalize movedR r0.er { r0.er.bare with path:=(zbT l o.path.l o.dest.l o.kind o.pos).1 } (zbT l o.path.l o.dest.l o.kind o.pos).2=mr at *;generalize zbT l o.path.l o.dest.l o.kind o.pos=mv at *;unfold OpL.val at ST;rw[hov] at ST;have HRC:=zQ0 (HRI.out wC (HB8.out.trans GC.out));have HKO:=zQ0 (HG8.out.trans GC.out);have rR:=KR.out wC (HR8.out.trans GC.out);have rOn:(World.alloc wC (.cells r0.cells.toArray 46)).rangeAt (w.heap.size+1) 0 o.cells:=KO.out _ (HKO.out.trans (Grew.alloc1 _ _))
 go_wp2_with (first | (show wpList _ _ _ (Oper.mk (some 81) (Op.load 46 (.tmp 7)) _ _ _ _::_) _ _;refine zds rfl 46 (.tmp 7) rfl bR 0 rfl (RefL.cells r0) _ rR Tryz.underlying46 rfl zbu ?_;have hrv:Value.agg r0.cells.toArray=.agg #[.int .i64 r0.id,.int .i64 r0.kind,.int .i64 r0.aff,.bool r0.live,.slice r0.path.a r0.path.l.length r0.path.c,.slice r0.pt.p.a r0.pt.p.l.length r0.pt.p.c,.int .i64 r0.pt.o,.slice r0.a.p.a r0.a.p.l.length r0.a.p.c,.int .i64 r0.a.o,.slice r0.f.p.a r0.f.p.l.length r0.f.p.c,.int .i64 r0.f.o]:=rfl;rw[hrv];clear hrv) | (show wpList _ _ _ (Oper.mk (some 83) (Op.load 35 (.tmp 4)) _ _ _ _::_) _ _;refine zds rfl 35 (.tmp 4) rfl (w.heap.size+1) 0 rfl o.cells _ rOn Tryz.underlying35 rfl zbt ?_;have ho2:Value.agg o.cells.toArray=ov:=hov;rw[ho2];clear ho2))
 generalize hW:World.alloc wC _=wY;obtain⟨gY,rB,_,zY⟩:=zas wC r0.cells _ wY hW;have hL:=refs_one rB (by omega) (HRI.out wY ((HB8.out.trans GC.out).trans gY));have ST1:=ST.out wY wC.heap.size gY hL;have GY:=zQ0 gY;clear hW rR rOn hL rB zY gY;refine ST1.mono ?_;rintro e wE ⟨b,x1,rfl,gE,hx1,hxe⟩;have GE:=zQ0 (GC.out.trans (GY.out.trans gE));have GCE:=zQ0 (GY.out.trans gE);have hlive:x1.live=mv.2:=(congrArg RefE.live hxe.out).trans HMV.out.1;have hpath:x1.path.l=if mv.2=true then mv.1 else []:=(congrArg RefE.path hxe.out).trans HMV.out.2
 have KX:=zQ0 (fun(w':World) (g:Grew wE w')=>(by
  have hx:=hx1.grew g;obtain⟨b',o',hbo,_,hbb,hr⟩:=hx.1.at (i:=0) (by simp);obtain⟨rfl,rfl⟩:b=b'/\0=o':=by injection hbo with e;injection e with e1 e2;exact⟨e1,e2⟩
  have hr0:w'.rangeAt b 0 x1.cells:=by simpa using hr
  have c3:=zcp hr0 (j:=3) (v:=.bool x1.live) rfl;have c4:=zcp hr0 (j:=4) (v:=.slice x1.path.a x1.path.l.length x1.path.c) rfl;rw[hlive] at c3
  exact⟨c3,c4,(hx.2 x1 (by simp)).1⟩:w'.cell? ⟨b,3,none⟩=some (.bool mv.2)/\w'.cell? ⟨b,4,none⟩=some (.slice x1.path.a x1.path.l.length x1.path.c)/\IntsIn w' 0 w'.heap.size x1.path.a x1.path.c x1.path.l))
 have HPTH:Hid (x1.path.l=if mv.2=true then mv.1 else []):=hpath;clear ST1 ST hx1 hxe gE hlive hpath HMV HRI HRC KR HKO HRS HR0;have PT:=treePathsR_any x wE (NT.Ok.grew HX7.out (HB8.out.trans GE.out)) HXX.out;obtain⟨x0,x1',x2,x3⟩:=HXC.out wE (HB8.out.trans GE.out);unfold NT.val at PT;have PT:=zQ0 PT;go_wp2_with fail
 refine PT.out.mono ?_;rintro e wF ⟨pa,pc,ls,rfl,gF,hP,hPE,hlen,hat⟩;have GF:=zQ0 (GE.out.trans gF);have GEF:=zQ0 gF;have GCF:=zQ0 (GCE.out.trans gF);have HP9:=zQ0 hP;have HPAT:=zQ0 hat;have HLW:=zQ0 (HLAW.out ls hPE.out);clear x0 x1' x2 x3 gF hP hat PT HLAW hPE HXC;go_wp2_with fail
 go_loopw [91,17] (fun i z wr=>∃(k:Nat) (zz:Int),k<=ls.length/\i=.int .i64 k/\z=.int .i64 zz/\Hid ((zz=-1/\∀ j,j < k->∀ h,(doG o.er (gh n.er 0)).at (ls.getD j default).l=some h->lab h≠lab gy)\/0<=zz)/\Hid (Grew wF wr)) (fun i _ _=>ls.length - (intOf i).toNat)
 case atStart=>exact⟨0,-1,by omega,rfl,rfl,zQ0 (.inl ⟨rfl,fun j hj=>absurd hj (Nat.not_lt_zero _)⟩),zQ0 (Grew.refl _)⟩
 case round =>
  obtain⟨k,zz,hk1,rfl,rfl,hz,hG⟩:=hrel;have GR:=zQ0 (GF.out.trans hG.out);have GR0:=zQ0 (G8.out.trans GR.out);have GRO:=zQ0 (HG8.out.trans GR.out);have KXR:=zQ0 (fun(w':World) (g:Grew wr w')=>KX.out w' (GEF.out.trans (hG.out.trans g)))
  by_cases hlt:k < ls.length
  case neg =>
   obtain rfl:k=ls.length:=by omega
   rcases hz.out with ⟨rfl,hall⟩ | hz0
   ·rcases HLW.out.2 hall with ⟨hk3,hpe,hmv,hbk⟩ | ⟨hk3,hm⟩
    ·have t3:(o.kind == 3)=true:=by simpa using hk3
     have rO:=KO.out wr GRO.out;have c0:wr.cell? ⟨w.heap.size+1,0,none⟩=some (.int .i64 o.kind):=zcp rO (j:=0) rfl;have c1:wr.cell? ⟨w.heap.size+1,1,none⟩=some (.slice o.path.a o.path.l.length o.path.c):=zcp rO (j:=1) rfl;have K1:=zQ0 (fun(w':World) (g:Grew wr w')=>(zcp (KO.out w' (GRO.out.trans g)) (j:=1) rfl:w'.cell? ⟨w.heap.size+1,1,none⟩=some (.slice o.path.a o.path.l.length o.path.c)));have HOP:=zQ0 (fun w' (g:Grew wr w')=>(HF.out.grew (GR0.out.trans g)).ho.1.1);have HOL:Hid (o.path.l.length<=262144):=(za5 HFO.out).2.1;have CB:=trailBack_any o.path.a o.path.c o.path.l wr (HOP.out wr (Grew.refl _)) (by have:=HOL.out;omega);have HPE:Hid (l=o.path.l):=hpe;have SM:=zQ0 (fun w' (g:Grew wr w')=>zdd a o.path.a c o.path.c l o.path.l w' 0 w'.heap.size 0 w'.heap.size (HPI.out w' (GR0.out.trans g)) (HOP.out w' g) HPL.out (by have:=HOL.out;omega) zQ1 zQ1);rw[show decide (l=o.path.l)=true from decide_eq_true hpe] at SM;have hm1:mv.2=true:=by rw[hmv]
     have HX1:Hid (x1.path.l=(zap o.path.l).1):=by show _=_;rw[HPTH.out,if_pos hm1,hmv]
     have HBK:Hid ((zap o.path.l).2=0):=hbk;have CB:=zQ0 CB;rw[hm1] at KXR
     have HB1:Hid ((zap o.path.l).1.length<=1048576):=by
      show _<=_
      obtain⟨up,i,hop,_,hbk2⟩:=merged_path HNB.out HAP.out hk3;have hop:o.path.l=up++[((i+1:Nat):Int)]:=hop;have hbk2:(zap o.path.l).1=up++[(i:Int)]:=hbk2;have h1:=HOL.out;rw[hop,List.length_append] at h1;rw[hbk2,List.length_append];have e1:[((i+1:Nat):Int)].length=1:=rfl;have e2:[(i:Int)].length=1:=rfl;omega
     clear hall hk3 hpe hmv hbk hlt hk1 rO hz hm1;go_wp2_with fail
     refine CB.out.mono ?_;rintro e wG ⟨q,rfl,gG,hq,hqe⟩;rw[HBK.out];have HQ:=zQ0 hq;have HQE:=zQ0 hqe.out;have GG:=zQ0 gG;have c1':=K1.out wG gG;clear c0 c1 hq hqe gG;go_wp2_with fail
     refine (SM.out wG GG.out).mono ?_;rintro e wH ⟨rfl,gH⟩;obtain⟨c3,c4,hI⟩:=KXR.out wH (GG.out.trans gH);have CS:=zdd x1.path.a q.a x1.path.c q.c x1.path.l q.l wH 0 wH.heap.size 0 wH.heap.size hI ((IntsIn.grew (HQ.out.mono (Nat.zero_le _) zQ1) gH zQ1).mono zQ1 gH.size) (by rw[HX1.out];exact HB1.out) (by rw[HQE.out];exact HB1.out) zQ1 zQ1;rw[show decide (x1.path.l=q.l)=true from decide_eq_true (by rw[HX1.out,HQE.out])] at CS;have CS:=zQ0 CS;have GH:=zQ0 (GG.out.trans gH);clear c1' hI gH;go_wp2_with fail
     refine CS.out.mono ?_;rintro e wI ⟨rfl,gI⟩;go_wp2_with fail
     go_ret
     exact⟨rfl,GR0.out.trans (GH.out.trans gI)⟩
    ·have t3:(o.kind == 3)=false:=by simpa using hk3
     have c0:wr.cell? ⟨w.heap.size+1,0,none⟩=some (.int .i64 o.kind):=zcp (KO.out wr GRO.out) (j:=0) rfl;obtain⟨c3,c4,_⟩:=KXR.out wr (Grew.refl _);rw[hm] at c3;rw[show x1.path.l.length=0 by rw[HPTH.out,hm];rfl] at c4;clear hall hk3 hm hlt hk1 hz;go_wp2_with fail
     go_ret
     exact⟨rfl,GR0.out⟩
   ·have tz:decide (zz ≥ 0)=true:=decide_eq_true hz0;clear hlt hk1 hz;go_wp2_with fail
    go_ret
    exact⟨rfl,GR0.out⟩
  case pos =>
  obtain⟨pb,po,rfl,hpb,hpc⟩:=(HP9.out.grew hG.out).at hlt;have hpm:=zbi ls k hlt;have hpI:=(HP9.out.grew hG.out).2 _ hpm;obtain⟨py,hpy⟩:=HPAT.out _ hpm;obtain⟨h,hh,himp⟩:=HLW.out.1 k hlt;have HH:Hid ((doG o.er (gh n.er 0)).at (ls.getD k default).l=some h):=hh;obtain⟨pp,hppe⟩:∃ q,ls.getD k default=q:=⟨_,rfl⟩
  have HPP:=zQ0 hppe;rw[hppe] at hpI hpy hh himp hpc;have hatq:y'.er.at pp.l=some h:=by rw[HQ3.out];exact hh
  have hql:pp.l.length<=1048576:=by have h1:=at_depth hpy;have:=HXX.out;omega
  have GYR:=zQ0 (GCF.out.trans hG.out);have CQ:=za8 y' pp.a pp.c pp.l wr (HQ1.out.grew GYR.out).g hpI hatq hql;rw[HQ2.out] at CQ;have hlab:(y'.sub pp.l).ts.headD 0=lab h:=by rw[<- NT.er_ts,NT.sub_er hatq];rfl
  have hq0:=((HQ1.out.grew GYR.out).g.sub hatq).own.at.1;rw[hlab] at hq0;have HPI2:Hid (IntsIn wr 0 wr.heap.size pp.a pp.c pp.l):=hpI;have HQL:Hid (pp.l.length<=1048576):=hql;have HIMP:Hid (lab h=lab gy->mv=(pp.l,true)):=himp;clear hpm hpI hpy hh himp hppe hatq hlab hql
  by_cases hll:lab h=lab gy
  ·have tl:(lab h == lab gy)=true:=by simpa using hll
   have hmv:=HIMP.out hll;have HX1:Hid (x1.path.l=pp.l):=by show _=_;rw[HPTH.out,hmv];rfl
   rw[hmv] at KXR;have KXR:Hid (∀ w',Grew wr w'->w'.cell? ⟨b,3,none⟩=some (.bool true)/\w'.cell? ⟨b,4,none⟩=some (.slice x1.path.a x1.path.l.length x1.path.c)/\IntsIn w' 0 w'.heap.size x1.path.a x1.path.c x1.path.l):=KXR.out;clear hmv hll HH;generalize lab h=lh at *;generalize lab gy=lg at *;go_wp2_with fail
   refine CQ.mono ?_;rintro e wU ⟨rfl,e2⟩;rw[e2];clear CQ e2;obtain⟨c3,c4,hI⟩:=KXR.out wr (Grew.refl _);have CS:=zdd x1.path.a pp.a x1.path.c pp.c x1.path.l pp.l wr 0 wr.heap.size 0 wr.heap.size hI HPI2.out (by rw[HX1.out];exact HQL.out) HQL.out zQ1 zQ1;rw[show decide (x1.path.l=pp.l)=true from decide_eq_true HX1.out] at CS;have CS:=zQ0 CS;clear hI;go_wp2_with fail
   refine CS.out.mono ?_;rintro e wV ⟨rfl,gV⟩;have HGV:=zQ0 (hG.out.trans gV);go_wp2_with fail
   go_roundw
   case rel=>exact⟨k+1,k,by omega,by go_num,rfl,zQ0 (.inr (by omega)),HGV⟩
   case measure=>simp[intOf];omega
  ·have tl:(lab h == lab gy)=false:=by simpa using hll
   have HZN:Hid ((zz=-1/\∀ j,j < k+1->∀ h,(doG o.er (gh n.er 0)).at (ls.getD j default).l=some h->lab h≠lab gy)\/0<=zz):=by
    rcases hz.out with ⟨e1,hall⟩ | h1
    ·refine .inl ⟨e1,fun j hj h' hh'=>?_⟩
     rcases Nat.lt_or_ge j k with hjk | hjk
     ·exact hall j hjk h' hh'
     ·obtain rfl:j=k:=by omega
      rw[HH.out] at hh';injection hh' with hh'
      subst hh';exact hll
    ·exact .inr h1
   clear hz hll HIMP;generalize lab h=lh at *;generalize lab gy=lg at *;go_wp2_with fail
   refine CQ.mono ?_;rintro e wU ⟨rfl,e2⟩;rw[e2];clear CQ e2;go_wp2_with fail
   go_roundw
   case rel=>exact⟨k+1,zz,by omega,by go_num,rfl,HZN,hG⟩
   case measure=>simp[intOf];omega
end Go.Proofs.YtccobobnmpafbaaGreatDoor
