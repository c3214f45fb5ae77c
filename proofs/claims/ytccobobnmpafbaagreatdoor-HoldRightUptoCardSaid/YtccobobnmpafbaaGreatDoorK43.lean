/- redlineref14.Few: the contract. -/
import Derived.Test.YtccobobnmpafbaaGreatDoorK06
import Derived.Test.YtccobobnmpafbaaGreatDoorK01
import Derived.Test.YtccobobnmpafbaaGreatDoorK04
import Derived.Test.YtccobobnmpafbaaGreatDoorK02
import Derived.Test.YtccobobnmpafbaaGreatDoorK41
import Derived.Deep.DeepCutAuto
import Derived.Laws.OwnMore
import Derived.Test.YtccobobnmpafbaaGreatDoorK05
import Derived.Test.YtccobobnmpafbaaGreatDoorK19
import Derived.Test.YtccobobnmpafbaaGreatDoorK36
import Derived.Deep.MidRow
import Derived.Deep.RegionWith
set_option maxRecDepth 100000
set_option maxHeartbeats 100000000
namespace Go.Proofs.YtccobobnmpafbaaGreatDoor
open Go Go.RowKit
def zcR(r:RefE):Bool:=decide (r.path.length<=50) && (decide (r.pt.p.length<=50) && (decide (r.a.p.length<=50) && decide (r.f.p.length<=50)))
def fewR(l:List RefE):Bool:=l.all zcR && decide (l.length<=300)
theorem short_small{r:RefE}(h:zcR r=true):r.Small:=by
 simp only[zcR,Bool.and_eq_true,decide_eq_true_eq] at h;exact⟨by omega,by omega,by omega,by omega⟩
theorem few_small{l:List RefE}(h:fewR l=true):(∀ r∈l,r.Small)/\l.length<=300:=by
 simp only[fewR,Bool.and_eq_true,decide_eq_true_eq,List.all_eq_true] at h;exact⟨fun r hr=>short_small (h.1 r hr),h.2⟩
theorem not_short0{x:RefL}(h:¬ x.path.l.length<=50):zcR x.er=false:=by simp[zcR,RefL.er,h]
theorem not_short1{x:RefL}(h:¬ x.pt.p.l.length<=50):zcR x.er=false:=by simp[zcR,RefL.er,PtL.er,h]
theorem not_short2{x:RefL}(h:¬ x.a.p.l.length<=50):zcR x.er=false:=by simp[zcR,RefL.er,PtL.er,h]
theorem not_short3{x:RefL}(h:¬ x.f.p.l.length<=50):zcR x.er=false:=by simp[zcR,RefL.er,PtL.er,h]
theorem is_short{x:RefL}(h0:x.path.l.length<=50)(h1:x.pt.p.l.length<=50)(h2:x.a.p.l.length<=50)(h3:x.f.p.l.length<=50):zcR x.er=true:=by simp[zcR,RefL.er,PtL.er,h0,h1,h2,h3]
theorem few_no{L:List RefL}{x:RefL}(hx:x∈L)(h:zcR x.er=false):fewR (L.map RefL.er)=false:=by
 unfold fewR;rw[Bool.and_eq_false_iff]
 left
 rw[List.all_eq_false];exact⟨x.er,List.mem_map_of_mem hx,by rw[h];simp⟩
theorem few_all{L:List RefL}(h:∀ j,j < L.length->zcR (L.getD j default).er=true):fewR (L.map RefL.er)=decide (L.length<=300):=by
 unfold fewR;rw[List.length_map]
 have:(L.map RefL.er).all zcR=true:=by
  rw[List.all_eq_true];intro r hr;obtain⟨x,hx,rfl⟩:=List.mem_map.1 hr;obtain⟨j,hj,rfl⟩:=List.getElem_of_mem hx;have:=h j hj
  simpa [List.getD,hj] using this
 rw[this,Bool.true_and]
theorem refFew_any(a:Option Addr)(c:Nat)(L:List RefL)(w:World)(hL:RefRow w 0 w.heap.size a c L):Calls Tryz.prog 17 #[.slice a L.length c] w fun e w'=>e=.returned (.bool (fewR (L.map RefL.er)))/\Grew w w':=by
 have hml:L.length<=maxLen:=Nat.le_trans hL.1.2.1 hL.1.2.2;unfold maxLen at hml
 go_enter Tryz.func17,Tryz.ntmps17
 go_wp2_with fail
 go_loopw [7] (fun i wr=>∃(k:Nat),k<=L.length/\i=.int .i64 k/\Grew w wr/\∀ j,j < k->zcR (L.getD j default).er=true) (fun i _=>L.length - (intOf i).toNat)
 case atStart=>exact⟨0,by omega,rfl,Grew.refl _,fun j hj=>by omega⟩
 case round =>
  obtain⟨k,hk1,rfl,hg,hall⟩:=hrel;have HA:=zQ0 hall;clear hall
  by_cases hlt:k < L.length
  ·obtain⟨lb,lo,rfl,_,hlb,hra0⟩:=hL.at hlt;have hra:=zcj hra0 hg hlb;have HNB:=zQ0 (fun(F:World) (hF:(wr.alloc (.cells #[.int .i64 0,.int .i64 0,.int .i64 0,.bool false,.slice none 0 0,.slice none 0 0,.int .i64 0,.slice none 0 0,.int .i64 0,.slice none 0 0,.int .i64 0] 46)).setCells wr.heap.size 0 (L.getD k default).cells=F)=>newBox hF rfl);have HTH:=zQ0 (zc5 (Grew.refl (wr.alloc (.cells #[.int .i64 0,.int .i64 0,.int .i64 0,.bool false,.slice none 0 0,.slice none 0 0,.int .i64 0,.slice none 0 0,.int .i64 0,.slice none 0 0,.int .i64 0] 46))));have HF:=zQ0 (fun h=>few_no (zbd L k hlt) h);have HX:=zQ0 (fun h0 h1 h2 h3=>is_short (x:=L.getD k default) h0 h1 h2 h3);clear hL hra0;obtain⟨x,hx⟩:∃ x,L.getD k default=x:=⟨_,rfl⟩
   rw[hx] at hra HNB HF
   have HX:Hid (x.path.l.length<=50->x.pt.p.l.length<=50->x.a.p.l.length<=50->x.f.p.l.length<=50->zcR (L.getD k default).er=true):=by
    rw[<- hx];exact HX
   clear hx
   go_upto_region 4 with (first | (refine wpList_load_mid rfl 46 (.tmp 9) rfl lb (lo+k * 11) rfl x.cells _ hra Tryz.underlying46 rfl zbq ?_) | (refine wpList_store_mid rfl 46 (.tmp 4) (.tmp 10) rfl wr.heap.size 0 x.cells.toArray rfl rfl HTH.out zbq x.cells_all ?_;generalize hF:(wr.alloc _).setCells _ _ _=w2;obtain⟨hr2,g2,z2⟩:=HNB.out w2 hF;clear hF HNB HTH))
   have hg2:=hg.trans g2;have c4:w2.cell? ⟨wr.heap.size,4,none⟩=some (.slice x.path.a x.path.l.length x.path.c):=by simpa using hr2 4 _ rfl
   have c5:w2.cell? ⟨wr.heap.size,5,none⟩=some (.slice x.pt.p.a x.pt.p.l.length x.pt.p.c):=by simpa using hr2 5 _ rfl
   have c7:w2.cell? ⟨wr.heap.size,7,none⟩=some (.slice x.a.p.a x.a.p.l.length x.a.p.c):=by simpa using hr2 7 _ rfl
   have c9:w2.cell? ⟨wr.heap.size,9,none⟩=some (.slice x.f.p.a x.f.p.l.length x.f.p.c):=by simpa using hr2 9 _ rfl
   clear hr2 hra g2 z2 hg
   by_cases b0:x.path.l.length<=50
   ·have t0:decide ((50:Int) < x.path.l.length)=false:=by simp;omega
    by_cases b1:x.pt.p.l.length<=50
    ·have t1:decide ((50:Int) < x.pt.p.l.length)=false:=by simp;omega
     by_cases b2:x.a.p.l.length<=50
     ·have t2:decide ((50:Int) < x.a.p.l.length)=false:=by simp;omega
      by_cases b3:x.f.p.l.length<=50
      ·have t3:decide ((50:Int) < x.f.p.l.length)=false:=by simp;omega
       have HN:Hid (∀ j,j < k+1->zcR (L.getD j default).er=true):=fun j hj=>by
        rcases Nat.lt_or_ge j k with h | h
        ·exact HA.out j h
        ·obtain rfl:j=k:=by omega
         exact HX.out b0 b1 b2 b3
       clear b0 b1 b2 b3 HX HF;go_wp2_with fail
       go_roundw
       case rel=>exact⟨k+1,by omega,by go_num,hg2,HN.out⟩
       case measure=>simp[intOf];omega
      ·have t3:decide ((50:Int) < x.f.p.l.length)=true:=by simp;omega
       have HN:=zQ0 (HF.out (not_short3 b3));clear HX HF HA;go_wp2_with fail
       go_ret
       exact⟨zcy (by rw[HN.out]),hg2⟩
     ·have t2:decide ((50:Int) < x.a.p.l.length)=true:=by simp;omega
      have HN:=zQ0 (HF.out (not_short2 b2));clear HX HF HA;go_wp2_with fail
      go_ret
      exact⟨zcy (by rw[HN.out]),hg2⟩
    ·have t1:decide ((50:Int) < x.pt.p.l.length)=true:=by simp;omega
     have HN:=zQ0 (HF.out (not_short1 b1));clear HX HF HA;go_wp2_with fail
     go_ret
     exact⟨zcy (by rw[HN.out]),hg2⟩
   ·have t0:decide ((50:Int) < x.path.l.length)=true:=by simp;omega
    have HN:=zQ0 (HF.out (not_short0 b0));clear HX HF HA;go_wp2_with fail
    go_ret
    exact⟨zcy (by rw[HN.out]),hg2⟩
  ·have HN:=zQ0 (few_all (L:=L) (fun j hj=>HA.out j (by omega)))
   by_cases h3:L.length<=300
   ·have ht:decide ((L.length:Int)<=300)=true:=by simp;omega
    go_wp2_with fail
    go_ret
    exact⟨zcy (by rw[HN.out];simp[h3]),hg⟩
   ·have ht:decide ((L.length:Int)<=300)=false:=by simp;omega
    go_wp2_with fail
    go_ret
    exact⟨zcy (by rw[HN.out];simp[h3]),hg⟩
def CBox(w:World)(n:NT)(w':World):Prop:=Grew w w'/\w.heap.size+2<=w'.heap.size/\n.Bx w.heap.size w' /\
 (w'.cell? ⟨w.heap.size+1,0,none⟩=some (.bool false)/\w'.cell? ⟨w.heap.size+1,1,none⟩=some (.slice none 0 0)/\w'.cell? ⟨w.heap.size+1,2,none⟩=some (.slice none 0 0)/\w'.cell? ⟨w.heap.size+1,3,none⟩=some (.slice none 0 0))/\∀ j,w'.frozen? ⟨w.heap.size+1,j,none⟩=false
theorem CBox.keep{w:World}{n:NT}{w1 w2:World}{S:Nat->Prop}(h:CBox w n w1)(hk:Keeps S w1 w2)(hS:∀ k,k < w.heap.size+2->¬ S k):CBox w n w2:=by
 obtain⟨h1,h2,h3,h4,h5⟩:=h;have q:∀ j,w2.cell? ⟨w.heap.size+1,j,none⟩=w1.cell? ⟨w.heap.size+1,j,none⟩:=fun j=>hk.cell (p:=⟨w.heap.size+1,j,none⟩) (by show w.heap.size+1 < _;omega) (hS _ (by show w.heap.size+1 < _;omega));refine⟨h1.keep hk (fun x hx=>?_),Nat.le_trans h2 hk.size,h3.keep hk (by omega) (hS _ (by omega)),?_,fun j=>(hk.frozen (p:=⟨w.heap.size+1,j,none⟩) (by show w.heap.size+1 < _;omega) (hS _ (by show w.heap.size+1 < _;omega))).trans (h5 j)⟩
 ·rcases Nat.lt_or_ge x (w.heap.size+2) with h | h
  ·exact absurd hx (hS x h)
  ·omega
 ·simp only[q];exact h4
theorem CBox.next{w:World}{n:NT}{w1 w2:World}(h:CBox w n w1)(hg:Grew w1 w2):CBox w n w2:=h.keep (hg.keeps Noth) (fun _ _ h=>h)
def OZ(b:Nat)(w:World):Prop:=b < w.heap.size/\(w.cell? ⟨b,0,none⟩=some (.bool false)/\w.cell? ⟨b,1,none⟩=some (.slice none 0 0)/\w.cell? ⟨b,2,none⟩=some (.slice none 0 0)/\w.cell? ⟨b,3,none⟩=some (.slice none 0 0))/\∀ j,w.frozen? ⟨b,j,none⟩=false
theorem OZ.grew{b:Nat}{w w':World}(h:OZ b w)(hg:Grew w w'):OZ b w':=by
 have q:∀ j,w'.cell? ⟨b,j,none⟩=w.cell? ⟨b,j,none⟩:=fun j=>hg.cell (p:=⟨b,j,none⟩) h.1;refine⟨Nat.lt_of_lt_of_le h.1 hg.size,?_,fun j=>(hg.frozen (p:=⟨b,j,none⟩) h.1).trans (h.2.2 j)⟩;simp only[q];exact h.2.1
def YIn(w:World)(B:Nat)(ob:Option Nat)(y:NT):Prop:=∃ lo hi,y.In w lo hi/\B<=lo/\hi<=w.heap.size/\∀ k,lo<=k->k < hi->ob≠some k
theorem YIn.grown{w w':World}{B:Nat}{ob ob':Option Nat}{y:NT}(h:YIn w B ob y)(hg:w.grownBy w' ob)(hb:∀ k,ob'=some k->ob=some k\/w.heap.size<=k):YIn w' B ob' y:=by
 obtain⟨lo,hi,h1,h2,h3,h4⟩:=h;have hk:=zbj hg (O:=fun k=>ob=some k) (fun _ h=>h);refine⟨lo,hi,h1.agree (hk.agree h3 (fun k a b=>h4 k a b)),h2,Nat.le_trans h3 hk.size,fun k a b he=>?_⟩
 rcases hb k he with h5 | h5
 ·exact h4 k a b h5
 ·omega
theorem YIn.keep{w w':World}{B b:Nat}{ob:Option Nat}{y:NT}(h:YIn w B ob y)(hk:Keeps (·=b) w w')(hb:b < B):YIn w' B ob y:=by
 obtain⟨lo,hi,h1,h2,h3,h4⟩:=h;exact⟨lo,hi,h1.agree (hk.agree h3 (fun k a c d=>by omega)),h2,Nat.le_trans h3 hk.size,h4⟩
theorem YIn.grew{w w':World}{B:Nat}{ob:Option Nat}{y:NT}(h:YIn w B ob y)(hg:Grew w w'):YIn w' B ob y:=by
 obtain⟨lo,hi,h1,h2,h3,h4⟩:=h;exact⟨lo,hi,h1.grew hg h3,h2,Nat.le_trans h3 hg.size,h4⟩
def CEach(n:NT)(ob:Nat)(va:Option Addr)(vc:Nat)(ta:Option Addr)(tc:Nat)(wc:World)(k:Nat)(v:Value)(ys:List NT)(wr:World):Prop:=Keeps (·=ob) wc wr /\
 (wr.cell? ⟨ob,0,none⟩=some (.bool n.lf)/\wr.cell? ⟨ob,1,none⟩=some (.slice va n.ps.length vc)/\wr.cell? ⟨ob,2,none⟩=some (.slice ta n.ts.length tc)/\wr.cell? ⟨ob,3,none⟩=some v)/\(∀ j,wr.frozen? ⟨ob,j,none⟩=false) /\
 wr.ownsRow wc.heap.size 26 4 v ys.length (zaB ys)/\(∀ y∈ys,YIn wr wc.heap.size v.ownBlock y)/\ys.map NT.er=(n.ks.map NT.er).take k
theorem CEach.grew{n:NT}{ob:Nat}{va:Option Addr}{vc:Nat}{ta:Option Addr}{tc:Nat}{wc:World}{k:Nat}{v:Value}{ys:List NT}{w1 w2:World}(h:CEach n ob va vc ta tc wc k v ys w1)(hg:Grew w1 w2)(hob:ob < wc.heap.size):CEach n ob va vc ta tc wc k v ys w2:=by
 obtain⟨h1,h2,h3,h4,h5,h6⟩:=h;have hz:ob < w1.heap.size:=Nat.lt_of_lt_of_le hob h1.size;have q:∀ j,w2.cell? ⟨ob,j,none⟩=w1.cell? ⟨ob,j,none⟩:=fun j=>hg.cell (p:=⟨ob,j,none⟩) hz;refine⟨h1.trans (hg.keeps _),?_,fun j=>(hg.frozen (p:=⟨ob,j,none⟩) hz).trans (h3 j),zb4 h4 hg,fun y hy=>(h5 y hy).grew hg,h6⟩;simp only[q];exact h2
theorem cellsOfNodes_push(xs:List NT)(x:NT):zaB (xs++[x])=zaB xs++zaB [x]:=by simp[zaB]
theorem CEach.push{n:NT}{ob:Nat}{va:Option Addr}{vc:Nat}{ta:Option Addr}{tc:Nat}{wc:World}{k:Nat}{v:Value}{ys:List NT}{c2 c5:World}{y:NT}{v5:Value}(h:CEach n ob va vc ta tc wc k v ys c2)(hob:ob < wc.heap.size)(hk:k < n.ks.length)(hy:YIn c2 wc.heap.size v.ownBlock y)(hye:y.er=(n.ks.getD k default).er)(hown:c5.ownsRow wc.heap.size 26 4 v5 (ys.length+1) (zaB ys++zaB [y]))(hgr:c2.grownBy c5 v.ownBlock)(hbl:∀ k,v5.ownBlock=some k->v.ownBlock=some k\/c2.heap.size<=k) :
  c5.cell? ⟨ob,3,none⟩=some v/\(∀ j,c5.frozen? ⟨ob,j,none⟩=false)/\CEach n ob va vc ta tc wc (k+1) v5 (ys++[y]) (c5.setCell ⟨ob,3,none⟩ v5):=by
 obtain⟨h1,⟨a0,a1,a2,a3⟩,h3,h4,h5,h6⟩:=h;have hkv:=zbj hgr (O:=fun b=>v.ownBlock=some b) (fun _ h=>h);have hn:¬ v.ownBlock=some ob:=fun hh=>by have:=(h4.lt ob hh).1;omega
 have hn5:v5.ownBlock≠some ob:=fun hh=>by have:=(hown.lt ob hh).1;omega
 have hz:ob < c2.heap.size:=Nat.lt_of_lt_of_le hob h1.size;have q:∀ j,c5.cell? ⟨ob,j,none⟩=c2.cell? ⟨ob,j,none⟩:=fun j=>hkv.cell (p:=⟨ob,j,none⟩) hz hn;have f:∀ j,c5.frozen? ⟨ob,j,none⟩=false:=fun j=>(hkv.frozen (p:=⟨ob,j,none⟩) hz hn).trans (h3 j)
 have hk1:Keeps (·=ob) wc c5:=by
  refine⟨hkv.os.trans h1.os,hkv.tape.trans h1.tape,hkv.output.trans h1.output,Nat.le_trans h1.size hkv.size,fun b hb hs=>(hkv.block b (Nat.lt_of_lt_of_le hb h1.size) (fun hh=>by have:=(h4.lt b hh).1;omega)).trans (h1.block b hb hs)⟩
 refine⟨(q 3).trans a3,f,hk1.own _ _,⟨?_,?_,?_,?_⟩,fun j=>by rw[World.frozen?_setCell];exact f j,?_,fun x hx=>?_,?_⟩
 ·rw[zau (by omega),q];exact a0
 ·rw[zau (by omega),q];exact a1
 ·rw[zau (by omega),q];exact a2
 ·exact zaw ((q 3).trans a3)
 ·rw[List.length_append,cellsOfNodes_push];exact ownsRow_other hown hn5 _
 ·have hx5:YIn c5 wc.heap.size v5.ownBlock x:=by
   rcases List.mem_append.1 hx with hx | hx
   ·exact (h5 x hx).grown hgr hbl
   ·rw[List.mem_singleton.1 hx];exact hy.grown hgr hbl
  exact hx5.keep ((Keeps.refl (·=ob) c5).own 3 v5) hob
 ·rw[List.map_append,h6,kids_take n.ks k hk];simp[hye]
def GAt(w:World)(x:NT)(w':World):Prop:=Grew w w'/\w.heap.size+2<=w'.heap.size/\x.Bx w.heap.size w'/\(∀ j,w'.frozen? ⟨w.heap.size,j,none⟩=false) /\
 (w'.cell? ⟨w.heap.size+1,0,none⟩=some (.bool false)/\w'.cell? ⟨w.heap.size+1,1,none⟩=some (.slice none 0 0)/\w'.cell? ⟨w.heap.size+1,2,none⟩=some (.slice none 0 0)/\w'.cell? ⟨w.heap.size+1,3,none⟩=some (.slice none 0 0))/\(∀ j,w'.frozen? ⟨w.heap.size+1,j,none⟩=false)/\x.In w' 0 w.heap.size
theorem GAt.next{w:World}{x:NT}{w1 w2:World}(h:GAt w x w1)(hg:Grew w1 w2):GAt w x w2:=by
 obtain⟨h1,h2,h3,h4,h5,h6,h7⟩:=h;have q:∀ j,w2.cell? ⟨w.heap.size+1,j,none⟩=w1.cell? ⟨w.heap.size+1,j,none⟩:=fun j=>hg.cell (p:=⟨w.heap.size+1,j,none⟩) (by show w.heap.size+1 < _;omega);refine⟨h1.trans hg,Nat.le_trans h2 hg.size,h3.grew hg (by omega),fun j=>(hg.frozen (p:=⟨w.heap.size,j,none⟩) (by show w.heap.size < _;omega)).trans (h4 j),?_,fun j=>(hg.frozen (p:=⟨w.heap.size+1,j,none⟩) (by show w.heap.size+1 < _;omega)).trans (h6 j),h7.grew hg h1.size⟩;simp only[q];exact h5
theorem GAt.step{w:World}{x y:NT}{w1 F:World}(h:GAt w x w1)(fc:y.Bx w.heap.size F)(hk:Keeps (·=w.heap.size) w1 F)(hff:∀ p,F.frozen? p=w1.frozen? p)(hy:y.In w1 0 w.heap.size):GAt w y F:=by
 obtain⟨h1,h2,h3,h4,h5,h6,h7⟩:=h;have q:∀ j,F.cell? ⟨w.heap.size+1,j,none⟩=w1.cell? ⟨w.heap.size+1,j,none⟩:=fun j=>hk.cell (p:=⟨w.heap.size+1,j,none⟩) (by show w.heap.size+1 < _;omega) (by show ¬ w.heap.size+1=w.heap.size;omega);refine⟨h1.keep hk (fun b hb=>by omega),Nat.le_trans h2 hk.size,fc,fun j=>(hff _).trans (h4 j),?_,fun j=>(hff _).trans (h6 j),hy.agree (hk.agree h1.size (fun b _ h8 h9=>by omega))⟩;simp only[q];exact h5
theorem refPtSame_any(p q:PtL)(w:World)(hp:p.In w 0 w.heap.size)(hl:p.p.l.length<=1048576)(hq:q.In w 0 w.heap.size)(hl2:q.p.l.length<=1048576) :
  Calls Tryz.prog 45 #[.agg #[.slice p.p.a p.p.l.length p.p.c,.int .i64 p.o],.agg #[.slice q.p.a q.p.l.length q.p.c,.int .i64 q.o]] w fun e w'=>e=.returned (.bool (zcJ p.er q.er))/\Grew w w':=by
 have CT:=zQ0 (fun w1 (hg:Grew w w1)=>same02_any p.p.a q.p.a p.p.c q.p.c p.p.l q.p.l w1 _ _ _ _ (hp.later hg) (hq.later hg) hl hl2 zQ1 zQ1);have HPE:Hid (zcJ p.er q.er=(decide (p.p.l=q.p.l) && decide (p.o=q.o))):=rfl;generalize decide (p.p.l=q.p.l)=x at *;generalize zcJ p.er q.er=r at *;generalize p.p.l=l at *;generalize q.p.l=m at *;have gA:=Grew.alloc1 w (.cells #[.slice p.p.a l.length p.p.c,.int .i64 p.o] 29);have gB:=Grew.alloc1 (w.alloc (.cells #[.slice p.p.a l.length p.p.c,.int .i64 p.o] 29)) (.cells #[.slice q.p.a m.length q.p.c,.int .i64 q.o] 29)
 by_cases ho:p.o=q.o
 ·have ht:(p.o == q.o)=true:=by simp[ho]
  have HN:Hid (r=x):=by show _=_;rw[HPE.out];simp[ho]
  clear ho
  go_enter Tryz.func45,Tryz.ntmps45
  go_wp2_with fail
  refine (CT.out _ (gA.trans gB)).mono ?_;rintro e w2 ⟨rfl,g2⟩;go_wp2_with fail
  go_ret
  exact⟨zcy (by rw[HN.out]),(gA.trans gB).trans g2⟩
 ·have ht:(p.o == q.o)=false:=by simpa using ho
  have HN:Hid (r=false):=by show _=_;rw[HPE.out];simp[ho]
  clear ho
  go_enter Tryz.func45,Tryz.ntmps45
  go_wp2_with fail
  go_ret
  exact⟨zcy (by rw[HN.out]),(gA.trans gB)⟩
theorem sameP_refl(p:PtE):zcJ p p=true:=by simp[zcJ]
theorem sameRange_any(x f y g:PtL)(w:World)(hx:x.In w 0 w.heap.size)(hf:f.In w 0 w.heap.size)(hy:y.In w 0 w.heap.size)(hg:g.In w 0 w.heap.size)(lx:x.p.l.length<=1048576)(lf:f.p.l.length<=1048576)(ly:y.p.l.length<=1048576)(lg:g.p.l.length<=1048576) :
  Calls Tryz.prog 53 #[.agg #[.slice x.p.a x.p.l.length x.p.c,.int .i64 x.o,.slice f.p.a f.p.l.length f.p.c,.int .i64 f.o],.agg #[.slice y.p.a y.p.l.length y.p.c,.int .i64 y.o,.slice g.p.a g.p.l.length g.p.c,.int .i64 g.o]] w fun e w'=>e=.returned (.bool (zcJ x.er y.er && zcJ f.er g.er))/\Grew w w':=by
 have SN:=zQ0 (fun w1 (h:Grew w w1)=>refPtSame_any x y w1 (hx.later h) lx (hy.later h) ly);have SF:=zQ0 (fun w1 (h:Grew w w1)=>refPtSame_any f g w1 (hf.later h) lf (hg.later h) lg);generalize zcJ x.er y.er=b1 at *;generalize zcJ f.er g.er=b2 at *;clear hx hf hy hg lx lf ly lg;have gA:=Grew.alloc1 w (.cells #[.slice x.p.a x.p.l.length x.p.c,.int .i64 x.o,.slice f.p.a f.p.l.length f.p.c,.int .i64 f.o] 31);have gB:=Grew.alloc1 (w.alloc (.cells #[.slice x.p.a x.p.l.length x.p.c,.int .i64 x.o,.slice f.p.a f.p.l.length f.p.c,.int .i64 f.o] 31)) (.cells #[.slice y.p.a y.p.l.length y.p.c,.int .i64 y.o,.slice g.p.a g.p.l.length g.p.c,.int .i64 g.o] 31);have HB:=zQ0 (fun(w':World) (q:Grew ((w.alloc (.cells #[.slice x.p.a x.p.l.length x.p.c,.int .i64 x.o,.slice f.p.a f.p.l.length f.p.c,.int .i64 f.o] 31)).alloc (.cells #[.slice y.p.a y.p.l.length y.p.c,.int .i64 y.o,.slice g.p.a g.p.l.length g.p.c,.int .i64 g.o] 31)) w')=>(⟨zap (gB.trans q) (j:=2) (v:=.slice f.p.a f.p.l.length f.p.c) rfl,zap (gB.trans q) (j:=3) (v:=.int .i64 f.o) rfl,zap q (j:=2) (v:=.slice g.p.a g.p.l.length g.p.c) rfl,zap q (j:=3) (v:=.int .i64 g.o) rfl⟩:_/\_/\_/\_));simp only[World.size_alloc] at HB;have g0:=gA.trans gB;clear gA gB
 go_enter Tryz.func53,Tryz.ntmps53
 go_wp2_with fail
 refine (SN.out _ g0).mono ?_;rintro e w2 ⟨rfl,g2⟩;obtain⟨c2,c3,d2,d3⟩:=HB.out w2 g2;have G2:=zQ0 (g0.trans g2);clear HB g2 g0
 cases b1 with
 | false =>
  go_wp2_with fail
  go_ret
  exact⟨zcy (by simp),G2.out⟩
 | true =>
  go_wp2_with fail
  refine (SF.out w2 G2.out).mono ?_;rintro e w3 ⟨rfl,g3⟩;go_wp2_with fail
  go_ret
  exact⟨zcy (by simp),G2.out.trans g3⟩
theorem sameRef_true(x y:RefL)(w:World)(hx:x.In w 0 w.heap.size)(hy:y.In w 0 w.heap.size)(he:x.er=y.er)(hs:x.er.Small) :
  Calls Tryz.prog 20 #[x.val,y.val] w fun e w'=>e=.returned (.bool true)/\Grew w w':=by
 have hs2:y.er.Small:=he ▸ hs;have i1:x.id=y.id:=congrArg RefE.id he;have e1:(x.id == y.id)=true:=by simp[i1]
 have i2:x.kind=y.kind:=congrArg RefE.kind he;have e2:(x.kind == y.kind)=true:=by simp[i2]
 have i3:x.aff=y.aff:=congrArg RefE.aff he;have e3:(x.aff == y.aff)=true:=by simp[i3]
 have i4:x.live=y.live:=congrArg RefE.live he;have e4:(x.live == y.live)=true:=by simp[i4]
 have e5:x.path.l=y.path.l:=congrArg RefE.path he;have e6:x.pt.er=y.pt.er:=congrArg RefE.pt he;have e7:x.a.er=y.a.er:=congrArg RefE.a he;have e8:x.f.er=y.f.er:=congrArg RefE.f he;have S1:=zQ0 (fun w1 (h:Grew w w1)=>same02_any x.path.a y.path.a x.path.c y.path.c x.path.l y.path.l w1 _ _ _ _ (hx.later h).1 (hy.later h).1 hs.1 hs2.1 zQ1 zQ1);have S2:=zQ0 (fun w1 (h:Grew w w1)=>refPtSame_any x.pt y.pt w1 (hx.later h).2.1 hs.2.1 (hy.later h).2.1 hs2.2.1);have S3:=zQ0 (fun w1 (h:Grew w w1)=>sameRange_any x.a x.f y.a y.f w1 (hx.later h).2.2.1 (hx.later h).2.2.2 (hy.later h).2.2.1 (hy.later h).2.2.2 hs.2.2.1 hs.2.2.2 hs2.2.2.1 hs2.2.2.2);rw[e6,sameP_refl] at S2;rw[e7,e8,sameP_refl,sameP_refl] at S3;have d5:decide (x.path.l=y.path.l)=true:=by simpa using e5
 rw[d5] at S1;clear hx hy he hs hs2 i1 i2 i3 i4 e5 e6 e7 e8 d5;unfold RefL.val;have gA:=Grew.alloc1 w (.cells #[.int .i64 x.id,.int .i64 x.kind,.int .i64 x.aff,.bool x.live,.slice x.path.a x.path.l.length x.path.c,.slice x.pt.p.a x.pt.p.l.length x.pt.p.c,.int .i64 x.pt.o,.slice x.a.p.a x.a.p.l.length x.a.p.c,.int .i64 x.a.o,.slice x.f.p.a x.f.p.l.length x.f.p.c,.int .i64 x.f.o] 46);have gB:=Grew.alloc1 (w.alloc (.cells #[.int .i64 x.id,.int .i64 x.kind,.int .i64 x.aff,.bool x.live,.slice x.path.a x.path.l.length x.path.c,.slice x.pt.p.a x.pt.p.l.length x.pt.p.c,.int .i64 x.pt.o,.slice x.a.p.a x.a.p.l.length x.a.p.c,.int .i64 x.a.o,.slice x.f.p.a x.f.p.l.length x.f.p.c,.int .i64 x.f.o] 46)) (.cells #[.int .i64 y.id,.int .i64 y.kind,.int .i64 y.aff,.bool y.live,.slice y.path.a y.path.l.length y.path.c,.slice y.pt.p.a y.pt.p.l.length y.pt.p.c,.int .i64 y.pt.o,.slice y.a.p.a y.a.p.l.length y.a.p.c,.int .i64 y.a.o,.slice y.f.p.a y.f.p.l.length y.f.p.c,.int .i64 y.f.o] 46);have HB:=zQ0 (fun(w':World) (q:Grew ((w.alloc (.cells #[.int .i64 x.id,.int .i64 x.kind,.int .i64 x.aff,.bool x.live,.slice x.path.a x.path.l.length x.path.c,.slice x.pt.p.a x.pt.p.l.length x.pt.p.c,.int .i64 x.pt.o,.slice x.a.p.a x.a.p.l.length x.a.p.c,.int .i64 x.a.o,.slice x.f.p.a x.f.p.l.length x.f.p.c,.int .i64 x.f.o] 46)).alloc (.cells #[.int .i64 y.id,.int .i64 y.kind,.int .i64 y.aff,.bool y.live,.slice y.path.a y.path.l.length y.path.c,.slice y.pt.p.a y.pt.p.l.length y.pt.p.c,.int .i64 y.pt.o,.slice y.a.p.a y.a.p.l.length y.a.p.c,.int .i64 y.a.o,.slice y.f.p.a y.f.p.l.length y.f.p.c,.int .i64 y.f.o] 46)) w')=>(⟨zap (gB.trans q) (j:=4) (v:=.slice x.path.a x.path.l.length x.path.c) rfl,zap (gB.trans q) (j:=5) (v:=.slice x.pt.p.a x.pt.p.l.length x.pt.p.c) rfl,zap (gB.trans q) (j:=6) (v:=.int .i64 x.pt.o) rfl,zap (gB.trans q) (j:=7) (v:=.slice x.a.p.a x.a.p.l.length x.a.p.c) rfl,zap (gB.trans q) (j:=8) (v:=.int .i64 x.a.o) rfl,zap (gB.trans q) (j:=9) (v:=.slice x.f.p.a x.f.p.l.length x.f.p.c) rfl,zap (gB.trans q) (j:=10) (v:=.int .i64 x.f.o) rfl,zap q (j:=4) (v:=.slice y.path.a y.path.l.length y.path.c) rfl,zap q (j:=5) (v:=.slice y.pt.p.a y.pt.p.l.length y.pt.p.c) rfl,zap q (j:=6) (v:=.int .i64 y.pt.o) rfl,zap q (j:=7) (v:=.slice y.a.p.a y.a.p.l.length y.a.p.c) rfl,zap q (j:=8) (v:=.int .i64 y.a.o) rfl,zap q (j:=9) (v:=.slice y.f.p.a y.f.p.l.length y.f.p.c) rfl,zap q (j:=10) (v:=.int .i64 y.f.o) rfl⟩:_/\_/\_/\_/\_/\_/\_/\_/\_/\_/\_/\_/\_/\_));simp only[World.size_alloc] at HB;have g0:=gA.trans gB;clear gA gB
 go_enter Tryz.func20,Tryz.ntmps20
 go_wp2_with fail
 refine (S1.out _ g0).mono ?_;rintro e w2 ⟨rfl,g2⟩;obtain⟨c4,c5,c6,c7,c8,c9,c10,d4,d5,d6,d7,d8,d9,d10⟩:=HB.out w2 g2;have G2:=zQ0 (g0.trans g2);clear g0;go_wp2_with fail
 refine (S2.out w2 G2.out).mono ?_;rintro e w3 ⟨rfl,g3⟩;clear c4 c5 c6 c7 c8 c9 c10 d4 d5 d6 d7 d8 d9 d10;obtain⟨c4,c5,c6,c7,c8,c9,c10,d4,d5,d6,d7,d8,d9,d10⟩:=HB.out w3 (g2.trans g3);have G3:=zQ0 (G2.out.trans g3);clear HB g2 g3;go_wp2_with fail
 refine (S3.out w3 G3.out).mono ?_;rintro e w4 ⟨rfl,g4⟩;go_wp2_with fail
 go_ret
 exact⟨zcy (by simp),G3.out.trans g4⟩
/- redlineref14.Same: of lists that say the same it says so. -/
end Go.Proofs.YtccobobnmpafbaaGreatDoor
