/- TREES WHOSE ROWS LIE APART: intervals of block numbers, one within the other. -/
import Derived.Test.YtccobobnmpafbaaGreatDoorK02
import Derived.Test.YtccobobnmpafbaaGreatDoorK01
import Derived.Test.YtccobobnmpafbaaGreatDoorK03
set_option maxRecDepth 100000
set_option maxHeartbeats 100000000
namespace Go.Proofs.YtccobobnmpafbaaGreatDoor
open Go Go.RowKit
def BlkIn(lo hi:Nat)(a:Option Addr)(n:Nat):Prop:=∀ b o,a=some ⟨b,o,none⟩->0 < n->lo<=b/\b < hi
theorem BlkIn.mono{lo hi lo' hi':Nat}{a:Option Addr}{n:Nat}(h:BlkIn lo hi a n)(h1:lo'<=lo)(h2:hi<=hi'):BlkIn lo' hi' a n:=fun b o e hn=>by
 have:=h b o e hn;omega
theorem RowIn.blk{w:World}{lo hi:Nat}{a:Option Addr}{n c k:Nat}{f:Nat->Nat->Value}(h:RowIn w lo hi a n c k f):BlkIn lo hi a n:=fun b o e hn=>by
 obtain⟨b',o',e',h1,h2,_⟩:=h.2 hn;rw[e] at e';injection e' with e';injection e' with e1 e2
 subst e1;exact⟨h1,h2⟩
theorem RowIn.narrow{w:World}{lo hi l h:Nat}{a:Option Addr}{n c k:Nat}{f:Nat->Nat->Value}(hr:RowIn w lo hi a n c k f)(hb:BlkIn l h a n):RowIn w l h a n c k f:=by
 refine⟨hr.1,fun hn=>?_⟩;obtain⟨b,o,e,_,_,hc⟩:=hr.2 hn;have:=hb b o e hn;exact⟨b,o,e,this.1,this.2,hc⟩
def PtApart(pa:Option Addr)(np:Nat)(ta:Option Addr)(nt:Nat):Prop:=∀ b o b' o',pa=some ⟨b,o,none⟩->ta=some ⟨b',o',none⟩->0 < np->0 < nt->b≠b'
inductive NT.Sep:Nat->Nat->NT->Prop
 | mk (n:NT) (lo a m hi:Nat) (f:Nat->Nat) (h1:lo<=a) (h2:a<=m) (hp:BlkIn lo a n.pa n.ps.length) (ht:BlkIn lo a n.ta n.ts.length) (hk:BlkIn a m n.ka n.ks.length)
   (hf0:m<=f 0) (hfm:∀ i,i < n.ks.length->f i<=f (i+1)) (hfh:f n.ks.length<=hi) (hks:∀ i,i < n.ks.length->NT.Sep (f i) (f (i+1)) (n.ks.getD i default)) (hpt:PtApart n.pa n.ps.length n.ta n.ts.length):NT.Sep lo hi n
theorem mono_of{f : Nat -> Nat}{n : Nat}(h : ∀ i, i < n -> f i <= f (i + 1)) : ∀ j, j <= n -> ∀ i, i <= j -> f i <= f j := by
  intro j
  induction j with
  | zero => intro _ i hi; obtain rfl : i = 0 := by omega
            exact Nat.le_refl _
  | succ j ih =>
    intro hj i hi
    rcases Nat.lt_or_ge i (j + 1) with h1 | h1
    · exact Nat.le_trans (ih (by omega) i (by omega)) (h j (by omega))
    · obtain rfl : i = j + 1 := by omega
      exact Nat.le_refl _
theorem NT.Sep.le{lo hi:Nat}{n:NT}(h:n.Sep lo hi):lo<=hi:=by
 obtain⟨_,_,a,m,_,f,h1,h2,_,_,_,hf0,hfm,hfh,_⟩:=h;have:=mono_of hfm n.ks.length zQ1 0 (Nat.zero_le _);omega
theorem NT.Sep.mono{lo hi lo' hi':Nat}{n:NT}(h:n.Sep lo hi)(k1:lo'<=lo)(k2:hi<=hi'):n.Sep lo' hi':=by
 obtain⟨_,_,a,m,_,f,h1,h2,hp,ht,hk,hf0,hfm,hfh,hks,hpt⟩:=h;exact .mk n lo' a m hi' f (by omega) h2 (hp.mono k1 zQ1) (ht.mono k1 zQ1) hk hf0 hfm (by omega) hks hpt
theorem NT.Sep.narrow{lo hi:Nat}{n:NT}(h:n.Sep lo hi){w:World}{l u:Nat}(hin:n.In w l u):n.In w lo hi:=by
 induction h with
 | mk n lo a m hi f h1 h2 hp ht hk hf0 hfm hfh hks hpt ih =>
  have hmono:=mono_of hfm;have h0n:=hmono n.ks.length zQ1 0 (Nat.zero_le _);rw[NT.In_iff] at hin ⊢;refine⟨RowIn.narrow hin.1 (hp.mono zQ1 (by omega)),⟨RowIn.narrow hin.2.1.1 (ht.mono zQ1 (by omega)),hin.2.1.2⟩,RowIn.narrow hin.2.2.1 (hk.mono (by omega) (by omega)),fun k hk'=>?_⟩;obtain⟨i,hi',rfl⟩:=List.getElem_of_mem hk';have e:n.ks.getD i default=n.ks[i]:=by simp[List.getD,List.getElem?_eq_getElem hi']
  have:=ih i hi' (by rw[e];exact hin.2.2.2 _ hk');rw[e] at this;have a1:=hmono i (by omega) 0 (Nat.zero_le _);have a2:=hmono n.ks.length zQ1 (i+1) (by omega);exact this.mono (by omega) (by omega)
def Boxes(w:World)(lf:Bool)(pa:Option Addr)(pn pc:Nat)(ta:Option Addr)(tn tc:Nat)(ka:Option Addr)(kn kc:Nat)(w':World):Prop :=
 (w'.cell? ⟨w.heap.size,0,none⟩=some (.bool lf)/\w'.cell? ⟨w.heap.size,1,none⟩=some (.slice pa pn pc)/\w'.cell? ⟨w.heap.size,2,none⟩=some (.slice ta tn tc)/\w'.cell? ⟨w.heap.size,3,none⟩=some (.slice ka kn kc)) /\
 (∀ j,w'.frozen? ⟨w.heap.size,j,none⟩=false) /\
 (w'.cell? ⟨w.heap.size+1,0,none⟩=some (.bool false)/\w'.cell? ⟨w.heap.size+1,1,none⟩=some (.slice none 0 0)/\w'.cell? ⟨w.heap.size+1,2,none⟩=some (.slice none 0 0)/\w'.cell? ⟨w.heap.size+1,3,none⟩=some (.slice none 0 0)) /\
 (∀ j,w'.frozen? ⟨w.heap.size+1,j,none⟩=false)
theorem Boxes.agree{w:World}{lf:Bool}{pa:Option Addr}{pn pc:Nat}{ta:Option Addr}{tn tc:Nat}{ka:Option Addr}{kn kc:Nat}{w1 w2:World}(h:Boxes w lf pa pn pc ta tn tc ka kn kc w1)(k:Agree w.heap.size (w.heap.size+2) w1 w2):Boxes w lf pa pn pc ta tn tc ka kn kc w2:=by
 obtain⟨⟨h0,h1,h2,h3⟩,h4,⟨h5,h6,h7,h8⟩,h9⟩:=h;have e1:∀ j,w2.cell? ⟨w.heap.size,j,none⟩=w1.cell? ⟨w.heap.size,j,none⟩:=fun j=>k.cell (p:=⟨w.heap.size,j,none⟩) zQ1 (by simp);have e2:∀ j,w2.cell? ⟨w.heap.size+1,j,none⟩=w1.cell? ⟨w.heap.size+1,j,none⟩:=fun j=>k.cell (p:=⟨w.heap.size+1,j,none⟩) (by simp) (by simp);have f1:∀ j,w2.frozen? ⟨w.heap.size,j,none⟩=w1.frozen? ⟨w.heap.size,j,none⟩:=fun j=>World.frozen?_of_block (w:=w1) (a:=⟨w.heap.size,j,none⟩) (k w.heap.size zQ1 (by omega));have f2:∀ j,w2.frozen? ⟨w.heap.size+1,j,none⟩=w1.frozen? ⟨w.heap.size+1,j,none⟩:=fun j=>World.frozen?_of_block (w:=w1) (a:=⟨w.heap.size+1,j,none⟩) (k (w.heap.size+1) (by omega) (by omega));simp only[Boxes,e1,e2,f1,f2];exact⟨⟨h0,h1,h2,h3⟩,h4,⟨h5,h6,h7,h8⟩,h9⟩
def CopyBox(w:World)(n:NT)(w':World):Prop:=Grew w w'/\w.heap.size+1 < w'.heap.size/\Boxes w n.lf n.pa n.ps.length n.pc n.ta n.ts.length n.tc n.ka n.ks.length n.kc w'
theorem CopyBox.next{w:World}{n:NT}{w1 w':World}(h:CopyBox w n w1)(hg:Grew w1 w'):CopyBox w n w' :=
 ⟨h.1.trans hg,Nat.lt_of_lt_of_le h.2.1 hg.size,h.2.2.agree (hg.agree (by have:=h.2.1;omega))⟩
theorem CopyBox.grew{w:World}{n:NT}{w1:World}(h:CopyBox w n w1):Grew w w1:=h.1
def CopyPost(n:NT)(w:World)(e:Ending)(w':World):Prop:=∃ x:NT,e=.returned x.val/\Grew w w'/\x.Own w' w.heap.size w'.heap.size/\x.Sep w.heap.size w'.heap.size/\x.Room w'/\Hid (x.er=n.er)
def CopyInv(w:World)(n:NT)(a m:Nat)(pa:Option Addr)(pc:Nat)(ta:Option Addr)(tc:Nat)(ka:Option Addr)(kc:Nat)(w':World):Prop :=
 Grew w w'/\w.heap.size+2<=a/\a<=m/\m<=w'.heap.size/\Boxes w n.lf pa n.ps.length pc ta n.ts.length tc ka n.ks.length kc w' /\
 OwnRow w' (w.heap.size+2) a pa n.ps.length pc 2 (fun i j=>zca (n.ps.getD i default) j)/\OwnRow w' (w.heap.size+2) a ta n.ts.length tc 1 (fun i _=>.int .i32 (n.ts.getD i 0))/\RoomRow w' 21 ta n.ts.length tc 1/\PtApart pa n.ps.length ta n.ts.length
theorem CopyInv.keep{w:World}{n:NT}{a m:Nat}{pa:Option Addr}{pc:Nat}{ta:Option Addr}{tc:Nat}{ka:Option Addr}{kc:Nat}{w1 w2:World}(h:CopyInv w n a m pa pc ta tc ka kc w1)(k:Keeps (fun x=>a<=x) w1 w2):CopyInv w n a m pa pc ta tc ka kc w2:=by
 obtain⟨h1,h2,h3,h4,h5,h6,h7,h8,h9⟩:=h;have hag:∀ lo hi,hi<=a->Agree lo hi w1 w2:=fun lo hi hh=>k.agree (by omega) (fun x _ hx=>by omega);exact⟨h1.keep k (fun x hx=>by omega),h2,h3,Nat.le_trans h4 k.size,h5.agree (hag _ _ h2),h6.agree (hag _ _ zQ1),h7.agree (hag _ _ zQ1),h8.agree h7.1 (hag _ _ zQ1),h9⟩
def CopyKids(ks:List NT)(a m:Nat)(ka:Option Addr)(kc:Nat)(k:Nat)(ys:List NT)(w:World):Prop :=
 ys.length=ks.length/\OwnRow w a m ka ks.length kc 4 (fun i j=>(ys.getD i default).cell j)/\(∀ i,i < k->(ys.getD i default).Own w m w.heap.size/\(ys.getD i default).er=(ks.getD i default).er)/\(∀ i,k<=i->ys.getD i default=ks.getD i default)/\RoomRow w 26 ka ks.length kc 4/\(∀ i,i < k->(ys.getD i default).Room w)/\∃ f:Nat->Nat,f 0=m/\(∀ i,i < k->f i<=f (i+1))/\f k<=w.heap.size/\∀ i,i < k->(ys.getD i default).Sep (f i) (f (i+1))
theorem copy_inv{w:World}{n:NT}{w1 w2 w3 w4:World}{va2 va3 va4:Option Addr}{vc2 vc3 vc4:Nat}{e1 e2 e3:TypeId}(hB1:CopyBox w n w1)(hg2:Grew w1.drew w2)(hg3:Grew w2 w3)(hg4:Grew w3 w4)(hB4:CopyBox w n w4)(hown2:w2.ownsRow w1.drew.heap.size e1 2 (.slice va2 n.ps.length vc2) n.ps.length (zaH n.ps))(hown3:w3.ownsRow w2.heap.size e2 1 (.slice va3 n.ts.length vc3) n.ts.length (List.map (Value.int .i32) n.ts))(hown4:w4.ownsRow w3.heap.size e3 4 (.slice va4 n.ks.length vc4) n.ks.length (zaB n.ks))(hroom3:RoomRow w3 21 va3 n.ts.length vc3 1)(hroom4:RoomRow w4 26 va4 n.ks.length vc4 4){W:World}(hW:W=((w4.setCell ⟨w.heap.size,1,none⟩ (.slice va2 n.ps.length vc2)).setCell ⟨w.heap.size,2,none⟩ (.slice va3 n.ts.length vc3)).setCell ⟨w.heap.size,3,none⟩ (.slice va4 n.ks.length vc4)) :
  CopyInv w n w3.heap.size w4.heap.size va2 vc2 va3 vc3 va4 vc4 W/\OwnRow W w3.heap.size w4.heap.size va4 n.ks.length vc4 4 (fun i j=>(n.ks.getD i default).cell j)/\RoomRow W 26 va4 n.ks.length vc4 4:=by
 obtain⟨hg,hs,⟨b0,b1,b2,b3⟩,bf,⟨r0,r1,r2,r3⟩,rf⟩:=hB4;have z1:w.heap.size+2<=w1.drew.heap.size:=hB1.2.1;have z2:=hg2.size;have z3:=hg3.size;have z4:=hg4.size
 have hag:∀ lo hi,w.heap.size < lo->Agree lo hi w4 W:=fun lo hi hl=>by
  subst hW;exact ((zaf (Or.inl (by exact hl))).trans (zaf (Or.inl (by exact hl)))).trans (zaf (Or.inl (by exact hl)))
 have R2:=zbZ (f:=fun i j=>zca (n.ps.getD i default) j) hown2 (zaI n.ps)
 have R3:=zbZ (f:=fun i _=>.int .i32 (n.ts.getD i 0)) hown3 (fun i hi j hj=>by
  obtain rfl:j=0:=by omega
  simp[List.getD,hi])
 have R4:=zbZ (f:=fun i j=>(n.ks.getD i default).cell j) hown4 (zaD n.ks);have R2':=((((R2.grew hg3 zQ1).grew hg4 z3)).mono z1 zQ1).agree (hag _ _ (by omega));have R3':=(((R3.grew hg4 zQ1).mono (Nat.le_trans z1 z2) zQ1)).agree (hag _ _ (by omega))
 have hpt:PtApart va2 n.ps.length va3 n.ts.length:=fun b o b' o' e1 e2 n1 n2 he=>by
  obtain⟨b1,_,q1,_,q3,_⟩:=R2.1.2 n1;obtain⟨b2,_,p1,p2,_,_⟩:=R3.1.2 n2;rw[e1] at q1;rw[e2] at p1;injection q1 with q1;injection q1 with q1 _
  injection p1 with p1;injection p1 with p1 _
  omega
 refine⟨⟨?_,by omega,z4,by subst hW;simp,⟨?_,?_,?_,?_⟩,R2'.mono zQ1 z3,R3',?_,hpt⟩,R4.agree (hag _ _ (by omega)),?_⟩
 ·subst hW;exact ((hg.setCell zQ1 _).setCell zQ1 _).setCell zQ1 _
 ·subst hW;refine⟨?_,?_,?_,?_⟩
  ·rw[zau (by omega),zau (by omega),zau (by omega)];exact b0
  ·rw[zau (by omega),zau (by omega)];exact zaw b1
  ·rw[zau (by omega)];exact zaw (by rw[zau (by omega)];exact b2)
  ·exact zaw (by rw[zau (by omega),zau (by omega)];exact b3)
 ·subst hW;intro j;simp only[World.frozen?_setCell];exact bf j
 ·have ha:=hag (w.heap.size+1) (w.heap.size+2) (by omega);have hc:∀ j,W.cell? ⟨w.heap.size+1,j,none⟩=w4.cell? ⟨w.heap.size+1,j,none⟩:=fun j=>ha.cell (p:=⟨w.heap.size+1,j,none⟩) (by simp) (by simp);simp only[hc];exact⟨r0,r1,r2,r3⟩
 ·subst hW;intro j;simp only[World.frozen?_setCell];exact rf j
 ·exact (hroom3.agree R3.1 (hg4.agree zQ1)).agree (R3.grew hg4 zQ1).1 (hag _ _ (by omega))
 ·exact hroom4.agree R4.1 (hag _ _ (by omega))
theorem zbf{α:Type}[Inhabited α](l:List α)(k:Nat)(x:α)(h:k < l.length):(l.set k x).getD k default=x:=by
 simp[List.getD,h]
theorem zbe{α:Type}[Inhabited α](l:List α)(k i:Nat)(x:α)(h:k≠i):(l.set k x).getD i default=l.getD i default:=by
 simp[List.getD,h]
theorem copy_next{w:World}{n:NT}{a m:Nat}{pa:Option Addr}{pc:Nat}{ta:Option Addr}{tc:Nat}{kb ko kc k:Nat}{ys:List NT}{w1 w2:World}{x:NT}{lo:Nat}(hk:k < n.ks.length)(h:CopyInv w n a m pa pc ta tc (some ⟨kb,ko,none⟩) kc w1)(hK:CopyKids n.ks a m (some ⟨kb,ko,none⟩) kc k ys w1)(h1:a<=kb)(h2:kb < m)(hg:Grew w1 w2)(hlo:w1.heap.size<=lo)(hx:x.Own w2 lo w2.heap.size)(hxs:x.Sep lo w2.heap.size)(hxr:x.Room w2)(hxe:Hid (x.er=(n.ks.getD k default).er)){W:World}(hW:W=(((w2.setCell ⟨kb,ko+k * 4,none⟩ (.bool x.lf)).setCell ⟨kb,ko+k * 4+1,none⟩ (.slice x.pa x.ps.length x.pc)).setCell ⟨kb,ko+k * 4+2,none⟩ (.slice x.ta x.ts.length x.tc)).setCell ⟨kb,ko+k * 4+3,none⟩ (.slice x.ka x.ks.length x.kc)) :
  CopyInv w n a m pa pc ta tc (some ⟨kb,ko,none⟩) kc W/\CopyKids n.ks a m (some ⟨kb,ko,none⟩) kc (k+1) (ys.set k x) W:=by
 have hz:=hg.size;have hm:=h.2.2.2.1;have hsz:W.heap.size=w2.heap.size:=by subst hW;simp
 have hag:∀ lo hi,kb < lo->Agree lo hi w2 W:=fun lo hi hl=>by
  subst hW;exact (((zaf (Or.inl (by exact hl))).trans (zaf (Or.inl (by exact hl)))).trans (zaf (Or.inl (by exact hl)))).trans (zaf (Or.inl (by exact hl)))
 have hkp:Keeps (fun z=>a<=z) w1 W:=by
  subst hW;exact (((((hg.keeps _).setCell (Or.inr h1) _).setCell (Or.inr h1) _).setCell (Or.inr h1) _).setCell (Or.inr h1) _)
 refine⟨h.keep hkp,?_⟩;obtain⟨hl,hr,hd,ht,hrm,hrs,f,hf0,hfm,hfs,hfk⟩:=hK;refine⟨by simp[hl],?_,fun i hi=>?_,fun i hi=>?_,by subst hW;exact ((((hrm.agree hr.1 (hg.agree hm)).set _ _ _).set _ _ _).set _ _ _).set _ _ _,fun i hi=>?_,fun i=>if i<=k then f i else W.heap.size,by simp[hf0],fun i hi=>?_,by dsimp only;rw[if_neg (by omega)];exact Nat.le_refl _,fun i hi=>?_⟩
 ·have:=(hr.grew hg hm).put hk (.bool x.lf) (.slice x.pa x.ps.length x.pc) (.slice x.ta x.ts.length x.tc) (.slice x.ka x.ks.length x.kc);rw[<- hW] at this;refine⟨⟨this.1.1,fun hn=>?_⟩,this.2⟩;obtain⟨b,o,e1,e2,e3,hc⟩:=this.1.2 hn;refine⟨b,o,e1,e2,e3,fun i hi j hj=>(hc i hi j hj).trans ?_⟩
  dsimp only
  by_cases hik:i=k
  ·subst hik;rw[if_pos rfl,zbf _ _ _ (by omega)]
   match j,hj with
   | 0,_=>rfl
   | 1,_=>rfl
   | 2,_=>rfl
   | 3,_=>rfl
  ·rw[if_neg hik,zbe _ _ _ _ (Ne.symm hik)]
 ·by_cases hik:i=k
  ·subst hik;rw[zbf _ _ _ (by omega)];exact⟨(hx.agree (hag _ _ (by omega))).mono (by omega) (by omega),hxe.out⟩
  ·rw[zbe _ _ _ _ (Ne.symm hik)];obtain⟨h3,h4⟩:=hd i (by omega);exact⟨((h3.grew hg zQ1).agree (hag _ _ h2)).mono zQ1 (by omega),h4⟩
 ·rw[zbe _ _ _ _ (by omega)];exact ht i (by omega)
 ·by_cases hik:i=k
  ·subst hik;rw[zbf _ _ _ (by omega)];exact hxr.agree (hag _ _ (by omega)) hx.1
  ·rw[zbe _ _ _ _ (Ne.symm hik)];have h3:=(hd i (by omega)).1;exact ((hrs i (by omega)).agree (hg.agree zQ1) h3.1).agree (hag _ _ h2) (h3.grew hg zQ1).1
 ·dsimp only
  rw[if_pos (by omega)]
  by_cases hik:i=k
  ·subst hik;rw[if_neg (by omega)];omega
  ·rw[if_pos (by omega)];exact hfm i (by omega)
 ·dsimp only
  rw[if_pos (by omega)]
  by_cases hik:i=k
  ·subst hik;rw[if_neg (by omega),zbf _ _ _ (by omega),hsz];exact hxs.mono (by omega) zQ1
  ·rw[if_pos (by omega),zbe _ _ _ _ (Ne.symm hik)];exact hfk i (by omega)
theorem copy_done{w:World}{n:NT}{a m:Nat}{pa:Option Addr}{pc:Nat}{ta:Option Addr}{tc:Nat}{ka:Option Addr}{kc k:Nat}{ys:List NT}{w1:World}(hk:n.ks.length<=k)(ht:∀ r∈n.ts,-2147483648<=r/\r<=2147483647)(h:CopyInv w n a m pa pc ta tc ka kc w1)(hkk:k<=n.ks.length)(hK:CopyKids n.ks a m ka kc k ys w1):((NT.mk n.lf pa pc n.ps ta tc n.ts ka kc ys).Own w1 (w.heap.size+2) w1.heap.size/\(NT.mk n.lf pa pc n.ps ta tc n.ts ka kc ys).Sep (w.heap.size+2) w1.heap.size/\(NT.mk n.lf pa pc n.ps ta tc n.ts ka kc ys).Room w1)/\Hid ((NT.mk n.lf pa pc n.ps ta tc n.ts ka kc ys).er=n.er):=by
 obtain⟨hg,h1,h2,h3,hb,hp,hts,htr,hpt⟩:=h;obtain⟨hl,hr,hd,_,hrm,hrs,f,hf0,hfm,hfs,hfk⟩:=hK;obtain rfl:k=n.ks.length:=by omega
 refine⟨⟨NT.Own_iff.2 ⟨hp.mono (by omega) (by omega),hts.mono (by omega) (by omega),ht,?_,fun x hx=>?_⟩,?_,?_⟩,?_⟩
 ·simp only[NT.ks_mk,hl];exact hr.mono (by omega) (by omega)
 ·obtain⟨i,hi,rfl⟩:=List.getElem_of_mem hx;simp only[NT.ks_mk] at hi;have:=(hd i (by omega)).1;simp only[List.getD,List.getElem?_eq_getElem hi,Option.getD_some] at this;exact this.mono (by omega) zQ1
 ·exact .mk _ _ a m _ f (by omega) h2 (RowIn.blk hp.1) (RowIn.blk hts.1) (by simp only[NT.ka_mk,NT.ks_mk,hl];exact RowIn.blk hr.1) (by omega) (by simp only[NT.ks_mk,hl];exact hfm) (by simp only[NT.ks_mk,hl];exact hfs) (by simp only[NT.ks_mk,hl];exact hfk) hpt
 ·refine NT.Room_iff.2 ⟨htr,by simp only[NT.ka_mk,NT.kc_mk,NT.ks_mk,hl];exact hrm,fun x hx=>?_⟩;obtain⟨i,hi,rfl⟩:=List.getElem_of_mem hx;simp only[NT.ks_mk] at hi;have:=hrs i (by omega);simp only[List.getD,List.getElem?_eq_getElem hi,Option.getD_some] at this;exact this
 ·show _=_
  rw[NT.er_eq,NT.er_eq];simp only[NT.lf_mk,NT.ps_mk,NT.ts_mk,NT.ks_mk]
  congr 1
  refine List.ext_getElem (by simp[hl]) (fun i h4 h5=>?_);simp only[List.length_map] at h4 h5;have:=(hd i (by omega)).2;simp only[List.getD,List.getElem?_eq_getElem h4,List.getElem?_eq_getElem h5,Option.getD_some] at this
  simpa using this
theorem copy_out{w w1 W:World}{x:NT}{v0 v1 v2 v3 u0 u1 u2 u3:Value}(hg:Grew w w1)(r0:w1.cell? ⟨w.heap.size+1,0,none⟩=some v0)(r1:w1.cell? ⟨w.heap.size+1,1,none⟩=some v1)(r2:w1.cell? ⟨w.heap.size+1,2,none⟩=some v2)(r3:w1.cell? ⟨w.heap.size+1,3,none⟩=some v3)(hx:x.Own w1 (w.heap.size+2) w1.heap.size)(hW:W=(((w1.setCell ⟨w.heap.size+1,0,none⟩ u0).setCell ⟨w.heap.size+1,1,none⟩ u1).setCell ⟨w.heap.size+1,2,none⟩ u2).setCell ⟨w.heap.size+1,3,none⟩ u3) :
  Grew w W/\W.cell? ⟨w.heap.size+1,0,none⟩=some u0/\W.cell? ⟨w.heap.size+1,1,none⟩=some u1/\W.cell? ⟨w.heap.size+1,2,none⟩=some u2/\W.cell? ⟨w.heap.size+1,3,none⟩=some u3/\x.Own W w.heap.size W.heap.size:=by
 subst hW;refine⟨(((hg.setCell (by simp) _).setCell (by simp) _).setCell (by simp) _).setCell (by simp) _,?_,?_,?_,?_,?_⟩
 ·rw[zau (by omega),zau (by omega),zau (by omega)];exact zaw r0
 ·rw[zau (by omega),zau (by omega)];exact zaw (by rw[zau (by omega)];exact r1)
 ·rw[zau (by omega)];exact zaw (by rw[zau (by omega),zau (by omega)];exact r2)
 ·exact zaw (by rw[zau (by omega),zau (by omega),zau (by omega)];exact r3)
 ·have h:=hx.agree ((((zaf (u:=u0) (p:=⟨w.heap.size+1,0,none⟩) (Or.inl (by simp))).trans (zaf (u:=u1) (p:=⟨w.heap.size+1,1,none⟩) (Or.inl (by simp)))).trans (zaf (u:=u2) (p:=⟨w.heap.size+1,2,none⟩) (Or.inl (by simp)))).trans (zaf (u:=u3) (p:=⟨w.heap.size+1,3,none⟩) (Or.inl (by simp))));exact h.mono (by omega) (by simp)
theorem room_out{w w1:World}{x:NT}{u0 u1 u2 u3:Value}(h:x.Room w1)(hx:x.Own w1 (w.heap.size+2) w1.heap.size):x.Room ((((w1.setCell ⟨w.heap.size+1,0,none⟩ u0).setCell ⟨w.heap.size+1,1,none⟩ u1).setCell ⟨w.heap.size+1,2,none⟩ u2).setCell ⟨w.heap.size+1,3,none⟩ u3) :=
 h.agree ((((zaf (u:=u0) (p:=⟨w.heap.size+1,0,none⟩) (Or.inl (by simp))).trans (zaf (u:=u1) (p:=⟨w.heap.size+1,1,none⟩) (Or.inl (by simp)))).trans (zaf (u:=u2) (p:=⟨w.heap.size+1,2,none⟩) (Or.inl (by simp)))).trans (zaf (u:=u3) (p:=⟨w.heap.size+1,3,none⟩) (Or.inl (by simp)))) hx.1
theorem copy_step(n:NT)(w:World)(hn:n.Ok w)(hb:n.er.bulk<=1048576)(hih:∀ q∈n.ks,∀ w1,q.Ok w1->Calls Tryz.prog 34 #[q.val] w1 (CopyPost q w1)) :
  Calls Tryz.prog 34 #[n.val] w (CopyPost n w):=by
 have hi:=NT.In_iff.1 hn;have hlens:=n.lens;have l1:n.ps.length<=1048576:=by omega
 have l2:n.ts.length<=1048576:=by omega
 have l3:n.ks.length<=1048576:=by omega
 clear hlens;have CP:=zQ0 (fun w1 (hg:Grew w w1)=>zaV n.pa n.pc n.ps w1 _ _ (hi.1.grew hg zQ1) hg.size l1);have CT:=zQ0 (fun w1 (hg:Grew w w1)=>cloneRunesR_any n.ta n.tc n.ts w1 _ _ (hi.2.1.grew hg zQ1) hg.size l2);have CK:=zQ0 (fun w1 (hg:Grew w w1)=>cloneNodesR_any n.ka n.kc n.ks w1 _ _ (hi.2.2.grew hg zQ1) hg.size l3);have gb:∀ o1 o2,Grew w ((w.alloc o1).alloc o2):=fun o1 o2=>((Grew.refl w).alloc o1).alloc o2;unfold NT.val
 go_enter Tryz.func34,Tryz.ntmps34
 go_wp2_with fail
 have hB0':CopyBox w n ((w.alloc (Obj.cells #[.bool n.lf,.slice n.pa n.ps.length n.pc,.slice n.ta n.ts.length n.tc,.slice n.ka n.ks.length n.kc] 26)).alloc (Obj.cells #[.bool false,.slice none 0 0,.slice none 0 0,.slice none 0 0] 26)) :=
  ⟨gb _ _,by simp,⟨by go_simp,by go_simp,by go_simp,by go_simp⟩,fun j=>by rw[World.frozen?_alloc_past _ _ _ (by simp),World.frozen?_alloc_at _ _ _ _ rfl],⟨by go_simp,by go_simp,by go_simp,by go_simp⟩,fun j=>by rw[World.frozen?_alloc_at _ _ _ _ (by simp)]⟩
 generalize ((w.alloc (Obj.cells #[.bool n.lf,.slice n.pa n.ps.length n.pc,.slice n.ta n.ts.length n.tc,.slice n.ka n.ks.length n.kc] 26)).alloc (Obj.cells #[.bool false,.slice none 0 0,.slice none 0 0,.slice none 0 0] 26))=w1 at *;have hB1:CopyBox w n w1.drew:=hB0'.next (Grew.refl _).drew;refine zdl (CopyBox w n) (fun j=>j.blt 10) (by kernel_rfl) ?_;refine zdh (i:=0) (v:=.pointer (some ⟨w.heap.size,1,none⟩)) rfl (by kernel_rfl) (Or.inl ⟨rfl,fun w' hS=>by go_simp⟩) hB1 ?_;refine zdh (i:=3) (v:=.pointer (some ⟨w.heap.size,2,none⟩)) rfl (by kernel_rfl) (Or.inl ⟨rfl,fun w' hS=>by go_simp⟩) hB1 ?_;refine zdh (i:=6) (v:=.pointer (some ⟨w.heap.size,3,none⟩)) rfl (by kernel_rfl) (Or.inl ⟨rfl,fun w' hS=>by go_simp⟩) hB1 ?_;refine zdh (i:=1) (v:=.slice n.pa n.ps.length n.pc) rfl (by kernel_rfl) (Or.inl ⟨rfl,fun w' hS=>by obtain⟨_,_,⟨h0,h1,h2,h3⟩,_⟩:=hS;go_simp⟩) hB1 ?_;refine zdh (i:=4) (v:=.slice n.ta n.ts.length n.tc) rfl (by kernel_rfl) (Or.inl ⟨rfl,fun w' hS=>by obtain⟨_,_,⟨h0,h1,h2,h3⟩,_⟩:=hS;go_simp⟩) hB1 ?_;refine zdh (i:=7) (v:=.slice n.ka n.ks.length n.kc) rfl (by kernel_rfl) (Or.inl ⟨rfl,fun w' hS=>by obtain⟨_,_,⟨h0,h1,h2,h3⟩,_⟩:=hS;go_simp⟩) hB1 ?_;refine zdf (i:=2) (by kernel_rfl) rfl rfl ?_;intro K' hK';go_wp2_with fail
 refine (CP.out w1.drew hB1.grew).mono ?_;rintro e w2 ⟨v2,rfl,hg2,hown2⟩;have hB2:=hB1.next hg2;refine hK' _ _ ⟨fun _=>hB2,?_⟩;clear hK' K';refine zdh (i:=9) (v:=.pointer (some ⟨w.heap.size,1,none⟩)) rfl (by kernel_rfl) (Or.inl ⟨rfl,fun w' hS=>by go_simp⟩) hB2 ?_;refine zdf (i:=5) (by kernel_rfl) rfl rfl ?_;intro K' hK';go_wp2_with fail
 refine (CT.out w2 hB2.grew).mono ?_;rintro e w3 ⟨va3,vc3,rfl,hg3,hown3,hroom3⟩;have hB3:=hB2.next hg3;refine hK' _ _ ⟨fun _=>hB3,?_⟩;clear hK' K';refine zdf (i:=8) (by kernel_rfl) rfl rfl ?_;intro K' hK';go_wp2_with fail
 refine (CK.out w3 hB3.grew).mono ?_;rintro e w4 ⟨va4,vc4,rfl,hg4,hown4,hroom4⟩;have hB4:=hB3.next hg4;refine hK' _ _ ⟨fun _=>hB4,?_⟩;clear hK' K';obtain⟨va2,vc2,rfl⟩:=zb2 hown2;have hB4c:=hB4;obtain⟨_,hs4,⟨b0,b1,b2,b3⟩,bf,_⟩:=hB4;refine zdf (i:=10) (by kernel_rfl) rfl rfl ?_;intro K' hK';go_wp2_with fail
 refine⟨fun h=>(by cases h),?_⟩;refine zdf (i:=11) (by kernel_rfl) rfl rfl ?_;intro K' hK';go_wp2_with fail
 refine⟨fun h=>(by cases h),?_⟩;refine zdf (i:=12) (by kernel_rfl) rfl rfl ?_;intro K' hK';go_wp2_with fail
 refine⟨fun h=>(by cases h),?_⟩;refine zdf (i:=13) (by kernel_rfl) rfl rfl ?_;intro K' hK';go_wp2_with fail
 refine⟨fun h=>(by cases h),?_⟩;refine zdf (i:=14) (by kernel_rfl) rfl rfl ?_;intro K' hK';go_wp2_with fail
 refine⟨fun h=>(by cases h),?_⟩;refine zde (by kernel_rfl) ?_ _;obtain⟨hI,hR,hRoom⟩:=copy_inv hB0' hg2 hg3 hg4 hB4c hown2 hown3 hown4 hroom3 hroom4 rfl;generalize ((w4.setCell ⟨w.heap.size,1,none⟩ (.slice va2 n.ps.length vc2)).setCell ⟨w.heap.size,2,none⟩ (.slice va3 n.ts.length vc3)).setCell ⟨w.heap.size,3,none⟩ (.slice va4 n.ks.length vc4)=W at *;generalize w3.heap.size=a at *;generalize w4.heap.size=m at *;clear hB0' hB1 hg2 hB2 hg3 hB3 hg4 hown2 hown3 hown4 hroom3 hroom4 hB4c b0 b1 b2 b3 bf CP CT CK gb;obtain⟨hg,ha1,ha2,ha3,⟨⟨b0,b1,b2,b3⟩,bf,⟨r0,r1,r2,r3⟩,rf⟩,hp,ht⟩:=id hI;go_wp2_with fail
 go_loopw [20] (fun i wr=>∃(k:Nat) (ys:List NT),k<=n.ks.length/\i=.int .i64 k/\CopyInv w n a m va2 vc2 va3 vc3 va4 vc4 wr/\CopyKids n.ks a m va4 vc4 k ys wr) (fun i _=>n.ks.length - (intOf i).toNat)
 case atStart=>exact⟨0,n.ks,by omega,rfl,hI,rfl,hR,fun i hi=>by omega,fun i _=>rfl,hRoom,fun i hi=>by omega,fun _=>m,rfl,fun i hi=>by omega,ha3,fun i hi=>by omega⟩
 clear hI hR hRoom hg b0 b1 b2 b3 bf r0 r1 r2 r3 rf hp ht;obtain⟨k,ys,hk1,rfl,hI,hK⟩:=hrel
 by_cases hlt:k < n.ks.length
 ·have HI:=zQ0 hI;have HK:=zQ0 hK;obtain⟨hg,_,_,ha3,⟨⟨b0,b1,b2,b3⟩,bf,_⟩,_,_⟩:=hI;obtain⟨hyl,hrow,hdone,hrest,_⟩:=hK;obtain⟨⟨hr1,hr2⟩,hrf⟩:=hrow;obtain⟨kb,ko,rfl,hkb1,hkb2,hcell⟩:=hr2 (by omega);have c0:=hcell k hlt 0 (by omega);have c1:=hcell k hlt 1 (by omega);have c2:=hcell k hlt 2 (by omega);have c3:=hcell k hlt 3 (by omega);have hys:=hrest k zQ1
  dsimp only at c0 c1 c2 c3
  rw[hys] at c0 c1 c2 c3;simp only[NT.cell,Nat.add_zero] at c0 c1 c2 c3;have hfz:=hrf (by omega) _ rfl
  dsimp only at hfz
  clear hrest hdone hcell hr2 hrf hr1 hyl;have HC:=zQ0 (fun w1 (hg1:Grew wr w1)=>hih (n.ks.getD k default) (zbd _ _ hlt) w1 ((hi.2.2.2 _ (zbd _ _ hlt)).ok zQ1 |>.grew (hg.trans hg1)));generalize hq:n.ks.getD k default=q at *;have HQ:=zQ0 hq;clear hq;go_wp2_with fail
  have hg5:Grew wr (wr.alloc (.cells #[.bool q.lf,.slice q.pa q.ps.length q.pc,.slice q.ta q.ts.length q.tc,.slice q.ka q.ks.length q.kc] 26)):=Grew.alloc1 _ _
  have HS:=zQ0 (fun w' (hS:Grew (wr.alloc (.cells #[.bool q.lf,.slice q.pa q.ps.length q.pc,.slice q.ta q.ts.length q.tc,.slice q.ka q.ks.length q.kc] 26)) w') =>
   (⟨((hg5.trans hS).cell (p:=⟨w.heap.size,3,none⟩) (by show w.heap.size < wr.heap.size;omega)).trans b3,(box4 hS).1,(box4 hS).2.1,(box4 hS).2.2.1,(box4 hS).2.2.2.1⟩:w'.cell? ⟨w.heap.size,3,none⟩=some (.slice (some ⟨kb,ko,none⟩) n.ks.length vc4)/\w'.cell? ⟨wr.heap.size,0,none⟩=some (.bool q.lf)/\w'.cell? ⟨wr.heap.size,1,none⟩=some (.slice q.pa q.ps.length q.pc) /\
    w'.cell? ⟨wr.heap.size,2,none⟩=some (.slice q.ta q.ts.length q.tc)/\w'.cell? ⟨wr.heap.size,3,none⟩=some (.slice q.ka q.ks.length q.kc)))
  generalize wr.alloc (.cells #[.bool q.lf,.slice q.pa q.ps.length q.pc,.slice q.ta q.ts.length q.tc,.slice q.ka q.ks.length q.kc] 26)=W5 at *;have hS5:Grew W5 W5.drew:=(Grew.refl _).drew;refine zdl (Grew W5) (fun j=>j.blt 5) (by kernel_rfl) ?_;refine zdh (i:=0) (v:=.pointer (some ⟨w.heap.size,3,none⟩)) rfl (by kernel_rfl) (Or.inl ⟨rfl,fun w' hS=>by go_simp⟩) hS5 ?_;refine zdh (i:=2) (v:=.int .i64 (k:Int)) rfl (by kernel_rfl) (Or.inl ⟨rfl,fun w' hS=>by go_simp⟩) hS5 ?_;refine zdh (i:=3) (v:=.agg #[.bool q.lf,.slice q.pa q.ps.length q.pc,.slice q.ta q.ts.length q.tc,.slice q.ka q.ks.length q.kc]) rfl (by kernel_rfl) (Or.inl ⟨rfl,fun w' hS=>by obtain⟨s3,c0,c1,c2,c3⟩:=HS.out w' hS;go_simp⟩) hS5 ?_;refine zdh (i:=1) (v:=.slice (some ⟨kb,ko,none⟩) n.ks.length vc4) rfl (by kernel_rfl) (Or.inl ⟨rfl,fun w' hS=>by obtain⟨s3,c0,c1,c2,c3⟩:=HS.out w' hS;go_simp⟩) hS5 ?_;refine zdf (i:=4) (by kernel_rfl) rfl rfl ?_;intro K' hK';go_wp2_with fail
  refine (HC.out W5.drew (hg5.trans hS5)).mono ?_;rintro e w6 ⟨x,rfl,hg6,hx,hxsep,hxroom,hxe⟩;unfold NT.val;refine hK' _ _ ⟨fun _=>hS5.trans hg6,?_⟩;clear hK' K';have hg56:=(hg5.trans hS5).trans hg6;have hkb:kb < wr.heap.size:=by omega
  have d0:=(hg56.cell (p:=⟨kb,ko+k * 4,none⟩) hkb).trans c0;have d1:=(hg56.cell (p:=⟨kb,ko+k * 4+1,none⟩) hkb).trans c1;have d2:=(hg56.cell (p:=⟨kb,ko+k * 4+2,none⟩) hkb).trans c2;have d3:=(hg56.cell (p:=⟨kb,ko+k * 4+3,none⟩) hkb).trans c3;have df:∀ j,w6.frozen? ⟨kb,j,none⟩=false:=fun j=>(hg56.frozen (p:=⟨kb,j,none⟩) hkb).trans (hfz j);refine zdf (i:=5) (by kernel_rfl) rfl rfl ?_;intro K' hK';go_wp2_with fail
  refine⟨fun h=>(by cases h),?_⟩;refine zdf (i:=6) (by kernel_rfl) rfl rfl ?_;intro K' hK';go_wp2_with fail
  refine⟨fun h=>(by cases h),?_⟩;refine zde (by kernel_rfl) ?_ _;have hN:=copy_next hlt HI.out HK.out hkb1 hkb2 ((hg5.trans hS5).trans hg6) (hg5.trans hS5).size hx hxsep hxroom (by rw[HQ.out];exact hxe) rfl;clear HI HK HC HS;go_wp2_with fail
  go_roundw
  case rel=>exact⟨k+1,ys.set k x,by omega,by go_num,hN⟩
  case measure=>simp[intOf];omega
 ·obtain⟨⟨hx,hxsep,hxroom⟩,hxe⟩:=copy_done (by omega) hi.2.1.2 hI hk1 hK;have hlen:=hK.1;obtain⟨hg,_,_,ha3,⟨⟨b0,b1,b2,b3⟩,bf,⟨r0,r1,r2,r3⟩,rf⟩,_,_⟩:=hI;have HX:=zQ0 hx;have HXS:=zQ0 hxsep;have HXR:=zQ0 hxroom;have HE:=zQ0 hxe;clear hx hxe hK hk1 hxsep hxroom;go_wp2_with fail
  have hzs:wr.heap.size<=((((wr.setCell ⟨w.heap.size+1,0,none⟩ (.bool n.lf)).setCell ⟨w.heap.size+1,1,none⟩ (.slice va2 n.ps.length vc2)).setCell ⟨w.heap.size+1,2,none⟩ (.slice va3 n.ts.length vc3)).setCell ⟨w.heap.size+1,3,none⟩ (.slice va4 n.ks.length vc4)).heap.size:=by simp
  have hroomW:=zQ0 (room_out (u0:=.bool n.lf) (u1:=.slice va2 n.ps.length vc2) (u2:=.slice va3 n.ts.length vc3) (u3:=.slice va4 n.ks.length vc4) HXR.out HX.out);have hW:=copy_out (u0:=.bool n.lf) (u1:=.slice va2 n.ps.length vc2) (u2:=.slice va3 n.ts.length vc3) (u3:=.slice va4 n.ks.length vc4) hg r0 r1 r2 r3 HX.out rfl;generalize ((((wr.setCell ⟨w.heap.size+1,0,none⟩ (.bool n.lf)).setCell ⟨w.heap.size+1,1,none⟩ (.slice va2 n.ps.length vc2)).setCell ⟨w.heap.size+1,2,none⟩ (.slice va3 n.ts.length vc3)).setCell ⟨w.heap.size+1,3,none⟩ (.slice va4 n.ks.length vc4))=W' at *;obtain⟨hg',f0,f1,f2,f3,ho⟩:=hW;refine bodyPost_ret (v:=NT.val (NT.mk n.lf va2 vc2 n.ps va3 vc3 n.ts va4 vc4 ys)) (by simp[results,Tryz.results34,go_sem,NT.val,f0,f1,f2,f3,hlen]) rfl ?_;exact⟨NT.mk n.lf va2 vc2 n.ps va3 vc3 n.ts va4 vc4 ys,rfl,hg',ho,HXS.out.mono (by omega) hzs,hroomW.out,HE.out⟩
theorem copySep_any(n:NT)(w:World)(hn:n.Ok w)(hb:n.er.bulk<=1048576):Calls Tryz.prog 34 #[n.val] w (CopyPost n w):=by
 induction n using NT.ind generalizing w with
 | h n ih =>
  refine copy_step n w hn hb (fun q hq w1 hq1=>ih q hq w1 hq1 ?_);have:=T.bulk_kid (n:=n.er) (k:=q.er) (by rw[NT.er_ks];exact er_mem hq);omega
theorem copy_any(n:NT)(w:World)(hn:n.Ok w)(hb:n.er.bulk<=1048576):Calls Tryz.prog 34 #[n.val] w fun e w'=>∃ x:NT,e=.returned x.val/\Grew w w'/\x.Own w' w.heap.size w'.heap.size/\Hid (x.er=n.er) :=
 (copySep_any n w hn hb).mono fun _ _ ⟨x,h1,h2,h3,_,_,h5⟩=>⟨x,h1,h2,h3,h5⟩
def putFrom(w:World)(b:Nat):Nat->List Value->World
 | _,[]=>w
 | o,u::r=>putFrom (w.setCell ⟨b,o,none⟩ u) b (o+1) r
theorem putFrom_keeps(b:Nat):∀(us:List Value) (o:Nat) (w:World),Keeps (·=b) w (putFrom w b o us)
 | [],_,w=>Keeps.refl _ w
 | u::r,o,w=>((Keeps.refl (·=b) w).own o u).trans (putFrom_keeps b r (o+1) _)
theorem putFrom_below(b:Nat):∀(us:List Value) (o:Nat) (w:World) (j:Nat),j < o->(putFrom w b o us).cell? ⟨b,j,none⟩=w.cell? ⟨b,j,none⟩
 | [],_,_,_,_=>rfl
 | u::r,o,w,j,h=>by
  rw[putFrom,putFrom_below b r (o+1) _ j (by omega),zau (by omega)]
theorem putFrom_cells(b:Nat):∀(us:List Value) (o:Nat) (w:World),(∀ j,j < us.length->∃ v,w.cell? ⟨b,o+j,none⟩=some v)->∀ j,j < us.length->(putFrom w b o us).cell? ⟨b,o+j,none⟩=some (us.getD j undef)
 | [],_,_,_,j,h=>by simp at h
 | u::r,o,w,hc,0,_=>by
  obtain⟨v,hv⟩:=hc 0 (by simp)
  show (putFrom (w.setCell ⟨b,o,none⟩ u) b (o+1) r).cell? ⟨b,o,none⟩=some u
  rw[putFrom_below b r (o+1) _ o (by omega)];exact zaw hv
 | u::r,o,w,hc,j+1,h=>by
  rw[putFrom,show o+(j+1)=o+1+j by omega];refine (putFrom_cells b r (o+1) _ (fun i hi=>?_) j (by simpa using h)).trans (by simp);obtain⟨v,hv⟩:=hc (i+1) (by simpa using hi);exact⟨v,by rw[zau (by omega),show o+1+i=o+(i+1) by omega];exact hv⟩
theorem put_cells{w W:World}{b:Nat}{us:List Value}(hW:W=putFrom w b 0 us)(h:∀ j,j < us.length->∃ v,w.cell? ⟨b,j,none⟩=some v) :
  (∀ j,j < us.length->W.cell? ⟨b,j,none⟩=some (us.getD j undef))/\Keeps (·=b) w W:=by
 subst hW;refine⟨fun j hj=>?_,putFrom_keeps b us 0 w⟩;have:=putFrom_cells b us 0 w (fun i hi=>by rw[Nat.zero_add];exact h i hi) j hj
 rwa [Nat.zero_add] at this
theorem put2{W W':World}{b:Nat}{u0 u1 v0 v1:Value}(h:W.cell? ⟨b,0,none⟩=some v0/\W.cell? ⟨b,1,none⟩=some v1)(hW:((W.setCell ⟨b,0,none⟩ u0).setCell ⟨b,1,none⟩ u1)=W') :
  (W'.cell? ⟨b,0,none⟩=some u0/\W'.cell? ⟨b,1,none⟩=some u1)/\Keeps (·=b) W W':=by
 obtain⟨q0,q1⟩:=h
 have hc:=put_cells (us:=[u0,u1]) hW.symm (fun j hj=>by
  match j,hj with
  | 0,_=>exact⟨_,q0⟩
  | 1,_=>exact⟨_,q1⟩)
 exact⟨⟨hc.1 0 (by simp),hc.1 1 (by simp)⟩,hc.2⟩
end Go.Proofs.YtccobobnmpafbaaGreatDoor
